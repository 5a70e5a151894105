/- RU, SH, KC, CK, WT in one text. -/
import Derived.Test.YtmhddlhlniajpaaOS
import Derived.Test.YtmhddlhlniajpaaRP7
import Derived.Test.YtmhddlhlniajpaaEX
import Derived.Test.YtmhddlhlniajpaaLA
import Derived.Test.YtmhddlhlniajpaaKE
import Derived.Test.YtmhddlhlniajpaaRE
import Derived.Test.YtmhddlhlniajpaaEN
import Derived.Test.YtmhddlhlniajpaaFT
import Derived.Test.YtmhddlhlniajpaaLR
namespace Go.Proofs.Ytmhddlhlniajpaa
section
open Go.RowKit
theorem info_rul : (Try.prog.info? 41).map (fun i => (i.zero, i.size, i.bytes)) = some (some (.agg #[.int .i64 0, .string ⟨#[]⟩, .string ⟨#[]⟩, .int .i64 0, .int .i64 0, .int .i64 0]), 6, 64) := by kernel_rfl
def rulsL (rs : List Rul) : List Value := rs.flatMap fun r => r.c.toList
theorem ruls_len : ∀ rs : List Rul, (rulsL rs).length = rs.length * 6
  | [] => rfl
  | r :: rs => by
    have := ruls_len rs
    unfold rulsL at this ⊢
    rw [List.flatMap_cons, List.length_append, this, List.length_cons]
    show 6 + rs.length * 6 = (rs.length + 1) * 6
    omega
theorem ruls_append (rs us : List Rul) : rulsL (rs ++ us) = rulsL rs ++ rulsL us := by unfold rulsL; rw [List.flatMap_append]
theorem ruls_get : ∀ (rs : List Rul) (k j : Nat) (r : Rul), rs[k]? = some r → j < 6 → (rulsL rs)[k * 6 + j]? = r.c[j]?
  | r :: rs, 0, j, r', h, hj => by
    obtain rfl : r = r' := by simpa using h
    unfold rulsL
    rw [List.flatMap_cons, List.getElem?_append_left (by show 0 * 6 + j < 6; omega), Nat.zero_mul, Nat.zero_add, Array.getElem?_toList]
  | r :: rs, k + 1, j, r', h, hj => by
    have h1 := ruls_get rs k j r' (by simpa using h) hj
    unfold rulsL at h1 ⊢
    rw [List.flatMap_cons, List.getElem?_append_right (by show 6 ≤ _; omega), ← h1]
    congr 1
    show (k + 1) * 6 + j - 6 = _
    omega
  | [], k, j, r', h, _ => by simp at h
theorem ruls_of {rs : List Rul} {i : Nat} {u : Value} (h : (rulsL rs)[i]? = some u) : ∃ r, rs[i / 6]? = some r ∧ r.c[i % 6]? = some u := by
  have hl : i < rs.length * 6 := by rw [← ruls_len]; exact (List.getElem?_eq_some_iff.1 h).1
  obtain ⟨r, hr⟩ : ∃ r, rs[i / 6]? = some r := ⟨_, List.getElem?_eq_getElem (by omega)⟩
  refine ⟨r, hr, ?_⟩
  rw [← ruls_get rs (i / 6) (i % 6) r hr (by omega), show i / 6 * 6 + i % 6 = i by omega, h]
theorem ruls_take (rs : List Rul) (k : Nat) : (rulsL rs).take (k * 6) = rulsL (rs.take k) := by
  by_cases h : k ≤ rs.length
  · conv => lhs; rw [← List.take_append_drop k rs, ruls_append]
    rw [List.take_append_of_le_length (by rw [ruls_len, List.length_take]; omega), List.take_of_length_le (by rw [ruls_len, List.length_take]; omega)]
  · rw [List.take_of_length_le (by rw [ruls_len]; omega), List.take_of_length_le (by omega)]
theorem ruls_drop (rs : List Rul) (k : Nat) : (rulsL rs).drop (k * 6) = rulsL (rs.drop k) := by
  by_cases h : k ≤ rs.length
  · conv => lhs; rw [← List.take_append_drop k rs, ruls_append]
    rw [List.drop_append_of_le_length (by rw [ruls_len, List.length_take]; omega), List.drop_of_length_le (by rw [ruls_len, List.length_take]; omega), List.nil_append]
  · rw [List.drop_of_length_le (by rw [ruls_len]; omega), List.drop_of_length_le (by omega)]; rfl
theorem ruls_one {rs : List Rul} : ∀ u ∈ rulsL rs, u.oneCell' = true := by
  intro u hu
  unfold rulsL at hu
  obtain ⟨r, _, hu⟩ := List.mem_flatMap.1 hu
  have : u ∈ [Value.int .i64 r.kind, .string r.sym, .string r.nam, .int .i64 r.prec, .int .i64 r.left, .int .i64 r.right] := hu
  simp only [List.mem_cons, List.not_mem_nil, or_false] at this
  rcases this with rfl | rfl | rfl | rfl | rfl | rfl <;> rfl
theorem reads_ruls {w : World} {A : Option Addr} {rs : List Rul} (h : RulsAt w A rs) {k : Nat} (hk : k ≤ rs.length) : Reads w w.heap.size 6 A k (rulsL (rs.take k)) := by
  refine ⟨by rw [ruls_len, List.length_take]; congr 1; omega, fun h0 => ?_⟩
  obtain ⟨r, hr⟩ : ∃ r, rs[0]? = some r := ⟨_, List.getElem?_eq_getElem (by omega)⟩
  obtain ⟨_, ad, rfl, hlt, _⟩ := h 0 r hr
  refine ⟨ad, rfl, hlt, fun j u hj => ?_⟩
  obtain ⟨r', hr', hu⟩ := ruls_of hj
  rw [List.getElem?_take] at hr'
  split at hr'
  · obtain ⟨_, ad', e, _, hc⟩ := h _ r' hr'
    obtain rfl := Option.some.inj e
    have := hc (j % 6) u hu
    rw [show j / 6 * 6 + j % 6 = j by omega] at this
    exact this
  · cases hr'
/-- rules that this call has made -/
def OwnU (w : World) (B : Nat) (v : Value) (rs : List Rul) : Prop := w.ownsRow B 41 6 v rs.length (rulsL rs)
theorem OwnU.snoc {w : World} {B n : Nat} {v : Value} {rs us : List Rul} (hn : rs.length = n) (h : w.ownsRow B 41 6 v (n + us.length) (rulsL rs ++ rulsL us)) : OwnU w B v (rs ++ us) := by
  unfold OwnU
  rw [List.length_append, hn, ruls_append]
  exact h
theorem OwnU.form {w : World} {B : Nat} {v : Value} {rs : List Rul} (h : OwnU w B v rs) (hf : ∀ r ∈ rs, r.fits) : ∃ A cap, v = .slice A rs.length cap ∧ rs.length ≤ cap ∧ cap ≤ 9223372036854775807 ∧ RulsAt w A rs := by
  obtain ⟨h1, h2⟩ := h
  rcases h2 with ⟨rfl, h0⟩ | ⟨g, cap, cur, rfl, hg, hb, hn, hc, hs, ht⟩
  · obtain rfl : rs = [] := List.length_eq_zero_iff.1 h0
    exact ⟨none, 0, rfl, by simp, by omega, fun j p hj => by simp at hj⟩
  · have hb' : Blk w g 41 cur := hb
    refine ⟨_, cap, rfl, hn, by unfold maxLen at hc; omega, fun k r hk => ⟨hf r (List.mem_of_getElem? hk), ⟨g, 0, none⟩, rfl, hb'.lt, fun j v hj => ?_⟩⟩
    rw [show (⟨g, 0, none⟩ : Addr).add (k * 6 + j) = ⟨g, k * 6 + j, none⟩ by unfold Addr.add; split <;> simp_all, hb'.cell]
    have hj6 : j < 6 := (Array.getElem?_eq_some_iff.1 hj).1
    have h3 := ruls_get rs k j r hk hj6
    rw [hj, ← ht, List.getElem?_take] at h3
    split at h3
    · simpa using h3
    · cases h3
end
section
open Go.RowKit
theorem rd_eta (z : Rd) : z = .mk z.rule z.at_ z.kids := by cases z; rfl
theorem shiftL_map (k : Int) : ∀ ks, shiftL k ks = ks.map (shiftR k)
  | [] => rfl
  | x :: ks => by rw [shiftL, shiftL_map k ks]; rfl
theorem shift_kids (k : Int) (x : Rd) : (shiftR k x).kids = x.kids.map (shiftR k) := by obtain ⟨r, a, ks⟩ := x; rw [shiftR, shiftL_map]; rfl
theorem mem_kids {rs : List Rul} {ts : List ByteArray} {i j : Nat} {x : Rd} (h : x ∈ allR rs ts i j) : x.kids.length ≤ 2 ∧ ∀ y ∈ x.kids, ∃ i' j', y ∈ allR rs ts i' j' := by
  rcases (mem_all (mem_lt h)).1 h with ⟨_, _, rfl⟩ | ⟨n, u, hu, h⟩
  · exact ⟨by simp [Rd.kids], fun y hy => by simp [Rd.kids] at hy⟩
  · rcases h with ⟨_, k, y, z, _, _, _, hy, hz, rfl⟩ | ⟨_, y, _, hy, rfl⟩ | ⟨_, y, _, hy, rfl⟩ | ⟨_, k, y, z, _, _, hy, hz, rfl⟩
    · refine ⟨by simp [Rd.kids], fun v hv => ?_⟩
      simp only [Rd.kids, List.mem_cons, List.not_mem_nil, or_false] at hv
      rcases hv with rfl | rfl
      · exact ⟨_, _, (mem_least.1 hy).1⟩
      · exact ⟨_, _, (mem_least.1 hz).1⟩
    · refine ⟨by simp [Rd.kids], fun v hv => ?_⟩
      simp only [Rd.kids, List.mem_cons, List.not_mem_nil, or_false] at hv
      obtain rfl := hv
      exact ⟨_, _, (mem_least.1 hy).1⟩
    · refine ⟨by simp [Rd.kids], fun v hv => ?_⟩
      simp only [Rd.kids, List.mem_cons, List.not_mem_nil, or_false] at hv
      obtain rfl := hv
      exact ⟨_, _, (mem_least.1 hy).1⟩
    · refine ⟨by simp [Rd.kids], fun v hv => ?_⟩
      simp only [Rd.kids, List.mem_cons, List.not_mem_nil, or_false] at hv
      rcases hv with rfl | rfl
      · exact ⟨_, _, (mem_least.1 hy).1⟩
      · exact ⟨_, _, (mem_least.1 hz).1⟩
set_option maxRecDepth 100000 in
set_option maxHeartbeats 4000000 in
theorem shifted_any (rs : List Rul) (ts : List ByteArray) (q : Nat) (hn : rs.length ≤ 1000000) : ∀ (m : Nat) (ok : Nat → Prop) (x : Rd) (c : Array Value) (w : World), sizeR x ≤ m → (∃ i j, x ∈ allR rs ts i j) → RdAt ok w x c → Calls Try.prog 26 #[.agg c, .int .i64 q] w (ExportP (shiftR q x) w) := by
  intro m
  induction m with
  | zero => intro ok x c w h; obtain ⟨r, a, ks⟩ := x; simp only [sizeR] at h; omega
  | succ m ih =>
    intro ok x c w hm hmem hX
    have IH := Lib.hid ih
    clear ih
    obtain ⟨i0, hi, hz0, hz1, hz2⟩ := info_parts info_rd
    obtain ⟨A', cap', rfl, hl, hc, hk⟩ := hX.form
    have hkc : x.kids.length ≤ 2 := by obtain ⟨i, j, h⟩ := hmem; exact (mem_kids h).1
    have hrl : -1 ≤ x.rule ∧ x.rule < 1000000 := by obtain ⟨i, j, h⟩ := hmem; have := all_rule h; omega
    have HMK := Lib.hid (show ∀ y ∈ x.kids, ∃ i' j', y ∈ allR rs ts i' j' from by obtain ⟨i, j, h⟩ := hmem; exact (mem_kids h).2)
    have HM := Lib.hid (show ∀ (k : Nat) y, x.kids[k]? = some y → sizeR y ≤ m from fun k y h => by
      obtain ⟨r9, a9, ks9⟩ := x
      rw [sizeR] at hm
      have := size_kid (show ks9[k]? = some y from h)
      omega)
    have hba := bel_alloc w (.cells (rdC x.rule x.at_ A' x.kids.length cap') 34)
    have HBA := Lib.hid hba
    have KX := Lib.hid (Blk.new w 34 (rdC x.rule x.at_ A' x.kids.length cap'))
    have HK := Lib.hid ((show RdsAt ok w A' x.kids from hk).keep hba)
    have hkl : x.kids.length ≤ 9223372036854775807 := by omega
    have HSW := Lib.hid (World.size_alloc w (.cells (rdC x.rule x.at_ A' x.kids.length cap') 34))
    have cx0 := KX.out.cell 0
    have cx1 := KX.out.cell 1
    clear hba hk hX hmem hm hl hc
    have HSK := Lib.hid (shift_kids q x)
    have HSR := Lib.hid (shift_rule q x)
    have HSA := Lib.hid (shift_at q x)
    go_enter Try.func26, Try.ntmps26
    by_cases hq : (q : Int) ≤ x.rule
    · rw [if_pos hq] at HSR
      go_upto_region 4 with (fail)
      generalize w.alloc (.cells (rdC x.rule x.at_ A' x.kids.length cap') 34) = w1 at *
      have hb2 := (bel_alloc w1 (.cells rdZ 34)).trans ((bel_alloc (w1.alloc (.cells rdZ 34)) (.cells #[.int .i64 (x.rule + 1), .int .i64 x.at_, .slice none 0 0] 34)).mono (by simp))
      have k0 := (Blk.new w1 34 rdZ).alloc (.cells #[.int .i64 (x.rule + 1), .int .i64 x.at_, .slice none 0 0] 34)
      have k1 := Blk.new (w1.alloc (.cells rdZ 34)) 34 #[.int .i64 (x.rule + 1), .int .i64 x.at_, .slice none 0 0]
      rw [World.size_alloc] at k1
      rw [HSW.out] at k0 k1 hb2
      have K0 := Lib.hid k0
      have K1 := Lib.hid k1
      have HB := Lib.hid hb2
      clear k0 k1 hb2 cx0 cx1
      generalize (w1.alloc (.cells #[.int .i64 0, .int .i64 0, .slice none 0 0] 34)).alloc (.cells #[.int .i64 (x.rule + 1), .int .i64 x.at_, .slice none 0 0] 34) = w2 at *
      go_wp2_with fail
      go_loopw [6] (fun i wr => ∃ (k : Nat) (v : Value), k ≤ x.kids.length ∧ i = .int .i64 k ∧ Hid (AppR (fun b => w.heap.size + 1 < b ∧ b ≠ w.heap.size + 1 + 1) wr (w.heap.size + 1 + 1 + 1) v ((x.kids.map (shiftR q)).take k)) ∧ Hid (Blk wr (w.heap.size + 1 + 1) 34 #[.int .i64 (x.rule + 1), .int .i64 x.at_, v]) ∧ Hid (Blk wr (w.heap.size + 1) 34 rdZ) ∧ Hid (Below (w.heap.size + 1) w1 wr)) (fun i _ => x.kids.length - (intOf i).toNat)
      case atStart => exact ⟨0, _, by omega, rfl, by rw [List.take_zero]; exact AppR.nil _ _ _, K1, K0, HB⟩
      case round =>
        clear K1 K0 HB
        obtain ⟨k, v, hkn, rfl, HO, K1, K0, HB⟩ := hrel
        have HBX := Lib.hid (show Below w1.heap.size w1 wr by rw [HSW.out]; exact HB.out)
        have cx2 := (keep HBX.out KX.out).cell 2
        by_cases hlt : k < x.kids.length
        · obtain ⟨y, hy⟩ : ∃ y, x.kids[k]? = some y := ⟨_, List.getElem?_eq_getElem hlt⟩
          have HTK := Lib.hid (show (x.kids.map (shiftR q)).take (k + 1) = (x.kids.map (shiftR q)).take k ++ [shiftR q y] by rw [List.take_add_one, List.getElem?_map, hy]; rfl)
          have HSZ := Lib.hid (HM.out k y hy)
          have HYM := Lib.hid (HMK.out y (List.mem_of_getElem? hy))
          obtain ⟨kd, AY, capY, rfl, hkd, hYc, _, _, _, Y0, Y1, Y2⟩ := (show RdsAt ok w1 A' x.kids from HK.out).at_ hy
          have Hkd := Lib.hid hkd
          have HYC := Lib.hid hYc
          have HXL := Lib.hid (show ((x.kids.map (shiftR q)).take k).length ≤ 2 by rw [List.length_take]; omega)
          have j1 : (0 : Int) ≤ (k : Int) := by omega
          have j2 : (k : Int) < (x.kids.length : Int) := by omega
          clear hy hkd hYc
          go_upto_region 7 with (fail)
          clear cx2
          refine region_ghost (X := Array Value × Nat × Value) (by kernel_rfl) _ (fun gx => [.pointer (some ⟨w.heap.size + 1 + 1, 2, none⟩), v, .pointer (some ⟨w.heap.size, 2, none⟩), .slice (some kd) x.kids.length cap', .int .i64 (↑k), .pointer (some (kd.add (k * 3))), .agg (rdC y.rule y.at_ AY y.kids.length capY), .int .i64 (↑q), .agg gx.1, .slice (some ⟨gx.2.1, 0, none⟩) 1 1, gx.2.2, .pointer (some ⟨w.heap.size + 1 + 1, 2, none⟩), undef]) [true, true, true, true, true, true, true, true, true, true, true, true, true] [8, 9, 10, 12] (InvY w1 (w.heap.size + 1) (w.heap.size + 1 + 1) (x.rule + 1) x.at_ v ((x.kids.map (shiftR q)).take k) (shiftR q y)) (#[], 0, .nilFunc) (by kernel_rfl) (fun gx => by simp [fin, finOn, dstAt, List.range, List.range.loop, Act.put]; rfl) (fun _ => by kernel_rfl) (by kernel_rfl) ⟨below_drew HB.out, K0.out.drew, K1.out.drew, (fun _ => HO.out.keep (below_drew (Below.refl _ _))), (fun h => by cases h), (fun h => by cases h), fun h => by cases h⟩ ?_ ?_
          · refine ⟨fun L gx wq hL hb ha hI => ?_, fun L gx wq hL hb ha hI => ?_, fun L gx wq hL hb ha hI => ?_, fun L gx wq hL hb ha hI => ?_, fun L gx wq hL hb ha hI => ?_, fun L gx wq hL hb ha hI => ?_, fun L gx wq hL hb ha hI => ?_, fun L gx wq hL hb ha hI => ?_, fun L gx wq hL hb ha hI => ?_, fun L gx wq hL hb ha hI => ?_, fun L gx wq hL hb ha hI => ?_, fun L gx wq hL hb ha hI => ?_, fun L gx wq hL hb ha hI => ?_, trivial⟩
            · exact Gives.plain (v := .pointer (some ⟨w.heap.size + 1 + 1, 2, none⟩)) (w' := wq) (by simp [go_sem]) rfl hI
            · have e12 : L 12 = false := ha 12 (by kernel_rfl)
              have cJ := hI.2.2.1.cell 2
              simp only [e12] at cJ
              exact Gives.plain (v := v) (w' := wq) (by simp [go_sem, cJ]) rfl hI
            · exact Gives.plain (v := .pointer (some ⟨w.heap.size, 2, none⟩)) (w' := wq) (by simp [go_sem]) rfl hI
            · have hW : Below w1.heap.size w1 wq := by rw [HSW.out]; exact hI.1
              have cJ := (keep hW KX.out).cell 2
              exact Gives.plain (v := .slice (some kd) x.kids.length cap') (w' := wq) (by simp [go_sem, cJ]) rfl hI
            · exact Gives.plain (v := .int .i64 (↑k)) (w' := wq) (by kernel_rfl) rfl hI
            · skip
              exact Gives.plain (v := .pointer (some (kd.add (k * 3)))) (w' := wq) (by simp [go_sem, j1, j2]; try omega) rfl hI
            · have hW : Below w1.heap.size w1 wq := by rw [HSW.out]; exact hI.1
              have q0 := (hW.cell (p := kd.add (k * 3)) (by rw [add_block]; exact Hkd.out)).trans Y0
              have q1 := (hW.cell (p := ⟨(kd.add (k * 3)).block, (kd.add (k * 3)).off + 1, none⟩) (by show (kd.add (k * 3)).block < _; rw [add_block]; exact Hkd.out)).trans Y1
              have q2 := (hW.cell (p := ⟨(kd.add (k * 3)).block, (kd.add (k * 3)).off + 2, none⟩) (by show (kd.add (k * 3)).block < _; rw [add_block]; exact Hkd.out)).trans Y2
              exact Gives.plain (v := .agg (rdC y.rule y.at_ AY y.kids.length capY)) (w' := wq) (by simp [go_sem, q0, q1, q2]) rfl hI
            · exact Gives.plain (v := .int .i64 (↑q)) (w' := wq) (by kernel_rfl) rfl hI
            · have e8 : L 8 = false := hL
              have e9 : L 9 = false := ha 9 (by kernel_rfl)
              have e10 : L 10 = false := ha 10 (by kernel_rfl)
              simp only [List.map, e8, e9, e10] at hI ⊢
              have hW : Below w1.heap.size w1 wq := by rw [HSW.out]; exact hI.1
              have hsz : w.heap.size + 1 ≤ wq.heap.size := by have := hI.2.1.lt; omega
              refine Gives.call (f := 26) (args := #[.agg (rdC y.rule y.at_ AY y.kids.length capY), .int .i64 q]) (w' := wq) (by kernel_rfl) ((IH.out ok y _ wq HSZ.out HYM.out (HYC.out.keep hW)).mono ?_)
              rintro e wa ⟨c, rfl, hc, hb5⟩
              have hK := hI.keep hsz hb5
              exact ⟨_, rfl, (c, gx.2), rfl, (KeepsV.of_same ⟨.inr (.inr rfl), .inr (.inr rfl), .inr (.inr rfl), .inr (.inr rfl), .inr (.inr rfl), .inr (.inr rfl), .inr (.inr rfl), .inr (.inr rfl), .inl rfl, (by first | exact .inr (.inr rfl) | exact .inr (.inl (by kernel_rfl))), (by first | exact .inr (.inr rfl) | exact .inr (.inl (by kernel_rfl))), .inr (.inr rfl), .inr (.inr rfl), trivial⟩), hK.1, hK.2.1, hK.2.2.1, hK.2.2.2.1, (fun _ _ => hc.any fun b _ hb => ⟨fun h => by have := ((hI.2.2.2.1 rfl).lt b h).2; omega, by have := hI.2.1.lt; omega, by have := hI.2.2.1.lt; omega⟩), (fun h => by cases h), fun h => by cases h⟩
            · have e8 : L 8 = true := hb 8 (by kernel_rfl)
              have e9 : L 9 = false := hL
              have e10 : L 10 = false := ha 10 (by kernel_rfl)
              simp only [List.map, e8, e9, e10] at hI ⊢
              have hsz : w.heap.size + 1 ≤ wq.heap.size := by have := hI.2.1.lt; omega
              have hK := hI.keep hsz (bel_alloc wq (.cells gx.1 34))
              obtain ⟨gc, gb, gv⟩ := gx
              obtain ⟨A8, c8, rfl, _⟩ := (hI.2.2.2.2.1 rfl rfl).form
              exact Gives.value (v := .slice (some ⟨wq.heap.size, 0, none⟩) 1 1) (w' := wq.alloc (.cells (rdC (shiftR q y).rule (shiftR q y).at_ A8 (shiftR q y).kids.length c8) 34)) (by simp [go_sem]) ⟨(_, wq.heap.size, gv), rfl, (KeepsV.of_same ⟨.inr (.inr rfl), .inr (.inr rfl), .inr (.inr rfl), .inr (.inr rfl), .inr (.inr rfl), .inr (.inr rfl), .inr (.inr rfl), .inr (.inr rfl), (by first | exact .inr (.inr rfl) | exact .inr (.inl (by kernel_rfl))), .inl rfl, (by first | exact .inr (.inr rfl) | exact .inr (.inl (by kernel_rfl))), .inr (.inr rfl), .inr (.inr rfl), trivial⟩), hK.1, hK.2.1, hK.2.2.1, hK.2.2.2.1, hK.2.2.2.2.1, (fun _ _ => Blk.new _ _ _), fun h => by cases h⟩
            · have e8 : L 8 = true := hb 8 (by kernel_rfl)
              have e9 : L 9 = true := hb 9 (by kernel_rfl)
              have e10 : L 10 = false := hL
              have e12 : L 12 = false := ha 12 (by kernel_rfl)
              simp only [List.map, e8, e9, e10, e12] at hI ⊢
              obtain ⟨h1, h2, h3, h4, h5, h6, _⟩ := hI
              obtain ⟨css, ho, hl, hr⟩ := h4 rfl
              have hxl := HXL.out
              have hrow : ∀ b, v.ownBlock = some b → w.heap.size + 1 + 1 + 1 ≤ b := fun b hb => ((h4 rfl).lt b hb).1
              exact gives_append (.tmp 28) (.tmp 36) 26 rfl (w.heap.size + 1 + 1 + 1) 34 i0 (.agg #[.int .i64 0, .int .i64 0, .slice none 0 0]) 3 40 Try.underlying26 hi hz0 hz1 hz2 rfl (by decide) v _ _ rfl ho wq.heap.size (some ⟨gx.2.1, 0, none⟩) 1 1 gx.1.toList rfl (reads_agg (h6 rfl rfl) (h5 rfl rfl).size) (rd_one (h5 rfl rfl)) (by unfold maxLen; omega) (by omega) (by have := h3.lt; omega) (fun v' w' g2 g3 g4 => ⟨(gx.1, gx.2.1, v'), rfl, (KeepsV.of_same ⟨.inr (.inr rfl), .inr (.inr rfl), .inr (.inr rfl), .inr (.inr rfl), .inr (.inr rfl), .inr (.inr rfl), .inr (.inr rfl), .inr (.inr rfl), (by first | exact .inr (.inr rfl) | exact .inr (.inl (by kernel_rfl))), (by first | exact .inr (.inr rfl) | exact .inr (.inl (by kernel_rfl))), .inl rfl, .inr (.inr rfl), .inr (.inr rfl), trivial⟩), h1.grown g3 (by have := h2.lt; omega) (fun b hb => by have := hrow b hb; omega), h2.grown g3 (fun e => by have := hrow _ e.symm; omega), h3.grown g3 (fun e => by have := hrow _ e.symm; omega), (fun h => by cases h), (fun _ h => by cases h), (fun _ h => by cases h), fun _ => AppR.push hl hr (h5 rfl rfl) g2 g3 g4⟩)
            · exact Gives.plain (v := .pointer (some ⟨w.heap.size + 1 + 1, 2, none⟩)) (w' := wq) (by simp [go_sem]) rfl hI
            · have e8 : L 8 = true := hb 8 (by kernel_rfl)
              have e9 : L 9 = true := hb 9 (by kernel_rfl)
              have e10 : L 10 = true := hb 10 (by kernel_rfl)
              have e12 : L 12 = false := hL
              simp only [List.map, e8, e9, e10, e12] at hI ⊢
              obtain ⟨gc, gb, gv⟩ := gx
              obtain ⟨h1, h2, h3, _, _, _, h7⟩ := hI
              have h3 : Blk wq (w.heap.size + 1 + 1) 34 #[.int .i64 (x.rule + 1), .int .i64 x.at_, v] := h3
              obtain ⟨A5, c5, e9, _⟩ := (h7 rfl).form (fun b hb => ⟨by omega, by omega⟩)
              dsimp only at e9
              subst e9
              have cJ := h3.cell 2
              have fJ := h3.frozen 2
              exact Gives.skip (w' := wq.setCell ⟨w.heap.size + 1 + 1, 2, none⟩ (.slice A5 ((x.kids.map (shiftR q)).take k ++ [shiftR q y]).length c5)) (by simp [go_sem, cJ, fJ]) ⟨_, rfl, KeepsV.same, h1.setCell (p := ⟨w.heap.size + 1 + 1, 2, none⟩) (by show w.heap.size + 1 ≤ w.heap.size + 1 + 1; omega) _, h2.far (by show w.heap.size + 1 ≠ w.heap.size + 1 + 1; omega) _, h3.set_ 2 _, (fun h => by cases h), (fun _ h => by cases h), (fun _ h => by cases h), fun _ => (h7 rfl).set_ (p := ⟨w.heap.size + 1 + 1, 2, none⟩) (fun h => h.2 rfl) (by show w.heap.size + 1 + 1 < _; omega) _⟩
          · intro gx wq hI
            obtain ⟨h1, h2, h3, _, _, _, h7⟩ := hI
            have HB := Lib.hid h1
            have K0 := Lib.hid h2
            have K1 := Lib.hid h3
            have HO := Lib.hid (h7 rfl)
            rw [← HTK.out] at HO
            clear h1 h2 h3 h7
            go_wp2_with fail
            go_roundw
            case rel => exact ⟨k + 1, _, by omega, by go_num, HO, K1, K0, HB⟩
            case measure => simp [intOf]; omega
        · obtain rfl : k = x.kids.length := by omega
          rw [List.take_of_length_le (by rw [List.length_map]; exact Nat.le_refl _)] at HO
          obtain ⟨A5, cap5, rfl, hl5, hc5, hR5⟩ := HO.out.form (fun b hb => ⟨by omega, by omega⟩)
          have HLM := Lib.hid (show (x.kids.map (shiftR q)).length = x.kids.length from List.length_map ..)
          have HR5 := Lib.hid hR5
          generalize hml : (x.kids.map (shiftR q)).length = ml at *
          have c1 := fun i => K1.out.cell i
          have c0 := fun i => K0.out.cell i
          have f1 := fun i => K1.out.frozen i
          have f0 := fun i => K0.out.frozen i
          clear hml
          go_wp2_with fail
          have hwf := ((K0.out.set_ 0 (.int .i64 (x.rule + 1))).set_ 1 (.int .i64 x.at_)).set_ 2 (.slice A5 ml cap5)
          have hbf := ((HB.out.setCell (p := ⟨w.heap.size + 1, 0, none⟩) (Nat.le_refl _) (.int .i64 (x.rule + 1))).setCell (p := ⟨w.heap.size + 1, 1, none⟩) (Nat.le_refl _) (.int .i64 x.at_)).setCell (p := ⟨w.heap.size + 1, 2, none⟩) (Nat.le_refl _) (.slice A5 ml cap5)
          have hrf : RdsAt (fun b => w.heap.size ≤ b) (((wr.setCell ⟨w.heap.size + 1, 0, none⟩ (.int .i64 (x.rule + 1))).setCell ⟨w.heap.size + 1, 1, none⟩ (.int .i64 x.at_)).setCell ⟨w.heap.size + 1, 2, none⟩ (.slice A5 ml cap5)) A5 (x.kids.map (shiftR q)) := by
            refine HR5.out.map (Nat.le_trans (grown_set _ _ _).size (Nat.le_trans (grown_set _ _ _).size (grown_set _ _ _).size)) (fun b _ h => by omega) fun p _ hq => ?_
            have hne : ∀ o, p ≠ ⟨w.heap.size + 1, o, none⟩ := fun o e => by rw [e] at hq; exact Nat.lt_irrefl _ hq.1
            rw [World.cell?_setCell_other _ _ _ _ (fun e => hne 2 e.symm), World.cell?_setCell_other _ _ _ _ (fun e => hne 1 e.symm), World.cell?_setCell_other _ _ _ _ (fun e => hne 0 e.symm)]
          generalize ((wr.setCell ⟨w.heap.size + 1, 0, none⟩ (.int .i64 (x.rule + 1))).setCell ⟨w.heap.size + 1, 1, none⟩ (.int .i64 x.at_)).setCell ⟨w.heap.size + 1, 2, none⟩ (.slice A5 ml cap5) = wf at *
          have dC := fun i => hwf.cell i
          have hbf2 : Below w.heap.size w wf := HBA.out.trans (hbf.mono (by omega))
          refine bodyPost_ret (v := .agg (rdC (x.rule + 1) x.at_ A5 ml cap5)) (by simp [results, Try.results26, go_sem, dC]) rfl ⟨_, rfl, ?_, hbf2⟩
          have hsh : shiftR q x = .mk (x.rule + 1) x.at_ (x.kids.map (shiftR q)) := by
            rw [rd_eta (shiftR q x), HSR.out, HSA.out, HSK.out]
          rw [hsh]
          have hof := RdAt.of (r := x.rule + 1) (a := x.at_) (ks := x.kids.map (shiftR q)) (by rw [List.length_map, ← HLM.out]; exact hl5) hc5 hrf
          rw [List.length_map, ← HLM.out] at hof
          exact hof
    · rw [if_neg hq] at HSR
      go_upto_region 4 with (fail)
      generalize w.alloc (.cells (rdC x.rule x.at_ A' x.kids.length cap') 34) = w1 at *
      have hb2 := (bel_alloc w1 (.cells rdZ 34)).trans ((bel_alloc (w1.alloc (.cells rdZ 34)) (.cells #[.int .i64 (x.rule), .int .i64 x.at_, .slice none 0 0] 34)).mono (by simp))
      have k0 := (Blk.new w1 34 rdZ).alloc (.cells #[.int .i64 (x.rule), .int .i64 x.at_, .slice none 0 0] 34)
      have k1 := Blk.new (w1.alloc (.cells rdZ 34)) 34 #[.int .i64 (x.rule), .int .i64 x.at_, .slice none 0 0]
      rw [World.size_alloc] at k1
      rw [HSW.out] at k0 k1 hb2
      have K0 := Lib.hid k0
      have K1 := Lib.hid k1
      have HB := Lib.hid hb2
      clear k0 k1 hb2 cx0 cx1
      generalize (w1.alloc (.cells #[.int .i64 0, .int .i64 0, .slice none 0 0] 34)).alloc (.cells #[.int .i64 (x.rule), .int .i64 x.at_, .slice none 0 0] 34) = w2 at *
      go_wp2_with fail
      go_loopw [6] (fun i wr => ∃ (k : Nat) (v : Value), k ≤ x.kids.length ∧ i = .int .i64 k ∧ Hid (AppR (fun b => w.heap.size + 1 < b ∧ b ≠ w.heap.size + 1 + 1) wr (w.heap.size + 1 + 1 + 1) v ((x.kids.map (shiftR q)).take k)) ∧ Hid (Blk wr (w.heap.size + 1 + 1) 34 #[.int .i64 (x.rule), .int .i64 x.at_, v]) ∧ Hid (Blk wr (w.heap.size + 1) 34 rdZ) ∧ Hid (Below (w.heap.size + 1) w1 wr)) (fun i _ => x.kids.length - (intOf i).toNat)
      case atStart => exact ⟨0, _, by omega, rfl, by rw [List.take_zero]; exact AppR.nil _ _ _, K1, K0, HB⟩
      case round =>
        clear K1 K0 HB
        obtain ⟨k, v, hkn, rfl, HO, K1, K0, HB⟩ := hrel
        have HBX := Lib.hid (show Below w1.heap.size w1 wr by rw [HSW.out]; exact HB.out)
        have cx2 := (keep HBX.out KX.out).cell 2
        by_cases hlt : k < x.kids.length
        · obtain ⟨y, hy⟩ : ∃ y, x.kids[k]? = some y := ⟨_, List.getElem?_eq_getElem hlt⟩
          have HTK := Lib.hid (show (x.kids.map (shiftR q)).take (k + 1) = (x.kids.map (shiftR q)).take k ++ [shiftR q y] by rw [List.take_add_one, List.getElem?_map, hy]; rfl)
          have HSZ := Lib.hid (HM.out k y hy)
          have HYM := Lib.hid (HMK.out y (List.mem_of_getElem? hy))
          obtain ⟨kd, AY, capY, rfl, hkd, hYc, _, _, _, Y0, Y1, Y2⟩ := (show RdsAt ok w1 A' x.kids from HK.out).at_ hy
          have Hkd := Lib.hid hkd
          have HYC := Lib.hid hYc
          have HXL := Lib.hid (show ((x.kids.map (shiftR q)).take k).length ≤ 2 by rw [List.length_take]; omega)
          have j1 : (0 : Int) ≤ (k : Int) := by omega
          have j2 : (k : Int) < (x.kids.length : Int) := by omega
          clear hy hkd hYc
          go_upto_region 7 with (fail)
          clear cx2
          refine region_ghost (X := Array Value × Nat × Value) (by kernel_rfl) _ (fun gx => [.pointer (some ⟨w.heap.size + 1 + 1, 2, none⟩), v, .pointer (some ⟨w.heap.size, 2, none⟩), .slice (some kd) x.kids.length cap', .int .i64 (↑k), .pointer (some (kd.add (k * 3))), .agg (rdC y.rule y.at_ AY y.kids.length capY), .int .i64 (↑q), .agg gx.1, .slice (some ⟨gx.2.1, 0, none⟩) 1 1, gx.2.2, .pointer (some ⟨w.heap.size + 1 + 1, 2, none⟩), undef]) [true, true, true, true, true, true, true, true, true, true, true, true, true] [8, 9, 10, 12] (InvY w1 (w.heap.size + 1) (w.heap.size + 1 + 1) (x.rule) x.at_ v ((x.kids.map (shiftR q)).take k) (shiftR q y)) (#[], 0, .nilFunc) (by kernel_rfl) (fun gx => by simp [fin, finOn, dstAt, List.range, List.range.loop, Act.put]; rfl) (fun _ => by kernel_rfl) (by kernel_rfl) ⟨below_drew HB.out, K0.out.drew, K1.out.drew, (fun _ => HO.out.keep (below_drew (Below.refl _ _))), (fun h => by cases h), (fun h => by cases h), fun h => by cases h⟩ ?_ ?_
          · refine ⟨fun L gx wq hL hb ha hI => ?_, fun L gx wq hL hb ha hI => ?_, fun L gx wq hL hb ha hI => ?_, fun L gx wq hL hb ha hI => ?_, fun L gx wq hL hb ha hI => ?_, fun L gx wq hL hb ha hI => ?_, fun L gx wq hL hb ha hI => ?_, fun L gx wq hL hb ha hI => ?_, fun L gx wq hL hb ha hI => ?_, fun L gx wq hL hb ha hI => ?_, fun L gx wq hL hb ha hI => ?_, fun L gx wq hL hb ha hI => ?_, fun L gx wq hL hb ha hI => ?_, trivial⟩
            · exact Gives.plain (v := .pointer (some ⟨w.heap.size + 1 + 1, 2, none⟩)) (w' := wq) (by simp [go_sem]) rfl hI
            · have e12 : L 12 = false := ha 12 (by kernel_rfl)
              have cJ := hI.2.2.1.cell 2
              simp only [e12] at cJ
              exact Gives.plain (v := v) (w' := wq) (by simp [go_sem, cJ]) rfl hI
            · exact Gives.plain (v := .pointer (some ⟨w.heap.size, 2, none⟩)) (w' := wq) (by simp [go_sem]) rfl hI
            · have hW : Below w1.heap.size w1 wq := by rw [HSW.out]; exact hI.1
              have cJ := (keep hW KX.out).cell 2
              exact Gives.plain (v := .slice (some kd) x.kids.length cap') (w' := wq) (by simp [go_sem, cJ]) rfl hI
            · exact Gives.plain (v := .int .i64 (↑k)) (w' := wq) (by kernel_rfl) rfl hI
            · skip
              exact Gives.plain (v := .pointer (some (kd.add (k * 3)))) (w' := wq) (by simp [go_sem, j1, j2]; try omega) rfl hI
            · have hW : Below w1.heap.size w1 wq := by rw [HSW.out]; exact hI.1
              have q0 := (hW.cell (p := kd.add (k * 3)) (by rw [add_block]; exact Hkd.out)).trans Y0
              have q1 := (hW.cell (p := ⟨(kd.add (k * 3)).block, (kd.add (k * 3)).off + 1, none⟩) (by show (kd.add (k * 3)).block < _; rw [add_block]; exact Hkd.out)).trans Y1
              have q2 := (hW.cell (p := ⟨(kd.add (k * 3)).block, (kd.add (k * 3)).off + 2, none⟩) (by show (kd.add (k * 3)).block < _; rw [add_block]; exact Hkd.out)).trans Y2
              exact Gives.plain (v := .agg (rdC y.rule y.at_ AY y.kids.length capY)) (w' := wq) (by simp [go_sem, q0, q1, q2]) rfl hI
            · exact Gives.plain (v := .int .i64 (↑q)) (w' := wq) (by kernel_rfl) rfl hI
            · have e8 : L 8 = false := hL
              have e9 : L 9 = false := ha 9 (by kernel_rfl)
              have e10 : L 10 = false := ha 10 (by kernel_rfl)
              simp only [List.map, e8, e9, e10] at hI ⊢
              have hW : Below w1.heap.size w1 wq := by rw [HSW.out]; exact hI.1
              have hsz : w.heap.size + 1 ≤ wq.heap.size := by have := hI.2.1.lt; omega
              refine Gives.call (f := 26) (args := #[.agg (rdC y.rule y.at_ AY y.kids.length capY), .int .i64 q]) (w' := wq) (by kernel_rfl) ((IH.out ok y _ wq HSZ.out HYM.out (HYC.out.keep hW)).mono ?_)
              rintro e wa ⟨c, rfl, hc, hb5⟩
              have hK := hI.keep hsz hb5
              exact ⟨_, rfl, (c, gx.2), rfl, (KeepsV.of_same ⟨.inr (.inr rfl), .inr (.inr rfl), .inr (.inr rfl), .inr (.inr rfl), .inr (.inr rfl), .inr (.inr rfl), .inr (.inr rfl), .inr (.inr rfl), .inl rfl, (by first | exact .inr (.inr rfl) | exact .inr (.inl (by kernel_rfl))), (by first | exact .inr (.inr rfl) | exact .inr (.inl (by kernel_rfl))), .inr (.inr rfl), .inr (.inr rfl), trivial⟩), hK.1, hK.2.1, hK.2.2.1, hK.2.2.2.1, (fun _ _ => hc.any fun b _ hb => ⟨fun h => by have := ((hI.2.2.2.1 rfl).lt b h).2; omega, by have := hI.2.1.lt; omega, by have := hI.2.2.1.lt; omega⟩), (fun h => by cases h), fun h => by cases h⟩
            · have e8 : L 8 = true := hb 8 (by kernel_rfl)
              have e9 : L 9 = false := hL
              have e10 : L 10 = false := ha 10 (by kernel_rfl)
              simp only [List.map, e8, e9, e10] at hI ⊢
              have hsz : w.heap.size + 1 ≤ wq.heap.size := by have := hI.2.1.lt; omega
              have hK := hI.keep hsz (bel_alloc wq (.cells gx.1 34))
              obtain ⟨gc, gb, gv⟩ := gx
              obtain ⟨A8, c8, rfl, _⟩ := (hI.2.2.2.2.1 rfl rfl).form
              exact Gives.value (v := .slice (some ⟨wq.heap.size, 0, none⟩) 1 1) (w' := wq.alloc (.cells (rdC (shiftR q y).rule (shiftR q y).at_ A8 (shiftR q y).kids.length c8) 34)) (by simp [go_sem]) ⟨(_, wq.heap.size, gv), rfl, (KeepsV.of_same ⟨.inr (.inr rfl), .inr (.inr rfl), .inr (.inr rfl), .inr (.inr rfl), .inr (.inr rfl), .inr (.inr rfl), .inr (.inr rfl), .inr (.inr rfl), (by first | exact .inr (.inr rfl) | exact .inr (.inl (by kernel_rfl))), .inl rfl, (by first | exact .inr (.inr rfl) | exact .inr (.inl (by kernel_rfl))), .inr (.inr rfl), .inr (.inr rfl), trivial⟩), hK.1, hK.2.1, hK.2.2.1, hK.2.2.2.1, hK.2.2.2.2.1, (fun _ _ => Blk.new _ _ _), fun h => by cases h⟩
            · have e8 : L 8 = true := hb 8 (by kernel_rfl)
              have e9 : L 9 = true := hb 9 (by kernel_rfl)
              have e10 : L 10 = false := hL
              have e12 : L 12 = false := ha 12 (by kernel_rfl)
              simp only [List.map, e8, e9, e10, e12] at hI ⊢
              obtain ⟨h1, h2, h3, h4, h5, h6, _⟩ := hI
              obtain ⟨css, ho, hl, hr⟩ := h4 rfl
              have hxl := HXL.out
              have hrow : ∀ b, v.ownBlock = some b → w.heap.size + 1 + 1 + 1 ≤ b := fun b hb => ((h4 rfl).lt b hb).1
              exact gives_append (.tmp 28) (.tmp 36) 26 rfl (w.heap.size + 1 + 1 + 1) 34 i0 (.agg #[.int .i64 0, .int .i64 0, .slice none 0 0]) 3 40 Try.underlying26 hi hz0 hz1 hz2 rfl (by decide) v _ _ rfl ho wq.heap.size (some ⟨gx.2.1, 0, none⟩) 1 1 gx.1.toList rfl (reads_agg (h6 rfl rfl) (h5 rfl rfl).size) (rd_one (h5 rfl rfl)) (by unfold maxLen; omega) (by omega) (by have := h3.lt; omega) (fun v' w' g2 g3 g4 => ⟨(gx.1, gx.2.1, v'), rfl, (KeepsV.of_same ⟨.inr (.inr rfl), .inr (.inr rfl), .inr (.inr rfl), .inr (.inr rfl), .inr (.inr rfl), .inr (.inr rfl), .inr (.inr rfl), .inr (.inr rfl), (by first | exact .inr (.inr rfl) | exact .inr (.inl (by kernel_rfl))), (by first | exact .inr (.inr rfl) | exact .inr (.inl (by kernel_rfl))), .inl rfl, .inr (.inr rfl), .inr (.inr rfl), trivial⟩), h1.grown g3 (by have := h2.lt; omega) (fun b hb => by have := hrow b hb; omega), h2.grown g3 (fun e => by have := hrow _ e.symm; omega), h3.grown g3 (fun e => by have := hrow _ e.symm; omega), (fun h => by cases h), (fun _ h => by cases h), (fun _ h => by cases h), fun _ => AppR.push hl hr (h5 rfl rfl) g2 g3 g4⟩)
            · exact Gives.plain (v := .pointer (some ⟨w.heap.size + 1 + 1, 2, none⟩)) (w' := wq) (by simp [go_sem]) rfl hI
            · have e8 : L 8 = true := hb 8 (by kernel_rfl)
              have e9 : L 9 = true := hb 9 (by kernel_rfl)
              have e10 : L 10 = true := hb 10 (by kernel_rfl)
              have e12 : L 12 = false := hL
              simp only [List.map, e8, e9, e10, e12] at hI ⊢
              obtain ⟨gc, gb, gv⟩ := gx
              obtain ⟨h1, h2, h3, _, _, _, h7⟩ := hI
              have h3 : Blk wq (w.heap.size + 1 + 1) 34 #[.int .i64 (x.rule), .int .i64 x.at_, v] := h3
              obtain ⟨A5, c5, e9, _⟩ := (h7 rfl).form (fun b hb => ⟨by omega, by omega⟩)
              dsimp only at e9
              subst e9
              have cJ := h3.cell 2
              have fJ := h3.frozen 2
              exact Gives.skip (w' := wq.setCell ⟨w.heap.size + 1 + 1, 2, none⟩ (.slice A5 ((x.kids.map (shiftR q)).take k ++ [shiftR q y]).length c5)) (by simp [go_sem, cJ, fJ]) ⟨_, rfl, KeepsV.same, h1.setCell (p := ⟨w.heap.size + 1 + 1, 2, none⟩) (by show w.heap.size + 1 ≤ w.heap.size + 1 + 1; omega) _, h2.far (by show w.heap.size + 1 ≠ w.heap.size + 1 + 1; omega) _, h3.set_ 2 _, (fun h => by cases h), (fun _ h => by cases h), (fun _ h => by cases h), fun _ => (h7 rfl).set_ (p := ⟨w.heap.size + 1 + 1, 2, none⟩) (fun h => h.2 rfl) (by show w.heap.size + 1 + 1 < _; omega) _⟩
          · intro gx wq hI
            obtain ⟨h1, h2, h3, _, _, _, h7⟩ := hI
            have HB := Lib.hid h1
            have K0 := Lib.hid h2
            have K1 := Lib.hid h3
            have HO := Lib.hid (h7 rfl)
            rw [← HTK.out] at HO
            clear h1 h2 h3 h7
            go_wp2_with fail
            go_roundw
            case rel => exact ⟨k + 1, _, by omega, by go_num, HO, K1, K0, HB⟩
            case measure => simp [intOf]; omega
        · obtain rfl : k = x.kids.length := by omega
          rw [List.take_of_length_le (by rw [List.length_map]; exact Nat.le_refl _)] at HO
          obtain ⟨A5, cap5, rfl, hl5, hc5, hR5⟩ := HO.out.form (fun b hb => ⟨by omega, by omega⟩)
          have HLM := Lib.hid (show (x.kids.map (shiftR q)).length = x.kids.length from List.length_map ..)
          have HR5 := Lib.hid hR5
          generalize hml : (x.kids.map (shiftR q)).length = ml at *
          have c1 := fun i => K1.out.cell i
          have c0 := fun i => K0.out.cell i
          have f1 := fun i => K1.out.frozen i
          have f0 := fun i => K0.out.frozen i
          clear hml
          go_wp2_with fail
          have hwf := ((K0.out.set_ 0 (.int .i64 (x.rule))).set_ 1 (.int .i64 x.at_)).set_ 2 (.slice A5 ml cap5)
          have hbf := ((HB.out.setCell (p := ⟨w.heap.size + 1, 0, none⟩) (Nat.le_refl _) (.int .i64 (x.rule))).setCell (p := ⟨w.heap.size + 1, 1, none⟩) (Nat.le_refl _) (.int .i64 x.at_)).setCell (p := ⟨w.heap.size + 1, 2, none⟩) (Nat.le_refl _) (.slice A5 ml cap5)
          have hrf : RdsAt (fun b => w.heap.size ≤ b) (((wr.setCell ⟨w.heap.size + 1, 0, none⟩ (.int .i64 (x.rule))).setCell ⟨w.heap.size + 1, 1, none⟩ (.int .i64 x.at_)).setCell ⟨w.heap.size + 1, 2, none⟩ (.slice A5 ml cap5)) A5 (x.kids.map (shiftR q)) := by
            refine HR5.out.map (Nat.le_trans (grown_set _ _ _).size (Nat.le_trans (grown_set _ _ _).size (grown_set _ _ _).size)) (fun b _ h => by omega) fun p _ hq => ?_
            have hne : ∀ o, p ≠ ⟨w.heap.size + 1, o, none⟩ := fun o e => by rw [e] at hq; exact Nat.lt_irrefl _ hq.1
            rw [World.cell?_setCell_other _ _ _ _ (fun e => hne 2 e.symm), World.cell?_setCell_other _ _ _ _ (fun e => hne 1 e.symm), World.cell?_setCell_other _ _ _ _ (fun e => hne 0 e.symm)]
          generalize ((wr.setCell ⟨w.heap.size + 1, 0, none⟩ (.int .i64 (x.rule))).setCell ⟨w.heap.size + 1, 1, none⟩ (.int .i64 x.at_)).setCell ⟨w.heap.size + 1, 2, none⟩ (.slice A5 ml cap5) = wf at *
          have dC := fun i => hwf.cell i
          have hbf2 : Below w.heap.size w wf := HBA.out.trans (hbf.mono (by omega))
          refine bodyPost_ret (v := .agg (rdC (x.rule) x.at_ A5 ml cap5)) (by simp [results, Try.results26, go_sem, dC]) rfl ⟨_, rfl, ?_, hbf2⟩
          have hsh : shiftR q x = .mk (x.rule) x.at_ (x.kids.map (shiftR q)) := by
            rw [rd_eta (shiftR q x), HSR.out, HSA.out, HSK.out]
          rw [hsh]
          have hof := RdAt.of (r := x.rule) (a := x.at_) (ks := x.kids.map (shiftR q)) (by rw [List.length_map, ← HLM.out]; exact hl5) hc5 hrf
          rw [List.length_map, ← HLM.out] at hof
          exact hof
end
section
open Go.RowKit
def cokB (rs : List Rul) (ts : List ByteArray) (most : Int) : Bool := (validB rs && toksB ts) && (decide (0 ≤ most) && decide (most ≤ 1000000000))
def cntN (rs : List Rul) (ts : List ByteArray) (most : Int) : Int := if cokB rs ts most then min ((allR rs ts 0 ts.length).length : Int) most else 0
def cntE (rs : List Rul) (ts : List ByteArray) (most : Int) : Int := if cokB rs ts most then 0 else 1
theorem cnt_bad {rs : List Rul} {ts : List ByteArray} {most : Int} (h : cokB rs ts most = false) : cntN rs ts most = 0 ∧ cntE rs ts most = 1 := by
  unfold cntN cntE
  rw [h]
  exact ⟨rfl, rfl⟩
theorem cnt_good {rs : List Rul} {ts : List ByteArray} {most : Int} (h : cokB rs ts most = true) : cntN rs ts most = min ((allR rs ts 0 ts.length).length : Int) most ∧ cntE rs ts most = 0 := by
  unfold cntN cntE
  rw [h]
  exact ⟨rfl, rfl⟩
theorem least_zero {rs : List Rul} (hv : validB rs = true) {ts : List ByteArray} {i j : Nat} : leastR rs (allR rs ts i j) 0 = allR rs ts i j := by
  unfold leastR
  exact List.filter_eq_self.2 fun x hx => decide_eq_true (prec_nonneg hv hx).1
set_option maxRecDepth 100000 in
set_option maxHeartbeats 4000000 in
theorem count_any (A T : Option Addr) (cap cT : Nat) (rs : List Rul) (ts : List ByteArray) (most : Int) (w : World) (hR : RulsAt w A rs) (hT : ToksAt w T ts) (hc : rs.length ≤ cap) (hcap : cap ≤ 9223372036854775807) : Calls Try.prog 20 #[.slice A rs.length cap, .slice T ts.length cT, .int .i64 most] w fun e w' => e = .returned (.tuple #[.int .i64 (cntN rs ts most), .int .i64 (cntE rs ts most)]) ∧ Below w.heap.size w w' := by
  have HR := Lib.hid hR
  have HT := Lib.hid hT
  clear hR hT
  go_enter Try.func20, Try.ntmps20
  go_wp2_with fail
  refine (valid_any A cap rs _ HR.out hc hcap).mono ?_
  rintro e w1 ⟨rfl, hb⟩
  have HT := Lib.hid (HT.out.keep hb)
  have HR := Lib.hid (HR.out.keep hb)
  have HB := Lib.hid hb
  clear hb
  cases hv : validB rs
  · obtain ⟨e1, e2⟩ := cnt_bad (rs := rs) (ts := ts) (most := most) (by unfold cokB; rw [hv]; rfl)
    have E1 := Lib.hid e1
    have E2 := Lib.hid e2
    clear e1 e2 hv
    go_wp2_with fail
    go_returns
    rw [E1.out, E2.out]
    exact ⟨rfl, HB.out⟩
  · have HV := Lib.hid hv
    clear hv
    go_wp2_with fail
    refine (tvalid_any T cT ts _ HT.out).mono ?_
    rintro e w2 ⟨rfl, hb⟩
    have HT := Lib.hid (HT.out.keep hb)
    have HR := Lib.hid (HR.out.keep hb)
    have HB := Lib.hid (HB.out.trans (hb.mono HB.out.size))
    clear hb
    cases hw : toksB ts
    · obtain ⟨e1, e2⟩ := cnt_bad (rs := rs) (ts := ts) (most := most) (by unfold cokB; rw [hw, Bool.and_false]; rfl)
      have E1 := Lib.hid e1
      have E2 := Lib.hid e2
      clear e1 e2 hw
      go_wp2_with fail
      go_returns
      rw [E1.out, E2.out]
      exact ⟨rfl, HB.out⟩
    · have HW := Lib.hid hw
      clear hw
      by_cases m0 : most < 0
      · obtain ⟨e1, e2⟩ := cnt_bad (rs := rs) (ts := ts) (most := most) (by unfold cokB; rw [decide_eq_false (show ¬ 0 ≤ most by omega), Bool.false_and, Bool.and_false])
        have E1 := Lib.hid e1
        have E2 := Lib.hid e2
        clear e1 e2
        go_wp2_with fail
        go_returns
        rw [E1.out, E2.out]
        exact ⟨rfl, HB.out⟩
      by_cases m1 : 1000000000 < most
      · obtain ⟨e1, e2⟩ := cnt_bad (rs := rs) (ts := ts) (most := most) (by unfold cokB; rw [decide_eq_false (show ¬ most ≤ 1000000000 by omega), Bool.and_false, Bool.and_false])
        have E1 := Lib.hid e1
        have E2 := Lib.hid e2
        clear e1 e2
        go_wp2_with fail
        go_returns
        rw [E1.out, E2.out]
        exact ⟨rfl, HB.out⟩
      obtain ⟨e1, e2⟩ := cnt_good (rs := rs) (ts := ts) (most := most) (by unfold cokB; rw [HV.out, HW.out, decide_eq_true (show 0 ≤ most by omega), decide_eq_true (show most ≤ 1000000000 by omega)]; rfl)
      have E1 := Lib.hid e1
      have E2 := Lib.hid e2
      clear e1 e2
      have hrl : rs.length ≤ 64 := by have := HV.out; unfold validB at this; rw [Bool.and_eq_true] at this; exact of_decide_eq_true this.1
      have htl : ts.length ≤ 200 := by have := HW.out; unfold toksB at this; rw [Bool.and_eq_true] at this; exact of_decide_eq_true this.1
      by_cases h0 : ts.length = 0
      · have h0' : ((ts.length : Int) == 0) = true := by rw [h0]; rfl
        have HZ := Lib.hid (show min ((allR rs ts 0 ts.length).length : Int) most = 0 by rw [h0, all_none (Nat.le_refl _)]; simp; omega)
        clear h0
        go_wp2_with fail
        go_returns
        rw [E1.out, E2.out, HZ.out]
        exact ⟨rfl, HB.out⟩
      · have h0' : ((ts.length : Int) == 0) = false := by rw [beq_eq_false_iff_ne]; omega
        have h1 : 0 < ts.length := by omega
        clear h0
        go_wp2_with fail
        refine (newCounter_any A T cap cT rs ts _ HV.out HR.out HT.out (by omega) (by omega)).mono ?_
        rintro e w3 ⟨g, F, gc, rows, rfl, hTab, hb⟩
        have HTab := Lib.hid hTab
        have HB := Lib.hid (HB.out.trans (hb.mono HB.out.size))
        clear HR HT hb hTab
        go_wp2_with fail
        refine (total_any g F rs ts gc rows _ 0 ts.length 0 _ HTab.out h1 (Nat.le_refl _) (by simp [h1])).mono ?_
        rintro e w4 ⟨rfl, hb⟩
        rw [least_zero HV.out]
        have HB := Lib.hid (HB.out.trans (hb.mono HB.out.size))
        clear hb HTab
        have HZ := Lib.hid (show min ((min (allR rs ts 0 ts.length).length 1000000000 : Nat) : Int) most = min ((allR rs ts 0 ts.length).length : Int) most by omega)
        go_wp2_with fail
        go_returns
        rw [E1.out, E2.out, ← HZ.out]
        exact ⟨rfl, HB.out⟩
end
section
open Go.RowKit
def rchkB (rs : List Rul) (ts : List ByteArray) (x : Rd) : Bool := (validB rs && toksB ts) && (decide (x.at_ = 0) && (decide (endR rs ts x = (ts.length : Int)) && decide (0 < ts.length)))
theorem rchk_mem {rs : List Rul} {ts : List ByteArray} {x : Rd} : rchkB rs ts x = true ↔ (validB rs && toksB ts) = true ∧ x ∈ allR rs ts 0 ts.length := by
  unfold rchkB
  rw [Bool.and_eq_true, ← end_mem x]
  simp
theorem rchk_all {rs : List Rul} {ts : List ByteArray} {x : Rd} : rchkB rs ts x = true ↔ x ∈ allL rs ts := by
  rw [rchk_mem]
  unfold allL
  split
  · rename_i h; simp [h]
  · rename_i h; simp [h]
set_option maxRecDepth 100000 in
set_option maxHeartbeats 4000000 in
theorem rcheck_any (A T : Option Addr) (cap cT : Nat) (rs : List Rul) (ts : List ByteArray) (ok : Nat → Prop) (x : Rd) (c : Array Value) (w : World) (hR : RulsAt w A rs) (hT : ToksAt w T ts) (hX : RdAt ok w x c) (hr : rs.length ≤ 1000000) (ht : ts.length ≤ 1000000) : Calls Try.prog 18 #[.slice A rs.length cap, .slice T ts.length cT, .agg c] w fun e w' => e = .returned (.bool (rchkB rs ts x)) ∧ Below w.heap.size w w' := by
  obtain ⟨A', cap', rfl, hl, hc, hk⟩ := hX.form
  have hba := bel_alloc w (.cells (rdC x.rule x.at_ A' x.kids.length cap') 34)
  have HX := Lib.hid (hX.keep hba)
  have HR := Lib.hid (hR.keep hba)
  have HT := Lib.hid (hT.keep hba)
  have HB := Lib.hid hba
  have K1 := Lib.hid (Blk.new w 34 (rdC x.rule x.at_ A' x.kids.length cap'))
  clear hX hba hR hT hk hl hc
  go_enter Try.func18, Try.ntmps18
  go_wp2_with fail
  refine (fits_any A T cap cT rs ts _ HR.out HT.out hr ht).mono ?_
  rintro e w1 ⟨rfl, hb⟩
  have HX := Lib.hid (HX.out.keep hb)
  have HR := Lib.hid (HR.out.keep hb)
  have HT := Lib.hid (HT.out.keep hb)
  have K1 := Lib.hid (keep hb K1.out)
  have HB := Lib.hid (HB.out.trans (hb.mono HB.out.size))
  clear hb
  cases q : (validB rs && toksB ts)
  · have E := Lib.hid (show rchkB rs ts x = false by unfold rchkB; rw [q, Bool.false_and])
    clear q
    go_wp2_with fail
    go_ret
    rw [E.out]
    exact ⟨rfl, HB.out⟩
  have c1 := K1.out.cell 1
  have c0 := K1.out.cell 0
  have c2 := K1.out.cell 2
  by_cases a0 : x.at_ = 0
  · have ha : (x.at_ == (0 : Int)) = true := beq_iff_eq.2 a0
    have E := Lib.hid (show rchkB rs ts x = (decide (endR rs ts x = (ts.length : Int)) && decide (0 < ts.length)) by unfold rchkB; rw [q, decide_eq_true a0, Bool.true_and, Bool.true_and])
    clear q a0
    go_wp2_with fail
    refine (rend_any A T cap cT rs ts hr ht (sizeR x) ok x _ _ (Nat.le_refl _) HR.out HT.out HX.out).mono ?_
    rintro e w2 ⟨rfl, hb⟩
    have HB := Lib.hid (HB.out.trans (hb.mono HB.out.size))
    clear hb c0 c1 c2
    by_cases e0 : endR rs ts x = (ts.length : Int)
    · rw [decide_eq_true e0, Bool.true_and] at E
      have e1 : (endR rs ts x == (ts.length : Int)) = true := beq_iff_eq.2 e0
      generalize endR rs ts x = k at *
      clear e0
      go_wp2_with fail
      go_ret
      rw [E.out]
      exact ⟨rfl, HB.out⟩
    · rw [decide_eq_false e0, Bool.false_and] at E
      have e1 : (endR rs ts x == (ts.length : Int)) = false := beq_eq_false_iff_ne.2 e0
      generalize endR rs ts x = k at *
      clear e0
      go_wp2_with fail
      go_ret
      rw [E.out]
      exact ⟨rfl, HB.out⟩
  · have ha : (x.at_ == (0 : Int)) = false := beq_eq_false_iff_ne.2 a0
    have E := Lib.hid (show rchkB rs ts x = false by unfold rchkB; rw [decide_eq_false a0, Bool.false_and, Bool.and_false])
    clear q a0
    go_wp2_with fail
    go_ret
    rw [E.out]
    exact ⟨rfl, HB.out⟩
end
section
open Go.RowKit
/-- while the list of rules is made -/
def InvU (wr : World) (rs : List Rul) (k : Nat) : List Bool → Nat × Value × Value → World → Prop
  | [b0, b1, b2], gx, wq => Below wr.heap.size wr wq ∧ (b0 = true → b1 = false → OwnU wq wr.heap.size (.slice (some ⟨gx.1, 0, none⟩) 0 0) []) ∧ (b1 = true → b2 = false → OwnU wq wr.heap.size gx.2.1 (rs.take k)) ∧ (b2 = true → OwnU wq wr.heap.size gx.2.2 (lessR rs k))
  | _, _, _ => False
theorem fewer_read {rs : List Rul} {ts : List ByteArray} {k : Nat} (hk : k < rs.length) (hv : validB rs = true) (ht : toksB ts = true) : okI (lessR rs k) ts = 0 ∧ ∀ (i : Nat) y, (readL (lessR rs k) ts)[i]? = some y → y ∈ allR (lessR rs k) ts 0 ts.length ∧ rchkB rs ts (shiftR k y) = true := by
  have hvl := less_valid hv hk
  refine ⟨read_ok (by rw [hvl, ht]; rfl), fun i y h => ?_⟩
  have hy : y ∈ allL (lessR rs k) ts := by
    rw [readL_all] at h
    exact List.mem_of_mem_take (List.mem_of_getElem? h)
  unfold allL at hy
  rw [hvl, ht, Bool.and_self, if_pos rfl] at hy
  exact ⟨hy, rchk_mem.2 ⟨by rw [hv, ht]; rfl, less_mem hk hy⟩⟩
theorem fewer_count {rs : List Rul} {ts : List ByteArray} {k : Nat} (hk : k < rs.length) (hv : validB rs = true) (ht : toksB ts = true) : cntE rs ts 1000000 = 0 ∧ cntE (lessR rs k) ts 1000000 = 0 ∧ cntN (lessR rs k) ts 1000000 ≤ cntN rs ts 1000000 := by
  have hvl := less_valid hv hk
  obtain ⟨h1, h2⟩ := cnt_good (rs := rs) (ts := ts) (most := 1000000) (by unfold cokB; rw [hv, ht]; rfl)
  obtain ⟨h3, h4⟩ := cnt_good (rs := lessR rs k) (ts := ts) (most := 1000000) (by unfold cokB; rw [hvl, ht]; rfl)
  refine ⟨h2, h4, ?_⟩
  rw [h1, h3]
  have := less_count (rs := rs) (ts := ts) hk
  omega
set_option maxRecDepth 100000 in
set_option maxHeartbeats 8000000 in
theorem fewer_walk (A T : Option Addr) (cap cT m : Nat) (rs : List Rul) (ts : List ByteArray) (w : World) (hR : RulsAt w A rs) (hT : ToksAt w T ts) (hl0 : rs.length ≤ cap) (hm0 : cap ≤ 9223372036854775807) (hl1 : ts.length ≤ cT) (hm1 : cT ≤ 9223372036854775807) (hm : m < 256) : Calls Try.prog 10 #[.slice A rs.length cap, .slice T ts.length cT, .int .u8 m] w fun e w' => e = .returned (.bool true) ∧ Below w.heap.size w w' := by
  obtain ⟨i0, hi, hz0, hz1, hz2⟩ := info_parts info_rul
  have HFIT := Lib.hid (show ∀ r ∈ rs, r.fits from fun r hr => by
    obtain ⟨i, hi⟩ := List.mem_iff_getElem?.1 hr
    exact (hR i r hi).1)
  have HR := Lib.hid hR
  have HT := Lib.hid hT
  have hrl : rs.length ≤ 9223372036854775807 := by omega
  have htl : ts.length ≤ 9223372036854775807 := by omega
  clear hR hT
  go_enter Try.func10, Try.ntmps10
  go_wp2_with fail
  refine (awake_any _).mono ?_
  rintro e w1 ⟨rfl, hb⟩
  have HB := Lib.hid hb
  have HR := Lib.hid (HR.out.keep hb)
  have HT := Lib.hid (HT.out.keep hb)
  clear hb
  go_wp2_with fail
  refine (short_any A T cap cT rs ts 8 _ HR.out HT.out hrl htl).mono ?_
  rintro e w2 ⟨rfl, rfl⟩
  cases q1 : shortB rs ts 8
  · go_wp2_with fail
    go_ret
    exact ⟨rfl, HB.out⟩
  have L1 := Lib.hid (short_of q1)
  clear q1
  by_cases h0 : rs.length = 0
  · have h0' : ((rs.length : Int) == 0) = true := by rw [h0]; rfl
    clear h0
    go_wp2_with fail
    go_ret
    exact ⟨rfl, HB.out⟩
  have h0' : ((rs.length : Int) == 0) = false := by rw [beq_eq_false_iff_ne]; omega
  go_wp2_with fail
  refine (rvalid_any A cap rs _ HR.out (by have := L1.out.1; omega)).mono ?_
  rintro e w2 ⟨rfl, hb⟩
  have HB := Lib.hid (HB.out.trans (hb.mono HB.out.size))
  have HR := Lib.hid (HR.out.keep hb)
  have HT := Lib.hid (HT.out.keep hb)
  clear hb
  cases hv : validB rs
  · clear hv
    go_wp2_with fail
    go_ret
    exact ⟨rfl, HB.out⟩
  go_wp2_with fail
  refine (rtvalid_any T cT ts _ HT.out (by have := L1.out.2; omega)).mono ?_
  rintro e w3 ⟨rfl, hb⟩
  have HB := Lib.hid (HB.out.trans (hb.mono HB.out.size))
  have HR := Lib.hid (HR.out.keep hb)
  have HT := Lib.hid (HT.out.keep hb)
  clear hb
  cases ht : toksB ts
  · clear hv ht
    go_wp2_with fail
    go_ret
    exact ⟨rfl, HB.out⟩
  have hkl : m % rs.length < rs.length := Nat.mod_lt _ (by omega)
  have hrem : (m : Int).tmod (rs.length : Int) = ((m % rs.length : Nat) : Int) := by
    rw [Int.tmod_eq_emod_of_nonneg (by omega)]; exact (Int.natCast_emod m rs.length).symm
  obtain ⟨f1, f2⟩ := fewer_read hkl hv ht
  obtain ⟨f3, f4, f5⟩ := fewer_count hkl hv ht
  have F1 := Lib.hid f1
  have F2 := Lib.hid f2
  have F3 := Lib.hid f3
  have F4 := Lib.hid f4
  have F5 := Lib.hid f5
  have hlz : ¬ (rs.length : Int) = 0 := by omega
  clear hv ht f1 f2 f3 f4 f5
  generalize m % rs.length = k at *
  go_upto_region 6 with (fail)
  clear hrem h0' hlz h0
  obtain ⟨ad, rfl⟩ : ∃ ad, A = some ad := by
    obtain ⟨_, ad, hA, _⟩ := HR.out 0 rs[0] (List.getElem?_eq_getElem (by omega))
    exact ⟨ad, hA⟩
  have HKL := Lib.hid hkl
  have HLL := Lib.hid (less_len hkl)
  obtain ⟨cutA, hcut⟩ : ∃ cutA : Option Addr, cutA = if cap = k + 1 then some ad else some (ad.add ((k + 1) * 6)) := ⟨_, rfl⟩
  have HCUT := Lib.hid hcut
  clear hcut
  refine region_ghost (X := Nat × Value × Value) (by kernel_rfl) _ (fun gx => [.slice (some ⟨gx.1, 0, none⟩) 0 0, .slice (some ad) rs.length cap, .int .i64 (↑k), .slice (some ad) k cap, gx.2.1, .slice (some ad) rs.length cap, .int .i64 (↑k), .int .i64 ((k : Nat) + 1), .slice cutA (rs.length - (k + 1)) (cap - (k + 1)), gx.2.2, gx.2.2]) [true, true, true, true, true, true, true, true, true, true, true] [0, 4, 9] (InvU w3 rs k) (0, .nilFunc, .nilFunc) (by kernel_rfl) (fun gx => by simp [fin, finOn, dstAt, List.range, List.range.loop, Act.put]; rfl) (fun _ => by kernel_rfl) (by kernel_rfl) ⟨below_drew (Below.refl _ _), (fun h => by cases h), (fun h => by cases h), fun h => by cases h⟩ ?_ ?_
  · refine ⟨fun L gx wq hL hb ha hI => ?_, fun L gx wq hL hb ha hI => ?_, fun L gx wq hL hb ha hI => ?_, fun L gx wq hL hb ha hI => ?_, fun L gx wq hL hb ha hI => ?_, fun L gx wq hL hb ha hI => ?_, fun L gx wq hL hb ha hI => ?_, fun L gx wq hL hb ha hI => ?_, fun L gx wq hL hb ha hI => ?_, fun L gx wq hL hb ha hI => ?_, fun L gx wq hL hb ha hI => ?_, trivial⟩
    · have e0 : L 0 = false := hL
      have e4 : L 4 = false := ha 4 (by kernel_rfl)
      have e9 : L 9 = false := ha 9 (by kernel_rfl)
      simp only [List.map, e0, e4, e9] at hI ⊢
      obtain ⟨h1, h2, h3, h4⟩ := hI
      have hba := bel_alloc wq (.cells #[] 41)
      exact Gives.value (v := .slice (some ⟨wq.heap.size, 0, none⟩) 0 0) (w' := wq.alloc (.cells #[] 41)) (by simp [go_sem]) ⟨(wq.heap.size, gx.2), rfl, (KeepsV.of_same ⟨.inl rfl, .inr (.inr rfl), .inr (.inr rfl), .inr (.inr rfl), (by first | exact .inr (.inr rfl) | exact .inr (.inl (by kernel_rfl))), .inr (.inr rfl), .inr (.inr rfl), .inr (.inr rfl), .inr (.inr rfl), (by first | exact .inr (.inr rfl) | exact .inr (.inl (by kernel_rfl))), (by first | exact .inr (.inr rfl) | exact .inr (.inl (by kernel_rfl))), trivial⟩), h1.trans (hba.mono h1.size), (fun _ _ => ⟨rfl, .inr ⟨wq.heap.size, 0, #[], rfl, h1.size, Blk.new wq _ _, Nat.le_refl _, by unfold maxLen; omega, rfl, rfl⟩⟩), (fun h => by cases h), fun h => by cases h⟩
    · exact Gives.plain (v := .slice (some ad) rs.length cap) (w' := wq) (by kernel_rfl) rfl hI
    · exact Gives.plain (v := .int .i64 (↑k)) (w' := wq) (by kernel_rfl) rfl hI
    · have hk9 := HKL.out
      have q1 : (0 : Int) ≤ (k : Int) := by omega
      have q2 : (k : Int) ≤ (cap : Int) := by omega
      exact Gives.plain (v := .slice (some ad) k cap) (w' := wq) (by simp [go_sem, q1, q2]; try omega) rfl hI
    · have e0 : L 0 = true := hb 0 (by kernel_rfl)
      have e4 : L 4 = false := hL
      have e9 : L 9 = false := ha 9 (by kernel_rfl)
      simp only [List.map, e0, e4, e9] at hI ⊢
      obtain ⟨h1, h2, h3, h4⟩ := hI
      have ho := h2 rfl rfl
      have hk9 := HKL.out
      have hl9 := L1.out.1
      exact gives_append (.tmp 43) (.tmp 46) 22 rfl w3.heap.size 41 i0 (.agg #[.int .i64 0, .string ⟨#[]⟩, .string ⟨#[]⟩, .int .i64 0, .int .i64 0, .int .i64 0]) 6 64 Try.underlying22 hi hz0 hz1 hz2 rfl (by decide) _ 0 [] rfl ho wq.heap.size (some ad) (k) (cap) (rulsL (rs.take k)) rfl ((reads_ruls HR.out (by omega)).below h1 |>.more h1.size) ruls_one (by unfold maxLen; omega) (by omega) h1.size (fun v' w' g2 g3 g4 => ⟨(gx.1, v', gx.2.2), rfl, (KeepsV.of_same ⟨(by first | exact .inr (.inr rfl) | exact .inr (.inl (by kernel_rfl))), .inr (.inr rfl), .inr (.inr rfl), .inr (.inr rfl), .inl rfl, .inr (.inr rfl), .inr (.inr rfl), .inr (.inr rfl), .inr (.inr rfl), (by first | exact .inr (.inr rfl) | exact .inr (.inl (by kernel_rfl))), (by first | exact .inr (.inr rfl) | exact .inr (.inl (by kernel_rfl))), trivial⟩), h1.grown g3 h1.size (fun b hb => (World.ownsRow.lt ho b hb).1), (fun _ h => by cases h), (fun _ _ => by have h9 := OwnU.snoc (rs := []) (us := rs.take k) rfl (by rw [List.length_take, Nat.min_eq_left (by omega)]; exact g2); exact h9), fun h => by cases h⟩)
    · exact Gives.plain (v := .slice (some ad) rs.length cap) (w' := wq) (by kernel_rfl) rfl hI
    · exact Gives.plain (v := .int .i64 (↑k)) (w' := wq) (by kernel_rfl) rfl hI
    · have hk9 := HKL.out
      have hl9 := L1.out.1
      have q3 : IntKind.i64.wrap ((k : Int) + 1) = (k : Int) + 1 := IntWalk.i64_in _ (by omega)
      exact Gives.plain (v := .int .i64 ((k : Nat) + 1)) (w' := wq) (by simp [go_sem, q3]) rfl hI
    · have hk9 := HKL.out
      have hl9 := L1.out.1
      have hcut := HCUT.out
      exact Gives.plain (v := .slice cutA (rs.length - (k + 1)) (cap - (k + 1))) (w' := wq) (by simp [go_sem, ← hcut]; try omega) rfl hI
    · have e0 : L 0 = true := hb 0 (by kernel_rfl)
      have e4 : L 4 = true := hb 4 (by kernel_rfl)
      have e9 : L 9 = false := hL
      simp only [List.map, e0, e4, e9] at hI ⊢
      obtain ⟨h1, h2, h3, h4⟩ := hI
      have ho := h3 rfl rfl
      have hk9 := HKL.out
      have hl9 := L1.out.1
      have htk : (rs.take k).length = k := by rw [List.length_take]; omega
      have hdl : (rs.drop (k + 1)).length = rs.length - (k + 1) := List.length_drop
      exact gives_append (.tmp 47) (.tmp 51) 22 rfl w3.heap.size 41 i0 (.agg #[.int .i64 0, .string ⟨#[]⟩, .string ⟨#[]⟩, .int .i64 0, .int .i64 0, .int .i64 0]) 6 64 Try.underlying22 hi hz0 hz1 hz2 rfl (by decide) _ _ _ rfl ho wq.heap.size (cutA) (rs.length - (k + 1)) (cap - (k + 1)) (rulsL (rs.drop (k + 1))) rfl (by have h9 := (reads_ruls HR.out (Nat.le_refl _)).cut (k := k + 1) (cap := cap) (by omega) hl0; rw [List.take_of_length_le (Nat.le_refl _), ruls_drop] at h9; rw [HCUT.out]; exact (h9.below h1).more h1.size) ruls_one (by unfold maxLen; omega) (by omega) h1.size (fun v' w' g2 g3 g4 => ⟨(gx.1, gx.2.1, v'), rfl, (KeepsV.of_same ⟨(by first | exact .inr (.inr rfl) | exact .inr (.inl (by kernel_rfl))), .inr (.inr rfl), .inr (.inr rfl), .inr (.inr rfl), (by first | exact .inr (.inr rfl) | exact .inr (.inl (by kernel_rfl))), .inr (.inr rfl), .inr (.inr rfl), .inr (.inr rfl), .inr (.inr rfl), .inl rfl, (by first | exact .inr (.inr rfl) | exact .inr (.inl (by kernel_rfl))), trivial⟩), h1.grown g3 h1.size (fun b hb => (World.ownsRow.lt ho b hb).1), (fun _ h => by cases h), (fun _ h => by cases h), fun _ => by unfold lessR; exact OwnU.snoc rfl (by rw [hdl]; exact g2)⟩)
    · exact Gives.plain (v := gx.2.2) (w' := wq) (by kernel_rfl) rfl hI
  · intro gx wq hI
    have HO := Lib.hid (hI.2.2.2 rfl)
    have HR := Lib.hid (HR.out.keep hI.1)
    have HT := Lib.hid (HT.out.keep hI.1)
    have HB := Lib.hid (HB.out.trans (hI.1.mono HB.out.size))
    obtain ⟨gn, gu, gv⟩ := gx
    clear hI
    have HO : Hid (OwnU wq w3.heap.size gv (lessR rs k)) := HO
    obtain ⟨AJ, capJ, rfl, hj1, hj2, hjt⟩ := HO.out.form (fun r hr => HFIT.out r (by
      unfold lessR at hr
      rcases List.mem_append.1 hr with h | h
      · exact List.mem_of_mem_take h
      · exact List.mem_of_mem_drop h))
    have HJT := Lib.hid hjt
    clear hjt HO hi hz0 hz1 hz2
    go_wp2_with fail
    refine (count_any (some ad) T cap cT rs ts 1000000 _ HR.out HT.out hl0 hm0).mono ?_
    rintro e w4 ⟨rfl, hb⟩
    have HB := Lib.hid (HB.out.trans (hb.mono HB.out.size))
    have HR := Lib.hid (HR.out.keep hb)
    have HT := Lib.hid (HT.out.keep hb)
    have HJT := Lib.hid (HJT.out.keep hb)
    clear hb
    rw [F3.out]
    go_wp2_with fail
    refine (count_any AJ T capJ cT (lessR rs k) ts 1000000 _ HJT.out HT.out hj1 hj2).mono ?_
    rintro e w5 ⟨rfl, hb⟩
    have HB := Lib.hid (HB.out.trans (hb.mono HB.out.size))
    have HR := Lib.hid (HR.out.keep hb)
    have HT := Lib.hid (HT.out.keep hb)
    have HJT := Lib.hid (HJT.out.keep hb)
    clear hb
    rw [F4.out]
    go_wp2_with fail
    refine (read_any AJ T capJ cT (lessR rs k) ts _ HJT.out HT.out hj1 hj2).mono ?_
    rintro e w6 ⟨L, cl, rfl, k1, k2, hrd, hb⟩
    have HL := Lib.hid (RdsAt.any hrd fun _ _ _ => trivial : RdsAt (fun _ => True) w6 L (readL (lessR rs k) ts))
    have HB := Lib.hid (HB.out.trans (hb.mono HB.out.size))
    have HR := Lib.hid (HR.out.keep hb)
    have HT := Lib.hid (HT.out.keep hb)
    have hxl := @read_len (lessR rs k) ts
    rw [F1.out]
    have f5 := F5.out
    have f6 : ¬ cntN rs ts 1000000 < cntN (lessR rs k) ts 1000000 := by omega
    clear hb hrd HJT F1 F3 F4 F5
    generalize readL (lessR rs k) ts = X at *
    generalize cntN (lessR rs k) ts 1000000 = b at *
    generalize cntN rs ts 1000000 = a at *
    go_wp2_with fail
    go_loopw [16] (fun v wr => ∃ i : Nat, i ≤ X.length ∧ v = .int .i64 i ∧ Hid (RdsAt (fun _ => True) wr L X) ∧ Hid (RulsAt wr (some ad) rs) ∧ Hid (ToksAt wr T ts) ∧ Hid (Below w.heap.size w wr)) (fun v _ => X.length - (intOf v).toNat)
    case atStart => exact ⟨0, by omega, rfl, HL, HR, HT, HB⟩
    case round =>
      clear HL HR HT HB
      obtain ⟨i, hik, rfl, HL, HR, HT, HB⟩ := hrel
      by_cases hlt : i < X.length
      · obtain ⟨y, hy⟩ : ∃ y, X[i]? = some y := ⟨_, List.getElem?_eq_getElem hlt⟩
        obtain ⟨hmy, hry⟩ := F2.out i y hy
        obtain ⟨xd, A1, k3, rfl, had, hyc, _, _, _, d0, d1, d2⟩ := HL.out.at_ hy
        have HYC := Lib.hid hyc
        have HMY := Lib.hid hmy
        have HRY := Lib.hid hry
        have j1 : (0 : Int) ≤ (i : Int) := by omega
        have j2 : (i : Int) < (X.length : Int) := by omega
        clear hy hyc had hmy hry
        go_wp2_with fail
        refine (shifted_any (lessR rs k) ts k (by have := HLL.out; have := L1.out.1; omega) (sizeR y) (fun _ => True) y _ _ (Nat.le_refl _) ⟨_, _, HMY.out⟩ HYC.out).mono ?_
        rintro e w7 ⟨c7, rfl, hc7, hb⟩
        have HC7 := Lib.hid hc7
        have HL := Lib.hid (HL.out.keep hb)
        have HB := Lib.hid (HB.out.trans (hb.mono HB.out.size))
        have HR := Lib.hid (HR.out.keep hb)
        have HT := Lib.hid (HT.out.keep hb)
        clear hb d0 d1 d2 HYC hc7
        go_wp2_with fail
        refine (rcheck_any (some ad) T cap cT rs ts _ (shiftR k y) _ _ HR.out HT.out HC7.out (by have := L1.out.1; omega) (by have := L1.out.2; omega)).mono ?_
        rintro e w8 ⟨rfl, hb⟩
        rw [HRY.out]
        have HL := Lib.hid (HL.out.keep hb)
        have HB := Lib.hid (HB.out.trans (hb.mono HB.out.size))
        have HR := Lib.hid (HR.out.keep hb)
        have HT := Lib.hid (HT.out.keep hb)
        clear hb HC7
        go_wp2_with fail
        go_roundw
        case rel => exact ⟨i + 1, by omega, by go_num, HL, HR, HT, HB⟩
        case measure => simp [intOf]; omega
      · obtain rfl : i = X.length := by omega
        go_wp2_with fail
        go_ret
        exact ⟨rfl, HB.out⟩
end
end Go.Proofs.Ytmhddlhlniajpaa
