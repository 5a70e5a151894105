/- The reference's units. -/
import Derived.Test.YtlfapncbkgpclaaDoorF2
import Derived.Test.YtlfapncbkgpclaaDoorC4
import Derived.Test.YtlfapncbkgpclaaDoorAP
namespace Go.Proofs.YtlfapncbkgpclaaDoor
open Go.RowKit
set_option maxRecDepth 100000 in
set_option maxHeartbeats 4000000 in
theorem runit_any (nm s : ByteArray) (n d : Int) (m : D7) (hm : m.ok = true) (hs : textB m = s) (w : World) : Calls Tryd.prog 41 #[.string nm, .int .i64 n, .int .i64 d, .string s] w fun e w' => e = .returned (.agg (Un.c ⟨nm, ⟨n, d, m⟩⟩)) ∧ Below w.heap.size w w' := by
  have hpo : parseOf (candR (splitL 32 s.data.toList)) s = some m := by rw [← hs, ← parse_same, parse_text m hm]
  have HSZ := Lib.hid (show s.size ≤ 1000000 by rw [← hs]; have := text_len m hm; omega)
  have HP := Lib.hid (show pV (parseOf (candR (splitL 32 s.data.toList)) s) = .tuple #[m.v, .int .i64 0] by rw [hpo]; rfl)
  clear hpo hs hm
  go_enter Tryd.func41, Tryd.ntmps41
  go_wp2_with fail
  refine (rparse_any s _ HSZ.out).mono ?_
  rw [HP.out]
  rintro e w1 ⟨rfl, hb⟩
  have K0 := keep hb (Blk.new w 44 (Un.c ⟨⟨#[]⟩, V9.zero⟩))
  have H0 := Lib.hid ((bel_fin w _).trans (hb.mono (by simp)))
  have hl := K0.lt
  clear hb
  have K1 := Blk.new w1 23 m.c
  have K0' := K0.alloc (.cells m.c 23)
  replace H0 := Lib.hid (H0.out.alloc H0.out.size (.cells m.c 23))
  clear K0
  go_upto_region 2 with (fail)
  generalize w1.alloc (.cells _ 23) = w2 at *
  generalize w1.heap.size = g1 at *
  have c1 := fun i => K1.cell i
  have f0 := fun i => K0'.frozen i
  have c0 := fun i => K0'.cell i
  go_wp2_with fail
  have KF := ((((((((((K0'.set_ 0 (.string nm)).set_ 1 (.int .i64 n)).set_ 2 (.int .i64 d)).set_ 3 (.int .i64 m.a0)).set_ 4 (.int .i64 m.a1)).set_ 5 (.int .i64 m.a2)).set_ 6 (.int .i64 m.a3)).set_ 7 (.int .i64 m.a4)).set_ 8 (.int .i64 m.a5)).set_ 9 (.int .i64 m.a6))
  have HF := Lib.hid ((((((((((H0.out.setCell (p := ⟨w.heap.size, 0, none⟩) (Nat.le_refl _) (.string nm)).setCell (p := ⟨w.heap.size, 1, none⟩) (Nat.le_refl _) (.int .i64 n)).setCell (p := ⟨w.heap.size, 2, none⟩) (Nat.le_refl _) (.int .i64 d)).setCell (p := ⟨w.heap.size, 3, none⟩) (Nat.le_refl _) (.int .i64 m.a0)).setCell (p := ⟨w.heap.size, 4, none⟩) (Nat.le_refl _) (.int .i64 m.a1)).setCell (p := ⟨w.heap.size, 5, none⟩) (Nat.le_refl _) (.int .i64 m.a2)).setCell (p := ⟨w.heap.size, 6, none⟩) (Nat.le_refl _) (.int .i64 m.a3)).setCell (p := ⟨w.heap.size, 7, none⟩) (Nat.le_refl _) (.int .i64 m.a4)).setCell (p := ⟨w.heap.size, 8, none⟩) (Nat.le_refl _) (.int .i64 m.a5)).setCell (p := ⟨w.heap.size, 9, none⟩) (Nat.le_refl _) (.int .i64 m.a6))
  clear c0 f0 c1 K0' K1
  generalize (((((((((w2.setCell ⟨w.heap.size, 0, none⟩ (.string nm)).setCell ⟨w.heap.size, 1, none⟩ (.int .i64 n)).setCell ⟨w.heap.size, 2, none⟩ (.int .i64 d)).setCell ⟨w.heap.size, 3, none⟩ (.int .i64 m.a0)).setCell ⟨w.heap.size, 4, none⟩ (.int .i64 m.a1)).setCell ⟨w.heap.size, 5, none⟩ (.int .i64 m.a2)).setCell ⟨w.heap.size, 6, none⟩ (.int .i64 m.a3)).setCell ⟨w.heap.size, 7, none⟩ (.int .i64 m.a4)).setCell ⟨w.heap.size, 8, none⟩ (.int .i64 m.a5)).setCell ⟨w.heap.size, 9, none⟩ (.int .i64 m.a6) = wf at *
  have dC := fun i => KF.cell i
  refine bodyPost_ret (v := .agg (Un.c ⟨nm, ⟨n, d, m⟩⟩)) (by simp [results, Tryd.results41, go_sem, dC]) rfl ⟨rfl, HF.out⟩
/-- units that a call has made -/
def OwnU (w : World) (B : Nat) (v : Value) (us : List Un) : Prop := w.ownsRow B 44 10 v us.length (us.flatMap fun u => u.c.toList)
abbrev flatU (us : List Un) : List Value := us.flatMap fun u => u.c.toList
theorem OwnU.keep {w w' : World} {B : Nat} {v : Value} {l : List Un} (h : OwnU w B v l) (hb : Below w.heap.size w w') : OwnU w' B v l := World.ownsRow.kept (row := none) h ⟨hb.os, hb.tape, hb.output, hb.size, fun i hi _ => hb.block i hi⟩ (by cases v.ownBlock <;> simp)
theorem OwnU.nil (w : World) (B : Nat) : OwnU w B (.slice none 0 0) [] := ⟨rfl, .inl ⟨rfl, rfl⟩⟩
theorem OwnU.lt {w : World} {B : Nat} {v : Value} {l : List Un} (h : OwnU w B v l) : ∀ b, v.ownBlock = some b → B ≤ b ∧ b < w.heap.size := fun b hb => World.ownsRow.lt h b hb
theorem OwnU.snoc {w : World} {B n m : Nat} {v : Value} {ts us : List Un} (hn : ts.length = n) (hm : us.length = m) (h : w.ownsRow B 44 10 v (n + m) ((ts.flatMap fun u => u.c.toList) ++ us.flatMap fun u => u.c.toList)) : OwnU w B v (ts ++ us) := by
  unfold OwnU
  rw [List.length_append, hn, hm, List.flatMap_append]
  exact h
theorem un_one {us : List Un} : ∀ v ∈ us.flatMap (fun u => u.c.toList), v.oneCell' = true := by
  intro v hv
  obtain ⟨u, _, hu⟩ := List.mem_flatMap.1 hv
  simp at hu
  rcases hu with rfl | rfl | rfl | rfl | rfl | rfl | rfl | rfl | rfl | rfl <;> rfl
theorem flat_len (us : List Un) : (us.flatMap fun u => u.c.toList).length = us.length * 10 := by
  induction us with
  | nil => rfl
  | cons a r ih => rw [List.flatMap_cons, List.length_append, ih, List.length_cons]; simp; omega
theorem reads_un {w : World} {g n : Nat} {us : List Un} (h : Blk w g 44 (us.flatMap fun u => u.c.toList).toArray) (hn : us.length = n) : Reads w w.heap.size 10 (some ⟨g, 0, none⟩) n (us.flatMap fun u => u.c.toList) :=
  ⟨by rw [flat_len, hn], fun _ => ⟨⟨g, 0, none⟩, rfl, h.lt, fun j v hj => by
    have e : (⟨g, 0, none⟩ : Addr).add j = ⟨g, j, none⟩ := by unfold Addr.add; split <;> simp_all
    rw [e, h.cell]
    simpa using hj⟩⟩
theorem info_parts {P : Program} {t : TypeId} {z : Value} {a b : Nat} (h : (P.info? t).map (fun i => (i.zero, i.size, i.bytes)) = some (some z, a, b)) : ∃ i, P.info? t = some i ∧ i.zero = some z ∧ i.size = a ∧ i.bytes = b := by
  cases hi : P.info? t with
  | none => rw [hi] at h; cases h
  | some i =>
    rw [hi] at h
    simp only [Option.map_some, Option.some.injEq, Prod.mk.injEq] at h
    exact ⟨i, rfl, h.1, h.2.1, h.2.2⟩
abbrev zeroU : Value := .agg #[.string ⟨#[]⟩, .int .i64 0, .int .i64 0, .int .i64 0, .int .i64 0, .int .i64 0, .int .i64 0, .int .i64 0, .int .i64 0, .int .i64 0]
theorem info_un : (Tryd.prog.info? 44).map (fun i => (i.zero, i.size, i.bytes)) = some (some zeroU, 10, 88) := by kernel_rfl
/-- while units are appended -/
def InvU (w1 : World) (v : Value) (ls us : List Un) : List Bool → Nat × Value → World → Prop
  | [b1, b2], gx, wq => Below w1.heap.size w1 wq ∧ (b2 = false → OwnU wq w1.heap.size v ls) ∧ (b1 = true → b2 = false → Blk wq gx.1 44 (us.flatMap fun u => u.c.toList).toArray) ∧ (b2 = true → OwnU wq w1.heap.size gx.2 (ls ++ us))
  | _, _, _ => False
theorem InvU.kept {w1 : World} {v : Value} {ls us : List Un} {b1 b2 : Bool} {gx : Nat × Value} {wq w' : World} (h : InvU w1 v ls us [b1, b2] gx wq) (hb : Below wq.heap.size wq w') : InvU w1 v ls us [b1, b2] gx w' := by
  obtain ⟨h1, h2, h3, h4⟩ := h
  exact ⟨h1.trans (hb.mono h1.size), fun p => (h2 p).keep hb, fun p q => _root_.Go.Proofs.YtlfapncbkgpclaaDoor.keep hb (h3 p q), fun p => (h4 p).keep hb⟩
theorem InvU.build {w1 : World} {v : Value} {ls us : List Un} {gx : Nat × Value} {wq : World} (h : InvU w1 v ls us [false, false] gx wq) : InvU w1 v ls us [true, false] (wq.heap.size, gx.2) (wq.alloc (.cells (us.flatMap fun u => u.c.toList).toArray 44)) := by
  obtain ⟨h1, h2, h3, h4⟩ := h.kept (bel_fin wq (.cells (us.flatMap fun u => u.c.toList).toArray 44))
  exact ⟨h1, h2, fun _ _ => Blk.new _ _ _, h4⟩
def unB (k : Nat) : Un := ⟨baseB k, ⟨1, 1, D7.zero.set k 1⟩⟩
theorem units_base {k : Nat} (hk : k < 7) : units.take (k + 1) = units.take k ++ [unB k] := by
  match k, hk with
  | 0, _ => rfl
  | 1, _ => rfl
  | 2, _ => rfl
  | 3, _ => rfl
  | 4, _ => rfl
  | 5, _ => rfl
  | 6, _ => rfl
theorem base_ok {k : Nat} (hk : k < 7) : (D7.zero.set k 1).ok = true ∧ textB (D7.zero.set k 1) = baseB k := by
  match k, hk with
  | 0, _ => exact ⟨by decide, by rw [text_eq3 _ (by decide)]; kernel_rfl⟩
  | 1, _ => exact ⟨by decide, by rw [text_eq3 _ (by decide)]; kernel_rfl⟩
  | 2, _ => exact ⟨by decide, by rw [text_eq3 _ (by decide)]; kernel_rfl⟩
  | 3, _ => exact ⟨by decide, by rw [text_eq3 _ (by decide)]; kernel_rfl⟩
  | 4, _ => exact ⟨by decide, by rw [text_eq3 _ (by decide)]; kernel_rfl⟩
  | 5, _ => exact ⟨by decide, by rw [text_eq3 _ (by decide)]; kernel_rfl⟩
  | 6, _ => exact ⟨by decide, by rw [text_eq3 _ (by decide)]; kernel_rfl⟩
theorem OwnU.all {w : World} {B : Nat} {v : Value} (h : OwnU w B v units) : ∃ g cap, v = .slice (some ⟨g, 0, none⟩) 27 cap ∧ 27 ≤ cap ∧ UnAt w g units := by
  obtain ⟨h1, h2⟩ := h
  rcases h2 with ⟨rfl, h0⟩ | ⟨g, cap, cur, rfl, hg, hb, hn, hc, hs, ht⟩
  · cases h0
  · have hb' : Blk w g 44 cur := hb
    refine ⟨g, cap, rfl, hn, hb'.lt, fun k j u x h1 h2 => ?_⟩
    have hj : j < 10 := by
      have := (Array.getElem?_eq_some_iff.1 h2).1
      simpa using this
    rw [hb'.cell]
    have h3 : unitsL[k * 10 + j]? = some x := (units_at k j u h1 hj).trans h2
    unfold unitsL at h3
    rw [← ht, List.getElem?_take] at h3
    split at h3
    · simpa using h3
    · cases h3
theorem txt_0 : textB ⟨1, 0, 0, 0, 0, 0, 0⟩ = ⟨#[109]⟩ := by rw [text_eq3 _ (by decide)]; kernel_rfl
theorem txt_1 : textB ⟨0, 1, 0, 0, 0, 0, 0⟩ = ⟨#[107, 103]⟩ := by rw [text_eq3 _ (by decide)]; kernel_rfl
theorem txt_2 : textB ⟨0, 0, 1, 0, 0, 0, 0⟩ = ⟨#[115]⟩ := by rw [text_eq3 _ (by decide)]; kernel_rfl
theorem txt_3 : textB ⟨0, 0, -1, 0, 0, 0, 0⟩ = ⟨#[115, 94, 45, 49]⟩ := by rw [text_eq3 _ (by decide)]; kernel_rfl
theorem txt_4 : textB ⟨1, 1, -2, 0, 0, 0, 0⟩ = ⟨#[109, 32, 107, 103, 32, 115, 94, 45, 50]⟩ := by rw [text_eq3 _ (by decide)]; kernel_rfl
theorem txt_5 : textB ⟨-1, 1, -2, 0, 0, 0, 0⟩ = ⟨#[109, 94, 45, 49, 32, 107, 103, 32, 115, 94, 45, 50]⟩ := by rw [text_eq3 _ (by decide)]; kernel_rfl
theorem txt_6 : textB ⟨2, 1, -2, 0, 0, 0, 0⟩ = ⟨#[109, 94, 50, 32, 107, 103, 32, 115, 94, 45, 50]⟩ := by rw [text_eq3 _ (by decide)]; kernel_rfl
theorem txt_7 : textB ⟨2, 1, -3, 0, 0, 0, 0⟩ = ⟨#[109, 94, 50, 32, 107, 103, 32, 115, 94, 45, 51]⟩ := by rw [text_eq3 _ (by decide)]; kernel_rfl
theorem txt_8 : textB ⟨0, 0, 1, 1, 0, 0, 0⟩ = ⟨#[115, 32, 65]⟩ := by rw [text_eq3 _ (by decide)]; kernel_rfl
theorem txt_9 : textB ⟨2, 1, -3, -1, 0, 0, 0⟩ = ⟨#[109, 94, 50, 32, 107, 103, 32, 115, 94, 45, 51, 32, 65, 94, 45, 49]⟩ := by rw [text_eq3 _ (by decide)]; kernel_rfl
theorem txt_10 : textB ⟨2, 1, -3, -2, 0, 0, 0⟩ = ⟨#[109, 94, 50, 32, 107, 103, 32, 115, 94, 45, 51, 32, 65, 94, 45, 50]⟩ := by rw [text_eq3 _ (by decide)]; kernel_rfl
theorem txt_11 : textB ⟨3, 0, 0, 0, 0, 0, 0⟩ = ⟨#[109, 94, 51]⟩ := by rw [text_eq3 _ (by decide)]; kernel_rfl
theorem txt_12 : textB ⟨0, 0, 0, 0, 0, 0, 0⟩ = ⟨#[49]⟩ := by rw [text_eq3 _ (by decide)]; kernel_rfl
set_option maxRecDepth 100000 in
set_option maxHeartbeats 16000000 in
theorem rall_any (w1 : World) : Calls Tryd.prog 23 #[] w1 (AllPost w1) := by
  obtain ⟨s0, hs, hy0, hy1, hy2⟩ := info_parts info_un
  have HB := Lib.hid (Below.refl w1.heap.size w1)
  have HU := Lib.hid (OwnU.nil w1 w1.heap.size)
  go_enter Tryd.func23, Tryd.ntmps23
  go_wp2_with fail
  go_loopw [1, 2] (fun v i wr => ∃ k : Nat, k ≤ 7 ∧ i = .int .i64 k ∧ Hid (Below w1.heap.size w1 wr) ∧ Hid (OwnU wr w1.heap.size v (units.take k))) (fun _ i _ => 7 - (intOf i).toNat)
  case atStart => exact ⟨0, by omega, rfl, HB, HU⟩
  case round =>
    clear HB HU
    obtain ⟨k, hk, rfl, HB, HU⟩ := hrel
    by_cases hlt : k < 7
    · have HTK := Lib.hid (units_base hlt)
      have HIX := Lib.hid (fun w => index_base k hlt w)
      have HRU := Lib.hid (fun w => runit_any (baseB k) (baseB k) 1 1 (D7.zero.set k 1) (base_ok hlt).1 (base_ok hlt).2 w)
      have HLN := Lib.hid (show (units.take k).length ≤ 7 by rw [List.length_take]; omega)
      go_upto_region 5 with (fail)
      refine region_ghostE (X := Nat × Value) (by kernel_rfl) [true, false, false, false, false, false, false, false, false, false, false] _ (fun gx => [u1, baseV, .int .i64 (↑k), .string (baseB k), baseV, .int .i64 (↑k), .string (baseB k), .agg (unB k).c, .slice (some ⟨gx.1, 0, none⟩) 1 1, gx.2, gx.2]) [true, true, true, true, true, true, true, true, true, true, true] [8, 9] (InvU w1 u1 (units.take k) [unB k]) (0, .nilFunc) (by kernel_rfl) (fun gx => by simp [fin, finOn, dstAt, List.range, List.range.loop, Act.put]; rfl) (fun _ => by kernel_rfl) (by kernel_rfl) ⟨below_drew HB.out, (fun _ => HU.out.keep (below_drew (Below.refl _ _))), (fun h => by cases h), fun h => by cases h⟩ ?_ ?_
      · refine ⟨fun L gx wq hL hb ha hI => ?_, fun L gx wq hL hb ha hI => ?_, fun L gx wq hL hb ha hI => ?_, fun L gx wq hL hb ha hI => ?_, fun L gx wq hL hb ha hI => ?_, fun L gx wq hL hb ha hI => ?_, fun L gx wq hL hb ha hI => ?_, fun L gx wq hL hb ha hI => ?_, fun L gx wq hL hb ha hI => ?_, fun L gx wq hL hb ha hI => ?_, fun L gx wq hL hb ha hI => ?_, trivial⟩
        · exact Gives.plain (v := u1) (w' := wq) (by kernel_rfl) rfl hI
        · refine Gives.call (f := 42) (args := #[]) (w' := wq) (by kernel_rfl) ((bases_any wq).mono ?_)
          rintro e wa ⟨rfl, hb5⟩
          exact ⟨_, rfl, gx, rfl, KeepsV.same, InvU.kept hI hb5⟩
        · exact Gives.plain (v := .int .i64 (↑k)) (w' := wq) (by kernel_rfl) rfl hI
        · exact Gives.plain (v := .string (baseB k)) (w' := wq) (by have q := HIX.out wq; simp [go_sem, evAct, q]) rfl hI
        · refine Gives.call (f := 42) (args := #[]) (w' := wq) (by kernel_rfl) ((bases_any wq).mono ?_)
          rintro e wa ⟨rfl, hb5⟩
          exact ⟨_, rfl, gx, rfl, KeepsV.same, InvU.kept hI hb5⟩
        · exact Gives.plain (v := .int .i64 (↑k)) (w' := wq) (by kernel_rfl) rfl hI
        · exact Gives.plain (v := .string (baseB k)) (w' := wq) (by have q := HIX.out wq; simp [go_sem, evAct, q]) rfl hI
        · refine Gives.call (f := 41) (args := #[.string (baseB k), .int .i64 1, .int .i64 1, .string (baseB k)]) (w' := wq) (by kernel_rfl) ((HRU.out wq).mono ?_)
          rintro e wa ⟨rfl, hb5⟩
          exact ⟨_, rfl, gx, rfl, KeepsV.same, InvU.kept hI hb5⟩
        · have e8 : L 8 = false := hL
          have e9 : L 9 = false := ha 9 (by kernel_rfl)
          simp only [List.map, e8, e9] at hI ⊢
          exact Gives.value (v := .slice (some ⟨wq.heap.size, 0, none⟩) 1 1) (w' := wq.alloc (.cells (flatU [unB k]).toArray 44)) (by simp [go_sem, evAct]) ⟨(wq.heap.size, gx.2), rfl, (KeepsV.of_same ⟨.inr (.inr rfl), .inr (.inr rfl), .inr (.inr rfl), .inr (.inr rfl), .inr (.inr rfl), .inr (.inr rfl), .inr (.inr rfl), .inr (.inr rfl), .inl rfl, (by first | exact .inr (.inr rfl) | exact .inr (.inl (by kernel_rfl))), (by first | exact .inr (.inr rfl) | exact .inr (.inl (by kernel_rfl))), trivial⟩), InvU.build hI⟩
        · have e8 : L 8 = true := hb 8 (by kernel_rfl)
          have e9 : L 9 = false := hL
          simp only [List.map, e8, e9] at hI ⊢
          obtain ⟨h1, h2, h3, h4⟩ := hI
          have hlen := HLN.out
          exact gives_append (.tmp 7) (.tmp 15) 40 rfl w1.heap.size 44 s0 zeroU 10 88 Tryd.underlying40 hs hy0 hy1 hy2 rfl (by decide) u1 _ _ rfl (h2 rfl) wq.heap.size (some ⟨gx.1, 0, none⟩) 1 1 (flatU [unB k]) rfl (reads_un (h3 rfl rfl) rfl) un_one (by unfold maxLen; omega) (by omega) h1.size (fun v' w' g2 g3 g4 => ⟨(gx.1, v'), rfl, (KeepsV.of_same ⟨.inr (.inr rfl), .inr (.inr rfl), .inr (.inr rfl), .inr (.inr rfl), .inr (.inr rfl), .inr (.inr rfl), .inr (.inr rfl), .inr (.inr rfl), (by first | exact .inr (.inr rfl) | exact .inr (.inl (by kernel_rfl))), .inl rfl, (by first | exact .inr (.inr rfl) | exact .inr (.inl (by kernel_rfl))), trivial⟩), h1.grown g3 h1.size (fun b hb => ((h2 rfl).lt b hb).1), (fun h => by cases h), (fun _ h => by cases h), fun _ => OwnU.snoc rfl rfl g2⟩)
        · exact Gives.plain (v := gx.2) (w' := wq) (by kernel_rfl) rfl hI
      · intro gx wq hI
        have HB := Lib.hid hI.1
        have HU := Lib.hid (hI.2.2.2 rfl)
        rw [← HTK.out] at HU
        clear hI
        go_wp2_with fail
        go_roundw
        case rel => exact ⟨k + 1, by omega, by go_num, HB, HU⟩
        case measure => simp [intOf]; omega
    · obtain rfl : k = 7 := by omega
      have HLN := Lib.hid (show (units.take 7).length ≤ 7 by decide)
      go_upto_region 6 with (fail)
      go_wp2_with fail
      refine (runit_any ⟨#[107, 109]⟩ ⟨#[109]⟩ 1000 1 ⟨1, 0, 0, 0, 0, 0, 0⟩ (by decide) txt_0 _).mono ?_
      rintro e x0 ⟨rfl, hb5⟩
      replace HB := Lib.hid (HB.out.trans (hb5.mono HB.out.size))
      replace HU := Lib.hid (HU.out.keep hb5)
      clear hb5
      go_wp2_with fail
      refine (runit_any ⟨#[99, 109]⟩ ⟨#[109]⟩ 1 100 ⟨1, 0, 0, 0, 0, 0, 0⟩ (by decide) txt_0 _).mono ?_
      rintro e x1 ⟨rfl, hb5⟩
      replace HB := Lib.hid (HB.out.trans (hb5.mono HB.out.size))
      replace HU := Lib.hid (HU.out.keep hb5)
      clear hb5
      go_wp2_with fail
      refine (runit_any ⟨#[109, 109]⟩ ⟨#[109]⟩ 1 1000 ⟨1, 0, 0, 0, 0, 0, 0⟩ (by decide) txt_0 _).mono ?_
      rintro e x2 ⟨rfl, hb5⟩
      replace HB := Lib.hid (HB.out.trans (hb5.mono HB.out.size))
      replace HU := Lib.hid (HU.out.keep hb5)
      clear hb5
      go_wp2_with fail
      refine (runit_any ⟨#[103]⟩ ⟨#[107, 103]⟩ 1 1000 ⟨0, 1, 0, 0, 0, 0, 0⟩ (by decide) txt_1 _).mono ?_
      rintro e x3 ⟨rfl, hb5⟩
      replace HB := Lib.hid (HB.out.trans (hb5.mono HB.out.size))
      replace HU := Lib.hid (HU.out.keep hb5)
      clear hb5
      go_wp2_with fail
      refine (runit_any ⟨#[116]⟩ ⟨#[107, 103]⟩ 1000 1 ⟨0, 1, 0, 0, 0, 0, 0⟩ (by decide) txt_1 _).mono ?_
      rintro e x4 ⟨rfl, hb5⟩
      replace HB := Lib.hid (HB.out.trans (hb5.mono HB.out.size))
      replace HU := Lib.hid (HU.out.keep hb5)
      clear hb5
      go_wp2_with fail
      refine (runit_any ⟨#[109, 115]⟩ ⟨#[115]⟩ 1 1000 ⟨0, 0, 1, 0, 0, 0, 0⟩ (by decide) txt_2 _).mono ?_
      rintro e x5 ⟨rfl, hb5⟩
      replace HB := Lib.hid (HB.out.trans (hb5.mono HB.out.size))
      replace HU := Lib.hid (HU.out.keep hb5)
      clear hb5
      go_wp2_with fail
      refine (runit_any ⟨#[109, 105, 110]⟩ ⟨#[115]⟩ 60 1 ⟨0, 0, 1, 0, 0, 0, 0⟩ (by decide) txt_2 _).mono ?_
      rintro e x6 ⟨rfl, hb5⟩
      replace HB := Lib.hid (HB.out.trans (hb5.mono HB.out.size))
      replace HU := Lib.hid (HU.out.keep hb5)
      clear hb5
      go_wp2_with fail
      refine (runit_any ⟨#[104]⟩ ⟨#[115]⟩ 3600 1 ⟨0, 0, 1, 0, 0, 0, 0⟩ (by decide) txt_2 _).mono ?_
      rintro e x7 ⟨rfl, hb5⟩
      replace HB := Lib.hid (HB.out.trans (hb5.mono HB.out.size))
      replace HU := Lib.hid (HU.out.keep hb5)
      clear hb5
      go_wp2_with fail
      refine (runit_any ⟨#[100]⟩ ⟨#[115]⟩ 86400 1 ⟨0, 0, 1, 0, 0, 0, 0⟩ (by decide) txt_2 _).mono ?_
      rintro e x8 ⟨rfl, hb5⟩
      replace HB := Lib.hid (HB.out.trans (hb5.mono HB.out.size))
      replace HU := Lib.hid (HU.out.keep hb5)
      clear hb5
      go_wp2_with fail
      refine (runit_any ⟨#[72, 122]⟩ ⟨#[115, 94, 45, 49]⟩ 1 1 ⟨0, 0, -1, 0, 0, 0, 0⟩ (by decide) txt_3 _).mono ?_
      rintro e x9 ⟨rfl, hb5⟩
      replace HB := Lib.hid (HB.out.trans (hb5.mono HB.out.size))
      replace HU := Lib.hid (HU.out.keep hb5)
      clear hb5
      go_wp2_with fail
      refine (runit_any ⟨#[78]⟩ ⟨#[109, 32, 107, 103, 32, 115, 94, 45, 50]⟩ 1 1 ⟨1, 1, -2, 0, 0, 0, 0⟩ (by decide) txt_4 _).mono ?_
      rintro e x10 ⟨rfl, hb5⟩
      replace HB := Lib.hid (HB.out.trans (hb5.mono HB.out.size))
      replace HU := Lib.hid (HU.out.keep hb5)
      clear hb5
      go_wp2_with fail
      refine (runit_any ⟨#[80, 97]⟩ ⟨#[109, 94, 45, 49, 32, 107, 103, 32, 115, 94, 45, 50]⟩ 1 1 ⟨-1, 1, -2, 0, 0, 0, 0⟩ (by decide) txt_5 _).mono ?_
      rintro e x11 ⟨rfl, hb5⟩
      replace HB := Lib.hid (HB.out.trans (hb5.mono HB.out.size))
      replace HU := Lib.hid (HU.out.keep hb5)
      clear hb5
      go_wp2_with fail
      refine (runit_any ⟨#[74]⟩ ⟨#[109, 94, 50, 32, 107, 103, 32, 115, 94, 45, 50]⟩ 1 1 ⟨2, 1, -2, 0, 0, 0, 0⟩ (by decide) txt_6 _).mono ?_
      rintro e x12 ⟨rfl, hb5⟩
      replace HB := Lib.hid (HB.out.trans (hb5.mono HB.out.size))
      replace HU := Lib.hid (HU.out.keep hb5)
      clear hb5
      go_wp2_with fail
      refine (runit_any ⟨#[87]⟩ ⟨#[109, 94, 50, 32, 107, 103, 32, 115, 94, 45, 51]⟩ 1 1 ⟨2, 1, -3, 0, 0, 0, 0⟩ (by decide) txt_7 _).mono ?_
      rintro e x13 ⟨rfl, hb5⟩
      replace HB := Lib.hid (HB.out.trans (hb5.mono HB.out.size))
      replace HU := Lib.hid (HU.out.keep hb5)
      clear hb5
      go_wp2_with fail
      refine (runit_any ⟨#[67]⟩ ⟨#[115, 32, 65]⟩ 1 1 ⟨0, 0, 1, 1, 0, 0, 0⟩ (by decide) txt_8 _).mono ?_
      rintro e x14 ⟨rfl, hb5⟩
      replace HB := Lib.hid (HB.out.trans (hb5.mono HB.out.size))
      replace HU := Lib.hid (HU.out.keep hb5)
      clear hb5
      go_wp2_with fail
      refine (runit_any ⟨#[86]⟩ ⟨#[109, 94, 50, 32, 107, 103, 32, 115, 94, 45, 51, 32, 65, 94, 45, 49]⟩ 1 1 ⟨2, 1, -3, -1, 0, 0, 0⟩ (by decide) txt_9 _).mono ?_
      rintro e x15 ⟨rfl, hb5⟩
      replace HB := Lib.hid (HB.out.trans (hb5.mono HB.out.size))
      replace HU := Lib.hid (HU.out.keep hb5)
      clear hb5
      go_wp2_with fail
      refine (runit_any ⟨#[111, 104, 109]⟩ ⟨#[109, 94, 50, 32, 107, 103, 32, 115, 94, 45, 51, 32, 65, 94, 45, 50]⟩ 1 1 ⟨2, 1, -3, -2, 0, 0, 0⟩ (by decide) txt_10 _).mono ?_
      rintro e x16 ⟨rfl, hb5⟩
      replace HB := Lib.hid (HB.out.trans (hb5.mono HB.out.size))
      replace HU := Lib.hid (HU.out.keep hb5)
      clear hb5
      go_wp2_with fail
      refine (runit_any ⟨#[107, 87, 104]⟩ ⟨#[109, 94, 50, 32, 107, 103, 32, 115, 94, 45, 50]⟩ 3600000 1 ⟨2, 1, -2, 0, 0, 0, 0⟩ (by decide) txt_6 _).mono ?_
      rintro e x17 ⟨rfl, hb5⟩
      replace HB := Lib.hid (HB.out.trans (hb5.mono HB.out.size))
      replace HU := Lib.hid (HU.out.keep hb5)
      clear hb5
      go_wp2_with fail
      refine (runit_any ⟨#[108]⟩ ⟨#[109, 94, 51]⟩ 1 1000 ⟨3, 0, 0, 0, 0, 0, 0⟩ (by decide) txt_11 _).mono ?_
      rintro e x18 ⟨rfl, hb5⟩
      replace HB := Lib.hid (HB.out.trans (hb5.mono HB.out.size))
      replace HU := Lib.hid (HU.out.keep hb5)
      clear hb5
      go_wp2_with fail
      refine (runit_any ⟨#[37]⟩ ⟨#[49]⟩ 1 100 ⟨0, 0, 0, 0, 0, 0, 0⟩ (by decide) txt_12 _).mono ?_
      rintro e x19 ⟨rfl, hb5⟩
      replace HB := Lib.hid (HB.out.trans (hb5.mono HB.out.size))
      replace HU := Lib.hid (HU.out.keep hb5)
      clear hb5
      have hba := bel_fin x19 (.cells (flatU (units.drop 7)).toArray 44)
      have HN := Lib.hid (Blk.new x19 44 (flatU (units.drop 7)).toArray)
      replace HB := Lib.hid (HB.out.trans (hba.mono HB.out.size))
      replace HU := Lib.hid (HU.out.keep hba)
      have hlen := HLN.out
      clear hba
      go_wp2_with fail
      refine Gives.wp (R := fun v w' => v = .slice (some ⟨x19.heap.size, 0, none⟩) 20 20 ∧ w' = x19.alloc (.cells (flatU (units.drop 7)).toArray 44)) (Gives.value (v := .slice (some ⟨x19.heap.size, 0, none⟩) 20 20) (w' := x19.alloc (.cells (flatU (units.drop 7)).toArray 44)) (by kernel_rfl) ⟨rfl, rfl⟩) ?_
      rintro v w' ⟨rfl, rfl⟩
      go_wp2_with (at_builtin; refine wpList_append_any _ rfl (.tmp 17) (.tmp 38) 40 rfl w1.heap.size 44 s0 zeroU 10 88 Tryd.underlying40 hs hy0 hy1 hy2 rfl (by decide) _ _ _ rfl HU.out _ (some ⟨x19.heap.size, 0, none⟩) 20 20 (flatU (units.drop 7)) rfl (reads_un HN.out rfl) un_one (by unfold maxLen; omega) (by omega) HB.out.size ?_); intro v' w' g2 g3 g4
      replace HB := Lib.hid (HB.out.grown g3 HB.out.size fun b hb => (HU.out.lt b hb).1)
      replace HU := Lib.hid (show OwnU w' w1.heap.size v' units from OwnU.snoc (us := units.drop 7) rfl rfl g2)
      clear g2 g3 g4 HN hlen
      obtain ⟨g, cap, e9, hc, hA⟩ := HU.out.all
      subst e9
      have HA := Lib.hid hA
      have HC := Lib.hid hc
      clear hA hc
      go_wp2_with fail
      go_ret
      exact ⟨g, cap, rfl, HC.out, HA.out, HB.out⟩
end Go.Proofs.YtlfapncbkgpclaaDoor
