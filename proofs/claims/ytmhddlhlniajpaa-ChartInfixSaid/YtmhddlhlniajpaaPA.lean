/- The reference's pairs. -/
import Derived.Test.YtmhddlhlniajpaaRL
namespace Go.Proofs.Ytmhddlhlniajpaa
open Go.RowKit
theorem rds_two {P : Nat → Prop} {w : World} {g : Nat} {x y : Rd} {cx cy : Array Value} (hx : RdAt P w x cx) (hy : RdAt P w y cy) (hg : P g) (hb : Blk w g 34 (cx ++ cy)) : RdsAt P w (some ⟨g, 0, none⟩) [x, y] := fun i z hi => by
  have sx := hx.size
  have sy := hy.size
  refine ⟨⟨g, 0, none⟩, rfl, hb.lt, hg, ?_⟩
  match i, hi with
  | 0, hi =>
    obtain rfl : x = z := by simpa using hi
    refine ⟨cx, hx, fun j hj => ?_⟩
    rw [show (⟨g, 0, none⟩ : Addr).add (0 * 3 + j) = ⟨g, j, none⟩ by unfold Addr.add; split <;> simp_all, hb.cell, Array.getElem?_append_left (by omega)]
  | 1, hi =>
    obtain rfl : y = z := by simpa using hi
    refine ⟨cy, hy, fun j hj => ?_⟩
    rw [show (⟨g, 0, none⟩ : Addr).add (1 * 3 + j) = ⟨g, 3 + j, none⟩ by unfold Addr.add; split <;> simp_all, hb.cell, Array.getElem?_append_right (by omega)]
    congr 1
    omega
theorem pairs_next {r a : Int} {l : List Rd} {i : Nat} {x : Rd} (m : List Rd) (hx : l[i]? = some x) : pairsR r a (l.take (i + 1)) m = pairsR r a (l.take i) m ++ m.map fun y => .mk r a [x, y] := by
  rw [List.take_add_one, hx]
  unfold pairsR
  rw [List.flatMap_append]
  simp
def midP (r a : Int) (l m : List Rd) (i k : Nat) : List Rd := pairsR r a (l.take i) m ++ (match l[i]? with
  | none => []
  | some x => (m.take k).map fun y => .mk r a [x, y])
theorem mid_zero {r a : Int} {l m : List Rd} {i : Nat} : midP r a l m i 0 = pairsR r a (l.take i) m := by
  unfold midP
  cases l[i]? <;> simp
theorem mid_next {r a : Int} {l m : List Rd} {i k : Nat} {x y : Rd} (hx : l[i]? = some x) (hy : m[k]? = some y) : midP r a l m i (k + 1) = midP r a l m i k ++ [.mk r a [x, y]] := by
  unfold midP
  rw [hx, List.append_assoc]
  congr 1
  show (m.take (k + 1)).map _ = (m.take k).map _ ++ _
  rw [List.take_add_one, hy, List.map_append]
  rfl
theorem mid_full {r a : Int} {l m : List Rd} {i : Nat} {x : Rd} (hx : l[i]? = some x) : midP r a l m i m.length = pairsR r a (l.take (i + 1)) m := by
  unfold midP
  rw [pairs_next m hx, hx, List.take_of_length_le (Nat.le_refl _)]
theorem pairs_take_len {r a : Int} {l m : List Rd} {i k : Nat} : (midP r a l m i k).length ≤ l.length * m.length + m.length := by
  unfold midP
  rw [List.length_append, pairs_len, List.length_take]
  have h1 : min i l.length * m.length ≤ l.length * m.length := Nat.mul_le_mul_right _ (by omega)
  cases l[i]? with
  | none => simp; omega
  | some x => simp only [List.length_map, List.length_take]; omega
set_option maxRecDepth 100000 in
set_option maxHeartbeats 4000000 in
theorem pairs_any (ok : Nat → Prop) (L M : Option Addr) (cl cm : Nat) (r a : Int) (l m : List Rd) (w : World) (hL : RdsAt ok w L l) (hM : RdsAt ok w M m) (hn : l.length * m.length + m.length ≤ 3000000000000) (hl1 : l.length ≤ 100000000) : Calls Try.prog 50 #[.int .i64 r, .int .i64 a, .slice L l.length cl, .slice M m.length cm] w fun e w' => ∃ v, e = .returned v ∧ AppR (fun b => (ok b ∧ b < w.heap.size) ∨ w.heap.size ≤ b) w' w.heap.size v (pairsR r a l m) ∧ Below w.heap.size w w' := by
  obtain ⟨i0, hi, hz0, hz1, hz2⟩ := info_parts info_rd
  have HL0 := Lib.hid (hL.any (ok' := fun b => ok b ∧ b < w.heap.size) fun b h1 h2 => ⟨h2, h1⟩)
  have HM0 := Lib.hid (hM.any (ok' := fun b => ok b ∧ b < w.heap.size) fun b h1 h2 => ⟨h2, h1⟩)
  have HN := Lib.hid hn
  have hm1 : m.length ≤ 3000000000000 := by omega
  clear hL hM hn
  go_enter Try.func50, Try.ntmps50
  go_wp2_with fail
  go_loopw [9, 10] (fun v j wr => ∃ i : Nat, i ≤ l.length ∧ j = .int .i64 i ∧ Hid (AppR (fun b => (ok b ∧ b < w.heap.size) ∨ w.heap.size ≤ b) wr w.heap.size v (pairsR r a (l.take i) m)) ∧ Hid (Below w.heap.size w wr)) (fun _ j _ => l.length - (intOf j).toNat)
  case atStart => exact ⟨0, by omega, rfl, by rw [List.take_zero]; exact AppR.nil (fun b => (ok b ∧ b < w.heap.size) ∨ w.heap.size ≤ b) _ _, Below.refl _ _⟩
  case round =>
    obtain ⟨i, hi9, rfl, HO, HB⟩ := hrel
    by_cases hlt : i < l.length
    · obtain ⟨x, hx⟩ : ∃ x, l[i]? = some x := ⟨_, List.getElem?_eq_getElem hlt⟩
      have HXI := Lib.hid hx
      have HMF := Lib.hid (mid_full (r := r) (a := a) (m := m) hx)
      rw [← mid_zero] at HO
      clear hx
      go_wp2_with fail
      go_loopw [9, 11] (fun v j wr => ∃ k : Nat, k ≤ m.length ∧ j = .int .i64 k ∧ Hid (AppR (fun b => (ok b ∧ b < w.heap.size) ∨ w.heap.size ≤ b) wr w.heap.size v (midP r a l m i k)) ∧ Hid (Below w.heap.size w wr)) (fun _ j _ => m.length - (intOf j).toNat)
      case atStart => exact ⟨0, by omega, rfl, HO, HB⟩
      case round =>
        clear HO HB
        obtain ⟨k, hk9, rfl, HO, HB⟩ := hrel
        by_cases hlk : k < m.length
        · obtain ⟨y, hy⟩ : ∃ y, m[k]? = some y := ⟨_, List.getElem?_eq_getElem hlk⟩
          obtain ⟨ad, A1, k1, rfl, had, hxc, _, _, _, d0, d1, d2⟩ := (HL0.out.keep HB.out).at_ HXI.out
          obtain ⟨bd, B1, k2, rfl, hbd, hyc, _, _, _, f0, f1, f2⟩ := (HM0.out.keep HB.out).at_ hy
          have HMN := Lib.hid (mid_next (r := r) (a := a) HXI.out hy)
          have HXC := Lib.hid hxc
          have HYC := Lib.hid hyc
          have Had := Lib.hid had
          have Hbd := Lib.hid hbd
          have HOL := Lib.hid HO.out
          have HLN := Lib.hid (show (midP r a l m i k).length ≤ 3000000000000 from Nat.le_trans pairs_take_len HN.out)
          have j1 : (0 : Int) ≤ (i : Int) := by omega
          have j2 : (i : Int) < (l.length : Int) := by omega
          have j3 : (0 : Int) ≤ (k : Int) := by omega
          have j4 : (k : Int) < (m.length : Int) := by omega
          clear hy hxc hyc had hbd
          go_upto_region 8 with (fail)
          refine region_tail (by kernel_rfl) (fun _ _ _ d _ h => by cases d <;> exact h) [(0, u9), (1, .int .i64 r), (2, .int .i64 a)] 11 _ [u9, .int .i64 r, .int .i64 a, .slice (some ad) l.length cl, .int .i64 (↑i), .pointer (some (ad.add (i * 3))), .agg (rdC x.rule x.at_ A1 x.kids.length k1), .slice (some bd) m.length cm, .int .i64 (↑k), .pointer (some (bd.add (k * 3))), .agg (rdC y.rule y.at_ B1 y.kids.length k2)] [true, true, true, true, true, true, true, true, true, true, true] (fun wq => True ∧ Below wr.heap.size wr wq) (by kernel_rfl) ⟨⟨_, rfl, by kernel_rfl, by kernel_rfl, .inl ⟨by kernel_rfl, fun _ => by kernel_rfl⟩⟩, ⟨⟨_, rfl, by kernel_rfl, by kernel_rfl, .inl ⟨by kernel_rfl, fun _ => by kernel_rfl⟩⟩, ⟨⟨_, rfl, by kernel_rfl, by kernel_rfl, .inl ⟨by kernel_rfl, fun _ => by kernel_rfl⟩⟩, trivial⟩⟩⟩ (by kernel_rfl) (by kernel_rfl) (by kernel_rfl) (by kernel_rfl) (by kernel_rfl) (by kernel_rfl) (by kernel_rfl) (by kernel_rfl) (by simp [cutOps, fin, finOn, dstAt, List.range, List.range.loop, Act.put]; rfl) (by kernel_rfl) ⟨trivial, below_drew (Below.refl _ _)⟩ ?_ ?_
          · refine ⟨fun wq hI => ?_, fun wq hI => ?_, fun wq hI => ?_, fun wq hI => ?_, fun wq hI => ?_, fun wq hI => ?_, fun wq hI => ?_, fun wq hI => ?_, fun wq hI => ?_, fun wq hI => ?_, fun wq hI => ?_, trivial⟩
            · exact Gives.value (v := u9) (w' := wq) (by kernel_rfl) ⟨rfl, hI⟩
            · exact Gives.value (v := .int .i64 r) (w' := wq) (by kernel_rfl) ⟨rfl, hI⟩
            · exact Gives.value (v := .int .i64 a) (w' := wq) (by kernel_rfl) ⟨rfl, hI⟩
            · exact Gives.value (v := .slice (some ad) l.length cl) (w' := wq) (by kernel_rfl) ⟨rfl, hI⟩
            · exact Gives.value (v := .int .i64 (↑i)) (w' := wq) (by kernel_rfl) ⟨rfl, hI⟩
            · skip
              exact Gives.value (v := .pointer (some (ad.add (i * 3)))) (w' := wq) (by simp [go_sem, j1, j2]; try omega) ⟨rfl, hI⟩
            · have e0 := (hI.2.cell (p := ad.add (i * 3)) (by rw [add_block]; exact Had.out)).trans d0
              have e1 := (hI.2.cell (p := ⟨(ad.add (i * 3)).block, (ad.add (i * 3)).off + 1, none⟩) (by show (ad.add (i * 3)).block < _; rw [add_block]; exact Had.out)).trans d1
              have e2 := (hI.2.cell (p := ⟨(ad.add (i * 3)).block, (ad.add (i * 3)).off + 2, none⟩) (by show (ad.add (i * 3)).block < _; rw [add_block]; exact Had.out)).trans d2
              exact Gives.value (v := .agg (rdC x.rule x.at_ A1 x.kids.length k1)) (w' := wq) (by simp [go_sem, e0, e1, e2]) ⟨rfl, hI⟩
            · exact Gives.value (v := .slice (some bd) m.length cm) (w' := wq) (by kernel_rfl) ⟨rfl, hI⟩
            · exact Gives.value (v := .int .i64 (↑k)) (w' := wq) (by kernel_rfl) ⟨rfl, hI⟩
            · skip
              exact Gives.value (v := .pointer (some (bd.add (k * 3)))) (w' := wq) (by simp [go_sem, j3, j4]; try omega) ⟨rfl, hI⟩
            · have e0 := (hI.2.cell (p := bd.add (k * 3)) (by rw [add_block]; exact Hbd.out)).trans f0
              have e1 := (hI.2.cell (p := ⟨(bd.add (k * 3)).block, (bd.add (k * 3)).off + 1, none⟩) (by show (bd.add (k * 3)).block < _; rw [add_block]; exact Hbd.out)).trans f1
              have e2 := (hI.2.cell (p := ⟨(bd.add (k * 3)).block, (bd.add (k * 3)).off + 2, none⟩) (by show (bd.add (k * 3)).block < _; rw [add_block]; exact Hbd.out)).trans f2
              exact Gives.value (v := .agg (rdC y.rule y.at_ B1 y.kids.length k2)) (w' := wq) (by simp [go_sem, e0, e1, e2]) ⟨rfl, hI⟩
          · intro wq hI
            have h1 := hI.2
            clear hI
            show wpOps _ _ _ [11, 12, 13, 14, 15] _ _
            refine wpOps_step rfl rfl (Gives.wp (R := fun v w' => v = .slice (some ⟨wq.heap.size, 0, none⟩) 2 2 ∧ w' = wq.alloc (.cells #[.int .i64 x.rule, .int .i64 x.at_, .slice A1 x.kids.length k1, .int .i64 y.rule, .int .i64 y.at_, .slice B1 y.kids.length k2] 34)) (Gives.value (v := .slice (some ⟨wq.heap.size, 0, none⟩) 2 2) (w' := wq.alloc (.cells #[.int .i64 x.rule, .int .i64 x.at_, .slice A1 x.kids.length k1, .int .i64 y.rule, .int .i64 y.at_, .slice B1 y.kids.length k2] 34)) (by simp [execOp, Act.eval, go_sem]) ⟨rfl, rfl⟩) ?_)
            rintro v w' ⟨rfl, rfl⟩
            refine wpOps_step rfl rfl (Gives.wp (R := fun v w' => v = .agg #[.int .i64 r, .int .i64 a, .slice (some ⟨wq.heap.size, 0, none⟩) 2 2] ∧ w' = wq.alloc (.cells #[.int .i64 x.rule, .int .i64 x.at_, .slice A1 x.kids.length k1, .int .i64 y.rule, .int .i64 y.at_, .slice B1 y.kids.length k2] 34)) (Gives.value (v := .agg #[.int .i64 r, .int .i64 a, .slice (some ⟨wq.heap.size, 0, none⟩) 2 2]) (w' := wq.alloc (.cells #[.int .i64 x.rule, .int .i64 x.at_, .slice A1 x.kids.length k1, .int .i64 y.rule, .int .i64 y.at_, .slice B1 y.kids.length k2] 34)) (by simp [execOp, Act.eval, go_sem]) ⟨rfl, rfl⟩) ?_)
            rintro v w' ⟨rfl, rfl⟩
            refine wpOps_step rfl rfl (Gives.wp (R := fun v w' => v = .slice (some ⟨wq.heap.size + 1, 0, none⟩) 1 1 ∧ w' = (wq.alloc (.cells #[.int .i64 x.rule, .int .i64 x.at_, .slice A1 x.kids.length k1, .int .i64 y.rule, .int .i64 y.at_, .slice B1 y.kids.length k2] 34)).alloc (.cells #[.int .i64 r, .int .i64 a, .slice (some ⟨wq.heap.size, 0, none⟩) 2 2] 34)) (Gives.value (v := .slice (some ⟨wq.heap.size + 1, 0, none⟩) 1 1) (w' := (wq.alloc (.cells #[.int .i64 x.rule, .int .i64 x.at_, .slice A1 x.kids.length k1, .int .i64 y.rule, .int .i64 y.at_, .slice B1 y.kids.length k2] 34)).alloc (.cells #[.int .i64 r, .int .i64 a, .slice (some ⟨wq.heap.size, 0, none⟩) 2 2] 34)) (by simp [execOp, Act.eval, go_sem]) ⟨rfl, rfl⟩) ?_)
            rintro v w' ⟨rfl, rfl⟩
            have hg := h1.size
            have hba := bel_alloc wq (.cells #[.int .i64 x.rule, .int .i64 x.at_, .slice A1 x.kids.length k1, .int .i64 y.rule, .int .i64 y.at_, .slice B1 y.kids.length k2] 34)
            have hbb := bel_alloc (wq.alloc (.cells #[.int .i64 x.rule, .int .i64 x.at_, .slice A1 x.kids.length k1, .int .i64 y.rule, .int .i64 y.at_, .slice B1 y.kids.length k2] 34)) (.cells #[.int .i64 r, .int .i64 a, .slice (some ⟨wq.heap.size, 0, none⟩) 2 2] 34)
            have hsz : (wq.alloc (.cells #[.int .i64 x.rule, .int .i64 x.at_, .slice A1 x.kids.length k1, .int .i64 y.rule, .int .i64 y.at_, .slice B1 y.kids.length k2] 34)).heap.size = wq.heap.size + 1 := World.size_alloc _ _
            have hb2 := (h1.trans (hba.mono h1.size)).trans (hbb.mono (Nat.le_trans h1.size hba.size))
            have HOa := Lib.hid (HO.out.keep hb2)
            have KX := keep hbb (Blk.new wq 34 #[.int .i64 x.rule, .int .i64 x.at_, .slice A1 x.kids.length k1, .int .i64 y.rule, .int .i64 y.at_, .slice B1 y.kids.length k2])
            have KE : Blk ((wq.alloc (.cells #[.int .i64 x.rule, .int .i64 x.at_, .slice A1 x.kids.length k1, .int .i64 y.rule, .int .i64 y.at_, .slice B1 y.kids.length k2] 34)).alloc (.cells #[.int .i64 r, .int .i64 a, .slice (some ⟨wq.heap.size, 0, none⟩) 2 2] 34)) (wq.heap.size + 1) 34 #[.int .i64 r, .int .i64 a, .slice (some ⟨wq.heap.size, 0, none⟩) 2 2] := by have := Blk.new (wq.alloc (.cells #[.int .i64 x.rule, .int .i64 x.at_, .slice A1 x.kids.length k1, .int .i64 y.rule, .int .i64 y.at_, .slice B1 y.kids.length k2] 34)) 34 #[.int .i64 r, .int .i64 a, .slice (some ⟨wq.heap.size, 0, none⟩) 2 2]; rw [hsz] at this; exact this
            have hfar : ∀ b, u9.ownBlock = some b → w.heap.size ≤ b ∧ b < wr.heap.size := fun b hb => HOL.out.lt b hb
            have hP : ∀ b, b < wr.heap.size → (ok b ∧ b < w.heap.size) → u9.ownBlock ≠ some b ∧ ((ok b ∧ b < w.heap.size) ∨ w.heap.size ≤ b) := fun b _ h => ⟨fun h' => by have := (hfar b h').1; omega, .inl h⟩
            have hx1 := (HXC.out.any (ok' := fun b => u9.ownBlock ≠ some b ∧ ((ok b ∧ b < w.heap.size) ∨ w.heap.size ≤ b)) hP).keep hb2
            have hy1 := (HYC.out.any (ok' := fun b => u9.ownBlock ≠ some b ∧ ((ok b ∧ b < w.heap.size) ∨ w.heap.size ≤ b)) hP).keep hb2
            have hE := RdAt.of (r := r) (a := a) (ks := [x, y]) (A := some ⟨wq.heap.size, 0, none⟩) (cap := 2) (Nat.le_refl _) (by omega) (rds_two hx1 hy1 ⟨fun h' => by have := (hfar _ h').2; omega, .inr (by have := HB.out.size; omega)⟩ KX)
            obtain ⟨css, ho, hl, hrr⟩ := HOa.out
            have hln := HLN.out
            have hbase : w.heap.size ≤ ((wq.alloc (.cells #[.int .i64 x.rule, .int .i64 x.at_, .slice A1 x.kids.length k1, .int .i64 y.rule, .int .i64 y.at_, .slice B1 y.kids.length k2] 34)).alloc (.cells #[.int .i64 r, .int .i64 a, .slice (some ⟨wq.heap.size, 0, none⟩) 2 2] 34)).heap.size := Nat.le_trans HB.out.size (hb2.size)
            refine wpOps_step rfl rfl (wp_append_any _ (.tmp 24) (.tmp 37) 26 rfl w.heap.size 34 i0 (.agg #[.int .i64 0, .int .i64 0, .slice none 0 0]) 3 40 Try.underlying26 hi hz0 hz1 hz2 rfl (by decide) u9 _ _ rfl ho _ (some ⟨wq.heap.size + 1, 0, none⟩) 1 1 #[.int .i64 r, .int .i64 a, .slice (some ⟨wq.heap.size, 0, none⟩) 2 2].toList rfl (reads_agg KE rfl) (rd_one hE) (by unfold maxLen; omega) (by omega) hbase ?_)
            intro v' w' g2 g3 g4
            refine wpOps_step rfl rfl (Gives.wp (R := fun v w2 => v = v' ∧ w2 = w') (Gives.value (v := v') (w' := w') (by simp [execOp, Act.eval, go_sem]) ⟨rfl, rfl⟩) ?_)
            rintro v w2 ⟨rfl, rfl⟩
            have HOb := Lib.hid (AppR.push hl hrr hE g2 g3 g4)
            rw [← HMN.out] at HOb
            have HBb := Lib.hid ((HB.out.trans (hb2.mono HB.out.size)).grown g3 hbase fun b hb => (hfar b hb).1)
            clear ho hl hrr g2 g3 g4 hE KE KX hba hbb hsz hb2 hx1 hy1 hP hbase hg h1 hfar d0 d1 d2 f0 f1 f2 HO HB HOa
            rename_i hK
            refine hK _ _ ?_
            clear hK
            go_wp2_with fail
            go_roundw
            case rel => exact ⟨k + 1, by omega, by go_num, HOb, HBb⟩
            case measure => simp [intOf]; omega
        · obtain rfl : k = m.length := by omega
          rw [HMF.out] at HO
          go_wp2_with fail
          go_roundw
          case rel => exact ⟨i + 1, by omega, by go_num, HO, HB⟩
          case measure => simp [intOf]; omega
    · obtain rfl : i = l.length := by omega
      rw [List.take_of_length_le (Nat.le_refl _)] at HO
      go_wp2_with fail
      go_ret
      exact ⟨_, rfl, HO.out, HB.out⟩
end Go.Proofs.Ytmhddlhlniajpaa
