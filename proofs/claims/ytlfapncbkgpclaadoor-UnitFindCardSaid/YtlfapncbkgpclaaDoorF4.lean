/- Both Find functions return the value of the first unit with a name. -/
import Derived.Test.YtlfapncbkgpclaaDoorF1
import Derived.Test.YtlfapncbkgpclaaDoorF3
namespace Go.Proofs.YtlfapncbkgpclaaDoor
open Go.RowKit
def isU (s : ByteArray) (u : Un) : Bool := decide (u.nm = s)
def findU (s : ByteArray) : Option Un := units.find? (isU s)
def fV (r : Option Un) : Value := match r with
  | some u => .tuple #[u.v.v, .bool true]
  | none => .tuple #[V9.zero.v, .bool false]
def FindPost (s : ByteArray) (w : World) (e : Ending) (w' : World) : Prop := e = .returned (fV (findU s)) ∧ Below w.heap.size w w'
theorem ufind_hit {s : ByteArray} {k : Nat} {u : Un} (h : findU s = (units.drop k).find? (isU s)) (hu : units[k]? = some u) (hs : u.nm = s) : findU s = some u := by
  have hl : k < units.length := (List.getElem?_eq_some_iff.1 hu).1
  have hx : units[k] = u := by rw [List.getElem?_eq_getElem hl] at hu; exact Option.some.inj hu
  rw [h, List.drop_eq_getElem_cons hl, hx, List.find?_cons, show isU s u = true from decide_eq_true hs]
theorem ufind_miss {s : ByteArray} {k : Nat} {u : Un} (h : findU s = (units.drop k).find? (isU s)) (hu : units[k]? = some u) (hs : u.nm ≠ s) : findU s = (units.drop (k + 1)).find? (isU s) := by
  have hl : k < units.length := (List.getElem?_eq_some_iff.1 hu).1
  have hx : units[k] = u := by rw [List.getElem?_eq_getElem hl] at hu; exact Option.some.inj hu
  rw [h, List.drop_eq_getElem_cons hl, hx, List.find?_cons, show isU s u = false from decide_eq_false hs]
theorem ufind_end {s : ByteArray} (h : findU s = (units.drop 27).find? (isU s)) : findU s = none := by
  rw [h]; rfl
theorem name_eq {a b : ByteArray} (h : a = b) : (a.toList == b.toList) = true := by rw [h]; exact beq_self_eq_true _
theorem name_ne {a b : ByteArray} (h : a ≠ b) : (a.toList == b.toList) = false := by
  rw [beq_eq_false_iff_ne, ByteArray.toList_eq, ByteArray.toList_eq]
  intro e
  apply h
  apply ByteArray.ext
  apply Array.ext'
  exact e
set_option maxRecDepth 100000 in
set_option maxHeartbeats 4000000 in
theorem find_any (s : ByteArray) (w : World) : Calls Tryd.prog 20 #[.string s] w (FindPost s w) := by
  go_enter Tryd.func20, Tryd.ntmps20
  go_wp2_with fail
  refine (all_any _).mono ?_
  rintro e w1 ⟨g, cap, rfl, hc, hU, hb⟩
  have K0 := Lib.hid (keep hb (Blk.new w 35 V9.zero.c))
  have H0 := Lib.hid ((bel_fin w _).trans (hb.mono (by simp)))
  have HU := Lib.hid hU
  have HI := Lib.hid (show findU s = (units.drop 0).find? (isU s) from rfl)
  clear hb hU
  go_wp2_with fail
  go_loopw [8] (fun i wr => ∃ k : Nat, k ≤ 27 ∧ i = .int .i64 k ∧ Hid (findU s = (units.drop k).find? (isU s)) ∧ Hid (Blk wr w.heap.size 35 V9.zero.c) ∧ Hid (UnAt wr g units) ∧ Hid (Below w.heap.size w wr)) (fun i _ => 27 - (intOf i).toNat)
  case atStart => exact ⟨0, by omega, rfl, HI, K0, HU, H0⟩
  case round =>
    clear HI K0 HU H0
    obtain ⟨k, hk, rfl, HI, K0, HU, H0⟩ := hrel
    by_cases hlt : k < 27
    · obtain ⟨u, hu⟩ : ∃ u, units[k]? = some u := ⟨_, List.getElem?_eq_getElem (by rw [units_len]; exact hlt)⟩
      have HH := Lib.hid (fun h => ufind_hit HI.out hu h)
      have HM := Lib.hid (fun h => ufind_miss HI.out hu h)
      have d0 : wr.cell? ⟨g, k * 10, none⟩ = some (.string u.nm) := HU.out.2 k 0 u _ hu rfl
      have d1 : wr.cell? ⟨g, k * 10 + 1, none⟩ = some (.int .i64 u.v.n) := HU.out.2 k 1 u _ hu rfl
      have d2 : wr.cell? ⟨g, k * 10 + 2, none⟩ = some (.int .i64 u.v.d) := HU.out.2 k 2 u _ hu rfl
      have d3 : wr.cell? ⟨g, k * 10 + 3, none⟩ = some (.int .i64 u.v.m.a0) := HU.out.2 k 3 u _ hu rfl
      have d4 : wr.cell? ⟨g, k * 10 + 4, none⟩ = some (.int .i64 u.v.m.a1) := HU.out.2 k 4 u _ hu rfl
      have d5 : wr.cell? ⟨g, k * 10 + 5, none⟩ = some (.int .i64 u.v.m.a2) := HU.out.2 k 5 u _ hu rfl
      have d6 : wr.cell? ⟨g, k * 10 + 6, none⟩ = some (.int .i64 u.v.m.a3) := HU.out.2 k 6 u _ hu rfl
      have d7 : wr.cell? ⟨g, k * 10 + 7, none⟩ = some (.int .i64 u.v.m.a4) := HU.out.2 k 7 u _ hu rfl
      have d8 : wr.cell? ⟨g, k * 10 + 8, none⟩ = some (.int .i64 u.v.m.a5) := HU.out.2 k 8 u _ hu rfl
      have d9 : wr.cell? ⟨g, k * 10 + 9, none⟩ = some (.int .i64 u.v.m.a6) := HU.out.2 k 9 u _ hu rfl
      have hlg := HU.out.1
      clear hu HI
      go_upto_region 4 with (fail)
      clear d0 d1 d2 d3 d4 d5 d6 d7 d8 d9
      have hba := bel_fin wr (.cells (Un.c u) 43)
      have K5 := Lib.hid (Blk.new wr 43 (Un.c u))
      replace K0 := Lib.hid (keep hba K0.out)
      replace HU := Lib.hid (HU.out.keep hba)
      replace H0 := Lib.hid (H0.out.trans (hba.mono H0.out.size))
      clear hba
      generalize wr.alloc (.cells _ 43) = w5 at *
      generalize wr.heap.size = g5 at *
      have c5 := fun i => K5.out.cell i
      by_cases hs : u.nm = s
      · have HE := Lib.hid (HH.out hs)
        have q := name_eq hs
        clear hs HH HM
        have c0 := fun i => K0.out.cell i
        have f0 := fun i => K0.out.frozen i
        go_wp2_with fail
        have KF := (((((((((K0.out.set_ 0 (.int .i64 u.v.n)).set_ 1 (.int .i64 u.v.d)).set_ 2 (.int .i64 u.v.m.a0)).set_ 3 (.int .i64 u.v.m.a1)).set_ 4 (.int .i64 u.v.m.a2)).set_ 5 (.int .i64 u.v.m.a3)).set_ 6 (.int .i64 u.v.m.a4)).set_ 7 (.int .i64 u.v.m.a5)).set_ 8 (.int .i64 u.v.m.a6))
        have HF := Lib.hid (((((((((H0.out.setCell (p := ⟨w.heap.size, 0, none⟩) (Nat.le_refl _) (.int .i64 u.v.n)).setCell (p := ⟨w.heap.size, 1, none⟩) (Nat.le_refl _) (.int .i64 u.v.d)).setCell (p := ⟨w.heap.size, 2, none⟩) (Nat.le_refl _) (.int .i64 u.v.m.a0)).setCell (p := ⟨w.heap.size, 3, none⟩) (Nat.le_refl _) (.int .i64 u.v.m.a1)).setCell (p := ⟨w.heap.size, 4, none⟩) (Nat.le_refl _) (.int .i64 u.v.m.a2)).setCell (p := ⟨w.heap.size, 5, none⟩) (Nat.le_refl _) (.int .i64 u.v.m.a3)).setCell (p := ⟨w.heap.size, 6, none⟩) (Nat.le_refl _) (.int .i64 u.v.m.a4)).setCell (p := ⟨w.heap.size, 7, none⟩) (Nat.le_refl _) (.int .i64 u.v.m.a5)).setCell (p := ⟨w.heap.size, 8, none⟩) (Nat.le_refl _) (.int .i64 u.v.m.a6))
        clear c0 f0 K0 H0
        generalize ((((((((w5.setCell ⟨w.heap.size, 0, none⟩ (.int .i64 u.v.n)).setCell ⟨w.heap.size, 1, none⟩ (.int .i64 u.v.d)).setCell ⟨w.heap.size, 2, none⟩ (.int .i64 u.v.m.a0)).setCell ⟨w.heap.size, 3, none⟩ (.int .i64 u.v.m.a1)).setCell ⟨w.heap.size, 4, none⟩ (.int .i64 u.v.m.a2)).setCell ⟨w.heap.size, 5, none⟩ (.int .i64 u.v.m.a3)).setCell ⟨w.heap.size, 6, none⟩ (.int .i64 u.v.m.a4)).setCell ⟨w.heap.size, 7, none⟩ (.int .i64 u.v.m.a5)).setCell ⟨w.heap.size, 8, none⟩ (.int .i64 u.v.m.a6) = wf at *
        have dC := fun i => KF.cell i
        refine bodyPost_ret (v := .tuple #[.agg #[.int .i64 u.v.n, .int .i64 u.v.d, .int .i64 u.v.m.a0, .int .i64 u.v.m.a1, .int .i64 u.v.m.a2, .int .i64 u.v.m.a3, .int .i64 u.v.m.a4, .int .i64 u.v.m.a5, .int .i64 u.v.m.a6], .bool true]) (by simp [results, Tryd.results20, go_sem, dC]) rfl ⟨?_, HF.out⟩
        rw [HE.out]
        rfl
      · have HE := Lib.hid (HM.out hs)
        have q := name_ne hs
        clear hs HH HM
        go_wp2_with fail
        go_roundw
        case rel => exact ⟨k + 1, by omega, by go_num, HE, K0, HU, H0⟩
        case measure => simp [intOf]; omega
    · obtain rfl : k = 27 := by omega
      have HE := Lib.hid (ufind_end HI.out)
      have c0 := fun i => K0.out.cell i
      have f0 := fun i => K0.out.frozen i
      go_wp2_with fail
      have KF := (((((((((K0.out.set_ 0 (.int .i64 0)).set_ 1 (.int .i64 0)).set_ 2 (.int .i64 0)).set_ 3 (.int .i64 0)).set_ 4 (.int .i64 0)).set_ 5 (.int .i64 0)).set_ 6 (.int .i64 0)).set_ 7 (.int .i64 0)).set_ 8 (.int .i64 0))
      have HF := Lib.hid (((((((((H0.out.setCell (p := ⟨w.heap.size, 0, none⟩) (Nat.le_refl _) (.int .i64 0)).setCell (p := ⟨w.heap.size, 1, none⟩) (Nat.le_refl _) (.int .i64 0)).setCell (p := ⟨w.heap.size, 2, none⟩) (Nat.le_refl _) (.int .i64 0)).setCell (p := ⟨w.heap.size, 3, none⟩) (Nat.le_refl _) (.int .i64 0)).setCell (p := ⟨w.heap.size, 4, none⟩) (Nat.le_refl _) (.int .i64 0)).setCell (p := ⟨w.heap.size, 5, none⟩) (Nat.le_refl _) (.int .i64 0)).setCell (p := ⟨w.heap.size, 6, none⟩) (Nat.le_refl _) (.int .i64 0)).setCell (p := ⟨w.heap.size, 7, none⟩) (Nat.le_refl _) (.int .i64 0)).setCell (p := ⟨w.heap.size, 8, none⟩) (Nat.le_refl _) (.int .i64 0))
      clear c0 f0 K0 H0
      generalize ((((((((wr.setCell ⟨w.heap.size, 0, none⟩ (.int .i64 0)).setCell ⟨w.heap.size, 1, none⟩ (.int .i64 0)).setCell ⟨w.heap.size, 2, none⟩ (.int .i64 0)).setCell ⟨w.heap.size, 3, none⟩ (.int .i64 0)).setCell ⟨w.heap.size, 4, none⟩ (.int .i64 0)).setCell ⟨w.heap.size, 5, none⟩ (.int .i64 0)).setCell ⟨w.heap.size, 6, none⟩ (.int .i64 0)).setCell ⟨w.heap.size, 7, none⟩ (.int .i64 0)).setCell ⟨w.heap.size, 8, none⟩ (.int .i64 0) = wf at *
      have dC := fun i => KF.cell i
      refine bodyPost_ret (v := .tuple #[.agg #[.int .i64 0, .int .i64 0, .int .i64 0, .int .i64 0, .int .i64 0, .int .i64 0, .int .i64 0, .int .i64 0, .int .i64 0], .bool false]) (by simp [results, Tryd.results20, go_sem, dC]) rfl ⟨?_, HF.out⟩
      rw [HE.out]
      rfl
set_option maxRecDepth 100000 in
set_option maxHeartbeats 4000000 in
theorem rfind_any (s : ByteArray) (w : World) : Calls Tryd.prog 21 #[.string s] w (FindPost s w) := by
  go_enter Tryd.func21, Tryd.ntmps21
  go_wp2_with fail
  refine (rall_any _).mono ?_
  rintro e w1 ⟨g, cap, rfl, hc, hU, hb⟩
  have K0 := Lib.hid (keep hb (Blk.new w 35 V9.zero.c))
  have H0 := Lib.hid ((bel_fin w _).trans (hb.mono (by simp)))
  have HU := Lib.hid hU
  have HI := Lib.hid (show findU s = (units.drop 0).find? (isU s) from rfl)
  clear hb hU
  go_wp2_with fail
  generalize hw1 : w1 = wr at *
  clear hw1
  go_loop [5] (fun i => ∃ k : Nat, k ≤ 27 ∧ i = .int .i64 k ∧ Hid (findU s = (units.drop k).find? (isU s))) (fun i => 27 - (intOf i).toNat)
  case atStart => exact ⟨0, by omega, rfl, HI⟩
  case round =>
    clear HI
    obtain ⟨k, hk, rfl, HI⟩ := hrel
    by_cases hlt : k < 27
    · obtain ⟨u, hu⟩ : ∃ u, units[k]? = some u := ⟨_, List.getElem?_eq_getElem (by rw [units_len]; exact hlt)⟩
      have HH := Lib.hid (fun h => ufind_hit HI.out hu h)
      have HM := Lib.hid (fun h => ufind_miss HI.out hu h)
      have d0 : wr.cell? ⟨g, k * 10, none⟩ = some (.string u.nm) := HU.out.2 k 0 u _ hu rfl
      have d1 : wr.cell? ⟨g, k * 10 + 1, none⟩ = some (.int .i64 u.v.n) := HU.out.2 k 1 u _ hu rfl
      have d2 : wr.cell? ⟨g, k * 10 + 2, none⟩ = some (.int .i64 u.v.d) := HU.out.2 k 2 u _ hu rfl
      have d3 : wr.cell? ⟨g, k * 10 + 3, none⟩ = some (.int .i64 u.v.m.a0) := HU.out.2 k 3 u _ hu rfl
      have d4 : wr.cell? ⟨g, k * 10 + 4, none⟩ = some (.int .i64 u.v.m.a1) := HU.out.2 k 4 u _ hu rfl
      have d5 : wr.cell? ⟨g, k * 10 + 5, none⟩ = some (.int .i64 u.v.m.a2) := HU.out.2 k 5 u _ hu rfl
      have d6 : wr.cell? ⟨g, k * 10 + 6, none⟩ = some (.int .i64 u.v.m.a3) := HU.out.2 k 6 u _ hu rfl
      have d7 : wr.cell? ⟨g, k * 10 + 7, none⟩ = some (.int .i64 u.v.m.a4) := HU.out.2 k 7 u _ hu rfl
      have d8 : wr.cell? ⟨g, k * 10 + 8, none⟩ = some (.int .i64 u.v.m.a5) := HU.out.2 k 8 u _ hu rfl
      have d9 : wr.cell? ⟨g, k * 10 + 9, none⟩ = some (.int .i64 u.v.m.a6) := HU.out.2 k 9 u _ hu rfl
      have hlg := HU.out.1
      clear hu HI
      by_cases hs : u.nm = s
      · have HE := Lib.hid (HH.out hs)
        have q := name_eq hs
        clear hs HH HM
        have c0 := fun i => K0.out.cell i
        have f0 := fun i => K0.out.frozen i
        go_wp2_with fail
        have KF := (((((((((K0.out.set_ 0 (.int .i64 u.v.n)).set_ 1 (.int .i64 u.v.d)).set_ 2 (.int .i64 u.v.m.a0)).set_ 3 (.int .i64 u.v.m.a1)).set_ 4 (.int .i64 u.v.m.a2)).set_ 5 (.int .i64 u.v.m.a3)).set_ 6 (.int .i64 u.v.m.a4)).set_ 7 (.int .i64 u.v.m.a5)).set_ 8 (.int .i64 u.v.m.a6))
        have HF := Lib.hid (((((((((H0.out.setCell (p := ⟨w.heap.size, 0, none⟩) (Nat.le_refl _) (.int .i64 u.v.n)).setCell (p := ⟨w.heap.size, 1, none⟩) (Nat.le_refl _) (.int .i64 u.v.d)).setCell (p := ⟨w.heap.size, 2, none⟩) (Nat.le_refl _) (.int .i64 u.v.m.a0)).setCell (p := ⟨w.heap.size, 3, none⟩) (Nat.le_refl _) (.int .i64 u.v.m.a1)).setCell (p := ⟨w.heap.size, 4, none⟩) (Nat.le_refl _) (.int .i64 u.v.m.a2)).setCell (p := ⟨w.heap.size, 5, none⟩) (Nat.le_refl _) (.int .i64 u.v.m.a3)).setCell (p := ⟨w.heap.size, 6, none⟩) (Nat.le_refl _) (.int .i64 u.v.m.a4)).setCell (p := ⟨w.heap.size, 7, none⟩) (Nat.le_refl _) (.int .i64 u.v.m.a5)).setCell (p := ⟨w.heap.size, 8, none⟩) (Nat.le_refl _) (.int .i64 u.v.m.a6))
        clear c0 f0 K0 H0
        generalize ((((((((wr.setCell ⟨w.heap.size, 0, none⟩ (.int .i64 u.v.n)).setCell ⟨w.heap.size, 1, none⟩ (.int .i64 u.v.d)).setCell ⟨w.heap.size, 2, none⟩ (.int .i64 u.v.m.a0)).setCell ⟨w.heap.size, 3, none⟩ (.int .i64 u.v.m.a1)).setCell ⟨w.heap.size, 4, none⟩ (.int .i64 u.v.m.a2)).setCell ⟨w.heap.size, 5, none⟩ (.int .i64 u.v.m.a3)).setCell ⟨w.heap.size, 6, none⟩ (.int .i64 u.v.m.a4)).setCell ⟨w.heap.size, 7, none⟩ (.int .i64 u.v.m.a5)).setCell ⟨w.heap.size, 8, none⟩ (.int .i64 u.v.m.a6) = wf at *
        have dC := fun i => KF.cell i
        refine bodyPost_ret (v := .tuple #[.agg #[.int .i64 u.v.n, .int .i64 u.v.d, .int .i64 u.v.m.a0, .int .i64 u.v.m.a1, .int .i64 u.v.m.a2, .int .i64 u.v.m.a3, .int .i64 u.v.m.a4, .int .i64 u.v.m.a5, .int .i64 u.v.m.a6], .bool true]) (by simp [results, Tryd.results21, go_sem, dC]) rfl ⟨?_, HF.out⟩
        rw [HE.out]
        rfl
      · have HE := Lib.hid (HM.out hs)
        have q := name_ne hs
        clear hs HH HM
        go_wp2_with fail
        go_round
        case rel => exact ⟨k + 1, by omega, by go_num, HE⟩
        case measure => simp [intOf]; omega
    · obtain rfl : k = 27 := by omega
      have HE := Lib.hid (ufind_end HI.out)
      have c0 := fun i => K0.out.cell i
      have f0 := fun i => K0.out.frozen i
      go_wp2_with fail
      have KF := (((((((((K0.out.set_ 0 (.int .i64 0)).set_ 1 (.int .i64 0)).set_ 2 (.int .i64 0)).set_ 3 (.int .i64 0)).set_ 4 (.int .i64 0)).set_ 5 (.int .i64 0)).set_ 6 (.int .i64 0)).set_ 7 (.int .i64 0)).set_ 8 (.int .i64 0))
      have HF := Lib.hid (((((((((H0.out.setCell (p := ⟨w.heap.size, 0, none⟩) (Nat.le_refl _) (.int .i64 0)).setCell (p := ⟨w.heap.size, 1, none⟩) (Nat.le_refl _) (.int .i64 0)).setCell (p := ⟨w.heap.size, 2, none⟩) (Nat.le_refl _) (.int .i64 0)).setCell (p := ⟨w.heap.size, 3, none⟩) (Nat.le_refl _) (.int .i64 0)).setCell (p := ⟨w.heap.size, 4, none⟩) (Nat.le_refl _) (.int .i64 0)).setCell (p := ⟨w.heap.size, 5, none⟩) (Nat.le_refl _) (.int .i64 0)).setCell (p := ⟨w.heap.size, 6, none⟩) (Nat.le_refl _) (.int .i64 0)).setCell (p := ⟨w.heap.size, 7, none⟩) (Nat.le_refl _) (.int .i64 0)).setCell (p := ⟨w.heap.size, 8, none⟩) (Nat.le_refl _) (.int .i64 0))
      clear c0 f0 K0 H0
      generalize ((((((((wr.setCell ⟨w.heap.size, 0, none⟩ (.int .i64 0)).setCell ⟨w.heap.size, 1, none⟩ (.int .i64 0)).setCell ⟨w.heap.size, 2, none⟩ (.int .i64 0)).setCell ⟨w.heap.size, 3, none⟩ (.int .i64 0)).setCell ⟨w.heap.size, 4, none⟩ (.int .i64 0)).setCell ⟨w.heap.size, 5, none⟩ (.int .i64 0)).setCell ⟨w.heap.size, 6, none⟩ (.int .i64 0)).setCell ⟨w.heap.size, 7, none⟩ (.int .i64 0)).setCell ⟨w.heap.size, 8, none⟩ (.int .i64 0) = wf at *
      have dC := fun i => KF.cell i
      refine bodyPost_ret (v := .tuple #[.agg #[.int .i64 0, .int .i64 0, .int .i64 0, .int .i64 0, .int .i64 0, .int .i64 0, .int .i64 0, .int .i64 0, .int .i64 0], .bool false]) (by simp [results, Tryd.results21, go_sem, dC]) rfl ⟨?_, HF.out⟩
      rw [HE.out]
      rfl
end Go.Proofs.YtlfapncbkgpclaaDoor
