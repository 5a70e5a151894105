/- The fields of a term: the program and the reference · The fields of a term: the reference · Terms: the law's few, size and Valid of the reference, Count and Valid of the program -/
import Derived.Test.YthpioplpfmlgcaaGreatDoorH80b80928
import Derived.Test.YthpioplpfmlgcaaGreatDoorH09685d45
namespace Go.Proofs.YthpioplpfmlgcaaGreatDoor.Sp
open Go.Proofs.YthpioplpfmlgcaaGreatDoor.At
open Go.RowKit
theorem num_any (s : ByteArray) (w : World) (hs : s.size ≤ 9223372036854775807) : Calls Tryz.prog 97 #[.string s] w fun e w' => e = .returned (.bool (numP s.toList)) ∧ Below w.heap.size w w' := by
  rw [ByteArray.toList_eq]
  exact nnum_any s w hs
theorem betw_any (s : ByteArray) (a n : Nat) (w : World) (hs : s.size ≤ 9223372036854775807) : Calls Tryz.prog 152 #[.string s, .int .u8 (a : Int), .int .i64 (n : Int)] w fun e w' => e = .returned (.bool (prinL a s.toList && decide (s.toList.length ≤ n))) ∧ Below w.heap.size w w' := by
  rw [size_toList]
  exact (between_any s a n w hs).mono fun e w' ⟨h1, h2⟩ => ⟨h1, by rw [h2]; exact Below.refl _ _⟩
theorem opr_any (s : ByteArray) (w : World) (hs : s.size ≤ 9223372036854775807) : Calls Tryz.prog 153 #[.string s] w fun e w' => e = .returned (.bool (namedB s.toList)) ∧ Below w.heap.size w w' :=
  (oper_any s w hs).mono fun e w' ⟨h1, h2⟩ => ⟨h1, by rw [h2]; exact Below.refl _ _⟩
set_option maxRecDepth 100000 in
set_option maxHeartbeats 800000 in
theorem own_1 (a v f : ByteArray) (ts : List Trm) (p : Addr) (A : Option Addr) (cap : Nat) (w : World) (hP : PtM w p (.mk 1 a v f ts) A cap) : Calls Tryz.prog 136 #[.pointer (some p)] w fun e w' => e = .returned (.bool (ownM 1 a.toList v.toList f.toList ts.length)) ∧ Below w.heap.size w w' := by
  obtain ⟨hlt, c0, c1, c2, c3, c4, ha, hv, hf, hn, hc, -⟩ := hP
  dsimp only [Trm.kind, Trm.nam, Trm.vr, Trm.form, Trm.args] at c0 c1 c2 c3 c4 ha hv hf hn
  have HB := Lib.hid (Below.refl w.heap.size w)
  have HF := Lib.hid (fun w => betw_any f 33 16 w hf)
  have HQ := Lib.hid (show ownM 1 a.toList v.toList f.toList ts.length = ((v.toList.isEmpty && (f.toList.isEmpty && decide (ts.length = 0))) && numP a.toList) from rfl)
  have HN := Lib.hid (fun w => num_any a w ha)
  generalize (prinL 33 f.toList && decide (f.toList.length ≤ 16)) = fm at *
  generalize numP a.toList = rr at *
  cases hv1 : v.toList.isEmpty
  · rw [hv1] at HQ
    go_enter Tryz.func136, Tryz.ntmps136
    go_wp2_with fail
    refine (HF.out _).mono ?_
    rintro e w1 ⟨rfl, hb⟩
    have HB := Lib.hid (HB.out.trans (hb.mono HB.out.size))
    replace c0 := (hb.cell hlt).trans c0
    replace c1 := (hb.cell (p := ⟨p.block, p.off + 1, none⟩) hlt).trans c1
    replace c2 := (hb.cell (p := ⟨p.block, p.off + 2, none⟩) hlt).trans c2
    replace c3 := (hb.cell (p := ⟨p.block, p.off + 3, none⟩) hlt).trans c3
    replace c4 := (hb.cell (p := ⟨p.block, p.off + 4, none⟩) hlt).trans c4
    replace hlt := Nat.lt_of_lt_of_le hlt hb.size
    clear hb
    go_wp2_with fail
    go_ret
    exact ⟨ret_bool (by rw [HQ.out]; rfl), HB.out⟩
  · rw [hv1, Bool.true_and] at HQ
    cases hf1 : f.toList.isEmpty
    · rw [hf1] at HQ
      go_enter Tryz.func136, Tryz.ntmps136
      go_wp2_with fail
      refine (HF.out _).mono ?_
      rintro e w1 ⟨rfl, hb⟩
      have HB := Lib.hid (HB.out.trans (hb.mono HB.out.size))
      replace c0 := (hb.cell hlt).trans c0
      replace c1 := (hb.cell (p := ⟨p.block, p.off + 1, none⟩) hlt).trans c1
      replace c2 := (hb.cell (p := ⟨p.block, p.off + 2, none⟩) hlt).trans c2
      replace c3 := (hb.cell (p := ⟨p.block, p.off + 3, none⟩) hlt).trans c3
      replace c4 := (hb.cell (p := ⟨p.block, p.off + 4, none⟩) hlt).trans c4
      replace hlt := Nat.lt_of_lt_of_le hlt hb.size
      clear hb
      go_wp2_with fail
      go_ret
      exact ⟨ret_bool (by rw [HQ.out]; rfl), HB.out⟩
    · rw [hf1, Bool.true_and] at HQ
      by_cases hn1 : ts.length = 0
      · have hn2 : ((ts.length : Int) == 0) = true := by rw [beq_iff_eq]; omega
        rw [decide_eq_true hn1, Bool.true_and] at HQ
        clear hn1
        go_enter Tryz.func136, Tryz.ntmps136
        go_wp2_with fail
        refine (HF.out _).mono ?_
        rintro e w1 ⟨rfl, hb⟩
        have HB := Lib.hid (HB.out.trans (hb.mono HB.out.size))
        replace c0 := (hb.cell hlt).trans c0
        replace c1 := (hb.cell (p := ⟨p.block, p.off + 1, none⟩) hlt).trans c1
        replace c2 := (hb.cell (p := ⟨p.block, p.off + 2, none⟩) hlt).trans c2
        replace c3 := (hb.cell (p := ⟨p.block, p.off + 3, none⟩) hlt).trans c3
        replace c4 := (hb.cell (p := ⟨p.block, p.off + 4, none⟩) hlt).trans c4
        replace hlt := Nat.lt_of_lt_of_le hlt hb.size
        clear hb
        go_wp2_with fail
        refine (HN.out _).mono ?_
        rintro e w1 ⟨rfl, hb⟩
        have HB := Lib.hid (HB.out.trans (hb.mono HB.out.size))
        replace c0 := (hb.cell hlt).trans c0
        replace c1 := (hb.cell (p := ⟨p.block, p.off + 1, none⟩) hlt).trans c1
        replace c2 := (hb.cell (p := ⟨p.block, p.off + 2, none⟩) hlt).trans c2
        replace c3 := (hb.cell (p := ⟨p.block, p.off + 3, none⟩) hlt).trans c3
        replace c4 := (hb.cell (p := ⟨p.block, p.off + 4, none⟩) hlt).trans c4
        replace hlt := Nat.lt_of_lt_of_le hlt hb.size
        clear hb
        go_wp2_with fail
        go_ret
        exact ⟨ret_bool (by rw [HQ.out]), HB.out⟩
      · have hn2 : ((ts.length : Int) == 0) = false := by rw [beq_eq_false_iff_ne]; omega
        rw [decide_eq_false hn1] at HQ
        clear hn1
        go_enter Tryz.func136, Tryz.ntmps136
        go_wp2_with fail
        refine (HF.out _).mono ?_
        rintro e w1 ⟨rfl, hb⟩
        have HB := Lib.hid (HB.out.trans (hb.mono HB.out.size))
        replace c0 := (hb.cell hlt).trans c0
        replace c1 := (hb.cell (p := ⟨p.block, p.off + 1, none⟩) hlt).trans c1
        replace c2 := (hb.cell (p := ⟨p.block, p.off + 2, none⟩) hlt).trans c2
        replace c3 := (hb.cell (p := ⟨p.block, p.off + 3, none⟩) hlt).trans c3
        replace c4 := (hb.cell (p := ⟨p.block, p.off + 4, none⟩) hlt).trans c4
        replace hlt := Nat.lt_of_lt_of_le hlt hb.size
        clear hb
        go_wp2_with fail
        go_ret
        exact ⟨ret_bool (by rw [HQ.out]; rfl), HB.out⟩
set_option maxRecDepth 100000 in
set_option maxHeartbeats 800000 in
theorem own_2 (a v f : ByteArray) (ts : List Trm) (p : Addr) (A : Option Addr) (cap : Nat) (w : World) (hP : PtM w p (.mk 2 a v f ts) A cap) : Calls Tryz.prog 136 #[.pointer (some p)] w fun e w' => e = .returned (.bool (ownM 2 a.toList v.toList f.toList ts.length)) ∧ Below w.heap.size w w' := by
  obtain ⟨hlt, c0, c1, c2, c3, c4, ha, hv, hf, hn, hc, -⟩ := hP
  dsimp only [Trm.kind, Trm.nam, Trm.vr, Trm.form, Trm.args] at c0 c1 c2 c3 c4 ha hv hf hn
  have HB := Lib.hid (Below.refl w.heap.size w)
  have HF := Lib.hid (fun w => betw_any f 33 16 w hf)
  have HQ := Lib.hid (show ownM 2 a.toList v.toList f.toList ts.length = ((v.toList.isEmpty && (f.toList.isEmpty && decide (ts.length = 0))) && idB a.toList) from rfl)
  have HN := Lib.hid (fun w => ident_any a w ha)
  generalize (prinL 33 f.toList && decide (f.toList.length ≤ 16)) = fm at *
  generalize idB a.toList = rr at *
  cases hv1 : v.toList.isEmpty
  · rw [hv1] at HQ
    go_enter Tryz.func136, Tryz.ntmps136
    go_wp2_with fail
    refine (HF.out _).mono ?_
    rintro e w1 ⟨rfl, hb⟩
    have HB := Lib.hid (HB.out.trans (hb.mono HB.out.size))
    replace c0 := (hb.cell hlt).trans c0
    replace c1 := (hb.cell (p := ⟨p.block, p.off + 1, none⟩) hlt).trans c1
    replace c2 := (hb.cell (p := ⟨p.block, p.off + 2, none⟩) hlt).trans c2
    replace c3 := (hb.cell (p := ⟨p.block, p.off + 3, none⟩) hlt).trans c3
    replace c4 := (hb.cell (p := ⟨p.block, p.off + 4, none⟩) hlt).trans c4
    replace hlt := Nat.lt_of_lt_of_le hlt hb.size
    clear hb
    go_wp2_with fail
    go_ret
    exact ⟨ret_bool (by rw [HQ.out]; rfl), HB.out⟩
  · rw [hv1, Bool.true_and] at HQ
    cases hf1 : f.toList.isEmpty
    · rw [hf1] at HQ
      go_enter Tryz.func136, Tryz.ntmps136
      go_wp2_with fail
      refine (HF.out _).mono ?_
      rintro e w1 ⟨rfl, hb⟩
      have HB := Lib.hid (HB.out.trans (hb.mono HB.out.size))
      replace c0 := (hb.cell hlt).trans c0
      replace c1 := (hb.cell (p := ⟨p.block, p.off + 1, none⟩) hlt).trans c1
      replace c2 := (hb.cell (p := ⟨p.block, p.off + 2, none⟩) hlt).trans c2
      replace c3 := (hb.cell (p := ⟨p.block, p.off + 3, none⟩) hlt).trans c3
      replace c4 := (hb.cell (p := ⟨p.block, p.off + 4, none⟩) hlt).trans c4
      replace hlt := Nat.lt_of_lt_of_le hlt hb.size
      clear hb
      go_wp2_with fail
      go_ret
      exact ⟨ret_bool (by rw [HQ.out]; rfl), HB.out⟩
    · rw [hf1, Bool.true_and] at HQ
      by_cases hn1 : ts.length = 0
      · have hn2 : ((ts.length : Int) == 0) = true := by rw [beq_iff_eq]; omega
        rw [decide_eq_true hn1, Bool.true_and] at HQ
        clear hn1
        go_enter Tryz.func136, Tryz.ntmps136
        go_wp2_with fail
        refine (HF.out _).mono ?_
        rintro e w1 ⟨rfl, hb⟩
        have HB := Lib.hid (HB.out.trans (hb.mono HB.out.size))
        replace c0 := (hb.cell hlt).trans c0
        replace c1 := (hb.cell (p := ⟨p.block, p.off + 1, none⟩) hlt).trans c1
        replace c2 := (hb.cell (p := ⟨p.block, p.off + 2, none⟩) hlt).trans c2
        replace c3 := (hb.cell (p := ⟨p.block, p.off + 3, none⟩) hlt).trans c3
        replace c4 := (hb.cell (p := ⟨p.block, p.off + 4, none⟩) hlt).trans c4
        replace hlt := Nat.lt_of_lt_of_le hlt hb.size
        clear hb
        go_wp2_with fail
        refine (HN.out _).mono ?_
        rintro e w1 ⟨rfl, hb⟩
        have HB := Lib.hid (HB.out.trans (hb.mono HB.out.size))
        replace c0 := (hb.cell hlt).trans c0
        replace c1 := (hb.cell (p := ⟨p.block, p.off + 1, none⟩) hlt).trans c1
        replace c2 := (hb.cell (p := ⟨p.block, p.off + 2, none⟩) hlt).trans c2
        replace c3 := (hb.cell (p := ⟨p.block, p.off + 3, none⟩) hlt).trans c3
        replace c4 := (hb.cell (p := ⟨p.block, p.off + 4, none⟩) hlt).trans c4
        replace hlt := Nat.lt_of_lt_of_le hlt hb.size
        clear hb
        go_wp2_with fail
        go_ret
        exact ⟨ret_bool (by rw [HQ.out]), HB.out⟩
      · have hn2 : ((ts.length : Int) == 0) = false := by rw [beq_eq_false_iff_ne]; omega
        rw [decide_eq_false hn1] at HQ
        clear hn1
        go_enter Tryz.func136, Tryz.ntmps136
        go_wp2_with fail
        refine (HF.out _).mono ?_
        rintro e w1 ⟨rfl, hb⟩
        have HB := Lib.hid (HB.out.trans (hb.mono HB.out.size))
        replace c0 := (hb.cell hlt).trans c0
        replace c1 := (hb.cell (p := ⟨p.block, p.off + 1, none⟩) hlt).trans c1
        replace c2 := (hb.cell (p := ⟨p.block, p.off + 2, none⟩) hlt).trans c2
        replace c3 := (hb.cell (p := ⟨p.block, p.off + 3, none⟩) hlt).trans c3
        replace c4 := (hb.cell (p := ⟨p.block, p.off + 4, none⟩) hlt).trans c4
        replace hlt := Nat.lt_of_lt_of_le hlt hb.size
        clear hb
        go_wp2_with fail
        go_ret
        exact ⟨ret_bool (by rw [HQ.out]; rfl), HB.out⟩
set_option maxRecDepth 100000 in
set_option maxHeartbeats 800000 in
theorem own_3 (a v f : ByteArray) (ts : List Trm) (p : Addr) (A : Option Addr) (cap : Nat) (w : World) (hP : PtM w p (.mk 3 a v f ts) A cap) : Calls Tryz.prog 136 #[.pointer (some p)] w fun e w' => e = .returned (.bool (ownM 3 a.toList v.toList f.toList ts.length)) ∧ Below w.heap.size w w' := by
  obtain ⟨hlt, c0, c1, c2, c3, c4, ha, hv, hf, hn, hc, -⟩ := hP
  dsimp only [Trm.kind, Trm.nam, Trm.vr, Trm.form, Trm.args] at c0 c1 c2 c3 c4 ha hv hf hn
  have HB := Lib.hid (Below.refl w.heap.size w)
  have HF := Lib.hid (fun w => betw_any f 33 16 w hf)
  have HQ := Lib.hid (show ownM 3 a.toList v.toList f.toList ts.length = ((v.toList.isEmpty && (f.toList.isEmpty && decide (ts.length = 0))) && (prinL 32 a.toList && decide (a.toList.length ≤ 200))) from rfl)
  have HN := Lib.hid (fun w => betw_any a 32 200 w ha)
  generalize (prinL 33 f.toList && decide (f.toList.length ≤ 16)) = fm at *
  generalize (prinL 32 a.toList && decide (a.toList.length ≤ 200)) = rr at *
  cases hv1 : v.toList.isEmpty
  · rw [hv1] at HQ
    go_enter Tryz.func136, Tryz.ntmps136
    go_wp2_with fail
    refine (HF.out _).mono ?_
    rintro e w1 ⟨rfl, hb⟩
    have HB := Lib.hid (HB.out.trans (hb.mono HB.out.size))
    replace c0 := (hb.cell hlt).trans c0
    replace c1 := (hb.cell (p := ⟨p.block, p.off + 1, none⟩) hlt).trans c1
    replace c2 := (hb.cell (p := ⟨p.block, p.off + 2, none⟩) hlt).trans c2
    replace c3 := (hb.cell (p := ⟨p.block, p.off + 3, none⟩) hlt).trans c3
    replace c4 := (hb.cell (p := ⟨p.block, p.off + 4, none⟩) hlt).trans c4
    replace hlt := Nat.lt_of_lt_of_le hlt hb.size
    clear hb
    go_wp2_with fail
    go_ret
    exact ⟨ret_bool (by rw [HQ.out]; rfl), HB.out⟩
  · rw [hv1, Bool.true_and] at HQ
    cases hf1 : f.toList.isEmpty
    · rw [hf1] at HQ
      go_enter Tryz.func136, Tryz.ntmps136
      go_wp2_with fail
      refine (HF.out _).mono ?_
      rintro e w1 ⟨rfl, hb⟩
      have HB := Lib.hid (HB.out.trans (hb.mono HB.out.size))
      replace c0 := (hb.cell hlt).trans c0
      replace c1 := (hb.cell (p := ⟨p.block, p.off + 1, none⟩) hlt).trans c1
      replace c2 := (hb.cell (p := ⟨p.block, p.off + 2, none⟩) hlt).trans c2
      replace c3 := (hb.cell (p := ⟨p.block, p.off + 3, none⟩) hlt).trans c3
      replace c4 := (hb.cell (p := ⟨p.block, p.off + 4, none⟩) hlt).trans c4
      replace hlt := Nat.lt_of_lt_of_le hlt hb.size
      clear hb
      go_wp2_with fail
      go_ret
      exact ⟨ret_bool (by rw [HQ.out]; rfl), HB.out⟩
    · rw [hf1, Bool.true_and] at HQ
      by_cases hn1 : ts.length = 0
      · have hn2 : ((ts.length : Int) == 0) = true := by rw [beq_iff_eq]; omega
        rw [decide_eq_true hn1, Bool.true_and] at HQ
        clear hn1
        go_enter Tryz.func136, Tryz.ntmps136
        go_wp2_with fail
        refine (HF.out _).mono ?_
        rintro e w1 ⟨rfl, hb⟩
        have HB := Lib.hid (HB.out.trans (hb.mono HB.out.size))
        replace c0 := (hb.cell hlt).trans c0
        replace c1 := (hb.cell (p := ⟨p.block, p.off + 1, none⟩) hlt).trans c1
        replace c2 := (hb.cell (p := ⟨p.block, p.off + 2, none⟩) hlt).trans c2
        replace c3 := (hb.cell (p := ⟨p.block, p.off + 3, none⟩) hlt).trans c3
        replace c4 := (hb.cell (p := ⟨p.block, p.off + 4, none⟩) hlt).trans c4
        replace hlt := Nat.lt_of_lt_of_le hlt hb.size
        clear hb
        go_wp2_with fail
        refine (HN.out _).mono ?_
        rintro e w1 ⟨rfl, hb⟩
        have HB := Lib.hid (HB.out.trans (hb.mono HB.out.size))
        replace c0 := (hb.cell hlt).trans c0
        replace c1 := (hb.cell (p := ⟨p.block, p.off + 1, none⟩) hlt).trans c1
        replace c2 := (hb.cell (p := ⟨p.block, p.off + 2, none⟩) hlt).trans c2
        replace c3 := (hb.cell (p := ⟨p.block, p.off + 3, none⟩) hlt).trans c3
        replace c4 := (hb.cell (p := ⟨p.block, p.off + 4, none⟩) hlt).trans c4
        replace hlt := Nat.lt_of_lt_of_le hlt hb.size
        clear hb
        go_wp2_with fail
        go_ret
        exact ⟨ret_bool (by rw [HQ.out]), HB.out⟩
      · have hn2 : ((ts.length : Int) == 0) = false := by rw [beq_eq_false_iff_ne]; omega
        rw [decide_eq_false hn1] at HQ
        clear hn1
        go_enter Tryz.func136, Tryz.ntmps136
        go_wp2_with fail
        refine (HF.out _).mono ?_
        rintro e w1 ⟨rfl, hb⟩
        have HB := Lib.hid (HB.out.trans (hb.mono HB.out.size))
        replace c0 := (hb.cell hlt).trans c0
        replace c1 := (hb.cell (p := ⟨p.block, p.off + 1, none⟩) hlt).trans c1
        replace c2 := (hb.cell (p := ⟨p.block, p.off + 2, none⟩) hlt).trans c2
        replace c3 := (hb.cell (p := ⟨p.block, p.off + 3, none⟩) hlt).trans c3
        replace c4 := (hb.cell (p := ⟨p.block, p.off + 4, none⟩) hlt).trans c4
        replace hlt := Nat.lt_of_lt_of_le hlt hb.size
        clear hb
        go_wp2_with fail
        go_ret
        exact ⟨ret_bool (by rw [HQ.out]; rfl), HB.out⟩
set_option maxRecDepth 100000 in
set_option maxHeartbeats 800000 in
theorem own_4 (a v f : ByteArray) (ts : List Trm) (p : Addr) (A : Option Addr) (cap : Nat) (w : World) (hP : PtM w p (.mk 4 a v f ts) A cap) : Calls Tryz.prog 136 #[.pointer (some p)] w fun e w' => e = .returned (.bool (ownM 4 a.toList v.toList f.toList ts.length)) ∧ Below w.heap.size w w' := by
  obtain ⟨hlt, c0, c1, c2, c3, c4, ha, hv, hf, hn, hc, -⟩ := hP
  dsimp only [Trm.kind, Trm.nam, Trm.vr, Trm.form, Trm.args] at c0 c1 c2 c3 c4 ha hv hf hn
  have HB := Lib.hid (Below.refl w.heap.size w)
  have HF := Lib.hid (fun w => betw_any f 33 16 w hf)
  have HQ := Lib.hid (show ownM 4 a.toList v.toList f.toList ts.length = ((prinL 33 f.toList && decide (f.toList.length ≤ 16)) && (namedB a.toList && v.toList.isEmpty)) from rfl)
  have HN := Lib.hid (fun w => opr_any a w ha)
  generalize (prinL 33 f.toList && decide (f.toList.length ≤ 16)) = fm at *
  generalize namedB a.toList = nm at *
  cases hv1 : v.toList.isEmpty
  · skip
    rw [hv1] at HQ
    go_enter Tryz.func136, Tryz.ntmps136
    go_wp2_with fail
    refine (HF.out _).mono ?_
    rintro e w1 ⟨rfl, hb⟩
    have HB := Lib.hid (HB.out.trans (hb.mono HB.out.size))
    replace c0 := (hb.cell hlt).trans c0
    replace c1 := (hb.cell (p := ⟨p.block, p.off + 1, none⟩) hlt).trans c1
    replace c2 := (hb.cell (p := ⟨p.block, p.off + 2, none⟩) hlt).trans c2
    replace c3 := (hb.cell (p := ⟨p.block, p.off + 3, none⟩) hlt).trans c3
    replace c4 := (hb.cell (p := ⟨p.block, p.off + 4, none⟩) hlt).trans c4
    replace hlt := Nat.lt_of_lt_of_le hlt hb.size
    clear hb
    cases fm
    · go_wp2_with fail
      go_ret
      exact ⟨ret_bool (by rw [HQ.out]; rfl), HB.out⟩
    · go_wp2_with fail
      refine (HN.out _).mono ?_
      rintro e w1 ⟨rfl, hb⟩
      have HB := Lib.hid (HB.out.trans (hb.mono HB.out.size))
      replace c0 := (hb.cell hlt).trans c0
      replace c1 := (hb.cell (p := ⟨p.block, p.off + 1, none⟩) hlt).trans c1
      replace c2 := (hb.cell (p := ⟨p.block, p.off + 2, none⟩) hlt).trans c2
      replace c3 := (hb.cell (p := ⟨p.block, p.off + 3, none⟩) hlt).trans c3
      replace c4 := (hb.cell (p := ⟨p.block, p.off + 4, none⟩) hlt).trans c4
      replace hlt := Nat.lt_of_lt_of_le hlt hb.size
      clear hb
      cases nm
      · go_wp2_with fail
        go_ret
        exact ⟨ret_bool (by rw [HQ.out]; rfl), HB.out⟩
      · go_wp2_with fail
        go_ret
        exact ⟨ret_bool (by rw [HQ.out]; rfl), HB.out⟩
  · cases hf1 : f.toList.isEmpty
    · skip
      rw [hv1] at HQ
      go_enter Tryz.func136, Tryz.ntmps136
      go_wp2_with fail
      refine (HF.out _).mono ?_
      rintro e w1 ⟨rfl, hb⟩
      have HB := Lib.hid (HB.out.trans (hb.mono HB.out.size))
      replace c0 := (hb.cell hlt).trans c0
      replace c1 := (hb.cell (p := ⟨p.block, p.off + 1, none⟩) hlt).trans c1
      replace c2 := (hb.cell (p := ⟨p.block, p.off + 2, none⟩) hlt).trans c2
      replace c3 := (hb.cell (p := ⟨p.block, p.off + 3, none⟩) hlt).trans c3
      replace c4 := (hb.cell (p := ⟨p.block, p.off + 4, none⟩) hlt).trans c4
      replace hlt := Nat.lt_of_lt_of_le hlt hb.size
      clear hb
      cases fm
      · go_wp2_with fail
        go_ret
        exact ⟨ret_bool (by rw [HQ.out]; rfl), HB.out⟩
      · go_wp2_with fail
        refine (HN.out _).mono ?_
        rintro e w1 ⟨rfl, hb⟩
        have HB := Lib.hid (HB.out.trans (hb.mono HB.out.size))
        replace c0 := (hb.cell hlt).trans c0
        replace c1 := (hb.cell (p := ⟨p.block, p.off + 1, none⟩) hlt).trans c1
        replace c2 := (hb.cell (p := ⟨p.block, p.off + 2, none⟩) hlt).trans c2
        replace c3 := (hb.cell (p := ⟨p.block, p.off + 3, none⟩) hlt).trans c3
        replace c4 := (hb.cell (p := ⟨p.block, p.off + 4, none⟩) hlt).trans c4
        replace hlt := Nat.lt_of_lt_of_le hlt hb.size
        clear hb
        cases nm
        · go_wp2_with fail
          go_ret
          exact ⟨ret_bool (by rw [HQ.out]; rfl), HB.out⟩
        · go_wp2_with fail
          go_ret
          exact ⟨ret_bool (by rw [HQ.out]; rfl), HB.out⟩
    · by_cases hn1 : ts.length = 0
      · have hn2 : ((ts.length : Int) == 0) = true := by rw [beq_iff_eq]; omega
        have hn3 : ¬ (0 : Int) < (ts.length : Int) := by omega
        rw [hv1] at HQ
        go_enter Tryz.func136, Tryz.ntmps136
        go_wp2_with fail
        refine (HF.out _).mono ?_
        rintro e w1 ⟨rfl, hb⟩
        have HB := Lib.hid (HB.out.trans (hb.mono HB.out.size))
        replace c0 := (hb.cell hlt).trans c0
        replace c1 := (hb.cell (p := ⟨p.block, p.off + 1, none⟩) hlt).trans c1
        replace c2 := (hb.cell (p := ⟨p.block, p.off + 2, none⟩) hlt).trans c2
        replace c3 := (hb.cell (p := ⟨p.block, p.off + 3, none⟩) hlt).trans c3
        replace c4 := (hb.cell (p := ⟨p.block, p.off + 4, none⟩) hlt).trans c4
        replace hlt := Nat.lt_of_lt_of_le hlt hb.size
        clear hb
        cases fm
        · go_wp2_with fail
          go_ret
          exact ⟨ret_bool (by rw [HQ.out]; rfl), HB.out⟩
        · go_wp2_with fail
          refine (HN.out _).mono ?_
          rintro e w1 ⟨rfl, hb⟩
          have HB := Lib.hid (HB.out.trans (hb.mono HB.out.size))
          replace c0 := (hb.cell hlt).trans c0
          replace c1 := (hb.cell (p := ⟨p.block, p.off + 1, none⟩) hlt).trans c1
          replace c2 := (hb.cell (p := ⟨p.block, p.off + 2, none⟩) hlt).trans c2
          replace c3 := (hb.cell (p := ⟨p.block, p.off + 3, none⟩) hlt).trans c3
          replace c4 := (hb.cell (p := ⟨p.block, p.off + 4, none⟩) hlt).trans c4
          replace hlt := Nat.lt_of_lt_of_le hlt hb.size
          clear hb
          cases nm
          · go_wp2_with fail
            go_ret
            exact ⟨ret_bool (by rw [HQ.out]; rfl), HB.out⟩
          · go_wp2_with fail
            go_ret
            exact ⟨ret_bool (by rw [HQ.out]; rfl), HB.out⟩
      · have hn2 : ((ts.length : Int) == 0) = false := by rw [beq_eq_false_iff_ne]; omega
        have hn3 : (0 : Int) < (ts.length : Int) := by omega
        rw [hv1] at HQ
        go_enter Tryz.func136, Tryz.ntmps136
        go_wp2_with fail
        refine (HF.out _).mono ?_
        rintro e w1 ⟨rfl, hb⟩
        have HB := Lib.hid (HB.out.trans (hb.mono HB.out.size))
        replace c0 := (hb.cell hlt).trans c0
        replace c1 := (hb.cell (p := ⟨p.block, p.off + 1, none⟩) hlt).trans c1
        replace c2 := (hb.cell (p := ⟨p.block, p.off + 2, none⟩) hlt).trans c2
        replace c3 := (hb.cell (p := ⟨p.block, p.off + 3, none⟩) hlt).trans c3
        replace c4 := (hb.cell (p := ⟨p.block, p.off + 4, none⟩) hlt).trans c4
        replace hlt := Nat.lt_of_lt_of_le hlt hb.size
        clear hb
        cases fm
        · go_wp2_with fail
          go_ret
          exact ⟨ret_bool (by rw [HQ.out]; rfl), HB.out⟩
        · go_wp2_with fail
          refine (HN.out _).mono ?_
          rintro e w1 ⟨rfl, hb⟩
          have HB := Lib.hid (HB.out.trans (hb.mono HB.out.size))
          replace c0 := (hb.cell hlt).trans c0
          replace c1 := (hb.cell (p := ⟨p.block, p.off + 1, none⟩) hlt).trans c1
          replace c2 := (hb.cell (p := ⟨p.block, p.off + 2, none⟩) hlt).trans c2
          replace c3 := (hb.cell (p := ⟨p.block, p.off + 3, none⟩) hlt).trans c3
          replace c4 := (hb.cell (p := ⟨p.block, p.off + 4, none⟩) hlt).trans c4
          replace hlt := Nat.lt_of_lt_of_le hlt hb.size
          clear hb
          cases nm
          · go_wp2_with fail
            go_ret
            exact ⟨ret_bool (by rw [HQ.out]; rfl), HB.out⟩
          · go_wp2_with fail
            go_ret
            exact ⟨ret_bool (by rw [HQ.out]; rfl), HB.out⟩
set_option maxRecDepth 100000 in
set_option maxHeartbeats 800000 in
theorem own_5 (a v f : ByteArray) (ts : List Trm) (p : Addr) (A : Option Addr) (cap : Nat) (w : World) (hP : PtM w p (.mk 5 a v f ts) A cap) : Calls Tryz.prog 136 #[.pointer (some p)] w fun e w' => e = .returned (.bool (ownM 5 a.toList v.toList f.toList ts.length)) ∧ Below w.heap.size w w' := by
  obtain ⟨hlt, c0, c1, c2, c3, c4, ha, hv, hf, hn, hc, -⟩ := hP
  dsimp only [Trm.kind, Trm.nam, Trm.vr, Trm.form, Trm.args] at c0 c1 c2 c3 c4 ha hv hf hn
  have HB := Lib.hid (Below.refl w.heap.size w)
  have HF := Lib.hid (fun w => betw_any f 33 16 w hf)
  have HQ := Lib.hid (show ownM 5 a.toList v.toList f.toList ts.length = ((prinL 33 f.toList && decide (f.toList.length ≤ 16)) && (namedB a.toList && (idB v.toList && decide (0 < ts.length)))) from rfl)
  have HN := Lib.hid (fun w => opr_any a w ha)
  have HI := Lib.hid (fun w => ident_any v w hv)
  generalize (prinL 33 f.toList && decide (f.toList.length ≤ 16)) = fm at *
  generalize namedB a.toList = nm at *
  generalize idB v.toList = ii at *
  cases hv1 : v.toList.isEmpty
  · skip
    go_enter Tryz.func136, Tryz.ntmps136
    go_wp2_with fail
    refine (HF.out _).mono ?_
    rintro e w1 ⟨rfl, hb⟩
    have HB := Lib.hid (HB.out.trans (hb.mono HB.out.size))
    replace c0 := (hb.cell hlt).trans c0
    replace c1 := (hb.cell (p := ⟨p.block, p.off + 1, none⟩) hlt).trans c1
    replace c2 := (hb.cell (p := ⟨p.block, p.off + 2, none⟩) hlt).trans c2
    replace c3 := (hb.cell (p := ⟨p.block, p.off + 3, none⟩) hlt).trans c3
    replace c4 := (hb.cell (p := ⟨p.block, p.off + 4, none⟩) hlt).trans c4
    replace hlt := Nat.lt_of_lt_of_le hlt hb.size
    clear hb
    cases fm
    · go_wp2_with fail
      go_ret
      exact ⟨ret_bool (by rw [HQ.out]; rfl), HB.out⟩
    · go_wp2_with fail
      refine (HN.out _).mono ?_
      rintro e w1 ⟨rfl, hb⟩
      have HB := Lib.hid (HB.out.trans (hb.mono HB.out.size))
      replace c0 := (hb.cell hlt).trans c0
      replace c1 := (hb.cell (p := ⟨p.block, p.off + 1, none⟩) hlt).trans c1
      replace c2 := (hb.cell (p := ⟨p.block, p.off + 2, none⟩) hlt).trans c2
      replace c3 := (hb.cell (p := ⟨p.block, p.off + 3, none⟩) hlt).trans c3
      replace c4 := (hb.cell (p := ⟨p.block, p.off + 4, none⟩) hlt).trans c4
      replace hlt := Nat.lt_of_lt_of_le hlt hb.size
      clear hb
      cases nm
      · go_wp2_with fail
        go_ret
        exact ⟨ret_bool (by rw [HQ.out]; rfl), HB.out⟩
      · go_wp2_with fail
        refine (HI.out _).mono ?_
        rintro e w1 ⟨rfl, hb⟩
        have HB := Lib.hid (HB.out.trans (hb.mono HB.out.size))
        replace c0 := (hb.cell hlt).trans c0
        replace c1 := (hb.cell (p := ⟨p.block, p.off + 1, none⟩) hlt).trans c1
        replace c2 := (hb.cell (p := ⟨p.block, p.off + 2, none⟩) hlt).trans c2
        replace c3 := (hb.cell (p := ⟨p.block, p.off + 3, none⟩) hlt).trans c3
        replace c4 := (hb.cell (p := ⟨p.block, p.off + 4, none⟩) hlt).trans c4
        replace hlt := Nat.lt_of_lt_of_le hlt hb.size
        clear hb
        cases ii
        · go_wp2_with fail
          go_ret
          exact ⟨ret_bool (by rw [HQ.out]; rfl), HB.out⟩
        · by_cases hn1 : ts.length = 0
          · have hn3 : ¬ (0 : Int) < (ts.length : Int) := by omega
            go_wp2_with fail
            go_ret
            exact ⟨ret_bool (by rw [HQ.out]; rw [decide_eq_false (by omega)]; rfl), HB.out⟩
          · have hn3 : (0 : Int) < (ts.length : Int) := by omega
            go_wp2_with fail
            go_ret
            exact ⟨ret_bool (by rw [HQ.out]; rw [decide_eq_true (by omega)]; rfl), HB.out⟩
  · cases hf1 : f.toList.isEmpty
    · skip
      go_enter Tryz.func136, Tryz.ntmps136
      go_wp2_with fail
      refine (HF.out _).mono ?_
      rintro e w1 ⟨rfl, hb⟩
      have HB := Lib.hid (HB.out.trans (hb.mono HB.out.size))
      replace c0 := (hb.cell hlt).trans c0
      replace c1 := (hb.cell (p := ⟨p.block, p.off + 1, none⟩) hlt).trans c1
      replace c2 := (hb.cell (p := ⟨p.block, p.off + 2, none⟩) hlt).trans c2
      replace c3 := (hb.cell (p := ⟨p.block, p.off + 3, none⟩) hlt).trans c3
      replace c4 := (hb.cell (p := ⟨p.block, p.off + 4, none⟩) hlt).trans c4
      replace hlt := Nat.lt_of_lt_of_le hlt hb.size
      clear hb
      cases fm
      · go_wp2_with fail
        go_ret
        exact ⟨ret_bool (by rw [HQ.out]; rfl), HB.out⟩
      · go_wp2_with fail
        refine (HN.out _).mono ?_
        rintro e w1 ⟨rfl, hb⟩
        have HB := Lib.hid (HB.out.trans (hb.mono HB.out.size))
        replace c0 := (hb.cell hlt).trans c0
        replace c1 := (hb.cell (p := ⟨p.block, p.off + 1, none⟩) hlt).trans c1
        replace c2 := (hb.cell (p := ⟨p.block, p.off + 2, none⟩) hlt).trans c2
        replace c3 := (hb.cell (p := ⟨p.block, p.off + 3, none⟩) hlt).trans c3
        replace c4 := (hb.cell (p := ⟨p.block, p.off + 4, none⟩) hlt).trans c4
        replace hlt := Nat.lt_of_lt_of_le hlt hb.size
        clear hb
        cases nm
        · go_wp2_with fail
          go_ret
          exact ⟨ret_bool (by rw [HQ.out]; rfl), HB.out⟩
        · go_wp2_with fail
          refine (HI.out _).mono ?_
          rintro e w1 ⟨rfl, hb⟩
          have HB := Lib.hid (HB.out.trans (hb.mono HB.out.size))
          replace c0 := (hb.cell hlt).trans c0
          replace c1 := (hb.cell (p := ⟨p.block, p.off + 1, none⟩) hlt).trans c1
          replace c2 := (hb.cell (p := ⟨p.block, p.off + 2, none⟩) hlt).trans c2
          replace c3 := (hb.cell (p := ⟨p.block, p.off + 3, none⟩) hlt).trans c3
          replace c4 := (hb.cell (p := ⟨p.block, p.off + 4, none⟩) hlt).trans c4
          replace hlt := Nat.lt_of_lt_of_le hlt hb.size
          clear hb
          cases ii
          · go_wp2_with fail
            go_ret
            exact ⟨ret_bool (by rw [HQ.out]; rfl), HB.out⟩
          · by_cases hn1 : ts.length = 0
            · have hn3 : ¬ (0 : Int) < (ts.length : Int) := by omega
              go_wp2_with fail
              go_ret
              exact ⟨ret_bool (by rw [HQ.out]; rw [decide_eq_false (by omega)]; rfl), HB.out⟩
            · have hn3 : (0 : Int) < (ts.length : Int) := by omega
              go_wp2_with fail
              go_ret
              exact ⟨ret_bool (by rw [HQ.out]; rw [decide_eq_true (by omega)]; rfl), HB.out⟩
    · by_cases hn1 : ts.length = 0
      · have hn2 : ((ts.length : Int) == 0) = true := by rw [beq_iff_eq]; omega
        have hn3 : ¬ (0 : Int) < (ts.length : Int) := by omega
        go_enter Tryz.func136, Tryz.ntmps136
        go_wp2_with fail
        refine (HF.out _).mono ?_
        rintro e w1 ⟨rfl, hb⟩
        have HB := Lib.hid (HB.out.trans (hb.mono HB.out.size))
        replace c0 := (hb.cell hlt).trans c0
        replace c1 := (hb.cell (p := ⟨p.block, p.off + 1, none⟩) hlt).trans c1
        replace c2 := (hb.cell (p := ⟨p.block, p.off + 2, none⟩) hlt).trans c2
        replace c3 := (hb.cell (p := ⟨p.block, p.off + 3, none⟩) hlt).trans c3
        replace c4 := (hb.cell (p := ⟨p.block, p.off + 4, none⟩) hlt).trans c4
        replace hlt := Nat.lt_of_lt_of_le hlt hb.size
        clear hb
        cases fm
        · go_wp2_with fail
          go_ret
          exact ⟨ret_bool (by rw [HQ.out]; rfl), HB.out⟩
        · go_wp2_with fail
          refine (HN.out _).mono ?_
          rintro e w1 ⟨rfl, hb⟩
          have HB := Lib.hid (HB.out.trans (hb.mono HB.out.size))
          replace c0 := (hb.cell hlt).trans c0
          replace c1 := (hb.cell (p := ⟨p.block, p.off + 1, none⟩) hlt).trans c1
          replace c2 := (hb.cell (p := ⟨p.block, p.off + 2, none⟩) hlt).trans c2
          replace c3 := (hb.cell (p := ⟨p.block, p.off + 3, none⟩) hlt).trans c3
          replace c4 := (hb.cell (p := ⟨p.block, p.off + 4, none⟩) hlt).trans c4
          replace hlt := Nat.lt_of_lt_of_le hlt hb.size
          clear hb
          cases nm
          · go_wp2_with fail
            go_ret
            exact ⟨ret_bool (by rw [HQ.out]; rfl), HB.out⟩
          · go_wp2_with fail
            refine (HI.out _).mono ?_
            rintro e w1 ⟨rfl, hb⟩
            have HB := Lib.hid (HB.out.trans (hb.mono HB.out.size))
            replace c0 := (hb.cell hlt).trans c0
            replace c1 := (hb.cell (p := ⟨p.block, p.off + 1, none⟩) hlt).trans c1
            replace c2 := (hb.cell (p := ⟨p.block, p.off + 2, none⟩) hlt).trans c2
            replace c3 := (hb.cell (p := ⟨p.block, p.off + 3, none⟩) hlt).trans c3
            replace c4 := (hb.cell (p := ⟨p.block, p.off + 4, none⟩) hlt).trans c4
            replace hlt := Nat.lt_of_lt_of_le hlt hb.size
            clear hb
            cases ii
            · go_wp2_with fail
              go_ret
              exact ⟨ret_bool (by rw [HQ.out]; rfl), HB.out⟩
            · go_wp2_with fail
              go_ret
              exact ⟨ret_bool (by rw [HQ.out]; rw [decide_eq_false (by omega)]; rfl), HB.out⟩
      · have hn2 : ((ts.length : Int) == 0) = false := by rw [beq_eq_false_iff_ne]; omega
        have hn3 : (0 : Int) < (ts.length : Int) := by omega
        go_enter Tryz.func136, Tryz.ntmps136
        go_wp2_with fail
        refine (HF.out _).mono ?_
        rintro e w1 ⟨rfl, hb⟩
        have HB := Lib.hid (HB.out.trans (hb.mono HB.out.size))
        replace c0 := (hb.cell hlt).trans c0
        replace c1 := (hb.cell (p := ⟨p.block, p.off + 1, none⟩) hlt).trans c1
        replace c2 := (hb.cell (p := ⟨p.block, p.off + 2, none⟩) hlt).trans c2
        replace c3 := (hb.cell (p := ⟨p.block, p.off + 3, none⟩) hlt).trans c3
        replace c4 := (hb.cell (p := ⟨p.block, p.off + 4, none⟩) hlt).trans c4
        replace hlt := Nat.lt_of_lt_of_le hlt hb.size
        clear hb
        cases fm
        · go_wp2_with fail
          go_ret
          exact ⟨ret_bool (by rw [HQ.out]; rfl), HB.out⟩
        · go_wp2_with fail
          refine (HN.out _).mono ?_
          rintro e w1 ⟨rfl, hb⟩
          have HB := Lib.hid (HB.out.trans (hb.mono HB.out.size))
          replace c0 := (hb.cell hlt).trans c0
          replace c1 := (hb.cell (p := ⟨p.block, p.off + 1, none⟩) hlt).trans c1
          replace c2 := (hb.cell (p := ⟨p.block, p.off + 2, none⟩) hlt).trans c2
          replace c3 := (hb.cell (p := ⟨p.block, p.off + 3, none⟩) hlt).trans c3
          replace c4 := (hb.cell (p := ⟨p.block, p.off + 4, none⟩) hlt).trans c4
          replace hlt := Nat.lt_of_lt_of_le hlt hb.size
          clear hb
          cases nm
          · go_wp2_with fail
            go_ret
            exact ⟨ret_bool (by rw [HQ.out]; rfl), HB.out⟩
          · go_wp2_with fail
            refine (HI.out _).mono ?_
            rintro e w1 ⟨rfl, hb⟩
            have HB := Lib.hid (HB.out.trans (hb.mono HB.out.size))
            replace c0 := (hb.cell hlt).trans c0
            replace c1 := (hb.cell (p := ⟨p.block, p.off + 1, none⟩) hlt).trans c1
            replace c2 := (hb.cell (p := ⟨p.block, p.off + 2, none⟩) hlt).trans c2
            replace c3 := (hb.cell (p := ⟨p.block, p.off + 3, none⟩) hlt).trans c3
            replace c4 := (hb.cell (p := ⟨p.block, p.off + 4, none⟩) hlt).trans c4
            replace hlt := Nat.lt_of_lt_of_le hlt hb.size
            clear hb
            cases ii
            · go_wp2_with fail
              go_ret
              exact ⟨ret_bool (by rw [HQ.out]; rfl), HB.out⟩
            · go_wp2_with fail
              go_ret
              exact ⟨ret_bool (by rw [HQ.out]; rw [decide_eq_true (by omega)]; rfl), HB.out⟩
set_option maxRecDepth 100000 in
set_option maxHeartbeats 800000 in
theorem own_o (k : Int) (a v f : ByteArray) (ts : List Trm) (p : Addr) (A : Option Addr) (cap : Nat) (w : World) (hP : PtM w p (.mk k a v f ts) A cap) (h1 : (k == 1) = false) (h2 : (k == 2) = false) (h3 : (k == 3) = false) (h4 : (k == 4) = false) (h5 : (k == 5) = false) : Calls Tryz.prog 136 #[.pointer (some p)] w fun e w' => e = .returned (.bool (ownM k a.toList v.toList f.toList ts.length)) ∧ Below w.heap.size w w' := by
  obtain ⟨hlt, c0, c1, c2, c3, c4, ha, hv, hf, hn, hc, -⟩ := hP
  dsimp only [Trm.kind, Trm.nam, Trm.vr, Trm.form, Trm.args] at c0 c1 c2 c3 c4 ha hv hf hn
  have HB := Lib.hid (Below.refl w.heap.size w)
  have HF := Lib.hid (fun w => betw_any f 33 16 w hf)
  have HQ := Lib.hid (show ownM k a.toList v.toList f.toList ts.length = false by unfold ownM; rw [if_neg (beq_eq_false_iff_ne.1 h1), if_neg (beq_eq_false_iff_ne.1 h2), if_neg (beq_eq_false_iff_ne.1 h3), if_neg (beq_eq_false_iff_ne.1 h4), if_neg (beq_eq_false_iff_ne.1 h5)])
  generalize (prinL 33 f.toList && decide (f.toList.length ≤ 16)) = fm at *
  cases hv1 : v.toList.isEmpty
  · skip
    go_enter Tryz.func136, Tryz.ntmps136
    go_wp2_with fail
    refine (HF.out _).mono ?_
    rintro e w1 ⟨rfl, hb⟩
    have HB := Lib.hid (HB.out.trans (hb.mono HB.out.size))
    replace c0 := (hb.cell hlt).trans c0
    replace c1 := (hb.cell (p := ⟨p.block, p.off + 1, none⟩) hlt).trans c1
    replace c2 := (hb.cell (p := ⟨p.block, p.off + 2, none⟩) hlt).trans c2
    replace c3 := (hb.cell (p := ⟨p.block, p.off + 3, none⟩) hlt).trans c3
    replace c4 := (hb.cell (p := ⟨p.block, p.off + 4, none⟩) hlt).trans c4
    replace hlt := Nat.lt_of_lt_of_le hlt hb.size
    clear hb
    go_wp2_with fail
    go_ret
    exact ⟨ret_bool (by rw [HQ.out]), HB.out⟩
  · cases hf1 : f.toList.isEmpty
    · skip
      go_enter Tryz.func136, Tryz.ntmps136
      go_wp2_with fail
      refine (HF.out _).mono ?_
      rintro e w1 ⟨rfl, hb⟩
      have HB := Lib.hid (HB.out.trans (hb.mono HB.out.size))
      replace c0 := (hb.cell hlt).trans c0
      replace c1 := (hb.cell (p := ⟨p.block, p.off + 1, none⟩) hlt).trans c1
      replace c2 := (hb.cell (p := ⟨p.block, p.off + 2, none⟩) hlt).trans c2
      replace c3 := (hb.cell (p := ⟨p.block, p.off + 3, none⟩) hlt).trans c3
      replace c4 := (hb.cell (p := ⟨p.block, p.off + 4, none⟩) hlt).trans c4
      replace hlt := Nat.lt_of_lt_of_le hlt hb.size
      clear hb
      go_wp2_with fail
      go_ret
      exact ⟨ret_bool (by rw [HQ.out]), HB.out⟩
    · by_cases hn1 : ts.length = 0
      · have hn2 : ((ts.length : Int) == 0) = true := by rw [beq_iff_eq]; omega
        have hn3 : ¬ (0 : Int) < (ts.length : Int) := by omega
        go_enter Tryz.func136, Tryz.ntmps136
        go_wp2_with fail
        refine (HF.out _).mono ?_
        rintro e w1 ⟨rfl, hb⟩
        have HB := Lib.hid (HB.out.trans (hb.mono HB.out.size))
        replace c0 := (hb.cell hlt).trans c0
        replace c1 := (hb.cell (p := ⟨p.block, p.off + 1, none⟩) hlt).trans c1
        replace c2 := (hb.cell (p := ⟨p.block, p.off + 2, none⟩) hlt).trans c2
        replace c3 := (hb.cell (p := ⟨p.block, p.off + 3, none⟩) hlt).trans c3
        replace c4 := (hb.cell (p := ⟨p.block, p.off + 4, none⟩) hlt).trans c4
        replace hlt := Nat.lt_of_lt_of_le hlt hb.size
        clear hb
        go_wp2_with fail
        go_ret
        exact ⟨ret_bool (by rw [HQ.out]), HB.out⟩
      · have hn2 : ((ts.length : Int) == 0) = false := by rw [beq_eq_false_iff_ne]; omega
        have hn3 : (0 : Int) < (ts.length : Int) := by omega
        go_enter Tryz.func136, Tryz.ntmps136
        go_wp2_with fail
        refine (HF.out _).mono ?_
        rintro e w1 ⟨rfl, hb⟩
        have HB := Lib.hid (HB.out.trans (hb.mono HB.out.size))
        replace c0 := (hb.cell hlt).trans c0
        replace c1 := (hb.cell (p := ⟨p.block, p.off + 1, none⟩) hlt).trans c1
        replace c2 := (hb.cell (p := ⟨p.block, p.off + 2, none⟩) hlt).trans c2
        replace c3 := (hb.cell (p := ⟨p.block, p.off + 3, none⟩) hlt).trans c3
        replace c4 := (hb.cell (p := ⟨p.block, p.off + 4, none⟩) hlt).trans c4
        replace hlt := Nat.lt_of_lt_of_le hlt hb.size
        clear hb
        go_wp2_with fail
        go_ret
        exact ⟨ret_bool (by rw [HQ.out]), HB.out⟩
theorem own_any (t : Trm) (p : Addr) (A : Option Addr) (cap : Nat) (w : World) (hP : PtM w p t A cap) : Calls Tryz.prog 136 #[.pointer (some p)] w fun e w' => e = .returned (.bool (ownM t.kind t.nam.data.toList t.vr.data.toList t.form.data.toList t.args.length)) ∧ Below w.heap.size w w' := by
  obtain ⟨k, a, v, f, ts⟩ := t
  dsimp only [Trm.kind, Trm.nam, Trm.vr, Trm.form, Trm.args]
  rw [← ByteArray.toList_eq, ← ByteArray.toList_eq, ← ByteArray.toList_eq]
  by_cases h1 : k = 1
  · subst h1; exact own_1 a v f ts p A cap w hP
  by_cases h2 : k = 2
  · subst h2; exact own_2 a v f ts p A cap w hP
  by_cases h3 : k = 3
  · subst h3; exact own_3 a v f ts p A cap w hP
  by_cases h4 : k = 4
  · subst h4; exact own_4 a v f ts p A cap w hP
  by_cases h5 : k = 5
  · subst h5; exact own_5 a v f ts p A cap w hP
  exact own_o k a v f ts p A cap w hP (beq_eq_false_iff_ne.2 h1) (beq_eq_false_iff_ne.2 h2) (beq_eq_false_iff_ne.2 h3) (beq_eq_false_iff_ne.2 h4) (beq_eq_false_iff_ne.2 h5)
end Go.Proofs.YthpioplpfmlgcaaGreatDoor.Sp
namespace Go.Proofs.YthpioplpfmlgcaaGreatDoor.Sp
open Go.Proofs.YthpioplpfmlgcaaGreatDoor.At
open Go.RowKit
end Go.Proofs.YthpioplpfmlgcaaGreatDoor.Sp
namespace Go.Proofs.YthpioplpfmlgcaaGreatDoor.Sp
open Go.Proofs.YthpioplpfmlgcaaGreatDoor.At
open Go.RowKit
end Go.Proofs.YthpioplpfmlgcaaGreatDoor.Sp
