/- The fields of a term: the reference. -/
import Derived.Test.YtpokelkneblafaaGreatDoorOW
namespace Go.Proofs.YtpokelkneblafaaGreatDoor
open Go.RowKit
set_option maxRecDepth 100000 in
set_option maxHeartbeats 800000 in
theorem prop_1 (a v f : ByteArray) (n : Nat) (A : Option Addr) (cap : Nat) (w : World) (ha : a.size ≤ 9223372036854775807) (hn : n ≤ 9223372036854775807) : Calls Tryz.prog 48 #[.agg (trmC 1 a v A n cap f)] w fun e w' => e = .returned (.bool (ownM 1 a.toList v.toList f.toList n)) ∧ Below w.heap.size w w' := by
  have HQ := Lib.hid (show ownM 1 a.toList v.toList f.toList n = ((v.toList.isEmpty && (f.toList.isEmpty && decide (n = 0))) && numP a.toList) from rfl)
  have HN := Lib.hid (fun w => rnumb_any a w ha)
  generalize numP a.toList = rr at *
  by_cases hn1 : n = 0
  · have hn2 : ((n : Int) == 0) = true := by rw [beq_iff_eq]; omega
    have hn3 : ¬ (0 : Int) < (n : Int) := by omega
    replace hn1 := Lib.hid hn1
    cases hv1 : v.toList.isEmpty
    · skip
      rw [hv1] at HQ
      go_enter Tryz.func48, Tryz.ntmps48
      go_wp2_with fail
      have K0 := Lib.hid (Blk.new w 25 (trmC 1 a v A n cap f))
      have HB := Lib.hid (bel_alloc w (.cells (trmC 1 a v A n cap f) 25))
      dsimp only [trmC] at K0 HB
      generalize w.alloc (.cells #[.int .i64 1, .string a, .string v, .slice A n cap, .string f] 25) = wz at *
      have c0 := K0.out.cell 0
      have c1 := K0.out.cell 1
      have c2 := K0.out.cell 2
      have c3 := K0.out.cell 3
      have c4 := K0.out.cell 4
      have hlt := K0.out.lt
      go_wp2_with fail
      go_ret
      exact ⟨ret_bool (by rw [HQ.out]; rfl), HB.out⟩
    · cases hf1 : f.toList.isEmpty
      · skip
        rw [hv1, hf1] at HQ
        go_enter Tryz.func48, Tryz.ntmps48
        go_wp2_with fail
        have K0 := Lib.hid (Blk.new w 25 (trmC 1 a v A n cap f))
        have HB := Lib.hid (bel_alloc w (.cells (trmC 1 a v A n cap f) 25))
        dsimp only [trmC] at K0 HB
        generalize w.alloc (.cells #[.int .i64 1, .string a, .string v, .slice A n cap, .string f] 25) = wz at *
        have c0 := K0.out.cell 0
        have c1 := K0.out.cell 1
        have c2 := K0.out.cell 2
        have c3 := K0.out.cell 3
        have c4 := K0.out.cell 4
        have hlt := K0.out.lt
        go_wp2_with fail
        go_ret
        exact ⟨ret_bool (by rw [HQ.out]; rfl), HB.out⟩
      · skip
        rw [hv1, hf1, decide_eq_true hn1.out, Bool.true_and, Bool.true_and, Bool.true_and] at HQ
        clear hn1
        go_enter Tryz.func48, Tryz.ntmps48
        go_wp2_with fail
        have K0 := Lib.hid (Blk.new w 25 (trmC 1 a v A n cap f))
        have HB := Lib.hid (bel_alloc w (.cells (trmC 1 a v A n cap f) 25))
        dsimp only [trmC] at K0 HB
        generalize w.alloc (.cells #[.int .i64 1, .string a, .string v, .slice A n cap, .string f] 25) = wz at *
        have c0 := K0.out.cell 0
        have c1 := K0.out.cell 1
        have c2 := K0.out.cell 2
        have c3 := K0.out.cell 3
        have c4 := K0.out.cell 4
        have hlt := K0.out.lt
        skip
        refine (HN.out _).mono ?_
        rintro e w1 ⟨rfl, hb⟩
        have HB := Lib.hid (HB.out.trans (hb.mono HB.out.size))
        replace c0 := (hb.cell (p := ⟨w.heap.size, 0, none⟩) hlt).trans c0
        replace c1 := (hb.cell (p := ⟨w.heap.size, 1, none⟩) hlt).trans c1
        replace c2 := (hb.cell (p := ⟨w.heap.size, 2, none⟩) hlt).trans c2
        replace c3 := (hb.cell (p := ⟨w.heap.size, 3, none⟩) hlt).trans c3
        replace c4 := (hb.cell (p := ⟨w.heap.size, 4, none⟩) hlt).trans c4
        replace hlt := Nat.lt_of_lt_of_le hlt hb.size
        clear hb
        go_wp2_with fail
        go_ret
        exact ⟨ret_bool (by rw [HQ.out]), HB.out⟩
  · have hn2 : ((n : Int) == 0) = false := by rw [beq_eq_false_iff_ne]; omega
    have hn3 : (0 : Int) < (n : Int) := by omega
    replace hn1 := Lib.hid hn1
    rw [decide_eq_false hn1.out, Bool.and_false, Bool.and_false] at HQ
    clear hn1
    go_enter Tryz.func48, Tryz.ntmps48
    go_wp2_with fail
    have K0 := Lib.hid (Blk.new w 25 (trmC 1 a v A n cap f))
    have HB := Lib.hid (bel_alloc w (.cells (trmC 1 a v A n cap f) 25))
    dsimp only [trmC] at K0 HB
    generalize w.alloc (.cells #[.int .i64 1, .string a, .string v, .slice A n cap, .string f] 25) = wz at *
    have c0 := K0.out.cell 0
    have c1 := K0.out.cell 1
    have c2 := K0.out.cell 2
    have c3 := K0.out.cell 3
    have c4 := K0.out.cell 4
    have hlt := K0.out.lt
    go_wp2_with fail
    go_ret
    exact ⟨ret_bool (by rw [HQ.out]; rfl), HB.out⟩
set_option maxRecDepth 100000 in
set_option maxHeartbeats 800000 in
theorem prop_2 (a v f : ByteArray) (n : Nat) (A : Option Addr) (cap : Nat) (w : World) (ha : a.size ≤ 9223372036854775807) (hn : n ≤ 9223372036854775807) : Calls Tryz.prog 48 #[.agg (trmC 2 a v A n cap f)] w fun e w' => e = .returned (.bool (ownM 2 a.toList v.toList f.toList n)) ∧ Below w.heap.size w w' := by
  have HQ := Lib.hid (show ownM 2 a.toList v.toList f.toList n = ((v.toList.isEmpty && (f.toList.isEmpty && decide (n = 0))) && idB a.toList) from rfl)
  have HN := Lib.hid (fun w => rident_any a w ha)
  generalize idB a.toList = rr at *
  by_cases hn1 : n = 0
  · have hn2 : ((n : Int) == 0) = true := by rw [beq_iff_eq]; omega
    have hn3 : ¬ (0 : Int) < (n : Int) := by omega
    replace hn1 := Lib.hid hn1
    cases hv1 : v.toList.isEmpty
    · skip
      rw [hv1] at HQ
      go_enter Tryz.func48, Tryz.ntmps48
      go_wp2_with fail
      have K0 := Lib.hid (Blk.new w 25 (trmC 2 a v A n cap f))
      have HB := Lib.hid (bel_alloc w (.cells (trmC 2 a v A n cap f) 25))
      dsimp only [trmC] at K0 HB
      generalize w.alloc (.cells #[.int .i64 2, .string a, .string v, .slice A n cap, .string f] 25) = wz at *
      have c0 := K0.out.cell 0
      have c1 := K0.out.cell 1
      have c2 := K0.out.cell 2
      have c3 := K0.out.cell 3
      have c4 := K0.out.cell 4
      have hlt := K0.out.lt
      go_wp2_with fail
      go_ret
      exact ⟨ret_bool (by rw [HQ.out]; rfl), HB.out⟩
    · cases hf1 : f.toList.isEmpty
      · skip
        rw [hv1, hf1] at HQ
        go_enter Tryz.func48, Tryz.ntmps48
        go_wp2_with fail
        have K0 := Lib.hid (Blk.new w 25 (trmC 2 a v A n cap f))
        have HB := Lib.hid (bel_alloc w (.cells (trmC 2 a v A n cap f) 25))
        dsimp only [trmC] at K0 HB
        generalize w.alloc (.cells #[.int .i64 2, .string a, .string v, .slice A n cap, .string f] 25) = wz at *
        have c0 := K0.out.cell 0
        have c1 := K0.out.cell 1
        have c2 := K0.out.cell 2
        have c3 := K0.out.cell 3
        have c4 := K0.out.cell 4
        have hlt := K0.out.lt
        go_wp2_with fail
        go_ret
        exact ⟨ret_bool (by rw [HQ.out]; rfl), HB.out⟩
      · skip
        rw [hv1, hf1, decide_eq_true hn1.out, Bool.true_and, Bool.true_and, Bool.true_and] at HQ
        clear hn1
        go_enter Tryz.func48, Tryz.ntmps48
        go_wp2_with fail
        have K0 := Lib.hid (Blk.new w 25 (trmC 2 a v A n cap f))
        have HB := Lib.hid (bel_alloc w (.cells (trmC 2 a v A n cap f) 25))
        dsimp only [trmC] at K0 HB
        generalize w.alloc (.cells #[.int .i64 2, .string a, .string v, .slice A n cap, .string f] 25) = wz at *
        have c0 := K0.out.cell 0
        have c1 := K0.out.cell 1
        have c2 := K0.out.cell 2
        have c3 := K0.out.cell 3
        have c4 := K0.out.cell 4
        have hlt := K0.out.lt
        skip
        refine (HN.out _).mono ?_
        rintro e w1 ⟨rfl, hb⟩
        have HB := Lib.hid (HB.out.trans (hb.mono HB.out.size))
        replace c0 := (hb.cell (p := ⟨w.heap.size, 0, none⟩) hlt).trans c0
        replace c1 := (hb.cell (p := ⟨w.heap.size, 1, none⟩) hlt).trans c1
        replace c2 := (hb.cell (p := ⟨w.heap.size, 2, none⟩) hlt).trans c2
        replace c3 := (hb.cell (p := ⟨w.heap.size, 3, none⟩) hlt).trans c3
        replace c4 := (hb.cell (p := ⟨w.heap.size, 4, none⟩) hlt).trans c4
        replace hlt := Nat.lt_of_lt_of_le hlt hb.size
        clear hb
        go_wp2_with fail
        go_ret
        exact ⟨ret_bool (by rw [HQ.out]), HB.out⟩
  · have hn2 : ((n : Int) == 0) = false := by rw [beq_eq_false_iff_ne]; omega
    have hn3 : (0 : Int) < (n : Int) := by omega
    replace hn1 := Lib.hid hn1
    rw [decide_eq_false hn1.out, Bool.and_false, Bool.and_false] at HQ
    clear hn1
    go_enter Tryz.func48, Tryz.ntmps48
    go_wp2_with fail
    have K0 := Lib.hid (Blk.new w 25 (trmC 2 a v A n cap f))
    have HB := Lib.hid (bel_alloc w (.cells (trmC 2 a v A n cap f) 25))
    dsimp only [trmC] at K0 HB
    generalize w.alloc (.cells #[.int .i64 2, .string a, .string v, .slice A n cap, .string f] 25) = wz at *
    have c0 := K0.out.cell 0
    have c1 := K0.out.cell 1
    have c2 := K0.out.cell 2
    have c3 := K0.out.cell 3
    have c4 := K0.out.cell 4
    have hlt := K0.out.lt
    go_wp2_with fail
    go_ret
    exact ⟨ret_bool (by rw [HQ.out]; rfl), HB.out⟩
set_option maxRecDepth 100000 in
set_option maxHeartbeats 800000 in
theorem prop_3 (a v f : ByteArray) (n : Nat) (A : Option Addr) (cap : Nat) (w : World) (ha : a.size ≤ 9223372036854775807) (hn : n ≤ 9223372036854775807) : Calls Tryz.prog 48 #[.agg (trmC 3 a v A n cap f)] w fun e w' => e = .returned (.bool (ownM 3 a.toList v.toList f.toList n)) ∧ Below w.heap.size w w' := by
  have HQ := Lib.hid (show ownM 3 a.toList v.toList f.toList n = ((v.toList.isEmpty && (f.toList.isEmpty && decide (n = 0))) && (prinL 32 a.toList && decide (a.toList.length ≤ 200))) from rfl)
  have HN := Lib.hid (fun w => rbetw_any a 32 200 w ha)
  generalize (prinL 32 a.toList && decide (a.toList.length ≤ 200)) = rr at *
  by_cases hn1 : n = 0
  · have hn2 : ((n : Int) == 0) = true := by rw [beq_iff_eq]; omega
    have hn3 : ¬ (0 : Int) < (n : Int) := by omega
    replace hn1 := Lib.hid hn1
    cases hv1 : v.toList.isEmpty
    · skip
      rw [hv1] at HQ
      go_enter Tryz.func48, Tryz.ntmps48
      go_wp2_with fail
      have K0 := Lib.hid (Blk.new w 25 (trmC 3 a v A n cap f))
      have HB := Lib.hid (bel_alloc w (.cells (trmC 3 a v A n cap f) 25))
      dsimp only [trmC] at K0 HB
      generalize w.alloc (.cells #[.int .i64 3, .string a, .string v, .slice A n cap, .string f] 25) = wz at *
      have c0 := K0.out.cell 0
      have c1 := K0.out.cell 1
      have c2 := K0.out.cell 2
      have c3 := K0.out.cell 3
      have c4 := K0.out.cell 4
      have hlt := K0.out.lt
      go_wp2_with fail
      go_ret
      exact ⟨ret_bool (by rw [HQ.out]; rfl), HB.out⟩
    · cases hf1 : f.toList.isEmpty
      · skip
        rw [hv1, hf1] at HQ
        go_enter Tryz.func48, Tryz.ntmps48
        go_wp2_with fail
        have K0 := Lib.hid (Blk.new w 25 (trmC 3 a v A n cap f))
        have HB := Lib.hid (bel_alloc w (.cells (trmC 3 a v A n cap f) 25))
        dsimp only [trmC] at K0 HB
        generalize w.alloc (.cells #[.int .i64 3, .string a, .string v, .slice A n cap, .string f] 25) = wz at *
        have c0 := K0.out.cell 0
        have c1 := K0.out.cell 1
        have c2 := K0.out.cell 2
        have c3 := K0.out.cell 3
        have c4 := K0.out.cell 4
        have hlt := K0.out.lt
        go_wp2_with fail
        go_ret
        exact ⟨ret_bool (by rw [HQ.out]; rfl), HB.out⟩
      · skip
        rw [hv1, hf1, decide_eq_true hn1.out, Bool.true_and, Bool.true_and, Bool.true_and] at HQ
        clear hn1
        go_enter Tryz.func48, Tryz.ntmps48
        go_wp2_with fail
        have K0 := Lib.hid (Blk.new w 25 (trmC 3 a v A n cap f))
        have HB := Lib.hid (bel_alloc w (.cells (trmC 3 a v A n cap f) 25))
        dsimp only [trmC] at K0 HB
        generalize w.alloc (.cells #[.int .i64 3, .string a, .string v, .slice A n cap, .string f] 25) = wz at *
        have c0 := K0.out.cell 0
        have c1 := K0.out.cell 1
        have c2 := K0.out.cell 2
        have c3 := K0.out.cell 3
        have c4 := K0.out.cell 4
        have hlt := K0.out.lt
        skip
        refine (HN.out _).mono ?_
        rintro e w1 ⟨rfl, hb⟩
        have HB := Lib.hid (HB.out.trans (hb.mono HB.out.size))
        replace c0 := (hb.cell (p := ⟨w.heap.size, 0, none⟩) hlt).trans c0
        replace c1 := (hb.cell (p := ⟨w.heap.size, 1, none⟩) hlt).trans c1
        replace c2 := (hb.cell (p := ⟨w.heap.size, 2, none⟩) hlt).trans c2
        replace c3 := (hb.cell (p := ⟨w.heap.size, 3, none⟩) hlt).trans c3
        replace c4 := (hb.cell (p := ⟨w.heap.size, 4, none⟩) hlt).trans c4
        replace hlt := Nat.lt_of_lt_of_le hlt hb.size
        clear hb
        go_wp2_with fail
        go_ret
        exact ⟨ret_bool (by rw [HQ.out]), HB.out⟩
  · have hn2 : ((n : Int) == 0) = false := by rw [beq_eq_false_iff_ne]; omega
    have hn3 : (0 : Int) < (n : Int) := by omega
    replace hn1 := Lib.hid hn1
    rw [decide_eq_false hn1.out, Bool.and_false, Bool.and_false] at HQ
    clear hn1
    go_enter Tryz.func48, Tryz.ntmps48
    go_wp2_with fail
    have K0 := Lib.hid (Blk.new w 25 (trmC 3 a v A n cap f))
    have HB := Lib.hid (bel_alloc w (.cells (trmC 3 a v A n cap f) 25))
    dsimp only [trmC] at K0 HB
    generalize w.alloc (.cells #[.int .i64 3, .string a, .string v, .slice A n cap, .string f] 25) = wz at *
    have c0 := K0.out.cell 0
    have c1 := K0.out.cell 1
    have c2 := K0.out.cell 2
    have c3 := K0.out.cell 3
    have c4 := K0.out.cell 4
    have hlt := K0.out.lt
    go_wp2_with fail
    go_ret
    exact ⟨ret_bool (by rw [HQ.out]; rfl), HB.out⟩
set_option maxRecDepth 100000 in
set_option maxHeartbeats 800000 in
theorem prop_4 (a v f : ByteArray) (n : Nat) (A : Option Addr) (cap : Nat) (w : World) (ha : a.size ≤ 9223372036854775807) (hf : f.size ≤ 9223372036854775807) (hn : n ≤ 9223372036854775807) : Calls Tryz.prog 48 #[.agg (trmC 4 a v A n cap f)] w fun e w' => e = .returned (.bool (ownM 4 a.toList v.toList f.toList n)) ∧ Below w.heap.size w w' := by
  have HQ := Lib.hid (show ownM 4 a.toList v.toList f.toList n = ((prinL 33 f.toList && decide (f.toList.length ≤ 16)) && (namedB a.toList && v.toList.isEmpty)) from rfl)
  have HN := Lib.hid (fun w => ropr_any a w ha)
  have HF := Lib.hid (fun w => rbetw_any f 33 16 w hf)
  generalize (prinL 33 f.toList && decide (f.toList.length ≤ 16)) = fm at *
  generalize namedB a.toList = nm at *
  by_cases hn1 : n = 0
  · have hn2 : ((n : Int) == 0) = true := by rw [beq_iff_eq]; omega
    have hn3 : ¬ (0 : Int) < (n : Int) := by omega
    replace hn1 := Lib.hid hn1
    cases hv1 : v.toList.isEmpty
    · skip
      rw [hv1] at HQ
      go_enter Tryz.func48, Tryz.ntmps48
      go_wp2_with fail
      have K0 := Lib.hid (Blk.new w 25 (trmC 4 a v A n cap f))
      have HB := Lib.hid (bel_alloc w (.cells (trmC 4 a v A n cap f) 25))
      dsimp only [trmC] at K0 HB
      generalize w.alloc (.cells #[.int .i64 4, .string a, .string v, .slice A n cap, .string f] 25) = wz at *
      have c0 := K0.out.cell 0
      have c1 := K0.out.cell 1
      have c2 := K0.out.cell 2
      have c3 := K0.out.cell 3
      have c4 := K0.out.cell 4
      have hlt := K0.out.lt
      refine (HN.out _).mono ?_
      rintro e w1 ⟨rfl, hb⟩
      have HB := Lib.hid (HB.out.trans (hb.mono HB.out.size))
      replace c0 := (hb.cell (p := ⟨w.heap.size, 0, none⟩) hlt).trans c0
      replace c1 := (hb.cell (p := ⟨w.heap.size, 1, none⟩) hlt).trans c1
      replace c2 := (hb.cell (p := ⟨w.heap.size, 2, none⟩) hlt).trans c2
      replace c3 := (hb.cell (p := ⟨w.heap.size, 3, none⟩) hlt).trans c3
      replace c4 := (hb.cell (p := ⟨w.heap.size, 4, none⟩) hlt).trans c4
      replace hlt := Nat.lt_of_lt_of_le hlt hb.size
      clear hb
      cases nm
      · go_wp2_with fail
        go_ret
        exact ⟨ret_bool (by rw [HQ.out]; cases fm <;> rfl), HB.out⟩
      · go_wp2_with fail
        go_ret
        exact ⟨ret_bool (by rw [HQ.out]; cases fm <;> rfl), HB.out⟩
    · cases hf1 : f.toList.isEmpty
      · skip
        rw [hv1] at HQ
        go_enter Tryz.func48, Tryz.ntmps48
        go_wp2_with fail
        have K0 := Lib.hid (Blk.new w 25 (trmC 4 a v A n cap f))
        have HB := Lib.hid (bel_alloc w (.cells (trmC 4 a v A n cap f) 25))
        dsimp only [trmC] at K0 HB
        generalize w.alloc (.cells #[.int .i64 4, .string a, .string v, .slice A n cap, .string f] 25) = wz at *
        have c0 := K0.out.cell 0
        have c1 := K0.out.cell 1
        have c2 := K0.out.cell 2
        have c3 := K0.out.cell 3
        have c4 := K0.out.cell 4
        have hlt := K0.out.lt
        refine (HN.out _).mono ?_
        rintro e w1 ⟨rfl, hb⟩
        have HB := Lib.hid (HB.out.trans (hb.mono HB.out.size))
        replace c0 := (hb.cell (p := ⟨w.heap.size, 0, none⟩) hlt).trans c0
        replace c1 := (hb.cell (p := ⟨w.heap.size, 1, none⟩) hlt).trans c1
        replace c2 := (hb.cell (p := ⟨w.heap.size, 2, none⟩) hlt).trans c2
        replace c3 := (hb.cell (p := ⟨w.heap.size, 3, none⟩) hlt).trans c3
        replace c4 := (hb.cell (p := ⟨w.heap.size, 4, none⟩) hlt).trans c4
        replace hlt := Nat.lt_of_lt_of_le hlt hb.size
        clear hb
        cases nm
        · go_wp2_with fail
          go_ret
          exact ⟨ret_bool (by rw [HQ.out]; cases fm <;> rfl), HB.out⟩
        · go_wp2_with fail
          refine (HF.out _).mono ?_
          rintro e w1 ⟨rfl, hb⟩
          have HB := Lib.hid (HB.out.trans (hb.mono HB.out.size))
          replace c0 := (hb.cell (p := ⟨w.heap.size, 0, none⟩) hlt).trans c0
          replace c1 := (hb.cell (p := ⟨w.heap.size, 1, none⟩) hlt).trans c1
          replace c2 := (hb.cell (p := ⟨w.heap.size, 2, none⟩) hlt).trans c2
          replace c3 := (hb.cell (p := ⟨w.heap.size, 3, none⟩) hlt).trans c3
          replace c4 := (hb.cell (p := ⟨w.heap.size, 4, none⟩) hlt).trans c4
          replace hlt := Nat.lt_of_lt_of_le hlt hb.size
          clear hb
          go_wp2_with fail
          go_ret
          exact ⟨ret_bool (by rw [HQ.out]; cases fm <;> rfl), HB.out⟩
      · skip
        rw [hv1] at HQ
        go_enter Tryz.func48, Tryz.ntmps48
        go_wp2_with fail
        have K0 := Lib.hid (Blk.new w 25 (trmC 4 a v A n cap f))
        have HB := Lib.hid (bel_alloc w (.cells (trmC 4 a v A n cap f) 25))
        dsimp only [trmC] at K0 HB
        generalize w.alloc (.cells #[.int .i64 4, .string a, .string v, .slice A n cap, .string f] 25) = wz at *
        have c0 := K0.out.cell 0
        have c1 := K0.out.cell 1
        have c2 := K0.out.cell 2
        have c3 := K0.out.cell 3
        have c4 := K0.out.cell 4
        have hlt := K0.out.lt
        refine (HN.out _).mono ?_
        rintro e w1 ⟨rfl, hb⟩
        have HB := Lib.hid (HB.out.trans (hb.mono HB.out.size))
        replace c0 := (hb.cell (p := ⟨w.heap.size, 0, none⟩) hlt).trans c0
        replace c1 := (hb.cell (p := ⟨w.heap.size, 1, none⟩) hlt).trans c1
        replace c2 := (hb.cell (p := ⟨w.heap.size, 2, none⟩) hlt).trans c2
        replace c3 := (hb.cell (p := ⟨w.heap.size, 3, none⟩) hlt).trans c3
        replace c4 := (hb.cell (p := ⟨w.heap.size, 4, none⟩) hlt).trans c4
        replace hlt := Nat.lt_of_lt_of_le hlt hb.size
        clear hb
        cases nm
        · go_wp2_with fail
          go_ret
          exact ⟨ret_bool (by rw [HQ.out]; cases fm <;> rfl), HB.out⟩
        · go_wp2_with fail
          refine (HF.out _).mono ?_
          rintro e w1 ⟨rfl, hb⟩
          have HB := Lib.hid (HB.out.trans (hb.mono HB.out.size))
          replace c0 := (hb.cell (p := ⟨w.heap.size, 0, none⟩) hlt).trans c0
          replace c1 := (hb.cell (p := ⟨w.heap.size, 1, none⟩) hlt).trans c1
          replace c2 := (hb.cell (p := ⟨w.heap.size, 2, none⟩) hlt).trans c2
          replace c3 := (hb.cell (p := ⟨w.heap.size, 3, none⟩) hlt).trans c3
          replace c4 := (hb.cell (p := ⟨w.heap.size, 4, none⟩) hlt).trans c4
          replace hlt := Nat.lt_of_lt_of_le hlt hb.size
          clear hb
          go_wp2_with fail
          go_ret
          exact ⟨ret_bool (by rw [HQ.out]; cases fm <;> rfl), HB.out⟩
  · have hn2 : ((n : Int) == 0) = false := by rw [beq_eq_false_iff_ne]; omega
    have hn3 : (0 : Int) < (n : Int) := by omega
    replace hn1 := Lib.hid hn1
    cases hv1 : v.toList.isEmpty
    · skip
      rw [hv1] at HQ
      go_enter Tryz.func48, Tryz.ntmps48
      go_wp2_with fail
      have K0 := Lib.hid (Blk.new w 25 (trmC 4 a v A n cap f))
      have HB := Lib.hid (bel_alloc w (.cells (trmC 4 a v A n cap f) 25))
      dsimp only [trmC] at K0 HB
      generalize w.alloc (.cells #[.int .i64 4, .string a, .string v, .slice A n cap, .string f] 25) = wz at *
      have c0 := K0.out.cell 0
      have c1 := K0.out.cell 1
      have c2 := K0.out.cell 2
      have c3 := K0.out.cell 3
      have c4 := K0.out.cell 4
      have hlt := K0.out.lt
      refine (HN.out _).mono ?_
      rintro e w1 ⟨rfl, hb⟩
      have HB := Lib.hid (HB.out.trans (hb.mono HB.out.size))
      replace c0 := (hb.cell (p := ⟨w.heap.size, 0, none⟩) hlt).trans c0
      replace c1 := (hb.cell (p := ⟨w.heap.size, 1, none⟩) hlt).trans c1
      replace c2 := (hb.cell (p := ⟨w.heap.size, 2, none⟩) hlt).trans c2
      replace c3 := (hb.cell (p := ⟨w.heap.size, 3, none⟩) hlt).trans c3
      replace c4 := (hb.cell (p := ⟨w.heap.size, 4, none⟩) hlt).trans c4
      replace hlt := Nat.lt_of_lt_of_le hlt hb.size
      clear hb
      cases nm
      · go_wp2_with fail
        go_ret
        exact ⟨ret_bool (by rw [HQ.out]; cases fm <;> rfl), HB.out⟩
      · go_wp2_with fail
        go_ret
        exact ⟨ret_bool (by rw [HQ.out]; cases fm <;> rfl), HB.out⟩
    · skip
      rw [hv1] at HQ
      go_enter Tryz.func48, Tryz.ntmps48
      go_wp2_with fail
      have K0 := Lib.hid (Blk.new w 25 (trmC 4 a v A n cap f))
      have HB := Lib.hid (bel_alloc w (.cells (trmC 4 a v A n cap f) 25))
      dsimp only [trmC] at K0 HB
      generalize w.alloc (.cells #[.int .i64 4, .string a, .string v, .slice A n cap, .string f] 25) = wz at *
      have c0 := K0.out.cell 0
      have c1 := K0.out.cell 1
      have c2 := K0.out.cell 2
      have c3 := K0.out.cell 3
      have c4 := K0.out.cell 4
      have hlt := K0.out.lt
      refine (HN.out _).mono ?_
      rintro e w1 ⟨rfl, hb⟩
      have HB := Lib.hid (HB.out.trans (hb.mono HB.out.size))
      replace c0 := (hb.cell (p := ⟨w.heap.size, 0, none⟩) hlt).trans c0
      replace c1 := (hb.cell (p := ⟨w.heap.size, 1, none⟩) hlt).trans c1
      replace c2 := (hb.cell (p := ⟨w.heap.size, 2, none⟩) hlt).trans c2
      replace c3 := (hb.cell (p := ⟨w.heap.size, 3, none⟩) hlt).trans c3
      replace c4 := (hb.cell (p := ⟨w.heap.size, 4, none⟩) hlt).trans c4
      replace hlt := Nat.lt_of_lt_of_le hlt hb.size
      clear hb
      cases nm
      · go_wp2_with fail
        go_ret
        exact ⟨ret_bool (by rw [HQ.out]; cases fm <;> rfl), HB.out⟩
      · go_wp2_with fail
        refine (HF.out _).mono ?_
        rintro e w1 ⟨rfl, hb⟩
        have HB := Lib.hid (HB.out.trans (hb.mono HB.out.size))
        replace c0 := (hb.cell (p := ⟨w.heap.size, 0, none⟩) hlt).trans c0
        replace c1 := (hb.cell (p := ⟨w.heap.size, 1, none⟩) hlt).trans c1
        replace c2 := (hb.cell (p := ⟨w.heap.size, 2, none⟩) hlt).trans c2
        replace c3 := (hb.cell (p := ⟨w.heap.size, 3, none⟩) hlt).trans c3
        replace c4 := (hb.cell (p := ⟨w.heap.size, 4, none⟩) hlt).trans c4
        replace hlt := Nat.lt_of_lt_of_le hlt hb.size
        clear hb
        go_wp2_with fail
        go_ret
        exact ⟨ret_bool (by rw [HQ.out]; cases fm <;> rfl), HB.out⟩
set_option maxRecDepth 100000 in
set_option maxHeartbeats 800000 in
theorem prop_5 (a v f : ByteArray) (n : Nat) (A : Option Addr) (cap : Nat) (w : World) (ha : a.size ≤ 9223372036854775807) (hv : v.size ≤ 9223372036854775807) (hf : f.size ≤ 9223372036854775807) (hn : n ≤ 9223372036854775807) : Calls Tryz.prog 48 #[.agg (trmC 5 a v A n cap f)] w fun e w' => e = .returned (.bool (ownM 5 a.toList v.toList f.toList n)) ∧ Below w.heap.size w w' := by
  have HQ := Lib.hid (show ownM 5 a.toList v.toList f.toList n = ((prinL 33 f.toList && decide (f.toList.length ≤ 16)) && (namedB a.toList && (idB v.toList && decide (0 < n)))) from rfl)
  have HN := Lib.hid (fun w => ropr_any a w ha)
  have HI := Lib.hid (fun w => rident_any v w hv)
  have HF := Lib.hid (fun w => rbetw_any f 33 16 w hf)
  generalize (prinL 33 f.toList && decide (f.toList.length ≤ 16)) = fm at *
  generalize namedB a.toList = nm at *
  generalize idB v.toList = ii at *
  by_cases hn1 : n = 0
  · have hn2 : ((n : Int) == 0) = true := by rw [beq_iff_eq]; omega
    have hn3 : ¬ (0 : Int) < (n : Int) := by omega
    replace hn1 := Lib.hid hn1
    cases hv1 : v.toList.isEmpty
    · skip
      rw [show decide (0 < n) = false by rw [decide_eq_false (by omega)]] at HQ
      go_enter Tryz.func48, Tryz.ntmps48
      go_wp2_with fail
      have K0 := Lib.hid (Blk.new w 25 (trmC 5 a v A n cap f))
      have HB := Lib.hid (bel_alloc w (.cells (trmC 5 a v A n cap f) 25))
      dsimp only [trmC] at K0 HB
      generalize w.alloc (.cells #[.int .i64 5, .string a, .string v, .slice A n cap, .string f] 25) = wz at *
      have c0 := K0.out.cell 0
      have c1 := K0.out.cell 1
      have c2 := K0.out.cell 2
      have c3 := K0.out.cell 3
      have c4 := K0.out.cell 4
      have hlt := K0.out.lt
      refine (HN.out _).mono ?_
      rintro e w1 ⟨rfl, hb⟩
      have HB := Lib.hid (HB.out.trans (hb.mono HB.out.size))
      replace c0 := (hb.cell (p := ⟨w.heap.size, 0, none⟩) hlt).trans c0
      replace c1 := (hb.cell (p := ⟨w.heap.size, 1, none⟩) hlt).trans c1
      replace c2 := (hb.cell (p := ⟨w.heap.size, 2, none⟩) hlt).trans c2
      replace c3 := (hb.cell (p := ⟨w.heap.size, 3, none⟩) hlt).trans c3
      replace c4 := (hb.cell (p := ⟨w.heap.size, 4, none⟩) hlt).trans c4
      replace hlt := Nat.lt_of_lt_of_le hlt hb.size
      clear hb
      cases nm
      · go_wp2_with fail
        go_ret
        exact ⟨ret_bool (by rw [HQ.out]; cases fm <;> rfl), HB.out⟩
      · go_wp2_with fail
        refine (HI.out _).mono ?_
        rintro e w1 ⟨rfl, hb⟩
        have HB := Lib.hid (HB.out.trans (hb.mono HB.out.size))
        replace c0 := (hb.cell (p := ⟨w.heap.size, 0, none⟩) hlt).trans c0
        replace c1 := (hb.cell (p := ⟨w.heap.size, 1, none⟩) hlt).trans c1
        replace c2 := (hb.cell (p := ⟨w.heap.size, 2, none⟩) hlt).trans c2
        replace c3 := (hb.cell (p := ⟨w.heap.size, 3, none⟩) hlt).trans c3
        replace c4 := (hb.cell (p := ⟨w.heap.size, 4, none⟩) hlt).trans c4
        replace hlt := Nat.lt_of_lt_of_le hlt hb.size
        clear hb
        cases ii
        · go_wp2_with fail
          go_ret
          exact ⟨ret_bool (by rw [HQ.out]; cases fm <;> rfl), HB.out⟩
        · go_wp2_with fail
          refine (HF.out _).mono ?_
          rintro e w1 ⟨rfl, hb⟩
          have HB := Lib.hid (HB.out.trans (hb.mono HB.out.size))
          replace c0 := (hb.cell (p := ⟨w.heap.size, 0, none⟩) hlt).trans c0
          replace c1 := (hb.cell (p := ⟨w.heap.size, 1, none⟩) hlt).trans c1
          replace c2 := (hb.cell (p := ⟨w.heap.size, 2, none⟩) hlt).trans c2
          replace c3 := (hb.cell (p := ⟨w.heap.size, 3, none⟩) hlt).trans c3
          replace c4 := (hb.cell (p := ⟨w.heap.size, 4, none⟩) hlt).trans c4
          replace hlt := Nat.lt_of_lt_of_le hlt hb.size
          clear hb
          cases fm
          · go_wp2_with fail
            go_ret
            exact ⟨ret_bool (by rw [HQ.out]; rfl), HB.out⟩
          · go_wp2_with fail
            go_ret
            exact ⟨ret_bool (by rw [HQ.out]; first | rfl | (simp; omega)), HB.out⟩
    · cases hf1 : f.toList.isEmpty
      · skip
        rw [show decide (0 < n) = false by rw [decide_eq_false (by omega)]] at HQ
        go_enter Tryz.func48, Tryz.ntmps48
        go_wp2_with fail
        have K0 := Lib.hid (Blk.new w 25 (trmC 5 a v A n cap f))
        have HB := Lib.hid (bel_alloc w (.cells (trmC 5 a v A n cap f) 25))
        dsimp only [trmC] at K0 HB
        generalize w.alloc (.cells #[.int .i64 5, .string a, .string v, .slice A n cap, .string f] 25) = wz at *
        have c0 := K0.out.cell 0
        have c1 := K0.out.cell 1
        have c2 := K0.out.cell 2
        have c3 := K0.out.cell 3
        have c4 := K0.out.cell 4
        have hlt := K0.out.lt
        refine (HN.out _).mono ?_
        rintro e w1 ⟨rfl, hb⟩
        have HB := Lib.hid (HB.out.trans (hb.mono HB.out.size))
        replace c0 := (hb.cell (p := ⟨w.heap.size, 0, none⟩) hlt).trans c0
        replace c1 := (hb.cell (p := ⟨w.heap.size, 1, none⟩) hlt).trans c1
        replace c2 := (hb.cell (p := ⟨w.heap.size, 2, none⟩) hlt).trans c2
        replace c3 := (hb.cell (p := ⟨w.heap.size, 3, none⟩) hlt).trans c3
        replace c4 := (hb.cell (p := ⟨w.heap.size, 4, none⟩) hlt).trans c4
        replace hlt := Nat.lt_of_lt_of_le hlt hb.size
        clear hb
        cases nm
        · go_wp2_with fail
          go_ret
          exact ⟨ret_bool (by rw [HQ.out]; cases fm <;> rfl), HB.out⟩
        · go_wp2_with fail
          refine (HI.out _).mono ?_
          rintro e w1 ⟨rfl, hb⟩
          have HB := Lib.hid (HB.out.trans (hb.mono HB.out.size))
          replace c0 := (hb.cell (p := ⟨w.heap.size, 0, none⟩) hlt).trans c0
          replace c1 := (hb.cell (p := ⟨w.heap.size, 1, none⟩) hlt).trans c1
          replace c2 := (hb.cell (p := ⟨w.heap.size, 2, none⟩) hlt).trans c2
          replace c3 := (hb.cell (p := ⟨w.heap.size, 3, none⟩) hlt).trans c3
          replace c4 := (hb.cell (p := ⟨w.heap.size, 4, none⟩) hlt).trans c4
          replace hlt := Nat.lt_of_lt_of_le hlt hb.size
          clear hb
          cases ii
          · go_wp2_with fail
            go_ret
            exact ⟨ret_bool (by rw [HQ.out]; cases fm <;> rfl), HB.out⟩
          · go_wp2_with fail
            refine (HF.out _).mono ?_
            rintro e w1 ⟨rfl, hb⟩
            have HB := Lib.hid (HB.out.trans (hb.mono HB.out.size))
            replace c0 := (hb.cell (p := ⟨w.heap.size, 0, none⟩) hlt).trans c0
            replace c1 := (hb.cell (p := ⟨w.heap.size, 1, none⟩) hlt).trans c1
            replace c2 := (hb.cell (p := ⟨w.heap.size, 2, none⟩) hlt).trans c2
            replace c3 := (hb.cell (p := ⟨w.heap.size, 3, none⟩) hlt).trans c3
            replace c4 := (hb.cell (p := ⟨w.heap.size, 4, none⟩) hlt).trans c4
            replace hlt := Nat.lt_of_lt_of_le hlt hb.size
            clear hb
            cases fm
            · go_wp2_with fail
              go_ret
              exact ⟨ret_bool (by rw [HQ.out]; rfl), HB.out⟩
            · go_wp2_with fail
              go_ret
              exact ⟨ret_bool (by rw [HQ.out]; first | rfl | (simp; omega)), HB.out⟩
      · skip
        rw [show decide (0 < n) = false by rw [decide_eq_false (by omega)]] at HQ
        go_enter Tryz.func48, Tryz.ntmps48
        go_wp2_with fail
        have K0 := Lib.hid (Blk.new w 25 (trmC 5 a v A n cap f))
        have HB := Lib.hid (bel_alloc w (.cells (trmC 5 a v A n cap f) 25))
        dsimp only [trmC] at K0 HB
        generalize w.alloc (.cells #[.int .i64 5, .string a, .string v, .slice A n cap, .string f] 25) = wz at *
        have c0 := K0.out.cell 0
        have c1 := K0.out.cell 1
        have c2 := K0.out.cell 2
        have c3 := K0.out.cell 3
        have c4 := K0.out.cell 4
        have hlt := K0.out.lt
        refine (HN.out _).mono ?_
        rintro e w1 ⟨rfl, hb⟩
        have HB := Lib.hid (HB.out.trans (hb.mono HB.out.size))
        replace c0 := (hb.cell (p := ⟨w.heap.size, 0, none⟩) hlt).trans c0
        replace c1 := (hb.cell (p := ⟨w.heap.size, 1, none⟩) hlt).trans c1
        replace c2 := (hb.cell (p := ⟨w.heap.size, 2, none⟩) hlt).trans c2
        replace c3 := (hb.cell (p := ⟨w.heap.size, 3, none⟩) hlt).trans c3
        replace c4 := (hb.cell (p := ⟨w.heap.size, 4, none⟩) hlt).trans c4
        replace hlt := Nat.lt_of_lt_of_le hlt hb.size
        clear hb
        cases nm
        · go_wp2_with fail
          go_ret
          exact ⟨ret_bool (by rw [HQ.out]; cases fm <;> rfl), HB.out⟩
        · go_wp2_with fail
          refine (HI.out _).mono ?_
          rintro e w1 ⟨rfl, hb⟩
          have HB := Lib.hid (HB.out.trans (hb.mono HB.out.size))
          replace c0 := (hb.cell (p := ⟨w.heap.size, 0, none⟩) hlt).trans c0
          replace c1 := (hb.cell (p := ⟨w.heap.size, 1, none⟩) hlt).trans c1
          replace c2 := (hb.cell (p := ⟨w.heap.size, 2, none⟩) hlt).trans c2
          replace c3 := (hb.cell (p := ⟨w.heap.size, 3, none⟩) hlt).trans c3
          replace c4 := (hb.cell (p := ⟨w.heap.size, 4, none⟩) hlt).trans c4
          replace hlt := Nat.lt_of_lt_of_le hlt hb.size
          clear hb
          cases ii
          · go_wp2_with fail
            go_ret
            exact ⟨ret_bool (by rw [HQ.out]; cases fm <;> rfl), HB.out⟩
          · go_wp2_with fail
            refine (HF.out _).mono ?_
            rintro e w1 ⟨rfl, hb⟩
            have HB := Lib.hid (HB.out.trans (hb.mono HB.out.size))
            replace c0 := (hb.cell (p := ⟨w.heap.size, 0, none⟩) hlt).trans c0
            replace c1 := (hb.cell (p := ⟨w.heap.size, 1, none⟩) hlt).trans c1
            replace c2 := (hb.cell (p := ⟨w.heap.size, 2, none⟩) hlt).trans c2
            replace c3 := (hb.cell (p := ⟨w.heap.size, 3, none⟩) hlt).trans c3
            replace c4 := (hb.cell (p := ⟨w.heap.size, 4, none⟩) hlt).trans c4
            replace hlt := Nat.lt_of_lt_of_le hlt hb.size
            clear hb
            cases fm
            · go_wp2_with fail
              go_ret
              exact ⟨ret_bool (by rw [HQ.out]; rfl), HB.out⟩
            · go_wp2_with fail
              go_ret
              exact ⟨ret_bool (by rw [HQ.out]; first | rfl | (simp; omega)), HB.out⟩
  · have hn2 : ((n : Int) == 0) = false := by rw [beq_eq_false_iff_ne]; omega
    have hn3 : (0 : Int) < (n : Int) := by omega
    replace hn1 := Lib.hid hn1
    rw [show decide (0 < n) = true by rw [decide_eq_true (by omega)]] at HQ
    go_enter Tryz.func48, Tryz.ntmps48
    go_wp2_with fail
    have K0 := Lib.hid (Blk.new w 25 (trmC 5 a v A n cap f))
    have HB := Lib.hid (bel_alloc w (.cells (trmC 5 a v A n cap f) 25))
    dsimp only [trmC] at K0 HB
    generalize w.alloc (.cells #[.int .i64 5, .string a, .string v, .slice A n cap, .string f] 25) = wz at *
    have c0 := K0.out.cell 0
    have c1 := K0.out.cell 1
    have c2 := K0.out.cell 2
    have c3 := K0.out.cell 3
    have c4 := K0.out.cell 4
    have hlt := K0.out.lt
    refine (HN.out _).mono ?_
    rintro e w1 ⟨rfl, hb⟩
    have HB := Lib.hid (HB.out.trans (hb.mono HB.out.size))
    replace c0 := (hb.cell (p := ⟨w.heap.size, 0, none⟩) hlt).trans c0
    replace c1 := (hb.cell (p := ⟨w.heap.size, 1, none⟩) hlt).trans c1
    replace c2 := (hb.cell (p := ⟨w.heap.size, 2, none⟩) hlt).trans c2
    replace c3 := (hb.cell (p := ⟨w.heap.size, 3, none⟩) hlt).trans c3
    replace c4 := (hb.cell (p := ⟨w.heap.size, 4, none⟩) hlt).trans c4
    replace hlt := Nat.lt_of_lt_of_le hlt hb.size
    clear hb
    cases nm
    · go_wp2_with fail
      go_ret
      exact ⟨ret_bool (by rw [HQ.out]; cases fm <;> rfl), HB.out⟩
    · go_wp2_with fail
      refine (HI.out _).mono ?_
      rintro e w1 ⟨rfl, hb⟩
      have HB := Lib.hid (HB.out.trans (hb.mono HB.out.size))
      replace c0 := (hb.cell (p := ⟨w.heap.size, 0, none⟩) hlt).trans c0
      replace c1 := (hb.cell (p := ⟨w.heap.size, 1, none⟩) hlt).trans c1
      replace c2 := (hb.cell (p := ⟨w.heap.size, 2, none⟩) hlt).trans c2
      replace c3 := (hb.cell (p := ⟨w.heap.size, 3, none⟩) hlt).trans c3
      replace c4 := (hb.cell (p := ⟨w.heap.size, 4, none⟩) hlt).trans c4
      replace hlt := Nat.lt_of_lt_of_le hlt hb.size
      clear hb
      cases ii
      · go_wp2_with fail
        go_ret
        exact ⟨ret_bool (by rw [HQ.out]; cases fm <;> rfl), HB.out⟩
      · go_wp2_with fail
        refine (HF.out _).mono ?_
        rintro e w1 ⟨rfl, hb⟩
        have HB := Lib.hid (HB.out.trans (hb.mono HB.out.size))
        replace c0 := (hb.cell (p := ⟨w.heap.size, 0, none⟩) hlt).trans c0
        replace c1 := (hb.cell (p := ⟨w.heap.size, 1, none⟩) hlt).trans c1
        replace c2 := (hb.cell (p := ⟨w.heap.size, 2, none⟩) hlt).trans c2
        replace c3 := (hb.cell (p := ⟨w.heap.size, 3, none⟩) hlt).trans c3
        replace c4 := (hb.cell (p := ⟨w.heap.size, 4, none⟩) hlt).trans c4
        replace hlt := Nat.lt_of_lt_of_le hlt hb.size
        clear hb
        cases fm
        · go_wp2_with fail
          go_ret
          exact ⟨ret_bool (by rw [HQ.out]; rfl), HB.out⟩
        · go_wp2_with fail
          go_ret
          exact ⟨ret_bool (by rw [HQ.out]; first | rfl | (simp; omega)), HB.out⟩
set_option maxRecDepth 100000 in
set_option maxHeartbeats 800000 in
theorem prop_o (k : Int) (a v f : ByteArray) (n : Nat) (A : Option Addr) (cap : Nat) (w : World) (hn : n ≤ 9223372036854775807) (h1 : (k == 1) = false) (h2 : (k == 2) = false) (h3 : (k == 3) = false) (h4 : (k == 4) = false) (h5 : (k == 5) = false) : Calls Tryz.prog 48 #[.agg (trmC k a v A n cap f)] w fun e w' => e = .returned (.bool (ownM k a.toList v.toList f.toList n)) ∧ Below w.heap.size w w' := by
  have HQ := Lib.hid (show ownM k a.toList v.toList f.toList n = false by unfold ownM; rw [if_neg (beq_eq_false_iff_ne.1 h1), if_neg (beq_eq_false_iff_ne.1 h2), if_neg (beq_eq_false_iff_ne.1 h3), if_neg (beq_eq_false_iff_ne.1 h4), if_neg (beq_eq_false_iff_ne.1 h5)])
  by_cases hn1 : n = 0
  · have hn2 : ((n : Int) == 0) = true := by rw [beq_iff_eq]; omega
    have hn3 : ¬ (0 : Int) < (n : Int) := by omega
    replace hn1 := Lib.hid hn1
    cases hv1 : v.toList.isEmpty
    · skip
      go_enter Tryz.func48, Tryz.ntmps48
      go_wp2_with fail
      have K0 := Lib.hid (Blk.new w 25 (trmC k a v A n cap f))
      have HB := Lib.hid (bel_alloc w (.cells (trmC k a v A n cap f) 25))
      dsimp only [trmC] at K0 HB
      generalize w.alloc (.cells #[.int .i64 k, .string a, .string v, .slice A n cap, .string f] 25) = wz at *
      have c0 := K0.out.cell 0
      have c1 := K0.out.cell 1
      have c2 := K0.out.cell 2
      have c3 := K0.out.cell 3
      have c4 := K0.out.cell 4
      have hlt := K0.out.lt
      go_wp2_with fail
      go_ret
      exact ⟨ret_bool (by rw [HQ.out]), HB.out⟩
    · cases hf1 : f.toList.isEmpty
      · skip
        go_enter Tryz.func48, Tryz.ntmps48
        go_wp2_with fail
        have K0 := Lib.hid (Blk.new w 25 (trmC k a v A n cap f))
        have HB := Lib.hid (bel_alloc w (.cells (trmC k a v A n cap f) 25))
        dsimp only [trmC] at K0 HB
        generalize w.alloc (.cells #[.int .i64 k, .string a, .string v, .slice A n cap, .string f] 25) = wz at *
        have c0 := K0.out.cell 0
        have c1 := K0.out.cell 1
        have c2 := K0.out.cell 2
        have c3 := K0.out.cell 3
        have c4 := K0.out.cell 4
        have hlt := K0.out.lt
        go_wp2_with fail
        go_ret
        exact ⟨ret_bool (by rw [HQ.out]), HB.out⟩
      · skip
        go_enter Tryz.func48, Tryz.ntmps48
        go_wp2_with fail
        have K0 := Lib.hid (Blk.new w 25 (trmC k a v A n cap f))
        have HB := Lib.hid (bel_alloc w (.cells (trmC k a v A n cap f) 25))
        dsimp only [trmC] at K0 HB
        generalize w.alloc (.cells #[.int .i64 k, .string a, .string v, .slice A n cap, .string f] 25) = wz at *
        have c0 := K0.out.cell 0
        have c1 := K0.out.cell 1
        have c2 := K0.out.cell 2
        have c3 := K0.out.cell 3
        have c4 := K0.out.cell 4
        have hlt := K0.out.lt
        go_wp2_with fail
        go_ret
        exact ⟨ret_bool (by rw [HQ.out]), HB.out⟩
  · have hn2 : ((n : Int) == 0) = false := by rw [beq_eq_false_iff_ne]; omega
    have hn3 : (0 : Int) < (n : Int) := by omega
    replace hn1 := Lib.hid hn1
    go_enter Tryz.func48, Tryz.ntmps48
    go_wp2_with fail
    have K0 := Lib.hid (Blk.new w 25 (trmC k a v A n cap f))
    have HB := Lib.hid (bel_alloc w (.cells (trmC k a v A n cap f) 25))
    dsimp only [trmC] at K0 HB
    generalize w.alloc (.cells #[.int .i64 k, .string a, .string v, .slice A n cap, .string f] 25) = wz at *
    have c0 := K0.out.cell 0
    have c1 := K0.out.cell 1
    have c2 := K0.out.cell 2
    have c3 := K0.out.cell 3
    have c4 := K0.out.cell 4
    have hlt := K0.out.lt
    go_wp2_with fail
    go_ret
    exact ⟨ret_bool (by rw [HQ.out]), HB.out⟩
theorem proper_any (t : Trm) (c : Array Value) (w : World) (hM : MAt w t c) : Calls Tryz.prog 48 #[.agg c] w fun e w' => e = .returned (.bool (ownM t.kind t.nam.data.toList t.vr.data.toList t.form.data.toList t.args.length)) ∧ Below w.heap.size w w' := by
  obtain ⟨A, cap, rfl, ha, hv, hf, hn, hc, -⟩ := hM.form
  obtain ⟨k, a, v, f, ts⟩ := t
  dsimp only [Trm.kind, Trm.nam, Trm.vr, Trm.form, Trm.args] at ha hv hf hn ⊢
  rw [← ByteArray.toList_eq, ← ByteArray.toList_eq, ← ByteArray.toList_eq]
  have hn : ts.length ≤ 9223372036854775807 := by omega
  by_cases h1 : k = 1
  · subst h1; exact prop_1 a v f _ A cap w ha hn
  by_cases h2 : k = 2
  · subst h2; exact prop_2 a v f _ A cap w ha hn
  by_cases h3 : k = 3
  · subst h3; exact prop_3 a v f _ A cap w ha hn
  by_cases h4 : k = 4
  · subst h4; exact prop_4 a v f _ A cap w ha hf hn
  by_cases h5 : k = 5
  · subst h5; exact prop_5 a v f _ A cap w ha hv hf hn
  exact prop_o k a v f _ A cap w hn (beq_eq_false_iff_ne.2 h1) (beq_eq_false_iff_ne.2 h2) (beq_eq_false_iff_ne.2 h3) (beq_eq_false_iff_ne.2 h4) (beq_eq_false_iff_ne.2 h5)
end Go.Proofs.YtpokelkneblafaaGreatDoor
