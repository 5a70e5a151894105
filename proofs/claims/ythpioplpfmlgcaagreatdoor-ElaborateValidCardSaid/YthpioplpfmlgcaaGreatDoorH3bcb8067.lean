/- The reference's Valid of terms: what other claims of the seat do not reach, under names of its own. -/
import Derived.Test.YthpioplpfmlgcaaGreatDoorHf08b71b9
import Derived.Lib.Case
import Derived.Lib.ItoaNum
namespace Go.Proofs.YthpioplpfmlgcaaGreatDoor.Sp
open Go.Proofs.YthpioplpfmlgcaaGreatDoor.At
open Go.RowKit
theorem cntL_snoc_v {ks : List Trm} {k : Nat} {x : Trm} (h : ks[k]? = some x) : cntL (ks.take (k + 1)) = cntL (ks.take k) + cntM x := by
  rw [List.take_add_one, h, Option.toList]
  generalize ks.take k = l
  induction l with
  | nil => simp [cntL]
  | cons a r ih => rw [List.cons_append, cntL, cntL, ih]; omega
theorem cntL_take_v (ks : List Trm) (k : Nat) : cntL (ks.take k) ≤ cntL ks := by
  induction ks generalizing k with
  | nil => simp [cntL]
  | cons a r ih =>
    cases k with
    | zero => simp [cntL]
    | succ k => rw [List.take_succ_cons, cntL, cntL]; have := ih k; omega
theorem len_cntL_v (ks : List Trm) : ks.length ≤ cntL ks := by
  induction ks with
  | nil => simp
  | cons a r ih => rw [List.length_cons, cntL]; have := cnt_pos a; omega
theorem formML_snoc_v {ks : List Trm} {k : Nat} {x : Trm} (h : ks[k]? = some x) : formML (ks.take (k + 1)) = (formML (ks.take k) && formM x) := by
  rw [List.take_add_one, h, Option.toList]
  generalize ks.take k = l
  induction l with
  | nil => simp [formML]
  | cons a r ih => rw [List.cons_append, formML, formML, ih]; simp [Bool.and_assoc]
theorem formML_false_v {ks : List Trm} {k : Nat} (h : formML (ks.take k) = false) : formML ks = false := by
  induction ks generalizing k with
  | nil => rw [List.take_nil] at h; rw [formML] at h; cases h
  | cons a r ih =>
    cases k with
    | zero => rw [List.take_zero, formML] at h; cases h
    | succ k =>
      rw [List.take_succ_cons, formML] at h
      rw [formML]
      cases ha : formM a
      · rfl
      · rw [ha, Bool.true_and] at h
        rw [ih h]; rfl
/-- the reference's size of a term -/
def sizM_v (t : Trm) : Int := if formM t = true ∧ cntM t ≤ 1000 then (cntM t : Int) else -1
theorem siz_valid_v (t : Trm) : decide (0 < sizM_v t) = validM t := by
  unfold sizM_v validM
  have := cnt_pos t
  by_cases h : formM t = true ∧ cntM t ≤ 1000
  · rw [if_pos h, h.1, decide_eq_true h.2]; simp; omega
  · rw [if_neg h]
    cases hf : formM t
    · rfl
    · rw [Bool.true_and, decide_eq_false (fun h2 => h ⟨hf, h2⟩)]; rfl
set_option maxHeartbeats 400000 in
theorem rprint_any_v (s : ByteArray) (a n : Nat) (w : World) (hs : s.size ≤ 9223372036854775807) : Calls Tryz.prog 115 #[.string s, .int .u8 (a : Int), .int .i64 (n : Int)] w fun e w' => e = .returned (.bool (prinL a s.toList && decide (s.size ≤ n))) ∧ w = w' := by
  go_enter Tryz.func115, Tryz.ntmps115
  go_wp2_with fail
  go_loop [7] (fun i => ∃ k : Nat, k ≤ s.size ∧ i = .int .i64 k ∧ Hid (∀ (j : Nat) (hj : j < s.size), j < k → prin2 a s[j] = true)) (fun i => s.size - (intOf i).toNat)
  case atStart => exact ⟨0, by omega, rfl, fun j _ h => by omega⟩
  case round =>
    obtain ⟨k, hk, rfl, HJ⟩ := hrel
    by_cases hlt : k < s.size
    · by_cases c1 : (s[k].toNat : Int) < (a : Int)
      · have HF := Lib.hid (not_all_get (p := prin2 a) hlt (by unfold prin2; rw [decide_eq_false (by omega)]; rfl))
        go_wp2_with fail
        go_ret
        exact ⟨ret_bool (by rw [show prinL a s.toList = false from HF.out, Bool.false_and]), rfl⟩
      · by_cases c2 : 126 < (s[k].toNat : Int)
        · have HF := Lib.hid (not_all_get (p := prin2 a) hlt (by unfold prin2; rw [decide_eq_false (p := s[k].toNat ≤ 126) (by omega), Bool.and_false]))
          go_wp2_with fail
          go_ret
          exact ⟨ret_bool (by rw [show prinL a s.toList = false from HF.out, Bool.false_and]), rfl⟩
        · have HL := Lib.hid (show prin2 a s[k] = true by unfold prin2; rw [decide_eq_true (by omega), decide_eq_true (by omega)]; rfl)
          go_wp2_with fail
          go_round
          case rel => exact ⟨k + 1, by omega, by go_num, fun j hj h => by
            rcases Nat.lt_or_ge j k with h' | h'
            · exact HJ.out j hj h'
            · obtain rfl : j = k := by omega
              exact HL.out⟩
          case measure => simp [intOf]; omega
    · have HF := Lib.hid (all_get (s := s) (p := prin2 a) fun j hj => HJ.out j hj (by omega))
      go_wp2_with fail
      go_ret
      exact ⟨ret_bool (by rw [show prinL a s.toList = true from HF.out, Bool.true_and]), rfl⟩
theorem rnumb_any_v (s : ByteArray) (w : World) (hs : s.size ≤ 9223372036854775807) : Calls Tryz.prog 114 #[.string s] w fun e w' => e = .returned (.bool (numP s.toList)) ∧ Below w.heap.size w w' := by
  rw [ByteArray.toList_eq, ← num_same]
  exact (rnum_any s w hs).mono fun e w' ⟨h1, h2⟩ => ⟨h1, by rw [h2]; exact Below.refl _ _⟩
theorem rbetw_any_v (s : ByteArray) (a n : Nat) (w : World) (hs : s.size ≤ 9223372036854775807) : Calls Tryz.prog 115 #[.string s, .int .u8 (a : Int), .int .i64 (n : Int)] w fun e w' => e = .returned (.bool (prinL a s.toList && decide (s.toList.length ≤ n))) ∧ Below w.heap.size w w' := by
  rw [size_toList]
  exact (rprint_any_v s a n w hs).mono fun e w' ⟨h1, h2⟩ => ⟨h1, by rw [h2]; exact Below.refl _ _⟩
theorem ropr_any_v (s : ByteArray) (w : World) (hs : s.size ≤ 9223372036854775807) : Calls Tryz.prog 76 #[.string s] w fun e w' => e = .returned (.bool (namedB s.toList)) ∧ Below w.heap.size w w' :=
  (rnamed_any s w hs).mono fun e w' ⟨h1, h2⟩ => ⟨h1, by rw [h2]; exact Below.refl _ _⟩
set_option maxRecDepth 100000 in
set_option maxHeartbeats 800000 in
theorem prop_1_v (a v f : ByteArray) (n : Nat) (A : Option Addr) (cap : Nat) (w : World) (ha : a.size ≤ 9223372036854775807) (hn : n ≤ 9223372036854775807) : Calls Tryz.prog 73 #[.agg (trmC 1 a v A n cap f)] w fun e w' => e = .returned (.bool (ownM 1 a.toList v.toList f.toList n)) ∧ Below w.heap.size w w' := by
  have HQ := Lib.hid (show ownM 1 a.toList v.toList f.toList n = ((v.toList.isEmpty && (f.toList.isEmpty && decide (n = 0))) && numP a.toList) from rfl)
  have HN := Lib.hid (fun w => rnumb_any_v a w ha)
  generalize numP a.toList = rr at *
  by_cases hn1 : n = 0
  · have hn2 : ((n : Int) == 0) = true := by rw [beq_iff_eq]; omega
    have hn3 : ¬ (0 : Int) < (n : Int) := by omega
    replace hn1 := Lib.hid hn1
    cases hv1 : v.toList.isEmpty
    · skip
      rw [hv1] at HQ
      go_enter Tryz.func73, Tryz.ntmps73
      go_wp2_with fail
      have K0 := Lib.hid (Blk.new w 31 (trmC 1 a v A n cap f))
      have HB := Lib.hid (bel_alloc w (.cells (trmC 1 a v A n cap f) 31))
      dsimp only [trmC] at K0 HB
      generalize w.alloc (.cells #[.int .i64 1, .string a, .string v, .slice A n cap, .string f] 31) = wz at *
      have c0 := K0.out.cell 0
      have c1 := K0.out.cell 1
      have c2 := K0.out.cell 2
      have c3 := K0.out.cell 3
      have c4 := K0.out.cell 4
      have hlt := K0.out.lt
      go_wp2_with fail
      go_ret
      exact ⟨ret_bool (by rw [HQ.out]; rfl), HB.out⟩
    · cases hf1 : f.toList.isEmpty
      · skip
        rw [hv1, hf1] at HQ
        go_enter Tryz.func73, Tryz.ntmps73
        go_wp2_with fail
        have K0 := Lib.hid (Blk.new w 31 (trmC 1 a v A n cap f))
        have HB := Lib.hid (bel_alloc w (.cells (trmC 1 a v A n cap f) 31))
        dsimp only [trmC] at K0 HB
        generalize w.alloc (.cells #[.int .i64 1, .string a, .string v, .slice A n cap, .string f] 31) = wz at *
        have c0 := K0.out.cell 0
        have c1 := K0.out.cell 1
        have c2 := K0.out.cell 2
        have c3 := K0.out.cell 3
        have c4 := K0.out.cell 4
        have hlt := K0.out.lt
        go_wp2_with fail
        go_ret
        exact ⟨ret_bool (by rw [HQ.out]; rfl), HB.out⟩
      · skip
        rw [hv1, hf1, decide_eq_true hn1.out, Bool.true_and, Bool.true_and, Bool.true_and] at HQ
        clear hn1
        go_enter Tryz.func73, Tryz.ntmps73
        go_wp2_with fail
        have K0 := Lib.hid (Blk.new w 31 (trmC 1 a v A n cap f))
        have HB := Lib.hid (bel_alloc w (.cells (trmC 1 a v A n cap f) 31))
        dsimp only [trmC] at K0 HB
        generalize w.alloc (.cells #[.int .i64 1, .string a, .string v, .slice A n cap, .string f] 31) = wz at *
        have c0 := K0.out.cell 0
        have c1 := K0.out.cell 1
        have c2 := K0.out.cell 2
        have c3 := K0.out.cell 3
        have c4 := K0.out.cell 4
        have hlt := K0.out.lt
        skip
        refine (HN.out _).mono ?_
        rintro e w1 ⟨rfl, hb⟩
        have HB := Lib.hid (HB.out.trans (hb.mono HB.out.size))
        replace c0 := (hb.cell (p := ⟨w.heap.size, 0, none⟩) hlt).trans c0
        replace c1 := (hb.cell (p := ⟨w.heap.size, 1, none⟩) hlt).trans c1
        replace c2 := (hb.cell (p := ⟨w.heap.size, 2, none⟩) hlt).trans c2
        replace c3 := (hb.cell (p := ⟨w.heap.size, 3, none⟩) hlt).trans c3
        replace c4 := (hb.cell (p := ⟨w.heap.size, 4, none⟩) hlt).trans c4
        replace hlt := Nat.lt_of_lt_of_le hlt hb.size
        clear hb
        go_wp2_with fail
        go_ret
        exact ⟨ret_bool (by rw [HQ.out]), HB.out⟩
  · have hn2 : ((n : Int) == 0) = false := by rw [beq_eq_false_iff_ne]; omega
    have hn3 : (0 : Int) < (n : Int) := by omega
    replace hn1 := Lib.hid hn1
    rw [decide_eq_false hn1.out, Bool.and_false, Bool.and_false] at HQ
    clear hn1
    go_enter Tryz.func73, Tryz.ntmps73
    go_wp2_with fail
    have K0 := Lib.hid (Blk.new w 31 (trmC 1 a v A n cap f))
    have HB := Lib.hid (bel_alloc w (.cells (trmC 1 a v A n cap f) 31))
    dsimp only [trmC] at K0 HB
    generalize w.alloc (.cells #[.int .i64 1, .string a, .string v, .slice A n cap, .string f] 31) = wz at *
    have c0 := K0.out.cell 0
    have c1 := K0.out.cell 1
    have c2 := K0.out.cell 2
    have c3 := K0.out.cell 3
    have c4 := K0.out.cell 4
    have hlt := K0.out.lt
    go_wp2_with fail
    go_ret
    exact ⟨ret_bool (by rw [HQ.out]; rfl), HB.out⟩
set_option maxRecDepth 100000 in
set_option maxHeartbeats 800000 in
theorem prop_2_v (a v f : ByteArray) (n : Nat) (A : Option Addr) (cap : Nat) (w : World) (ha : a.size ≤ 9223372036854775807) (hn : n ≤ 9223372036854775807) : Calls Tryz.prog 73 #[.agg (trmC 2 a v A n cap f)] w fun e w' => e = .returned (.bool (ownM 2 a.toList v.toList f.toList n)) ∧ Below w.heap.size w w' := by
  have HQ := Lib.hid (show ownM 2 a.toList v.toList f.toList n = ((v.toList.isEmpty && (f.toList.isEmpty && decide (n = 0))) && idB a.toList) from rfl)
  have HN := Lib.hid (fun w => rident_any a w ha)
  generalize idB a.toList = rr at *
  by_cases hn1 : n = 0
  · have hn2 : ((n : Int) == 0) = true := by rw [beq_iff_eq]; omega
    have hn3 : ¬ (0 : Int) < (n : Int) := by omega
    replace hn1 := Lib.hid hn1
    cases hv1 : v.toList.isEmpty
    · skip
      rw [hv1] at HQ
      go_enter Tryz.func73, Tryz.ntmps73
      go_wp2_with fail
      have K0 := Lib.hid (Blk.new w 31 (trmC 2 a v A n cap f))
      have HB := Lib.hid (bel_alloc w (.cells (trmC 2 a v A n cap f) 31))
      dsimp only [trmC] at K0 HB
      generalize w.alloc (.cells #[.int .i64 2, .string a, .string v, .slice A n cap, .string f] 31) = wz at *
      have c0 := K0.out.cell 0
      have c1 := K0.out.cell 1
      have c2 := K0.out.cell 2
      have c3 := K0.out.cell 3
      have c4 := K0.out.cell 4
      have hlt := K0.out.lt
      go_wp2_with fail
      go_ret
      exact ⟨ret_bool (by rw [HQ.out]; rfl), HB.out⟩
    · cases hf1 : f.toList.isEmpty
      · skip
        rw [hv1, hf1] at HQ
        go_enter Tryz.func73, Tryz.ntmps73
        go_wp2_with fail
        have K0 := Lib.hid (Blk.new w 31 (trmC 2 a v A n cap f))
        have HB := Lib.hid (bel_alloc w (.cells (trmC 2 a v A n cap f) 31))
        dsimp only [trmC] at K0 HB
        generalize w.alloc (.cells #[.int .i64 2, .string a, .string v, .slice A n cap, .string f] 31) = wz at *
        have c0 := K0.out.cell 0
        have c1 := K0.out.cell 1
        have c2 := K0.out.cell 2
        have c3 := K0.out.cell 3
        have c4 := K0.out.cell 4
        have hlt := K0.out.lt
        go_wp2_with fail
        go_ret
        exact ⟨ret_bool (by rw [HQ.out]; rfl), HB.out⟩
      · skip
        rw [hv1, hf1, decide_eq_true hn1.out, Bool.true_and, Bool.true_and, Bool.true_and] at HQ
        clear hn1
        go_enter Tryz.func73, Tryz.ntmps73
        go_wp2_with fail
        have K0 := Lib.hid (Blk.new w 31 (trmC 2 a v A n cap f))
        have HB := Lib.hid (bel_alloc w (.cells (trmC 2 a v A n cap f) 31))
        dsimp only [trmC] at K0 HB
        generalize w.alloc (.cells #[.int .i64 2, .string a, .string v, .slice A n cap, .string f] 31) = wz at *
        have c0 := K0.out.cell 0
        have c1 := K0.out.cell 1
        have c2 := K0.out.cell 2
        have c3 := K0.out.cell 3
        have c4 := K0.out.cell 4
        have hlt := K0.out.lt
        skip
        refine (HN.out _).mono ?_
        rintro e w1 ⟨rfl, hb⟩
        have HB := Lib.hid (HB.out.trans (hb.mono HB.out.size))
        replace c0 := (hb.cell (p := ⟨w.heap.size, 0, none⟩) hlt).trans c0
        replace c1 := (hb.cell (p := ⟨w.heap.size, 1, none⟩) hlt).trans c1
        replace c2 := (hb.cell (p := ⟨w.heap.size, 2, none⟩) hlt).trans c2
        replace c3 := (hb.cell (p := ⟨w.heap.size, 3, none⟩) hlt).trans c3
        replace c4 := (hb.cell (p := ⟨w.heap.size, 4, none⟩) hlt).trans c4
        replace hlt := Nat.lt_of_lt_of_le hlt hb.size
        clear hb
        go_wp2_with fail
        go_ret
        exact ⟨ret_bool (by rw [HQ.out]), HB.out⟩
  · have hn2 : ((n : Int) == 0) = false := by rw [beq_eq_false_iff_ne]; omega
    have hn3 : (0 : Int) < (n : Int) := by omega
    replace hn1 := Lib.hid hn1
    rw [decide_eq_false hn1.out, Bool.and_false, Bool.and_false] at HQ
    clear hn1
    go_enter Tryz.func73, Tryz.ntmps73
    go_wp2_with fail
    have K0 := Lib.hid (Blk.new w 31 (trmC 2 a v A n cap f))
    have HB := Lib.hid (bel_alloc w (.cells (trmC 2 a v A n cap f) 31))
    dsimp only [trmC] at K0 HB
    generalize w.alloc (.cells #[.int .i64 2, .string a, .string v, .slice A n cap, .string f] 31) = wz at *
    have c0 := K0.out.cell 0
    have c1 := K0.out.cell 1
    have c2 := K0.out.cell 2
    have c3 := K0.out.cell 3
    have c4 := K0.out.cell 4
    have hlt := K0.out.lt
    go_wp2_with fail
    go_ret
    exact ⟨ret_bool (by rw [HQ.out]; rfl), HB.out⟩
set_option maxRecDepth 100000 in
set_option maxHeartbeats 800000 in
theorem prop_3_v (a v f : ByteArray) (n : Nat) (A : Option Addr) (cap : Nat) (w : World) (ha : a.size ≤ 9223372036854775807) (hn : n ≤ 9223372036854775807) : Calls Tryz.prog 73 #[.agg (trmC 3 a v A n cap f)] w fun e w' => e = .returned (.bool (ownM 3 a.toList v.toList f.toList n)) ∧ Below w.heap.size w w' := by
  have HQ := Lib.hid (show ownM 3 a.toList v.toList f.toList n = ((v.toList.isEmpty && (f.toList.isEmpty && decide (n = 0))) && (prinL 32 a.toList && decide (a.toList.length ≤ 200))) from rfl)
  have HN := Lib.hid (fun w => rbetw_any_v a 32 200 w ha)
  generalize (prinL 32 a.toList && decide (a.toList.length ≤ 200)) = rr at *
  by_cases hn1 : n = 0
  · have hn2 : ((n : Int) == 0) = true := by rw [beq_iff_eq]; omega
    have hn3 : ¬ (0 : Int) < (n : Int) := by omega
    replace hn1 := Lib.hid hn1
    cases hv1 : v.toList.isEmpty
    · skip
      rw [hv1] at HQ
      go_enter Tryz.func73, Tryz.ntmps73
      go_wp2_with fail
      have K0 := Lib.hid (Blk.new w 31 (trmC 3 a v A n cap f))
      have HB := Lib.hid (bel_alloc w (.cells (trmC 3 a v A n cap f) 31))
      dsimp only [trmC] at K0 HB
      generalize w.alloc (.cells #[.int .i64 3, .string a, .string v, .slice A n cap, .string f] 31) = wz at *
      have c0 := K0.out.cell 0
      have c1 := K0.out.cell 1
      have c2 := K0.out.cell 2
      have c3 := K0.out.cell 3
      have c4 := K0.out.cell 4
      have hlt := K0.out.lt
      go_wp2_with fail
      go_ret
      exact ⟨ret_bool (by rw [HQ.out]; rfl), HB.out⟩
    · cases hf1 : f.toList.isEmpty
      · skip
        rw [hv1, hf1] at HQ
        go_enter Tryz.func73, Tryz.ntmps73
        go_wp2_with fail
        have K0 := Lib.hid (Blk.new w 31 (trmC 3 a v A n cap f))
        have HB := Lib.hid (bel_alloc w (.cells (trmC 3 a v A n cap f) 31))
        dsimp only [trmC] at K0 HB
        generalize w.alloc (.cells #[.int .i64 3, .string a, .string v, .slice A n cap, .string f] 31) = wz at *
        have c0 := K0.out.cell 0
        have c1 := K0.out.cell 1
        have c2 := K0.out.cell 2
        have c3 := K0.out.cell 3
        have c4 := K0.out.cell 4
        have hlt := K0.out.lt
        go_wp2_with fail
        go_ret
        exact ⟨ret_bool (by rw [HQ.out]; rfl), HB.out⟩
      · skip
        rw [hv1, hf1, decide_eq_true hn1.out, Bool.true_and, Bool.true_and, Bool.true_and] at HQ
        clear hn1
        go_enter Tryz.func73, Tryz.ntmps73
        go_wp2_with fail
        have K0 := Lib.hid (Blk.new w 31 (trmC 3 a v A n cap f))
        have HB := Lib.hid (bel_alloc w (.cells (trmC 3 a v A n cap f) 31))
        dsimp only [trmC] at K0 HB
        generalize w.alloc (.cells #[.int .i64 3, .string a, .string v, .slice A n cap, .string f] 31) = wz at *
        have c0 := K0.out.cell 0
        have c1 := K0.out.cell 1
        have c2 := K0.out.cell 2
        have c3 := K0.out.cell 3
        have c4 := K0.out.cell 4
        have hlt := K0.out.lt
        skip
        refine (HN.out _).mono ?_
        rintro e w1 ⟨rfl, hb⟩
        have HB := Lib.hid (HB.out.trans (hb.mono HB.out.size))
        replace c0 := (hb.cell (p := ⟨w.heap.size, 0, none⟩) hlt).trans c0
        replace c1 := (hb.cell (p := ⟨w.heap.size, 1, none⟩) hlt).trans c1
        replace c2 := (hb.cell (p := ⟨w.heap.size, 2, none⟩) hlt).trans c2
        replace c3 := (hb.cell (p := ⟨w.heap.size, 3, none⟩) hlt).trans c3
        replace c4 := (hb.cell (p := ⟨w.heap.size, 4, none⟩) hlt).trans c4
        replace hlt := Nat.lt_of_lt_of_le hlt hb.size
        clear hb
        go_wp2_with fail
        go_ret
        exact ⟨ret_bool (by rw [HQ.out]), HB.out⟩
  · have hn2 : ((n : Int) == 0) = false := by rw [beq_eq_false_iff_ne]; omega
    have hn3 : (0 : Int) < (n : Int) := by omega
    replace hn1 := Lib.hid hn1
    rw [decide_eq_false hn1.out, Bool.and_false, Bool.and_false] at HQ
    clear hn1
    go_enter Tryz.func73, Tryz.ntmps73
    go_wp2_with fail
    have K0 := Lib.hid (Blk.new w 31 (trmC 3 a v A n cap f))
    have HB := Lib.hid (bel_alloc w (.cells (trmC 3 a v A n cap f) 31))
    dsimp only [trmC] at K0 HB
    generalize w.alloc (.cells #[.int .i64 3, .string a, .string v, .slice A n cap, .string f] 31) = wz at *
    have c0 := K0.out.cell 0
    have c1 := K0.out.cell 1
    have c2 := K0.out.cell 2
    have c3 := K0.out.cell 3
    have c4 := K0.out.cell 4
    have hlt := K0.out.lt
    go_wp2_with fail
    go_ret
    exact ⟨ret_bool (by rw [HQ.out]; rfl), HB.out⟩
set_option maxRecDepth 100000 in
set_option maxHeartbeats 800000 in
theorem prop_4_v (a v f : ByteArray) (n : Nat) (A : Option Addr) (cap : Nat) (w : World) (ha : a.size ≤ 9223372036854775807) (hf : f.size ≤ 9223372036854775807) (hn : n ≤ 9223372036854775807) : Calls Tryz.prog 73 #[.agg (trmC 4 a v A n cap f)] w fun e w' => e = .returned (.bool (ownM 4 a.toList v.toList f.toList n)) ∧ Below w.heap.size w w' := by
  have HQ := Lib.hid (show ownM 4 a.toList v.toList f.toList n = ((prinL 33 f.toList && decide (f.toList.length ≤ 16)) && (namedB a.toList && v.toList.isEmpty)) from rfl)
  have HN := Lib.hid (fun w => ropr_any_v a w ha)
  have HF := Lib.hid (fun w => rbetw_any_v f 33 16 w hf)
  generalize (prinL 33 f.toList && decide (f.toList.length ≤ 16)) = fm at *
  generalize namedB a.toList = nm at *
  by_cases hn1 : n = 0
  · have hn2 : ((n : Int) == 0) = true := by rw [beq_iff_eq]; omega
    have hn3 : ¬ (0 : Int) < (n : Int) := by omega
    replace hn1 := Lib.hid hn1
    cases hv1 : v.toList.isEmpty
    · skip
      rw [hv1] at HQ
      go_enter Tryz.func73, Tryz.ntmps73
      go_wp2_with fail
      have K0 := Lib.hid (Blk.new w 31 (trmC 4 a v A n cap f))
      have HB := Lib.hid (bel_alloc w (.cells (trmC 4 a v A n cap f) 31))
      dsimp only [trmC] at K0 HB
      generalize w.alloc (.cells #[.int .i64 4, .string a, .string v, .slice A n cap, .string f] 31) = wz at *
      have c0 := K0.out.cell 0
      have c1 := K0.out.cell 1
      have c2 := K0.out.cell 2
      have c3 := K0.out.cell 3
      have c4 := K0.out.cell 4
      have hlt := K0.out.lt
      refine (HN.out _).mono ?_
      rintro e w1 ⟨rfl, hb⟩
      have HB := Lib.hid (HB.out.trans (hb.mono HB.out.size))
      replace c0 := (hb.cell (p := ⟨w.heap.size, 0, none⟩) hlt).trans c0
      replace c1 := (hb.cell (p := ⟨w.heap.size, 1, none⟩) hlt).trans c1
      replace c2 := (hb.cell (p := ⟨w.heap.size, 2, none⟩) hlt).trans c2
      replace c3 := (hb.cell (p := ⟨w.heap.size, 3, none⟩) hlt).trans c3
      replace c4 := (hb.cell (p := ⟨w.heap.size, 4, none⟩) hlt).trans c4
      replace hlt := Nat.lt_of_lt_of_le hlt hb.size
      clear hb
      cases nm
      · go_wp2_with fail
        go_ret
        exact ⟨ret_bool (by rw [HQ.out]; cases fm <;> rfl), HB.out⟩
      · go_wp2_with fail
        go_ret
        exact ⟨ret_bool (by rw [HQ.out]; cases fm <;> rfl), HB.out⟩
    · cases hf1 : f.toList.isEmpty
      · skip
        rw [hv1] at HQ
        go_enter Tryz.func73, Tryz.ntmps73
        go_wp2_with fail
        have K0 := Lib.hid (Blk.new w 31 (trmC 4 a v A n cap f))
        have HB := Lib.hid (bel_alloc w (.cells (trmC 4 a v A n cap f) 31))
        dsimp only [trmC] at K0 HB
        generalize w.alloc (.cells #[.int .i64 4, .string a, .string v, .slice A n cap, .string f] 31) = wz at *
        have c0 := K0.out.cell 0
        have c1 := K0.out.cell 1
        have c2 := K0.out.cell 2
        have c3 := K0.out.cell 3
        have c4 := K0.out.cell 4
        have hlt := K0.out.lt
        refine (HN.out _).mono ?_
        rintro e w1 ⟨rfl, hb⟩
        have HB := Lib.hid (HB.out.trans (hb.mono HB.out.size))
        replace c0 := (hb.cell (p := ⟨w.heap.size, 0, none⟩) hlt).trans c0
        replace c1 := (hb.cell (p := ⟨w.heap.size, 1, none⟩) hlt).trans c1
        replace c2 := (hb.cell (p := ⟨w.heap.size, 2, none⟩) hlt).trans c2
        replace c3 := (hb.cell (p := ⟨w.heap.size, 3, none⟩) hlt).trans c3
        replace c4 := (hb.cell (p := ⟨w.heap.size, 4, none⟩) hlt).trans c4
        replace hlt := Nat.lt_of_lt_of_le hlt hb.size
        clear hb
        cases nm
        · go_wp2_with fail
          go_ret
          exact ⟨ret_bool (by rw [HQ.out]; cases fm <;> rfl), HB.out⟩
        · go_wp2_with fail
          refine (HF.out _).mono ?_
          rintro e w1 ⟨rfl, hb⟩
          have HB := Lib.hid (HB.out.trans (hb.mono HB.out.size))
          replace c0 := (hb.cell (p := ⟨w.heap.size, 0, none⟩) hlt).trans c0
          replace c1 := (hb.cell (p := ⟨w.heap.size, 1, none⟩) hlt).trans c1
          replace c2 := (hb.cell (p := ⟨w.heap.size, 2, none⟩) hlt).trans c2
          replace c3 := (hb.cell (p := ⟨w.heap.size, 3, none⟩) hlt).trans c3
          replace c4 := (hb.cell (p := ⟨w.heap.size, 4, none⟩) hlt).trans c4
          replace hlt := Nat.lt_of_lt_of_le hlt hb.size
          clear hb
          go_wp2_with fail
          go_ret
          exact ⟨ret_bool (by rw [HQ.out]; cases fm <;> rfl), HB.out⟩
      · skip
        rw [hv1] at HQ
        go_enter Tryz.func73, Tryz.ntmps73
        go_wp2_with fail
        have K0 := Lib.hid (Blk.new w 31 (trmC 4 a v A n cap f))
        have HB := Lib.hid (bel_alloc w (.cells (trmC 4 a v A n cap f) 31))
        dsimp only [trmC] at K0 HB
        generalize w.alloc (.cells #[.int .i64 4, .string a, .string v, .slice A n cap, .string f] 31) = wz at *
        have c0 := K0.out.cell 0
        have c1 := K0.out.cell 1
        have c2 := K0.out.cell 2
        have c3 := K0.out.cell 3
        have c4 := K0.out.cell 4
        have hlt := K0.out.lt
        refine (HN.out _).mono ?_
        rintro e w1 ⟨rfl, hb⟩
        have HB := Lib.hid (HB.out.trans (hb.mono HB.out.size))
        replace c0 := (hb.cell (p := ⟨w.heap.size, 0, none⟩) hlt).trans c0
        replace c1 := (hb.cell (p := ⟨w.heap.size, 1, none⟩) hlt).trans c1
        replace c2 := (hb.cell (p := ⟨w.heap.size, 2, none⟩) hlt).trans c2
        replace c3 := (hb.cell (p := ⟨w.heap.size, 3, none⟩) hlt).trans c3
        replace c4 := (hb.cell (p := ⟨w.heap.size, 4, none⟩) hlt).trans c4
        replace hlt := Nat.lt_of_lt_of_le hlt hb.size
        clear hb
        cases nm
        · go_wp2_with fail
          go_ret
          exact ⟨ret_bool (by rw [HQ.out]; cases fm <;> rfl), HB.out⟩
        · go_wp2_with fail
          refine (HF.out _).mono ?_
          rintro e w1 ⟨rfl, hb⟩
          have HB := Lib.hid (HB.out.trans (hb.mono HB.out.size))
          replace c0 := (hb.cell (p := ⟨w.heap.size, 0, none⟩) hlt).trans c0
          replace c1 := (hb.cell (p := ⟨w.heap.size, 1, none⟩) hlt).trans c1
          replace c2 := (hb.cell (p := ⟨w.heap.size, 2, none⟩) hlt).trans c2
          replace c3 := (hb.cell (p := ⟨w.heap.size, 3, none⟩) hlt).trans c3
          replace c4 := (hb.cell (p := ⟨w.heap.size, 4, none⟩) hlt).trans c4
          replace hlt := Nat.lt_of_lt_of_le hlt hb.size
          clear hb
          go_wp2_with fail
          go_ret
          exact ⟨ret_bool (by rw [HQ.out]; cases fm <;> rfl), HB.out⟩
  · have hn2 : ((n : Int) == 0) = false := by rw [beq_eq_false_iff_ne]; omega
    have hn3 : (0 : Int) < (n : Int) := by omega
    replace hn1 := Lib.hid hn1
    cases hv1 : v.toList.isEmpty
    · skip
      rw [hv1] at HQ
      go_enter Tryz.func73, Tryz.ntmps73
      go_wp2_with fail
      have K0 := Lib.hid (Blk.new w 31 (trmC 4 a v A n cap f))
      have HB := Lib.hid (bel_alloc w (.cells (trmC 4 a v A n cap f) 31))
      dsimp only [trmC] at K0 HB
      generalize w.alloc (.cells #[.int .i64 4, .string a, .string v, .slice A n cap, .string f] 31) = wz at *
      have c0 := K0.out.cell 0
      have c1 := K0.out.cell 1
      have c2 := K0.out.cell 2
      have c3 := K0.out.cell 3
      have c4 := K0.out.cell 4
      have hlt := K0.out.lt
      refine (HN.out _).mono ?_
      rintro e w1 ⟨rfl, hb⟩
      have HB := Lib.hid (HB.out.trans (hb.mono HB.out.size))
      replace c0 := (hb.cell (p := ⟨w.heap.size, 0, none⟩) hlt).trans c0
      replace c1 := (hb.cell (p := ⟨w.heap.size, 1, none⟩) hlt).trans c1
      replace c2 := (hb.cell (p := ⟨w.heap.size, 2, none⟩) hlt).trans c2
      replace c3 := (hb.cell (p := ⟨w.heap.size, 3, none⟩) hlt).trans c3
      replace c4 := (hb.cell (p := ⟨w.heap.size, 4, none⟩) hlt).trans c4
      replace hlt := Nat.lt_of_lt_of_le hlt hb.size
      clear hb
      cases nm
      · go_wp2_with fail
        go_ret
        exact ⟨ret_bool (by rw [HQ.out]; cases fm <;> rfl), HB.out⟩
      · go_wp2_with fail
        go_ret
        exact ⟨ret_bool (by rw [HQ.out]; cases fm <;> rfl), HB.out⟩
    · skip
      rw [hv1] at HQ
      go_enter Tryz.func73, Tryz.ntmps73
      go_wp2_with fail
      have K0 := Lib.hid (Blk.new w 31 (trmC 4 a v A n cap f))
      have HB := Lib.hid (bel_alloc w (.cells (trmC 4 a v A n cap f) 31))
      dsimp only [trmC] at K0 HB
      generalize w.alloc (.cells #[.int .i64 4, .string a, .string v, .slice A n cap, .string f] 31) = wz at *
      have c0 := K0.out.cell 0
      have c1 := K0.out.cell 1
      have c2 := K0.out.cell 2
      have c3 := K0.out.cell 3
      have c4 := K0.out.cell 4
      have hlt := K0.out.lt
      refine (HN.out _).mono ?_
      rintro e w1 ⟨rfl, hb⟩
      have HB := Lib.hid (HB.out.trans (hb.mono HB.out.size))
      replace c0 := (hb.cell (p := ⟨w.heap.size, 0, none⟩) hlt).trans c0
      replace c1 := (hb.cell (p := ⟨w.heap.size, 1, none⟩) hlt).trans c1
      replace c2 := (hb.cell (p := ⟨w.heap.size, 2, none⟩) hlt).trans c2
      replace c3 := (hb.cell (p := ⟨w.heap.size, 3, none⟩) hlt).trans c3
      replace c4 := (hb.cell (p := ⟨w.heap.size, 4, none⟩) hlt).trans c4
      replace hlt := Nat.lt_of_lt_of_le hlt hb.size
      clear hb
      cases nm
      · go_wp2_with fail
        go_ret
        exact ⟨ret_bool (by rw [HQ.out]; cases fm <;> rfl), HB.out⟩
      · go_wp2_with fail
        refine (HF.out _).mono ?_
        rintro e w1 ⟨rfl, hb⟩
        have HB := Lib.hid (HB.out.trans (hb.mono HB.out.size))
        replace c0 := (hb.cell (p := ⟨w.heap.size, 0, none⟩) hlt).trans c0
        replace c1 := (hb.cell (p := ⟨w.heap.size, 1, none⟩) hlt).trans c1
        replace c2 := (hb.cell (p := ⟨w.heap.size, 2, none⟩) hlt).trans c2
        replace c3 := (hb.cell (p := ⟨w.heap.size, 3, none⟩) hlt).trans c3
        replace c4 := (hb.cell (p := ⟨w.heap.size, 4, none⟩) hlt).trans c4
        replace hlt := Nat.lt_of_lt_of_le hlt hb.size
        clear hb
        go_wp2_with fail
        go_ret
        exact ⟨ret_bool (by rw [HQ.out]; cases fm <;> rfl), HB.out⟩
set_option maxRecDepth 100000 in
set_option maxHeartbeats 800000 in
theorem prop_5_v (a v f : ByteArray) (n : Nat) (A : Option Addr) (cap : Nat) (w : World) (ha : a.size ≤ 9223372036854775807) (hv : v.size ≤ 9223372036854775807) (hf : f.size ≤ 9223372036854775807) (hn : n ≤ 9223372036854775807) : Calls Tryz.prog 73 #[.agg (trmC 5 a v A n cap f)] w fun e w' => e = .returned (.bool (ownM 5 a.toList v.toList f.toList n)) ∧ Below w.heap.size w w' := by
  have HQ := Lib.hid (show ownM 5 a.toList v.toList f.toList n = ((prinL 33 f.toList && decide (f.toList.length ≤ 16)) && (namedB a.toList && (idB v.toList && decide (0 < n)))) from rfl)
  have HN := Lib.hid (fun w => ropr_any_v a w ha)
  have HI := Lib.hid (fun w => rident_any v w hv)
  have HF := Lib.hid (fun w => rbetw_any_v f 33 16 w hf)
  generalize (prinL 33 f.toList && decide (f.toList.length ≤ 16)) = fm at *
  generalize namedB a.toList = nm at *
  generalize idB v.toList = ii at *
  by_cases hn1 : n = 0
  · have hn2 : ((n : Int) == 0) = true := by rw [beq_iff_eq]; omega
    have hn3 : ¬ (0 : Int) < (n : Int) := by omega
    replace hn1 := Lib.hid hn1
    cases hv1 : v.toList.isEmpty
    · skip
      rw [show decide (0 < n) = false by rw [decide_eq_false (by omega)]] at HQ
      go_enter Tryz.func73, Tryz.ntmps73
      go_wp2_with fail
      have K0 := Lib.hid (Blk.new w 31 (trmC 5 a v A n cap f))
      have HB := Lib.hid (bel_alloc w (.cells (trmC 5 a v A n cap f) 31))
      dsimp only [trmC] at K0 HB
      generalize w.alloc (.cells #[.int .i64 5, .string a, .string v, .slice A n cap, .string f] 31) = wz at *
      have c0 := K0.out.cell 0
      have c1 := K0.out.cell 1
      have c2 := K0.out.cell 2
      have c3 := K0.out.cell 3
      have c4 := K0.out.cell 4
      have hlt := K0.out.lt
      refine (HN.out _).mono ?_
      rintro e w1 ⟨rfl, hb⟩
      have HB := Lib.hid (HB.out.trans (hb.mono HB.out.size))
      replace c0 := (hb.cell (p := ⟨w.heap.size, 0, none⟩) hlt).trans c0
      replace c1 := (hb.cell (p := ⟨w.heap.size, 1, none⟩) hlt).trans c1
      replace c2 := (hb.cell (p := ⟨w.heap.size, 2, none⟩) hlt).trans c2
      replace c3 := (hb.cell (p := ⟨w.heap.size, 3, none⟩) hlt).trans c3
      replace c4 := (hb.cell (p := ⟨w.heap.size, 4, none⟩) hlt).trans c4
      replace hlt := Nat.lt_of_lt_of_le hlt hb.size
      clear hb
      cases nm
      · go_wp2_with fail
        go_ret
        exact ⟨ret_bool (by rw [HQ.out]; cases fm <;> rfl), HB.out⟩
      · go_wp2_with fail
        refine (HI.out _).mono ?_
        rintro e w1 ⟨rfl, hb⟩
        have HB := Lib.hid (HB.out.trans (hb.mono HB.out.size))
        replace c0 := (hb.cell (p := ⟨w.heap.size, 0, none⟩) hlt).trans c0
        replace c1 := (hb.cell (p := ⟨w.heap.size, 1, none⟩) hlt).trans c1
        replace c2 := (hb.cell (p := ⟨w.heap.size, 2, none⟩) hlt).trans c2
        replace c3 := (hb.cell (p := ⟨w.heap.size, 3, none⟩) hlt).trans c3
        replace c4 := (hb.cell (p := ⟨w.heap.size, 4, none⟩) hlt).trans c4
        replace hlt := Nat.lt_of_lt_of_le hlt hb.size
        clear hb
        cases ii
        · go_wp2_with fail
          go_ret
          exact ⟨ret_bool (by rw [HQ.out]; cases fm <;> rfl), HB.out⟩
        · go_wp2_with fail
          refine (HF.out _).mono ?_
          rintro e w1 ⟨rfl, hb⟩
          have HB := Lib.hid (HB.out.trans (hb.mono HB.out.size))
          replace c0 := (hb.cell (p := ⟨w.heap.size, 0, none⟩) hlt).trans c0
          replace c1 := (hb.cell (p := ⟨w.heap.size, 1, none⟩) hlt).trans c1
          replace c2 := (hb.cell (p := ⟨w.heap.size, 2, none⟩) hlt).trans c2
          replace c3 := (hb.cell (p := ⟨w.heap.size, 3, none⟩) hlt).trans c3
          replace c4 := (hb.cell (p := ⟨w.heap.size, 4, none⟩) hlt).trans c4
          replace hlt := Nat.lt_of_lt_of_le hlt hb.size
          clear hb
          cases fm
          · go_wp2_with fail
            go_ret
            exact ⟨ret_bool (by rw [HQ.out]; rfl), HB.out⟩
          · go_wp2_with fail
            go_ret
            exact ⟨ret_bool (by rw [HQ.out]; first | rfl | (simp; omega)), HB.out⟩
    · cases hf1 : f.toList.isEmpty
      · skip
        rw [show decide (0 < n) = false by rw [decide_eq_false (by omega)]] at HQ
        go_enter Tryz.func73, Tryz.ntmps73
        go_wp2_with fail
        have K0 := Lib.hid (Blk.new w 31 (trmC 5 a v A n cap f))
        have HB := Lib.hid (bel_alloc w (.cells (trmC 5 a v A n cap f) 31))
        dsimp only [trmC] at K0 HB
        generalize w.alloc (.cells #[.int .i64 5, .string a, .string v, .slice A n cap, .string f] 31) = wz at *
        have c0 := K0.out.cell 0
        have c1 := K0.out.cell 1
        have c2 := K0.out.cell 2
        have c3 := K0.out.cell 3
        have c4 := K0.out.cell 4
        have hlt := K0.out.lt
        refine (HN.out _).mono ?_
        rintro e w1 ⟨rfl, hb⟩
        have HB := Lib.hid (HB.out.trans (hb.mono HB.out.size))
        replace c0 := (hb.cell (p := ⟨w.heap.size, 0, none⟩) hlt).trans c0
        replace c1 := (hb.cell (p := ⟨w.heap.size, 1, none⟩) hlt).trans c1
        replace c2 := (hb.cell (p := ⟨w.heap.size, 2, none⟩) hlt).trans c2
        replace c3 := (hb.cell (p := ⟨w.heap.size, 3, none⟩) hlt).trans c3
        replace c4 := (hb.cell (p := ⟨w.heap.size, 4, none⟩) hlt).trans c4
        replace hlt := Nat.lt_of_lt_of_le hlt hb.size
        clear hb
        cases nm
        · go_wp2_with fail
          go_ret
          exact ⟨ret_bool (by rw [HQ.out]; cases fm <;> rfl), HB.out⟩
        · go_wp2_with fail
          refine (HI.out _).mono ?_
          rintro e w1 ⟨rfl, hb⟩
          have HB := Lib.hid (HB.out.trans (hb.mono HB.out.size))
          replace c0 := (hb.cell (p := ⟨w.heap.size, 0, none⟩) hlt).trans c0
          replace c1 := (hb.cell (p := ⟨w.heap.size, 1, none⟩) hlt).trans c1
          replace c2 := (hb.cell (p := ⟨w.heap.size, 2, none⟩) hlt).trans c2
          replace c3 := (hb.cell (p := ⟨w.heap.size, 3, none⟩) hlt).trans c3
          replace c4 := (hb.cell (p := ⟨w.heap.size, 4, none⟩) hlt).trans c4
          replace hlt := Nat.lt_of_lt_of_le hlt hb.size
          clear hb
          cases ii
          · go_wp2_with fail
            go_ret
            exact ⟨ret_bool (by rw [HQ.out]; cases fm <;> rfl), HB.out⟩
          · go_wp2_with fail
            refine (HF.out _).mono ?_
            rintro e w1 ⟨rfl, hb⟩
            have HB := Lib.hid (HB.out.trans (hb.mono HB.out.size))
            replace c0 := (hb.cell (p := ⟨w.heap.size, 0, none⟩) hlt).trans c0
            replace c1 := (hb.cell (p := ⟨w.heap.size, 1, none⟩) hlt).trans c1
            replace c2 := (hb.cell (p := ⟨w.heap.size, 2, none⟩) hlt).trans c2
            replace c3 := (hb.cell (p := ⟨w.heap.size, 3, none⟩) hlt).trans c3
            replace c4 := (hb.cell (p := ⟨w.heap.size, 4, none⟩) hlt).trans c4
            replace hlt := Nat.lt_of_lt_of_le hlt hb.size
            clear hb
            cases fm
            · go_wp2_with fail
              go_ret
              exact ⟨ret_bool (by rw [HQ.out]; rfl), HB.out⟩
            · go_wp2_with fail
              go_ret
              exact ⟨ret_bool (by rw [HQ.out]; first | rfl | (simp; omega)), HB.out⟩
      · skip
        rw [show decide (0 < n) = false by rw [decide_eq_false (by omega)]] at HQ
        go_enter Tryz.func73, Tryz.ntmps73
        go_wp2_with fail
        have K0 := Lib.hid (Blk.new w 31 (trmC 5 a v A n cap f))
        have HB := Lib.hid (bel_alloc w (.cells (trmC 5 a v A n cap f) 31))
        dsimp only [trmC] at K0 HB
        generalize w.alloc (.cells #[.int .i64 5, .string a, .string v, .slice A n cap, .string f] 31) = wz at *
        have c0 := K0.out.cell 0
        have c1 := K0.out.cell 1
        have c2 := K0.out.cell 2
        have c3 := K0.out.cell 3
        have c4 := K0.out.cell 4
        have hlt := K0.out.lt
        refine (HN.out _).mono ?_
        rintro e w1 ⟨rfl, hb⟩
        have HB := Lib.hid (HB.out.trans (hb.mono HB.out.size))
        replace c0 := (hb.cell (p := ⟨w.heap.size, 0, none⟩) hlt).trans c0
        replace c1 := (hb.cell (p := ⟨w.heap.size, 1, none⟩) hlt).trans c1
        replace c2 := (hb.cell (p := ⟨w.heap.size, 2, none⟩) hlt).trans c2
        replace c3 := (hb.cell (p := ⟨w.heap.size, 3, none⟩) hlt).trans c3
        replace c4 := (hb.cell (p := ⟨w.heap.size, 4, none⟩) hlt).trans c4
        replace hlt := Nat.lt_of_lt_of_le hlt hb.size
        clear hb
        cases nm
        · go_wp2_with fail
          go_ret
          exact ⟨ret_bool (by rw [HQ.out]; cases fm <;> rfl), HB.out⟩
        · go_wp2_with fail
          refine (HI.out _).mono ?_
          rintro e w1 ⟨rfl, hb⟩
          have HB := Lib.hid (HB.out.trans (hb.mono HB.out.size))
          replace c0 := (hb.cell (p := ⟨w.heap.size, 0, none⟩) hlt).trans c0
          replace c1 := (hb.cell (p := ⟨w.heap.size, 1, none⟩) hlt).trans c1
          replace c2 := (hb.cell (p := ⟨w.heap.size, 2, none⟩) hlt).trans c2
          replace c3 := (hb.cell (p := ⟨w.heap.size, 3, none⟩) hlt).trans c3
          replace c4 := (hb.cell (p := ⟨w.heap.size, 4, none⟩) hlt).trans c4
          replace hlt := Nat.lt_of_lt_of_le hlt hb.size
          clear hb
          cases ii
          · go_wp2_with fail
            go_ret
            exact ⟨ret_bool (by rw [HQ.out]; cases fm <;> rfl), HB.out⟩
          · go_wp2_with fail
            refine (HF.out _).mono ?_
            rintro e w1 ⟨rfl, hb⟩
            have HB := Lib.hid (HB.out.trans (hb.mono HB.out.size))
            replace c0 := (hb.cell (p := ⟨w.heap.size, 0, none⟩) hlt).trans c0
            replace c1 := (hb.cell (p := ⟨w.heap.size, 1, none⟩) hlt).trans c1
            replace c2 := (hb.cell (p := ⟨w.heap.size, 2, none⟩) hlt).trans c2
            replace c3 := (hb.cell (p := ⟨w.heap.size, 3, none⟩) hlt).trans c3
            replace c4 := (hb.cell (p := ⟨w.heap.size, 4, none⟩) hlt).trans c4
            replace hlt := Nat.lt_of_lt_of_le hlt hb.size
            clear hb
            cases fm
            · go_wp2_with fail
              go_ret
              exact ⟨ret_bool (by rw [HQ.out]; rfl), HB.out⟩
            · go_wp2_with fail
              go_ret
              exact ⟨ret_bool (by rw [HQ.out]; first | rfl | (simp; omega)), HB.out⟩
  · have hn2 : ((n : Int) == 0) = false := by rw [beq_eq_false_iff_ne]; omega
    have hn3 : (0 : Int) < (n : Int) := by omega
    replace hn1 := Lib.hid hn1
    rw [show decide (0 < n) = true by rw [decide_eq_true (by omega)]] at HQ
    go_enter Tryz.func73, Tryz.ntmps73
    go_wp2_with fail
    have K0 := Lib.hid (Blk.new w 31 (trmC 5 a v A n cap f))
    have HB := Lib.hid (bel_alloc w (.cells (trmC 5 a v A n cap f) 31))
    dsimp only [trmC] at K0 HB
    generalize w.alloc (.cells #[.int .i64 5, .string a, .string v, .slice A n cap, .string f] 31) = wz at *
    have c0 := K0.out.cell 0
    have c1 := K0.out.cell 1
    have c2 := K0.out.cell 2
    have c3 := K0.out.cell 3
    have c4 := K0.out.cell 4
    have hlt := K0.out.lt
    refine (HN.out _).mono ?_
    rintro e w1 ⟨rfl, hb⟩
    have HB := Lib.hid (HB.out.trans (hb.mono HB.out.size))
    replace c0 := (hb.cell (p := ⟨w.heap.size, 0, none⟩) hlt).trans c0
    replace c1 := (hb.cell (p := ⟨w.heap.size, 1, none⟩) hlt).trans c1
    replace c2 := (hb.cell (p := ⟨w.heap.size, 2, none⟩) hlt).trans c2
    replace c3 := (hb.cell (p := ⟨w.heap.size, 3, none⟩) hlt).trans c3
    replace c4 := (hb.cell (p := ⟨w.heap.size, 4, none⟩) hlt).trans c4
    replace hlt := Nat.lt_of_lt_of_le hlt hb.size
    clear hb
    cases nm
    · go_wp2_with fail
      go_ret
      exact ⟨ret_bool (by rw [HQ.out]; cases fm <;> rfl), HB.out⟩
    · go_wp2_with fail
      refine (HI.out _).mono ?_
      rintro e w1 ⟨rfl, hb⟩
      have HB := Lib.hid (HB.out.trans (hb.mono HB.out.size))
      replace c0 := (hb.cell (p := ⟨w.heap.size, 0, none⟩) hlt).trans c0
      replace c1 := (hb.cell (p := ⟨w.heap.size, 1, none⟩) hlt).trans c1
      replace c2 := (hb.cell (p := ⟨w.heap.size, 2, none⟩) hlt).trans c2
      replace c3 := (hb.cell (p := ⟨w.heap.size, 3, none⟩) hlt).trans c3
      replace c4 := (hb.cell (p := ⟨w.heap.size, 4, none⟩) hlt).trans c4
      replace hlt := Nat.lt_of_lt_of_le hlt hb.size
      clear hb
      cases ii
      · go_wp2_with fail
        go_ret
        exact ⟨ret_bool (by rw [HQ.out]; cases fm <;> rfl), HB.out⟩
      · go_wp2_with fail
        refine (HF.out _).mono ?_
        rintro e w1 ⟨rfl, hb⟩
        have HB := Lib.hid (HB.out.trans (hb.mono HB.out.size))
        replace c0 := (hb.cell (p := ⟨w.heap.size, 0, none⟩) hlt).trans c0
        replace c1 := (hb.cell (p := ⟨w.heap.size, 1, none⟩) hlt).trans c1
        replace c2 := (hb.cell (p := ⟨w.heap.size, 2, none⟩) hlt).trans c2
        replace c3 := (hb.cell (p := ⟨w.heap.size, 3, none⟩) hlt).trans c3
        replace c4 := (hb.cell (p := ⟨w.heap.size, 4, none⟩) hlt).trans c4
        replace hlt := Nat.lt_of_lt_of_le hlt hb.size
        clear hb
        cases fm
        · go_wp2_with fail
          go_ret
          exact ⟨ret_bool (by rw [HQ.out]; rfl), HB.out⟩
        · go_wp2_with fail
          go_ret
          exact ⟨ret_bool (by rw [HQ.out]; first | rfl | (simp; omega)), HB.out⟩
set_option maxRecDepth 100000 in
set_option maxHeartbeats 800000 in
theorem prop_o_v (k : Int) (a v f : ByteArray) (n : Nat) (A : Option Addr) (cap : Nat) (w : World) (hn : n ≤ 9223372036854775807) (h1 : (k == 1) = false) (h2 : (k == 2) = false) (h3 : (k == 3) = false) (h4 : (k == 4) = false) (h5 : (k == 5) = false) : Calls Tryz.prog 73 #[.agg (trmC k a v A n cap f)] w fun e w' => e = .returned (.bool (ownM k a.toList v.toList f.toList n)) ∧ Below w.heap.size w w' := by
  have HQ := Lib.hid (show ownM k a.toList v.toList f.toList n = false by unfold ownM; rw [if_neg (beq_eq_false_iff_ne.1 h1), if_neg (beq_eq_false_iff_ne.1 h2), if_neg (beq_eq_false_iff_ne.1 h3), if_neg (beq_eq_false_iff_ne.1 h4), if_neg (beq_eq_false_iff_ne.1 h5)])
  by_cases hn1 : n = 0
  · have hn2 : ((n : Int) == 0) = true := by rw [beq_iff_eq]; omega
    have hn3 : ¬ (0 : Int) < (n : Int) := by omega
    replace hn1 := Lib.hid hn1
    cases hv1 : v.toList.isEmpty
    · skip
      go_enter Tryz.func73, Tryz.ntmps73
      go_wp2_with fail
      have K0 := Lib.hid (Blk.new w 31 (trmC k a v A n cap f))
      have HB := Lib.hid (bel_alloc w (.cells (trmC k a v A n cap f) 31))
      dsimp only [trmC] at K0 HB
      generalize w.alloc (.cells #[.int .i64 k, .string a, .string v, .slice A n cap, .string f] 31) = wz at *
      have c0 := K0.out.cell 0
      have c1 := K0.out.cell 1
      have c2 := K0.out.cell 2
      have c3 := K0.out.cell 3
      have c4 := K0.out.cell 4
      have hlt := K0.out.lt
      go_wp2_with fail
      go_ret
      exact ⟨ret_bool (by rw [HQ.out]), HB.out⟩
    · cases hf1 : f.toList.isEmpty
      · skip
        go_enter Tryz.func73, Tryz.ntmps73
        go_wp2_with fail
        have K0 := Lib.hid (Blk.new w 31 (trmC k a v A n cap f))
        have HB := Lib.hid (bel_alloc w (.cells (trmC k a v A n cap f) 31))
        dsimp only [trmC] at K0 HB
        generalize w.alloc (.cells #[.int .i64 k, .string a, .string v, .slice A n cap, .string f] 31) = wz at *
        have c0 := K0.out.cell 0
        have c1 := K0.out.cell 1
        have c2 := K0.out.cell 2
        have c3 := K0.out.cell 3
        have c4 := K0.out.cell 4
        have hlt := K0.out.lt
        go_wp2_with fail
        go_ret
        exact ⟨ret_bool (by rw [HQ.out]), HB.out⟩
      · skip
        go_enter Tryz.func73, Tryz.ntmps73
        go_wp2_with fail
        have K0 := Lib.hid (Blk.new w 31 (trmC k a v A n cap f))
        have HB := Lib.hid (bel_alloc w (.cells (trmC k a v A n cap f) 31))
        dsimp only [trmC] at K0 HB
        generalize w.alloc (.cells #[.int .i64 k, .string a, .string v, .slice A n cap, .string f] 31) = wz at *
        have c0 := K0.out.cell 0
        have c1 := K0.out.cell 1
        have c2 := K0.out.cell 2
        have c3 := K0.out.cell 3
        have c4 := K0.out.cell 4
        have hlt := K0.out.lt
        go_wp2_with fail
        go_ret
        exact ⟨ret_bool (by rw [HQ.out]), HB.out⟩
  · have hn2 : ((n : Int) == 0) = false := by rw [beq_eq_false_iff_ne]; omega
    have hn3 : (0 : Int) < (n : Int) := by omega
    replace hn1 := Lib.hid hn1
    go_enter Tryz.func73, Tryz.ntmps73
    go_wp2_with fail
    have K0 := Lib.hid (Blk.new w 31 (trmC k a v A n cap f))
    have HB := Lib.hid (bel_alloc w (.cells (trmC k a v A n cap f) 31))
    dsimp only [trmC] at K0 HB
    generalize w.alloc (.cells #[.int .i64 k, .string a, .string v, .slice A n cap, .string f] 31) = wz at *
    have c0 := K0.out.cell 0
    have c1 := K0.out.cell 1
    have c2 := K0.out.cell 2
    have c3 := K0.out.cell 3
    have c4 := K0.out.cell 4
    have hlt := K0.out.lt
    go_wp2_with fail
    go_ret
    exact ⟨ret_bool (by rw [HQ.out]), HB.out⟩
theorem proper_any_v (t : Trm) (c : Array Value) (w : World) (hM : MAt w t c) : Calls Tryz.prog 73 #[.agg c] w fun e w' => e = .returned (.bool (ownM t.kind t.nam.data.toList t.vr.data.toList t.form.data.toList t.args.length)) ∧ Below w.heap.size w w' := by
  obtain ⟨A, cap, rfl, ha, hv, hf, hn, hc, -⟩ := hM.form
  obtain ⟨k, a, v, f, ts⟩ := t
  dsimp only [Trm.kind, Trm.nam, Trm.vr, Trm.form, Trm.args] at ha hv hf hn ⊢
  rw [← ByteArray.toList_eq, ← ByteArray.toList_eq, ← ByteArray.toList_eq]
  have hn : ts.length ≤ 9223372036854775807 := by omega
  by_cases h1 : k = 1
  · subst h1; exact prop_1_v a v f _ A cap w ha hn
  by_cases h2 : k = 2
  · subst h2; exact prop_2_v a v f _ A cap w ha hn
  by_cases h3 : k = 3
  · subst h3; exact prop_3_v a v f _ A cap w ha hn
  by_cases h4 : k = 4
  · subst h4; exact prop_4_v a v f _ A cap w ha hf hn
  by_cases h5 : k = 5
  · subst h5; exact prop_5_v a v f _ A cap w ha hv hf hn
  exact prop_o_v k a v f _ A cap w hn (beq_eq_false_iff_ne.2 h1) (beq_eq_false_iff_ne.2 h2) (beq_eq_false_iff_ne.2 h3) (beq_eq_false_iff_ne.2 h4) (beq_eq_false_iff_ne.2 h5)
set_option maxRecDepth 100000 in
set_option maxHeartbeats 1600000 in
theorem rsize_any_v : ∀ (z : Nat) (t : Trm) (c : Array Value) (w : World), cntM t ≤ z → z ≤ 1000000 → MAt w t c → Calls Tryz.prog 43 #[.agg c] w fun e w' => e = .returned (.int .i64 (sizM_v t)) ∧ Below w.heap.size w w' := by
  intro z
  induction z with
  | zero => intro t c w h; have := cnt_pos t; omega
  | succ z ih =>
    intro t c w hz hz2 hM
    have IH := Lib.hid (fun t c w h hN => ih t c w h (by omega) hN)
    clear ih
    obtain ⟨A, cap, rfl, ha, hv, hf, hl, hc, hk⟩ := hM.form
    have HM := Lib.hid (hM.keep (bel_alloc w (.cells (trmC t.kind t.nam t.vr A t.args.length cap t.form) 31)))
    obtain ⟨k, a, v, f, ts⟩ := t
    dsimp only [Trm.kind, Trm.nam, Trm.vr, Trm.form, Trm.args] at ha hv hf hl hk HM ⊢
    have HK := Lib.hid (hk.keep (bel_alloc w (.cells (trmC k a v A ts.length cap f) 31)))
    have HB := Lib.hid (bel_alloc w (.cells (trmC k a v A ts.length cap f) 31))
    have K1 := Lib.hid (Blk.new w 31 (trmC k a v A ts.length cap f))
    have HT : cntM (.mk k a v f ts) = cntL ts + 1 := by rw [cntM]
    have HFM := Lib.hid (show formM (.mk k a v f ts) = (ownM k a.data.toList v.data.toList f.data.toList ts.length && formML ts) by rw [formM])
    have hlc := len_cntL_v ts
    have HZ := Lib.hid (show cntL ts ≤ z by omega)
    have HL : ts.length ≤ 1000000 := by omega
    have HQ := Lib.hid (show sizM_v (.mk k a v f ts) = if formM (.mk k a v f ts) = true ∧ cntL ts + 1 ≤ 1000 then ((cntL ts + 1 : Nat) : Int) else -1 by unfold sizM_v; rw [HT])
    have HLC := Lib.hid hlc
    clear hz hM hk HT hlc
    dsimp only [trmC] at HK HB K1 HM
    go_enter Tryz.func43, Tryz.ntmps43
    go_wp2_with fail
    refine (proper_any_v _ _ _ HM.out).mono ?_
    rintro e w1 ⟨rfl, hb⟩
    dsimp only [Trm.kind, Trm.nam, Trm.vr, Trm.form, Trm.args]
    replace HK := Lib.hid (HK.out.keep hb)
    replace K1 := Lib.hid (keep hb K1.out)
    replace HB := Lib.hid (HB.out.trans (hb.mono HB.out.size))
    clear hb HM
    have c3 := K1.out.cell 3
    cases ho : ownM k a.data.toList v.data.toList f.data.toList ts.length
    · have HQ2 := Lib.hid (show sizM_v (.mk k a v f ts) = -1 by rw [HQ.out, if_neg (fun h => by rw [HFM.out, ho] at h; simp at h)])
      clear ho
      go_wp2_with fail
      go_ret
      exact ⟨ret_int HQ2.out.symm, HB.out⟩
    rw [ho, Bool.true_and] at HFM
    clear ho
    by_cases hbig : 1000 < (ts.length : Int)
    · have HQ2 := Lib.hid (show sizM_v (.mk k a v f ts) = -1 by rw [HQ.out, if_neg (fun h => by have := HLC.out; omega)])
      go_wp2_with fail
      go_ret
      exact ⟨ret_int HQ2.out.symm, HB.out⟩
    rw [HFM.out] at HQ
    go_wp2_with fail
    clear c3
    go_loopw [3, 4] (fun v0 i wr => ∃ (j x : Nat), j ≤ ts.length ∧ i = .int .i64 j ∧ v0 = .int .i64 x ∧ x ≤ 1000 ∧ Hid (x = cntL (ts.take j) + 1) ∧ Hid (formML (ts.take j) = true) ∧ Hid (Blk wr w.heap.size 31 (trmC k a v A ts.length cap f)) ∧ Hid (ArgsAt wr A ts) ∧ Hid (Below w.heap.size w wr)) (fun _ i _ => ts.length - (intOf i).toNat)
    case atStart => exact ⟨0, 1, by omega, rfl, rfl, by omega, rfl, rfl, K1, HK, HB⟩
    case round =>
      clear K1 HK HB
      obtain ⟨j, x, hj, rfl, rfl, hx, HX, HFJ, K1, HK, HB⟩ := hrel
      have c3 := K1.out.cell 3
      dsimp only [trmC] at c3
      by_cases hlt : j < ts.length
      · obtain ⟨y, hy⟩ : ∃ y, ts[j]? = some y := ⟨_, List.getElem?_eq_getElem hlt⟩
        obtain ⟨ad, A', cap', rfl, hadl, hp⟩ := HK.out.at_ hy
        have HY := Lib.hid hp.whole
        obtain ⟨-, d0, d1, d2, d3, d4, -⟩ := hp
        have HS := Lib.hid (show cntM y ≤ z by have := cnt_arg hy; have := HZ.out; omega)
        have HSN := Lib.hid (cntL_snoc_v hy)
        have HFS := Lib.hid (formML_snoc_v hy)
        have HLE := Lib.hid (cntL_take_v ts (j + 1))
        have HFF := Lib.hid (fun h => formML_false_v (ks := ts) (k := j + 1) h)
        have HYP := Lib.hid (cnt_pos y)
        clear hy
        go_wp2_with fail
        refine (IH.out y _ _ HS.out HY.out).mono ?_
        rintro e w2 ⟨rfl, hb⟩
        replace HK := Lib.hid (HK.out.keep hb)
        replace K1 := Lib.hid (keep hb K1.out)
        replace HB := Lib.hid (HB.out.trans (hb.mono HB.out.size))
        clear hb HY d0 d1 d2 d3 d4 c3
        by_cases hgood : formM y = true ∧ cntM y ≤ 1000
        · rw [show sizM_v y = (cntM y : Int) by unfold sizM_v; rw [if_pos hgood]]
          obtain ⟨g1, g2⟩ := hgood
          rw [HFJ.out, g1] at HFS
          have hyp := HYP.out
          by_cases hover : 1000 < x + cntM y
          · have HQ2 := Lib.hid (show sizM_v (.mk k a v f ts) = -1 by rw [HQ.out, if_neg (fun h => by have h1 := HSN.out; have h2 := HX.out; have h3 := HLE.out; omega)])
            clear g1 HSN HX
            generalize cntM y = u at *
            go_wp2_with fail
            go_ret
            exact ⟨ret_int HQ2.out.symm, HB.out⟩
          · have HS2 := Lib.hid (show x + cntM y = cntL (ts.take (j + 1)) + 1 by rw [HSN.out, HX.out]; omega)
            clear g1 HSN HX HS
            generalize cntM y = u at *
            go_wp2_with fail
            go_roundw
            case rel => exact ⟨j + 1, x + u, by omega, by go_num, by go_num, by omega, HS2, HFS, K1, HK, HB⟩
            case measure => simp [intOf]; omega
        · rw [show sizM_v y = -1 by unfold sizM_v; rw [if_neg hgood]]
          have HQ2 := Lib.hid (show sizM_v (.mk k a v f ts) = -1 by
            rw [HQ.out, if_neg]
            rintro ⟨h1, h2⟩
            apply hgood
            refine ⟨?_, ?_⟩
            · cases hfy : formM y
              · have h3 := HFF.out (by rw [HFS.out, hfy, Bool.and_false])
                rw [h3] at h1; cases h1
              · rfl
            · have h3 := HSN.out; have h4 := HLE.out; omega)
          clear hgood
          go_wp2_with fail
          go_ret
          exact ⟨ret_int HQ2.out.symm, HB.out⟩
      · obtain rfl : j = ts.length := by omega
        rw [List.take_length] at HX HFJ
        have HQ2 := Lib.hid (show sizM_v (.mk k a v f ts) = (x : Int) by rw [HQ.out, if_pos ⟨HFJ.out, by have := HX.out; omega⟩, HX.out])
        go_wp2_with fail
        go_ret
        exact ⟨ret_int HQ2.out.symm, HB.out⟩
set_option maxRecDepth 100000 in
set_option maxHeartbeats 800000 in
theorem rvalid_any_v (t : Trm) (c : Array Value) (w : World) (hn : cntM t ≤ 1000000) (hM : MAt w t c) : Calls Tryz.prog 20 #[.agg c] w fun e w' => e = .returned (.bool (validM t)) ∧ Below w.heap.size w w' := by
  obtain ⟨A, cap, rfl, ha, hv, hf, hl, hc, hk⟩ := hM.form
  have HM := Lib.hid (hM.keep (bel_alloc w (.cells (trmC t.kind t.nam t.vr A t.args.length cap t.form) 31)))
  have HB := Lib.hid (bel_alloc w (.cells (trmC t.kind t.nam t.vr A t.args.length cap t.form) 31))
  have K1 := Lib.hid (Blk.new w 31 (trmC t.kind t.nam t.vr A t.args.length cap t.form))
  have HQ := Lib.hid (siz_valid_v t)
  have HN := Lib.hid hn
  clear hM hk hn
  dsimp only [trmC] at HM HB K1
  go_enter Tryz.func20, Tryz.ntmps20
  go_wp2_with fail
  refine (rsize_any_v (cntM t) t _ _ (Nat.le_refl _) HN.out HM.out).mono ?_
  rintro e w2 ⟨rfl, hb⟩
  replace HB := Lib.hid (HB.out.trans (hb.mono HB.out.size))
  clear hb
  generalize sizM_v t = sz at *
  go_wp2_with fail
  go_ret
  exact ⟨ret_bool HQ.out, HB.out⟩
end Go.Proofs.YthpioplpfmlgcaaGreatDoor.Sp
