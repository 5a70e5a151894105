/- The text and the number of kids of a node: the reference. -/
import Derived.Test.YtgoafobhhmeppaaGreatNW
import Derived.Test.YtgoafobhhmeppaaGreatNF
namespace Go.Proofs.YtgoafobhhmeppaaGreat
open Go.RowKit
theorem delims_list : (⟨#[40, 41, 91, 93, 123, 125, 124, 60, 62, 47, 46]⟩ : ByteArray).toList = delimL := by rw [ByteArray.toList_eq]; rfl
theorem tl (s : ByteArray) : s.toList = s.data.toList := ByteArray.toList_eq s
set_option maxRecDepth 100000 in
set_option maxHeartbeats 800000 in
theorem rtext_any (k : Int) (s : ByteArray) (cols : Int) (A : Option Addr) (n cap : Nat) (w : World) (hs : s.size ≤ 9223372036854775807) : Calls Tryz.prog 91 #[.agg #[.int .i64 k, .string s, .int .i64 cols, .slice A n cap]] w fun e w' => e = .returned (.bool (textB k s.data.toList)) ∧ Below w.heap.size w w' := by
  have HL := Lib.hid (show s.data.toList.length = s.size by simp)
  by_cases h2 : k = 2
  · subst h2
    have HQ := Lib.hid (show textB 2 s.data.toList = symB s.toList by unfold textB; rw [if_pos rfl, tl])
    go_enter Tryz.func91, Tryz.ntmps91
    go_wp2_with fail
    refine (rsym_any s _ hs).mono ?_
    rintro e w1 ⟨rfl, hb⟩
    have HB := Lib.hid ((bel_alloc w _).trans (hb.mono (by simp)))
    clear hb
    go_wp2_with fail
    go_ret
    exact ⟨ret_bool HQ.out.symm, HB.out⟩
  have q2 : (k == 2) = false := beq_eq_false_iff_ne.2 h2
  by_cases h3 : k = 3
  · subst h3
    clear h2 q2
    have HQ := Lib.hid (show textB 3 s.data.toList = numR s.data.toList by rw [num_same]; rfl)
    go_enter Tryz.func91, Tryz.ntmps91
    go_wp2_with fail
    refine (rnum_any s _ hs).mono ?_
    rintro e w1 ⟨rfl, rfl⟩
    go_wp2_with fail
    go_ret
    exact ⟨ret_bool HQ.out.symm, bel_alloc _ _⟩
  have q3 : (k == 3) = false := beq_eq_false_iff_ne.2 h3
  by_cases h4 : k = 4
  · subst h4
    clear h2 q2 h3 q3
    have HQ := Lib.hid (show textB 4 s.data.toList = (decide (s.size ≤ 200) && prinB s.toList) by rw [← HL.out, tl]; rfl)
    by_cases h200 : s.size ≤ 200
    · rw [decide_eq_true h200, Bool.true_and] at HQ
      go_enter Tryz.func91, Tryz.ntmps91
      go_wp2_with fail
      refine (rprin_any s _ hs).mono ?_
      rintro e w1 ⟨rfl, rfl⟩
      go_wp2_with fail
      go_ret
      exact ⟨ret_bool HQ.out.symm, bel_alloc _ _⟩
    · rw [decide_eq_false h200, Bool.false_and] at HQ
      go_enter Tryz.func91, Tryz.ntmps91
      go_wp2_with fail
      go_ret
      exact ⟨ret_bool HQ.out.symm, bel_alloc _ _⟩
  have q4 : (k == 4) = false := beq_eq_false_iff_ne.2 h4
  by_cases h10 : k = 10
  · subst h10
    clear h2 q2 h3 q3 h4 q4
    have HQ := Lib.hid (show textB 10 s.data.toList = inB (acS.map (·.toList)) s.toList by rw [acS_list, tl]; rfl)
    go_enter Tryz.func91, Tryz.ntmps91
    go_wp2_with fail
    have K0 := Lib.hid (Blk.new w 46 #[.int .i64 10, .string s, .int .i64 cols, .slice A n cap])
    have H0 := Lib.hid (bel_alloc w (.cells #[.int .i64 10, .string s, .int .i64 cols, .slice A n cap] 46))
    generalize w.alloc (.cells #[.int .i64 10, .string s, .int .i64 cols, .slice A n cap] 46) = wz at *
    have d1 := K0.out.drew.cell 1
    have HN : Hid (acS.length = 6) := rfl
    go_region_with (first
      | (go_at_call 100; refine (raccents_any _).mono ?_; rintro e w1 ⟨rfl, hS, hb⟩; have HS := Lib.hid hS; have HB := Lib.hid ((below_drew H0.out).trans (hb.mono H0.out.size)); have e1 := (keep hb K0.out.drew).cell 1; clear hS hb)
      | (go_at_call 99; rw [← HN.out]; refine (rin_any _ 6 acS s _ HS.out (by decide)).mono ?_; rintro e w2 ⟨rfl, rfl⟩))
    all_goals
      go_wp2_with fail
      go_ret
      exact ⟨ret_bool HQ.out.symm, HB.out⟩
  have q10 : (k == 10) = false := beq_eq_false_iff_ne.2 h10
  by_cases h11 : k = 11
  · subst h11
    clear h2 q2 h3 q3 h4 q4 h10 q10
    have HQ := Lib.hid (show textB 11 s.data.toList = fencB s.data.toList from rfl)
    by_cases hz : s.size = 2
    · obtain ⟨a, b, rfl⟩ := two_bytes s hz
      clear hz HL hs
      rw [fenc_two] at HQ
      have HA := Lib.hid (fun w1 => rhas_any ⟨#[40, 41, 91, 93, 123, 125, 124, 60, 62, 47, 46]⟩ a w1 (by decide))
      have HB := Lib.hid (fun w1 => rhas_any ⟨#[40, 41, 91, 93, 123, 125, 124, 60, 62, 47, 46]⟩ b w1 (by decide))
      rw [delims_list] at HA HB
      go_enter Tryz.func91, Tryz.ntmps91
      go_wp2_with fail
      refine (HA.out _).mono ?_
      rintro e w1 ⟨rfl, rfl⟩
      cases ha : hasB delimL a
      · rw [ha] at HQ
        clear ha
        go_wp2_with fail
        go_ret
        exact ⟨ret_bool HQ.out.symm, bel_alloc _ _⟩
      · rw [ha] at HQ
        clear ha
        go_wp2_with fail
        refine (HB.out _).mono ?_
        rintro e w1 ⟨rfl, rfl⟩
        go_wp2_with fail
        go_ret
        exact ⟨ret_bool (by rw [HQ.out, Bool.true_and]), bel_alloc _ _⟩
    · rw [fenc_no hz] at HQ
      have hq : ((s.size : Int) == 2) = false := by rw [beq_eq_false_iff_ne]; omega
      clear hz
      go_enter Tryz.func91, Tryz.ntmps91
      go_wp2_with fail
      go_ret
      exact ⟨ret_bool HQ.out.symm, bel_alloc _ _⟩
  have q11 : (k == 11) = false := beq_eq_false_iff_ne.2 h11
  have HQ := Lib.hid (show textB k s.data.toList = s.toList.isEmpty by unfold textB; rw [if_neg h2, if_neg h3, if_neg h4, if_neg h10, if_neg h11, tl])
  clear h2 h3 h4 h10 h11
  go_enter Tryz.func91, Tryz.ntmps91
  go_wp2_with fail
  go_ret
  exact ⟨ret_bool HQ.out.symm, bel_alloc _ _⟩

set_option maxRecDepth 100000 in
set_option maxHeartbeats 800000 in
theorem rkids_any (k : Int) (s : ByteArray) (c : Int) (A : Option Addr) (n cap : Nat) (w : World) (hn : n ≤ 9223372036854775807) : Calls Tryz.prog 92 #[.agg #[.int .i64 k, .string s, .int .i64 c, .slice A n cap]] w fun e w' => e = .returned (.bool (kidsB k c n)) ∧ Below w.heap.size w w' := by
  by_cases h12 : k = 12
  · subst h12
    have HQ := Lib.hid (show kidsB 12 c n = (decide (1 ≤ c ∧ c ≤ 16) && (decide (1 ≤ n ∧ n ≤ 256) && decide ((n : Int) % c = 0))) from rfl)
    by_cases c1 : 1 ≤ c
    · by_cases c2 : c ≤ 16
      · rw [decide_eq_true ⟨c1, c2⟩, Bool.true_and] at HQ
        by_cases n1 : 1 ≤ n
        · by_cases n2 : n ≤ 256
          · rw [decide_eq_true ⟨n1, n2⟩, Bool.true_and] at HQ
            go_enter Tryz.func92, Tryz.ntmps92
            go_wp2_with fail
            go_ret
            exact ⟨ret_bool (by rw [HQ.out]; first | rfl | (simp; done)), bel_alloc _ _⟩
          · rw [decide_eq_false (p := 1 ≤ n ∧ n ≤ 256) (by omega), Bool.false_and] at HQ
            go_enter Tryz.func92, Tryz.ntmps92
            go_wp2_with fail
            go_ret
            exact ⟨ret_bool (by rw [HQ.out]), bel_alloc _ _⟩
        · rw [decide_eq_false (p := 1 ≤ n ∧ n ≤ 256) (by omega), Bool.false_and] at HQ
          go_enter Tryz.func92, Tryz.ntmps92
          go_wp2_with fail
          go_ret
          exact ⟨ret_bool (by rw [HQ.out]), bel_alloc _ _⟩
      · rw [decide_eq_false (p := 1 ≤ c ∧ c ≤ 16) (by omega), Bool.false_and] at HQ
        go_enter Tryz.func92, Tryz.ntmps92
        go_wp2_with fail
        go_ret
        exact ⟨ret_bool (by rw [HQ.out]), bel_alloc _ _⟩
    · rw [decide_eq_false (p := 1 ≤ c ∧ c ≤ 16) (by omega), Bool.false_and] at HQ
      go_enter Tryz.func92, Tryz.ntmps92
      go_wp2_with fail
      go_ret
      exact ⟨ret_bool (by rw [HQ.out]), bel_alloc _ _⟩
  have q12 : (k == 12) = false := beq_eq_false_iff_ne.2 h12
  by_cases hc : c = 0
  · subst hc
    have HQ := Lib.hid (show kidsB k 0 n = (if k = 1 then decide (n ≤ 200) else if k = 2 ∨ k = 3 ∨ k = 4 then decide (n = 0) else if k = 5 ∨ k = 6 ∨ k = 7 ∨ k = 8 then decide (n = 2) else if k = 9 then decide (n = 3) else if k = 10 ∨ k = 11 then decide (n = 1) else false) by unfold kidsB; rw [if_neg h12, decide_eq_true rfl, Bool.true_and])
    by_cases h1 : k = 1
    · subst h1
      go_enter Tryz.func92, Tryz.ntmps92
      go_wp2_with fail
      go_ret
      exact ⟨ret_bool (by rw [HQ.out, Bool.eq_iff_iff]; simp; try omega), bel_alloc _ _⟩
    have q1 : (k == 1) = false := beq_eq_false_iff_ne.2 h1
    by_cases h2 : k = 2
    · subst h2
      go_enter Tryz.func92, Tryz.ntmps92
      go_wp2_with fail
      go_ret
      exact ⟨ret_bool (by rw [HQ.out, Bool.eq_iff_iff]; simp; try omega), bel_alloc _ _⟩
    have q2 : (k == 2) = false := beq_eq_false_iff_ne.2 h2
    by_cases h3 : k = 3
    · subst h3
      go_enter Tryz.func92, Tryz.ntmps92
      go_wp2_with fail
      go_ret
      exact ⟨ret_bool (by rw [HQ.out, Bool.eq_iff_iff]; simp; try omega), bel_alloc _ _⟩
    have q3 : (k == 3) = false := beq_eq_false_iff_ne.2 h3
    by_cases h4 : k = 4
    · subst h4
      go_enter Tryz.func92, Tryz.ntmps92
      go_wp2_with fail
      go_ret
      exact ⟨ret_bool (by rw [HQ.out, Bool.eq_iff_iff]; simp; try omega), bel_alloc _ _⟩
    have q4 : (k == 4) = false := beq_eq_false_iff_ne.2 h4
    by_cases h5 : k = 5
    · subst h5
      go_enter Tryz.func92, Tryz.ntmps92
      go_wp2_with fail
      go_ret
      exact ⟨ret_bool (by rw [HQ.out, Bool.eq_iff_iff]; simp; try omega), bel_alloc _ _⟩
    have q5 : (k == 5) = false := beq_eq_false_iff_ne.2 h5
    by_cases h6 : k = 6
    · subst h6
      go_enter Tryz.func92, Tryz.ntmps92
      go_wp2_with fail
      go_ret
      exact ⟨ret_bool (by rw [HQ.out, Bool.eq_iff_iff]; simp; try omega), bel_alloc _ _⟩
    have q6 : (k == 6) = false := beq_eq_false_iff_ne.2 h6
    by_cases h7 : k = 7
    · subst h7
      go_enter Tryz.func92, Tryz.ntmps92
      go_wp2_with fail
      go_ret
      exact ⟨ret_bool (by rw [HQ.out, Bool.eq_iff_iff]; simp; try omega), bel_alloc _ _⟩
    have q7 : (k == 7) = false := beq_eq_false_iff_ne.2 h7
    by_cases h8 : k = 8
    · subst h8
      go_enter Tryz.func92, Tryz.ntmps92
      go_wp2_with fail
      go_ret
      exact ⟨ret_bool (by rw [HQ.out, Bool.eq_iff_iff]; simp; try omega), bel_alloc _ _⟩
    have q8 : (k == 8) = false := beq_eq_false_iff_ne.2 h8
    by_cases h9 : k = 9
    · subst h9
      go_enter Tryz.func92, Tryz.ntmps92
      go_wp2_with fail
      go_ret
      exact ⟨ret_bool (by rw [HQ.out, Bool.eq_iff_iff]; simp; try omega), bel_alloc _ _⟩
    have q9 : (k == 9) = false := beq_eq_false_iff_ne.2 h9
    by_cases h10 : k = 10
    · subst h10
      go_enter Tryz.func92, Tryz.ntmps92
      go_wp2_with fail
      go_ret
      exact ⟨ret_bool (by rw [HQ.out, Bool.eq_iff_iff]; simp; try omega), bel_alloc _ _⟩
    have q10 : (k == 10) = false := beq_eq_false_iff_ne.2 h10
    by_cases h11 : k = 11
    · subst h11
      go_enter Tryz.func92, Tryz.ntmps92
      go_wp2_with fail
      go_ret
      exact ⟨ret_bool (by rw [HQ.out, Bool.eq_iff_iff]; simp; try omega), bel_alloc _ _⟩
    have q11 : (k == 11) = false := beq_eq_false_iff_ne.2 h11
    rw [if_neg h1, if_neg (by omega), if_neg (by omega), if_neg h9, if_neg (by omega)] at HQ
    clear h1 h2 h3 h4 h5 h6 h7 h8 h9 h10 h11 h12
    go_enter Tryz.func92, Tryz.ntmps92
    go_wp2_with fail
    go_ret
    exact ⟨ret_bool (by rw [HQ.out]), bel_alloc _ _⟩
  · have HQ := Lib.hid (show kidsB k c n = false by unfold kidsB; rw [if_neg h12, decide_eq_false hc, Bool.false_and])
    have qc : (c == 0) = false := beq_eq_false_iff_ne.2 hc
    have qc2 : (c != 0) = true := by rw [bne, qc]; rfl
    clear hc h12
    go_enter Tryz.func92, Tryz.ntmps92
    go_wp2_with fail
    go_ret
    exact ⟨ret_bool (by rw [HQ.out]), bel_alloc _ _⟩
end Go.Proofs.YtgoafobhhmeppaaGreat
