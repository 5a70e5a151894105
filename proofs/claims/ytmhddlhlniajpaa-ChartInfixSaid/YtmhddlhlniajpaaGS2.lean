/- A rule that is valid alone, rules that clash: of the program and of the reference. -/
import Derived.Test.YtmhddlhlniajpaaGS1
namespace Go.Proofs.Ytmhddlhlniajpaa
open Go.RowKit
abbrev Rul.c (r : Rul) : Array Value := #[.int .i64 r.kind, .string r.sym, .string r.nam, .int .i64 r.prec, .int .i64 r.left, .int .i64 r.right]
abbrev Rul.v (r : Rul) : Value := .agg r.c
def Rul.fits (r : Rul) : Prop := r.sym.size ≤ 9223372036854775807 ∧ r.nam.size ≤ 9223372036854775807
/-- what the kind asks -/
def kindB (r : Rul) : Bool := if r.kind = 1 then symB r.sym.toList else if r.kind = 2 then symB r.sym.toList && decide (r.left = 0) else if r.kind = 3 then symB r.sym.toList && decide (r.right = 0) else decide (r.kind = 4) && r.sym.toList.isEmpty
theorem own_def (r : Rul) : ownB r = (namedB r.nam.toList && (inR r.prec 1 100 && (inR r.left 0 101 && (inR r.right 0 101 && kindB r)))) := rfl
set_option maxRecDepth 100000 in
set_option maxHeartbeats 800000 in
theorem own_any (r : Rul) (w : World) (hf : r.fits) : Calls Try.prog 46 #[r.v] w fun e w' => e = .returned (.bool (ownB r)) ∧ Below w.heap.size w w' := by
  have HO := Lib.hid (own_def r)
  have HF := Lib.hid hf
  clear hf
  go_enter Try.func46, Try.ntmps46
  go_wp2_with fail
  refine (named_any r.nam _ HF.out.2).mono ?_
  rintro e w' ⟨rfl, rfl⟩
  cases h1 : namedB r.nam.toList
  · rw [h1, Bool.false_and] at HO
    clear h1
    go_wp2_with fail
    go_ret
    exact ⟨ret_bool HO.out.symm, bel_alloc _ _⟩
  · rw [h1] at HO
    clear h1
    go_wp2_with fail
    refine (within_any r.prec 1 100 _).mono ?_
    rintro e w' ⟨rfl, rfl⟩
    cases h2 : inR r.prec 1 100
    · rw [h2, Bool.false_and, Bool.and_false] at HO
      clear h2
      go_wp2_with fail
      go_ret
      exact ⟨ret_bool HO.out.symm, bel_alloc _ _⟩
    · rw [h2] at HO
      clear h2
      go_wp2_with fail
      refine (within_any r.left 0 101 _).mono ?_
      rintro e w' ⟨rfl, rfl⟩
      cases h3 : inR r.left 0 101
      · rw [h3, Bool.false_and, Bool.and_false, Bool.and_false] at HO
        clear h3
        go_wp2_with fail
        go_ret
        exact ⟨ret_bool HO.out.symm, bel_alloc _ _⟩
      · rw [h3] at HO
        clear h3
        go_wp2_with fail
        refine (within_any r.right 0 101 _).mono ?_
        rintro e w' ⟨rfl, rfl⟩
        cases h4 : inR r.right 0 101
        · rw [h4, Bool.false_and, Bool.and_false, Bool.and_false, Bool.and_false] at HO
          clear h4
          go_wp2_with fail
          go_ret
          exact ⟨ret_bool HO.out.symm, bel_alloc _ _⟩
        · rw [h4] at HO
          clear h4
          rw [Bool.true_and, Bool.true_and, Bool.true_and, Bool.true_and] at HO
          unfold kindB at HO
          by_cases k1 : r.kind = 1
          · rw [if_pos k1] at HO
            have q1 : (r.kind == 1) = true := by rw [k1]; rfl
            clear k1
            go_wp2_with fail
            refine (sym_any r.sym _ HF.out.1).mono ?_
            rintro e w1 ⟨rfl, hb⟩
            have K0 := Lib.hid (keep hb (Blk.new w 41 r.c))
            have H0 := Lib.hid ((bel_alloc w _).trans (hb.mono (by simp)))
            have c0 := fun i => K0.out.cell i
            have l0 := K0.out.lt
            clear hb
            generalize symB r.sym.toList = b at HO ⊢
            go_wp2_with fail
            go_ret
            exact ⟨ret_bool HO.out.symm, H0.out⟩
          · rw [if_neg k1] at HO
            have q1 : (r.kind == 1) = false := by rw [beq_eq_false_iff_ne]; exact k1
            by_cases k2 : r.kind = 2
            · rw [if_pos k2] at HO
              have q2 : (r.kind == 2) = true := by rw [k2]; rfl
              clear k1 k2
              go_wp2_with fail
              refine (sym_any r.sym _ HF.out.1).mono ?_
              rintro e w1 ⟨rfl, hb⟩
              have K0 := Lib.hid (keep hb (Blk.new w 41 r.c))
              have H0 := Lib.hid ((bel_alloc w _).trans (hb.mono (by simp)))
              have c0 := fun i => K0.out.cell i
              have l0 := K0.out.lt
              clear hb
              cases hy : symB r.sym.toList
              · rw [hy, Bool.false_and] at HO
                clear hy
                go_wp2_with fail
                go_ret
                exact ⟨ret_bool HO.out.symm, H0.out⟩
              · rw [hy, Bool.true_and] at HO
                clear hy
                by_cases hz : r.left = 0
                · rw [decide_eq_true hz] at HO
                  have qz : (r.left == 0) = true := by rw [hz]; rfl
                  clear hz
                  go_wp2_with fail
                  go_ret
                  exact ⟨ret_bool HO.out.symm, H0.out⟩
                · rw [decide_eq_false hz] at HO
                  have qz : (r.left == 0) = false := by rw [beq_eq_false_iff_ne]; exact hz
                  clear hz
                  go_wp2_with fail
                  go_ret
                  exact ⟨ret_bool HO.out.symm, H0.out⟩
            · rw [if_neg k2] at HO
              have q2 : (r.kind == 2) = false := by rw [beq_eq_false_iff_ne]; exact k2
              by_cases k3 : r.kind = 3
              · rw [if_pos k3] at HO
                have q3 : (r.kind == 3) = true := by rw [k3]; rfl
                clear k1 k2 k3
                go_wp2_with fail
                refine (sym_any r.sym _ HF.out.1).mono ?_
                rintro e w1 ⟨rfl, hb⟩
                have K0 := Lib.hid (keep hb (Blk.new w 41 r.c))
                have H0 := Lib.hid ((bel_alloc w _).trans (hb.mono (by simp)))
                have c0 := fun i => K0.out.cell i
                have l0 := K0.out.lt
                clear hb
                cases hy : symB r.sym.toList
                · rw [hy, Bool.false_and] at HO
                  clear hy
                  go_wp2_with fail
                  go_ret
                  exact ⟨ret_bool HO.out.symm, H0.out⟩
                · rw [hy, Bool.true_and] at HO
                  clear hy
                  by_cases hz : r.right = 0
                  · rw [decide_eq_true hz] at HO
                    have qz : (r.right == 0) = true := by rw [hz]; rfl
                    clear hz
                    go_wp2_with fail
                    go_ret
                    exact ⟨ret_bool HO.out.symm, H0.out⟩
                  · rw [decide_eq_false hz] at HO
                    have qz : (r.right == 0) = false := by rw [beq_eq_false_iff_ne]; exact hz
                    clear hz
                    go_wp2_with fail
                    go_ret
                    exact ⟨ret_bool HO.out.symm, H0.out⟩
              · rw [if_neg k3] at HO
                have q3 : (r.kind == 3) = false := by rw [beq_eq_false_iff_ne]; exact k3
                by_cases k4 : r.kind = 4
                · rw [decide_eq_true k4, Bool.true_and] at HO
                  have q4 : (r.kind == 4) = true := by rw [k4]; rfl
                  clear k1 k2 k3 k4
                  go_wp2_with fail
                  go_ret
                  exact ⟨ret_bool (by first | exact HO.out.symm | (rw [HO.out])), bel_alloc _ _⟩
                · rw [decide_eq_false k4, Bool.false_and] at HO
                  have q4 : (r.kind == 4) = false := by rw [beq_eq_false_iff_ne]; exact k4
                  clear k1 k2 k3 k4
                  go_wp2_with fail
                  go_ret
                  exact ⟨ret_bool HO.out.symm, bel_alloc _ _⟩
set_option maxRecDepth 100000 in
set_option maxHeartbeats 800000 in
theorem rown_any (r : Rul) (w : World) (hf : r.fits) : Calls Try.prog 44 #[r.v] w fun e w' => e = .returned (.bool (ownB r)) ∧ Below w.heap.size w w' := by
  have HO := Lib.hid (own_def r)
  have HF := Lib.hid hf
  clear hf
  go_enter Try.func44, Try.ntmps44
  go_wp2_with fail
  refine (rnamed_any r.nam _ HF.out.2).mono ?_
  rintro e w' ⟨rfl, rfl⟩
  cases h1 : namedB r.nam.toList
  · rw [h1, Bool.false_and] at HO
    clear h1
    go_wp2_with fail
    go_ret
    exact ⟨ret_bool HO.out.symm, bel_alloc _ _⟩
  · rw [h1] at HO
    clear h1
    go_wp2_with fail
    refine (rwithin_any r.prec 1 100 _).mono ?_
    rintro e w' ⟨rfl, rfl⟩
    cases h2 : inR r.prec 1 100
    · rw [h2, Bool.false_and, Bool.and_false] at HO
      clear h2
      go_wp2_with fail
      go_ret
      exact ⟨ret_bool HO.out.symm, bel_alloc _ _⟩
    · rw [h2] at HO
      clear h2
      go_wp2_with fail
      refine (rwithin_any r.left 0 101 _).mono ?_
      rintro e w' ⟨rfl, rfl⟩
      cases h3 : inR r.left 0 101
      · rw [h3, Bool.false_and, Bool.and_false, Bool.and_false] at HO
        clear h3
        go_wp2_with fail
        go_ret
        exact ⟨ret_bool HO.out.symm, bel_alloc _ _⟩
      · rw [h3] at HO
        clear h3
        go_wp2_with fail
        refine (rwithin_any r.right 0 101 _).mono ?_
        rintro e w' ⟨rfl, rfl⟩
        cases h4 : inR r.right 0 101
        · rw [h4, Bool.false_and, Bool.and_false, Bool.and_false, Bool.and_false] at HO
          clear h4
          go_wp2_with fail
          go_ret
          exact ⟨ret_bool HO.out.symm, bel_alloc _ _⟩
        · rw [h4] at HO
          clear h4
          rw [Bool.true_and, Bool.true_and, Bool.true_and, Bool.true_and] at HO
          unfold kindB at HO
          by_cases k1 : r.kind = 1
          · rw [if_pos k1] at HO
            have q1 : (r.kind == 1) = true := by rw [k1]; rfl
            clear k1
            go_wp2_with fail
            refine (rsym_any r.sym _ HF.out.1).mono ?_
            rintro e w1 ⟨rfl, hb⟩
            have K0 := Lib.hid (keep hb (Blk.new w 41 r.c))
            have H0 := Lib.hid ((bel_alloc w _).trans (hb.mono (by simp)))
            have c0 := fun i => K0.out.cell i
            have l0 := K0.out.lt
            clear hb
            generalize symB r.sym.toList = b at HO ⊢
            go_wp2_with fail
            go_ret
            exact ⟨ret_bool HO.out.symm, H0.out⟩
          · rw [if_neg k1] at HO
            have q1 : (r.kind == 1) = false := by rw [beq_eq_false_iff_ne]; exact k1
            by_cases k2 : r.kind = 2
            · rw [if_pos k2] at HO
              have q2 : (r.kind == 2) = true := by rw [k2]; rfl
              clear k1 k2
              go_wp2_with fail
              refine (rsym_any r.sym _ HF.out.1).mono ?_
              rintro e w1 ⟨rfl, hb⟩
              have K0 := Lib.hid (keep hb (Blk.new w 41 r.c))
              have H0 := Lib.hid ((bel_alloc w _).trans (hb.mono (by simp)))
              have c0 := fun i => K0.out.cell i
              have l0 := K0.out.lt
              clear hb
              cases hy : symB r.sym.toList
              · rw [hy, Bool.false_and] at HO
                clear hy
                go_wp2_with fail
                go_ret
                exact ⟨ret_bool HO.out.symm, H0.out⟩
              · rw [hy, Bool.true_and] at HO
                clear hy
                by_cases hz : r.left = 0
                · rw [decide_eq_true hz] at HO
                  have qz : (r.left == 0) = true := by rw [hz]; rfl
                  clear hz
                  go_wp2_with fail
                  go_ret
                  exact ⟨ret_bool HO.out.symm, H0.out⟩
                · rw [decide_eq_false hz] at HO
                  have qz : (r.left == 0) = false := by rw [beq_eq_false_iff_ne]; exact hz
                  clear hz
                  go_wp2_with fail
                  go_ret
                  exact ⟨ret_bool HO.out.symm, H0.out⟩
            · rw [if_neg k2] at HO
              have q2 : (r.kind == 2) = false := by rw [beq_eq_false_iff_ne]; exact k2
              by_cases k3 : r.kind = 3
              · rw [if_pos k3] at HO
                have q3 : (r.kind == 3) = true := by rw [k3]; rfl
                clear k1 k2 k3
                go_wp2_with fail
                refine (rsym_any r.sym _ HF.out.1).mono ?_
                rintro e w1 ⟨rfl, hb⟩
                have K0 := Lib.hid (keep hb (Blk.new w 41 r.c))
                have H0 := Lib.hid ((bel_alloc w _).trans (hb.mono (by simp)))
                have c0 := fun i => K0.out.cell i
                have l0 := K0.out.lt
                clear hb
                cases hy : symB r.sym.toList
                · rw [hy, Bool.false_and] at HO
                  clear hy
                  go_wp2_with fail
                  go_ret
                  exact ⟨ret_bool HO.out.symm, H0.out⟩
                · rw [hy, Bool.true_and] at HO
                  clear hy
                  by_cases hz : r.right = 0
                  · rw [decide_eq_true hz] at HO
                    have qz : (r.right == 0) = true := by rw [hz]; rfl
                    clear hz
                    go_wp2_with fail
                    go_ret
                    exact ⟨ret_bool HO.out.symm, H0.out⟩
                  · rw [decide_eq_false hz] at HO
                    have qz : (r.right == 0) = false := by rw [beq_eq_false_iff_ne]; exact hz
                    clear hz
                    go_wp2_with fail
                    go_ret
                    exact ⟨ret_bool HO.out.symm, H0.out⟩
              · rw [if_neg k3] at HO
                have q3 : (r.kind == 3) = false := by rw [beq_eq_false_iff_ne]; exact k3
                by_cases k4 : r.kind = 4
                · rw [decide_eq_true k4, Bool.true_and] at HO
                  have q4 : (r.kind == 4) = true := by rw [k4]; rfl
                  clear k1 k2 k3 k4
                  go_wp2_with fail
                  go_ret
                  exact ⟨ret_bool (by first | exact HO.out.symm | (rw [HO.out])), bel_alloc _ _⟩
                · rw [decide_eq_false k4, Bool.false_and] at HO
                  have q4 : (r.kind == 4) = false := by rw [beq_eq_false_iff_ne]; exact k4
                  clear k1 k2 k3 k4
                  go_wp2_with fail
                  go_ret
                  exact ⟨ret_bool HO.out.symm, bel_alloc _ _⟩
set_option maxHeartbeats 800000 in
theorem rclash_any (o r : Rul) (w : World) : Calls Try.prog 45 #[o.v, r.v] w fun e w' => e = .returned (.bool (clashB o r)) ∧ Below w.heap.size w w' := by
  cases h1 : (o.kind == r.kind)
  · have HC := Lib.hid (show clashB o r = false by unfold clashB; rw [decide_eq_false (by rw [beq_eq_false_iff_ne] at h1; exact h1)]; rfl)
    go_enter Try.func45, Try.ntmps45
    go_wp2_with fail
    go_ret
    exact ⟨ret_bool HC.out.symm, (bel_alloc w _).trans ((bel_alloc _ _).mono (by simp))⟩
  · have hk : decide (o.kind = r.kind) = true := decide_eq_true (beq_iff_eq.1 h1)
    cases h2 : (o.sym.toList == r.sym.toList)
    · have HC := Lib.hid (show clashB o r = (o.nam.toList == r.nam.toList) by unfold clashB; rw [hk, h2]; rfl)
      clear hk
      go_enter Try.func45, Try.ntmps45
      go_wp2_with fail
      go_ret
      exact ⟨ret_bool HC.out.symm, (bel_alloc w _).trans ((bel_alloc _ _).mono (by simp))⟩
    · have HC := Lib.hid (show clashB o r = true by unfold clashB; rw [hk, h2]; rfl)
      clear hk
      go_enter Try.func45, Try.ntmps45
      go_wp2_with fail
      go_ret
      exact ⟨ret_bool HC.out.symm, (bel_alloc w _).trans ((bel_alloc _ _).mono (by simp))⟩
set_option maxHeartbeats 800000 in
theorem rep1_any (o r : Rul) (g : Nat) (w : World) (hK : Blk w g 41 r.c) : Calls Try.prog 70 #[o.v, .pointer (some ⟨g, 0, none⟩)] w fun e w' => e = .returned (.bool (clashB o r)) ∧ Below w.heap.size w w' := by
  cases h1 : (o.kind == r.kind)
  · have HC := Lib.hid (show clashB o r = false by unfold clashB; rw [decide_eq_false (by rw [beq_eq_false_iff_ne] at h1; exact h1)]; rfl)
    have c0 := fun i => hK.cell i
    have l0 := hK.lt
    go_enter Try.func70, Try.ntmps70
    go_wp2_with fail
    go_ret
    exact ⟨ret_bool HC.out.symm, bel_alloc _ _⟩
  · have hk : decide (o.kind = r.kind) = true := decide_eq_true (beq_iff_eq.1 h1)
    cases h2 : (o.sym.toList == r.sym.toList)
    · have HC := Lib.hid (show clashB o r = (o.nam.toList == r.nam.toList) by unfold clashB; rw [hk, h2]; rfl)
      clear hk
      have c0 := fun i => hK.cell i
      have l0 := hK.lt
      go_enter Try.func70, Try.ntmps70
      go_wp2_with fail
      go_ret
      exact ⟨ret_bool HC.out.symm, bel_alloc _ _⟩
    · have HC := Lib.hid (show clashB o r = true by unfold clashB; rw [hk, h2]; rfl)
      clear hk
      have c0 := fun i => hK.cell i
      have l0 := hK.lt
      go_enter Try.func70, Try.ntmps70
      go_wp2_with fail
      go_ret
      exact ⟨ret_bool HC.out.symm, bel_alloc _ _⟩
end Go.Proofs.Ytmhddlhlniajpaa
