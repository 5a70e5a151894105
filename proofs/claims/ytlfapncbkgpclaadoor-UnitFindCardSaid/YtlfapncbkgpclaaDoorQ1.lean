/- A rational number is valid if its numerator and denominator lie in their ranges and have no common divisor: both Valid functions; for all numbers. -/
import Derived.Test.YtlfapncbkgpclaaDoorQ0
namespace Go.Proofs.YtlfapncbkgpclaaDoor
open Go.RowKit
abbrev ratC (n d : Int) : Array Value := #[.int .i64 n, .int .i64 d]
abbrev ratV (n d : Int) : Value := .agg (ratC n d)
def inB (n d : Int) : Bool := decide (1 ≤ d ∧ d ≤ 2147483647 ∧ -2147483647 ≤ n ∧ n ≤ 2147483647)
def valQ (n d : Int) : Bool := inB n d && (Nat.gcd n.natAbs d.natAbs == 1)
theorem one_cast (g : Nat) : (((g : Int) == 1) : Bool) = (g == 1) := by
  rw [Bool.eq_iff_iff]; simp; omega

set_option maxHeartbeats 400000 in
theorem qvalid_in (n : Int) (d : Nat) (w : World) (h1 : 1 ≤ d) (h2 : d ≤ 2147483647) (h3 : -2147483647 ≤ n) (h4 : n ≤ 2147483647) : Calls Tryd.prog 43 #[ratV n d] w fun e w' => e = .returned (.bool (Nat.gcd n.natAbs d == 1)) ∧ ∃ k, w' = (w.alloc (.cells (ratC n d) 51)).drewN k := by
  go_enter Tryd.func43, Tryd.ntmps43
  go_wp2_with fail
  go_quiet ((first | (go_at_call 64; exact Calls.quiet_of_same (mag_any _ _ (by omega) (by omega))) | (go_at_call 63; exact Calls.quiet_of (gcd_any _ _ _ (by omega) (by omega)))))
  go_wp2
  go_ret
  exact ⟨ret_bool (one_cast _), _, rfl⟩

set_option maxHeartbeats 800000 in
theorem qvalid_out (n d : Int) (w : World) (h : inB n d = false) : Calls Tryd.prog 43 #[ratV n d] w fun e w' => e = .returned (.bool false) ∧ ∃ k, w' = (w.alloc (.cells (ratC n d) 51)).drewN k := by
  have h' : d < 1 ∨ (1 ≤ d ∧ 2147483647 < d) ∨ (1 ≤ d ∧ d ≤ 2147483647 ∧ n < -2147483647) ∨ (1 ≤ d ∧ d ≤ 2147483647 ∧ -2147483647 ≤ n ∧ 2147483647 < n) := by
    simp [inB] at h; omega
  clear h
  rcases h' with h1 | ⟨h1, h2⟩ | ⟨h1, h2, h3⟩ | ⟨h1, h2, h3, h4⟩
  all_goals
    go_enter Tryd.func43, Tryd.ntmps43
    go_wp2_with fail
    go_ret
    exact ⟨rfl, 0, rfl⟩

theorem qvalid_any (n d : Int) (w : World) : Calls Tryd.prog 43 #[ratV n d] w fun e w' => e = .returned (.bool (valQ n d)) ∧ ∃ k, w' = (w.alloc (.cells (ratC n d) 51)).drewN k := by
  unfold valQ
  cases h : inB n d
  · exact qvalid_out n d w h
  · have h' : 1 ≤ d ∧ d ≤ 2147483647 ∧ -2147483647 ≤ n ∧ n ≤ 2147483647 := by simpa [inB] using h
    rw [Bool.true_and]
    obtain ⟨m, rfl⟩ := Int.eq_ofNat_of_zero_le (show 0 ≤ d by omega)
    exact qvalid_in n m w (by omega) (by omega) (by omega) (by omega)

set_option maxHeartbeats 800000 in
theorem rqvalid_in (n d : Int) (w : World) (h1 : 1 ≤ d) (h2 : d ≤ 2147483647) (h3 : -2147483647 ≤ n) (h4 : n ≤ 2147483647) : Calls Tryd.prog 48 #[ratV n d] w fun e w' => e = .returned (.bool (Nat.gcd n.natAbs d.natAbs == 1)) ∧ ∃ k, w' = (w.alloc (.cells (ratC n d) 53)).drewN k := by
  have e1 : decide (1 ≤ d) = true := decide_eq_true (by omega)
  have e2 : decide (d ≤ 2147483647) = true := decide_eq_true (by omega)
  have e3 : decide (-2147483647 ≤ n) = true := decide_eq_true (by omega)
  have e4 : decide (n ≤ 2147483647) = true := decide_eq_true (by omega)
  go_enter Tryd.func48, Tryd.ntmps48
  go_wp2_with fail
  go_quiet ((first | (go_at_call 66; exact Calls.quiet_of_same (size_any _ _ (by omega) (by omega))) | (go_at_call 69; exact Calls.quiet_of (rgcd_any _ _ _ (by omega) (by omega)))))
  go_wp2
  go_ret
  exact ⟨ret_bool (one_cast _), _, rfl⟩

set_option maxHeartbeats 800000 in
theorem rqvalid_out (n d : Int) (w : World) (h : inB n d = false) : Calls Tryd.prog 48 #[ratV n d] w fun e w' => e = .returned (.bool false) ∧ ∃ k, w' = (w.alloc (.cells (ratC n d) 53)).drewN k := by
  have h' : d < 1 ∨ (1 ≤ d ∧ 2147483647 < d) ∨ (1 ≤ d ∧ d ≤ 2147483647 ∧ n < -2147483647) ∨ (1 ≤ d ∧ d ≤ 2147483647 ∧ -2147483647 ≤ n ∧ 2147483647 < n) := by
    simp [inB] at h; omega
  clear h
  rcases h' with h1 | ⟨h1, h2⟩ | ⟨h1, h2, h3⟩ | ⟨h1, h2, h3, h4⟩
  · have e1 : decide (1 ≤ d) = false := decide_eq_false (by omega)
    go_enter Tryd.func48, Tryd.ntmps48
    go_wp2_with fail
    go_quiet (fail)
    go_wp2
    go_ret
    exact ⟨rfl, _, rfl⟩
  · have e1 : decide (1 ≤ d) = true := decide_eq_true (by omega)
    have e2 : decide (d ≤ 2147483647) = false := decide_eq_false (by omega)
    go_enter Tryd.func48, Tryd.ntmps48
    go_wp2_with fail
    go_quiet (fail)
    go_wp2
    go_ret
    exact ⟨rfl, _, rfl⟩
  · have e1 : decide (1 ≤ d) = true := decide_eq_true (by omega)
    have e2 : decide (d ≤ 2147483647) = true := decide_eq_true (by omega)
    have e3 : decide (-2147483647 ≤ n) = false := decide_eq_false (by omega)
    go_enter Tryd.func48, Tryd.ntmps48
    go_wp2_with fail
    go_quiet (fail)
    go_wp2
    go_ret
    exact ⟨rfl, _, rfl⟩
  · have e1 : decide (1 ≤ d) = true := decide_eq_true (by omega)
    have e2 : decide (d ≤ 2147483647) = true := decide_eq_true (by omega)
    have e3 : decide (-2147483647 ≤ n) = true := decide_eq_true (by omega)
    have e4 : decide (n ≤ 2147483647) = false := decide_eq_false (by omega)
    go_enter Tryd.func48, Tryd.ntmps48
    go_wp2_with fail
    go_quiet (fail)
    go_wp2
    go_ret
    exact ⟨rfl, _, rfl⟩

theorem rqvalid_any (n d : Int) (w : World) : Calls Tryd.prog 48 #[ratV n d] w fun e w' => e = .returned (.bool (valQ n d)) ∧ ∃ k, w' = (w.alloc (.cells (ratC n d) 53)).drewN k := by
  unfold valQ
  cases h : inB n d
  · exact rqvalid_out n d w h
  · have h' : 1 ≤ d ∧ d ≤ 2147483647 ∧ -2147483647 ≤ n ∧ n ≤ 2147483647 := by simpa [inB] using h
    rw [Bool.true_and]
    exact rqvalid_in n d w (by omega) (by omega) (by omega) (by omega)
end Go.Proofs.YtlfapncbkgpclaaDoor
