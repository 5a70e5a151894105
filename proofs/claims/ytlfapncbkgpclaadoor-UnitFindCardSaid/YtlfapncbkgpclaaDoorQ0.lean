/- Greatest common divisors, magnitudes; for all numbers. -/
import Derived.Test.YtlfapncbkgpclaaDoorU4
import Derived.Deep.QuietTactic
import Derived.BigQuiet
namespace Go.Proofs.YtlfapncbkgpclaaDoor
open Go.RowKit
theorem gcd_step (x y : Nat) : Nat.gcd x y = Nat.gcd y (x % y) := by rw [Nat.gcd_comm x y, Nat.gcd_rec y x, Nat.gcd_comm]

set_option maxHeartbeats 400000 in
theorem gcd_any (a b : Nat) (w : World) (ha : a ≤ 18446744073709551615) (hb : b ≤ 18446744073709551615) : Calls Tryd.prog 63 #[.int .u64 a, .int .u64 b] w fun e w' => e = .returned (.int .u64 (Nat.gcd a b : Nat)) ∧ ∃ n, w' = w.drewN n := by
  go_enter Tryd.func63, Tryd.ntmps63
  go_wp2
  go_loopw [0, 1] (fun u v wr => ∃ x y n : Nat, x ≤ 18446744073709551615 ∧ y ≤ 18446744073709551615 ∧ u = .int .u64 x ∧ v = .int .u64 y ∧ Hid (Nat.gcd x y = Nat.gcd a b) ∧ w.drewN n = wr) (fun _ v _ => (intOf v).toNat)
  case atStart => exact ⟨a, b, 0, ha, hb, rfl, rfl, rfl, rfl⟩
  case round =>
    obtain ⟨x, y, n, hx, hy, rfl, rfl, hg, rfl⟩ := hrel
    by_cases h0 : y = 0
    · subst h0
      go_wp2
      go_ret
      refine ⟨?_, n, rfl⟩
      have := hg.out
      rw [Nat.gcd_zero_right] at this
      rw [← this]
      rfl
    · have h1 : (0 : Int) < y := by omega
      have h2 : ((y : Int) != 0) = true := by simpa using h0
      have hm := Nat.mod_lt x (show 0 < y by omega)
      go_wp2
      go_region
      all_goals go_wp2
      go_roundw
      case rel => exact ⟨y, x % y, n + 1, hy, by omega, rfl, by go_num, (gcd_step x y).symm.trans hg.out, rfl⟩
      case measure => simp only [intOf]; omega

set_option maxHeartbeats 400000 in
theorem rgcd_any (a b : Nat) (w : World) (ha : a ≤ 18446744073709551615) (hb : b ≤ 18446744073709551615) : Calls Tryd.prog 69 #[.int .u64 a, .int .u64 b] w fun e w' => e = .returned (.int .u64 (Nat.gcd a b : Nat)) ∧ ∃ n, w' = w.drewN n := by
  go_enter Tryd.func69, Tryd.ntmps69
  go_wp2
  go_loopw [0, 1] (fun u v wr => ∃ x y n : Nat, x ≤ 18446744073709551615 ∧ y ≤ 18446744073709551615 ∧ u = .int .u64 x ∧ v = .int .u64 y ∧ Hid (Nat.gcd x y = Nat.gcd a b) ∧ w.drewN n = wr) (fun _ v _ => (intOf v).toNat)
  case atStart => exact ⟨a, b, 0, ha, hb, rfl, rfl, rfl, rfl⟩
  case round =>
    obtain ⟨x, y, n, hx, hy, rfl, rfl, hg, rfl⟩ := hrel
    by_cases h0 : y = 0
    · subst h0
      go_wp2
      go_ret
      refine ⟨?_, n, rfl⟩
      have := hg.out
      rw [Nat.gcd_zero_right] at this
      rw [← this]
      rfl
    · have h1 : (0 : Int) < y := by omega
      have h2 : ((y : Int) != 0) = true := by simpa using h0
      have hm := Nat.mod_lt x (show 0 < y by omega)
      go_wp2
      go_region
      all_goals go_wp2
      go_roundw
      case rel => exact ⟨y, x % y, n + 1, hy, by omega, rfl, by go_num, (gcd_step x y).symm.trans hg.out, rfl⟩
      case measure => simp only [intOf]; omega
theorem ret_u {a b : Int} (h : a = b) : Ending.returned (.int .u64 a) = .returned (.int .u64 b) := by rw [h]
set_option maxHeartbeats 400000 in
theorem mag_any (n : Int) (w : World) (h1 : -9223372036854775808 ≤ n) (h2 : n ≤ 9223372036854775807) : Calls Tryd.prog 64 #[.int .i64 n] w fun e w' => e = .returned (.int .u64 (n.natAbs : Nat)) ∧ w' = w := by
  by_cases h : n < 0
  · go_enter Tryd.func64, Tryd.ntmps64
    go_wp2
    go_ret
    exact ⟨ret_u (by simp only [IntKind.wrap_u64]; omega), rfl⟩
  · go_enter Tryd.func64, Tryd.ntmps64
    go_wp2
    go_ret
    exact ⟨ret_u (by omega), rfl⟩
set_option maxHeartbeats 400000 in
theorem size_any (n : Int) (w : World) (h1 : -9223372036854775808 ≤ n) (h2 : n ≤ 9223372036854775807) : Calls Tryd.prog 66 #[.int .i64 n] w fun e w' => e = .returned (.int .u64 (n.natAbs : Nat)) ∧ w' = w := by
  by_cases h : n < 0
  · go_enter Tryd.func66, Tryd.ntmps66
    go_wp2
    go_ret
    exact ⟨ret_u (by omega), rfl⟩
  · go_enter Tryd.func66, Tryd.ntmps66
    go_wp2
    go_ret
    exact ⟨ret_u (by omega), rfl⟩
end Go.Proofs.YtlfapncbkgpclaaDoor
