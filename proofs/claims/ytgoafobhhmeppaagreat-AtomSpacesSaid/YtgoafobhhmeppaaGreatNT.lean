/- The texts of nodes: the leaf functions of the program and of the reference. -/
import Derived.Test.YtgoafobhhmeppaaGreatGS0
import Derived.Test.YtgoafobhhmeppaaGreatTR
namespace Go.Proofs.YtgoafobhhmeppaaGreat
open Go.RowKit
def prin1 (c : UInt8) : Bool := decide (32 ≤ c.toNat) && decide (c.toNat ≤ 126)
set_option maxHeartbeats 400000 in
theorem digits_any (s : ByteArray) (w : World) (hs : s.size ≤ 9223372036854775807) : Calls Tryz.prog 87 #[.string s] w fun e w' => e = .returned (.bool (digsB s.toList)) ∧ w = w' := by
  go_enter Tryz.func87, Tryz.ntmps87
  go_wp2_with fail
  go_loop [3] (fun i => ∃ k : Nat, k ≤ s.size ∧ i = .int .i64 k ∧ Hid (∀ (j : Nat) (hj : j < s.size), j < k → dig46 s[j] = true)) (fun i => s.size - (intOf i).toNat)
  case atStart => exact ⟨0, by omega, rfl, fun j _ h => by omega⟩
  case round =>
    obtain ⟨k, hk, rfl, HJ⟩ := hrel
    by_cases hlt : k < s.size
    · by_cases c1 : (s[k].toNat : Int) < 48
      · have HF := Lib.hid (not_all_get (p := dig46) hlt (by unfold dig46; rw [decide_eq_false (by omega)]; rfl))
        go_wp2_with fail
        go_ret
        exact ⟨ret_bool (by unfold digsB; rw [HF.out]; rfl), rfl⟩
      · by_cases c2 : 57 < (s[k].toNat : Int)
        · have HF := Lib.hid (not_all_get (p := dig46) hlt (by unfold dig46; rw [decide_eq_false (p := s[k].toNat ≤ 57) (by omega), Bool.and_false]))
          go_wp2_with fail
          go_ret
          exact ⟨ret_bool (by unfold digsB; rw [HF.out]; rfl), rfl⟩
        · have HL := Lib.hid (show dig46 s[k] = true by unfold dig46; rw [decide_eq_true (by omega), decide_eq_true (by omega)]; rfl)
          go_wp2_with fail
          go_round
          case rel => exact ⟨k + 1, by omega, by go_num, fun j hj h => by
            rcases Nat.lt_or_ge j k with h' | h'
            · exact HJ.out j hj h'
            · obtain rfl : j = k := by omega
              exact HL.out⟩
          case measure => simp [intOf]; omega
    · have HF := Lib.hid (all_get (s := s) (p := dig46) fun j hj => HJ.out j hj (by omega))
      go_wp2_with fail
      go_ret
      exact ⟨ret_bool (by unfold digsB; rw [HF.out]; rfl), rfl⟩
set_option maxHeartbeats 400000 in
theorem plain_any (s : ByteArray) (w : World) (hs : s.size ≤ 9223372036854775807) : Calls Tryz.prog 74 #[.string s] w fun e w' => e = .returned (.bool (decide (s.size ≤ 200) && prinB s.toList)) ∧ w = w' := by
  go_enter Tryz.func74, Tryz.ntmps74
  go_wp2_with fail
  go_loop [3] (fun i => ∃ k : Nat, k ≤ s.size ∧ i = .int .i64 k ∧ Hid (∀ (j : Nat) (hj : j < s.size), j < k → prin1 s[j] = true)) (fun i => s.size - (intOf i).toNat)
  case atStart => exact ⟨0, by omega, rfl, fun j _ h => by omega⟩
  case round =>
    obtain ⟨k, hk, rfl, HJ⟩ := hrel
    by_cases hlt : k < s.size
    · by_cases c1 : (s[k].toNat : Int) < 32
      · have HF := Lib.hid (not_all_get (p := prin1) hlt (by unfold prin1; rw [decide_eq_false (by omega)]; rfl))
        go_wp2_with fail
        go_ret
        exact ⟨ret_bool (by rw [show prinB s.toList = false from HF.out, Bool.and_false]), rfl⟩
      · by_cases c2 : 126 < (s[k].toNat : Int)
        · have HF := Lib.hid (not_all_get (p := prin1) hlt (by unfold prin1; rw [decide_eq_false (p := s[k].toNat ≤ 126) (by omega), Bool.and_false]))
          go_wp2_with fail
          go_ret
          exact ⟨ret_bool (by rw [show prinB s.toList = false from HF.out, Bool.and_false]), rfl⟩
        · have HL := Lib.hid (show prin1 s[k] = true by unfold prin1; rw [decide_eq_true (by omega), decide_eq_true (by omega)]; rfl)
          go_wp2_with fail
          go_round
          case rel => exact ⟨k + 1, by omega, by go_num, fun j hj h => by
            rcases Nat.lt_or_ge j k with h' | h'
            · exact HJ.out j hj h'
            · obtain rfl : j = k := by omega
              exact HL.out⟩
          case measure => simp [intOf]; omega
    · have HF := Lib.hid (all_get (s := s) (p := prin1) fun j hj => HJ.out j hj (by omega))
      go_wp2_with fail
      go_ret
      exact ⟨ret_bool (by rw [show prinB s.toList = true from HF.out, Bool.and_true]; simp; omega), rfl⟩
set_option maxHeartbeats 400000 in
theorem rprin_any (s : ByteArray) (w : World) (hs : s.size ≤ 9223372036854775807) : Calls Tryz.prog 98 #[.string s] w fun e w' => e = .returned (.bool (prinB s.toList)) ∧ w = w' := by
  go_enter Tryz.func98, Tryz.ntmps98
  go_wp2_with fail
  go_loop [3] (fun i => ∃ k : Nat, k ≤ s.size ∧ i = .int .i64 k ∧ Hid (∀ (j : Nat) (hj : j < s.size), j < k → prin1 s[j] = true)) (fun i => s.size - (intOf i).toNat)
  case atStart => exact ⟨0, by omega, rfl, fun j _ h => by omega⟩
  case round =>
    obtain ⟨k, hk, rfl, HJ⟩ := hrel
    by_cases hlt : k < s.size
    · by_cases c1 : (s[k].toNat : Int) < 32
      · have HF := Lib.hid (not_all_get (p := prin1) hlt (by unfold prin1; rw [decide_eq_false (by omega)]; rfl))
        go_wp2_with fail
        go_ret
        exact ⟨ret_bool (by rw [show prinB s.toList = false from HF.out]), rfl⟩
      · by_cases c2 : 126 < (s[k].toNat : Int)
        · have HF := Lib.hid (not_all_get (p := prin1) hlt (by unfold prin1; rw [decide_eq_false (p := s[k].toNat ≤ 126) (by omega), Bool.and_false]))
          go_wp2_with fail
          go_ret
          exact ⟨ret_bool (by rw [show prinB s.toList = false from HF.out]), rfl⟩
        · have HL := Lib.hid (show prin1 s[k] = true by unfold prin1; rw [decide_eq_true (by omega), decide_eq_true (by omega)]; rfl)
          go_wp2_with fail
          go_round
          case rel => exact ⟨k + 1, by omega, by go_num, fun j hj h => by
            rcases Nat.lt_or_ge j k with h' | h'
            · exact HJ.out j hj h'
            · obtain rfl : j = k := by omega
              exact HL.out⟩
          case measure => simp [intOf]; omega
    · have HF := Lib.hid (all_get (s := s) (p := prin1) fun j hj => HJ.out j hj (by omega))
      go_wp2_with fail
      go_ret
      exact ⟨ret_bool (by rw [show prinB s.toList = true from HF.out]), rfl⟩
theorem empty_any (s : ByteArray) (w : World) : Calls Tryz.prog 71 #[.string s] w fun e w' => e = .returned (.bool s.toList.isEmpty) ∧ w = w' := by
  go_enter Tryz.func71, Tryz.ntmps71
  go_wp2_with fail
  go_ret
  exact ⟨rfl, rfl⟩
theorem rdigit_any (c : UInt8) (w : World) : Calls Tryz.prog 107 #[.int .u8 (c.toNat : Int)] w fun e w' => e = .returned (.bool (dig46 c)) ∧ w = w' := by
  by_cases h1 : 48 ≤ c.toNat
  · have HR := Lib.hid (show dig46 c = decide ((c.toNat : Int) ≤ 57) by unfold dig46; rw [decide_eq_true h1, Bool.true_and, decide_eq_decide]; omega)
    go_enter Tryz.func107, Tryz.ntmps107
    go_wp2_with fail
    go_ret
    exact ⟨ret_bool (by rw [HR.out]), rfl⟩
  · have HR := Lib.hid (show dig46 c = false by unfold dig46; rw [decide_eq_false h1]; rfl)
    go_enter Tryz.func107, Tryz.ntmps107
    go_wp2_with fail
    go_ret
    exact ⟨ret_bool HR.out.symm, rfl⟩
end Go.Proofs.YtgoafobhhmeppaaGreat
