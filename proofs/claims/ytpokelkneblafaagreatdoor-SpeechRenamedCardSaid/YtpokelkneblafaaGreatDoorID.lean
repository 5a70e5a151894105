/- Identifiers, names of operators, texts within bounds, spoken names: the program and the reference. -/
import Derived.Test.YtpokelkneblafaaGreatDoorSM
import Derived.Test.YtpokelkneblafaaGreatDoorNU
namespace Go.Proofs.YtpokelkneblafaaGreatDoor
open Go.RowKit
set_option maxHeartbeats 400000 in
theorem letter_any (c : UInt8) (w : World) : Calls Tryz.prog 84 #[.int .u8 (c.toNat : Int)] w fun e w' => e = .returned (.bool (letB c)) ∧ w = w' := by
  have hc := c.toNat_lt
  by_cases h1 : 97 ≤ c.toNat
  · by_cases h2 : c.toNat ≤ 122
    · have HR := Lib.hid (show letB c = true by unfold letB; rw [decide_eq_true h1, decide_eq_true h2]; rfl)
      go_enter Tryz.func84, Tryz.ntmps84
      go_wp2_with fail
      go_ret
      exact ⟨ret_bool (by first | exact HR.out.symm | (rw [HR.out]; simp; omega)), rfl⟩
    · have HR := Lib.hid (show letB c = false by unfold letB; rw [decide_eq_false h2, Bool.and_false, decide_eq_false (show ¬ c.toNat ≤ 90 by omega), Bool.and_false]; rfl)
      go_enter Tryz.func84, Tryz.ntmps84
      go_wp2_with fail
      go_ret
      exact ⟨ret_bool (by first | exact HR.out.symm | (rw [HR.out]; simp; omega)), rfl⟩
  · by_cases h3 : 65 ≤ c.toNat
    · by_cases h4 : c.toNat ≤ 90
      · have HR := Lib.hid (show letB c = true by unfold letB; rw [decide_eq_true h3, decide_eq_true h4, Bool.or_eq_true]; exact .inr rfl)
        go_enter Tryz.func84, Tryz.ntmps84
        go_wp2_with fail
        go_ret
        exact ⟨ret_bool (by first | exact HR.out.symm | (rw [HR.out]; simp; omega)), rfl⟩
      · have HR := Lib.hid (show letB c = false by unfold letB; rw [decide_eq_false h1, decide_eq_false h4, Bool.and_false]; rfl)
        go_enter Tryz.func84, Tryz.ntmps84
        go_wp2_with fail
        go_ret
        exact ⟨ret_bool (by first | exact HR.out.symm | (rw [HR.out]; simp; omega)), rfl⟩
    · have HR := Lib.hid (show letB c = false by unfold letB; rw [decide_eq_false h1, decide_eq_false h3]; rfl)
      go_enter Tryz.func84, Tryz.ntmps84
      go_wp2_with fail
      go_ret
      exact ⟨ret_bool (by first | exact HR.out.symm | (rw [HR.out]; simp; omega)), rfl⟩
set_option maxHeartbeats 400000 in
theorem oper_any (s : ByteArray) (w : World) (hs : s.size ≤ 9223372036854775807) : Calls Tryz.prog 109 #[.string s] w fun e w' => e = .returned (.bool (namedB s.toList)) ∧ w = w' := by
  go_enter Tryz.func109, Tryz.ntmps109
  go_wp2_with fail
  go_loop [3] (fun i => ∃ k : Nat, k ≤ s.size ∧ i = .int .i64 k ∧ Hid (∀ (j : Nat) (hj : j < s.size), j < k → letB s[j] = true)) (fun i => s.size - (intOf i).toNat)
  case atStart => exact ⟨0, by omega, rfl, fun j _ h => by omega⟩
  case round =>
    obtain ⟨k, hk, rfl, HJ⟩ := hrel
    by_cases hlt : k < s.size
    · have HC := Lib.hid (fun w => letter_any s[k] w)
      cases hl : letB s[k]
      · have HF := Lib.hid (not_all_get hlt hl)
        rw [hl] at HC
        clear hl
        go_wp2_with fail
        refine (HC.out _).mono ?_
        rintro e w' ⟨rfl, rfl⟩
        go_wp2_with fail
        go_ret
        exact ⟨ret_bool (by unfold namedB lettersB; rw [HF.out]; rfl), rfl⟩
      · have HL := Lib.hid hl
        rw [hl] at HC
        clear hl
        go_wp2_with fail
        refine (HC.out _).mono ?_
        rintro e w' ⟨rfl, rfl⟩
        go_wp2_with fail
        go_round
        case rel => exact ⟨k + 1, by omega, by go_num, fun j hj h => by
          rcases Nat.lt_or_ge j k with h' | h'
          · exact HJ.out j hj h'
          · obtain rfl : j = k := by omega
            exact HL.out⟩
        case measure => simp [intOf]; omega
    · have HF := Lib.hid (all_get (s := s) (p := letB) fun j hj => HJ.out j hj (by omega))
      have HZ := Lib.hid (size_toList s)
      by_cases h1 : 1 ≤ s.size
      · by_cases h2 : s.size ≤ 16
        · have HR := Lib.hid (show namedB s.toList = true by unfold namedB lettersB; rw [HF.out, HZ.out, decide_eq_true h1, decide_eq_true h2]; rfl)
          go_wp2_with fail
          go_ret
          exact ⟨ret_bool (by first | exact HR.out.symm | (rw [HR.out]; simp; omega)), rfl⟩
        · have HR := Lib.hid (show namedB s.toList = false by unfold namedB; rw [HZ.out, decide_eq_false h2, Bool.and_false, Bool.and_false])
          go_wp2_with fail
          go_ret
          exact ⟨ret_bool (by first | exact HR.out.symm | (rw [HR.out]; simp; omega)), rfl⟩
      · have HR := Lib.hid (show namedB s.toList = false by unfold namedB; rw [HZ.out, decide_eq_false h1, Bool.false_and, Bool.and_false])
        go_wp2_with fail
        go_ret
        exact ⟨ret_bool (by first | exact HR.out.symm | (rw [HR.out]; simp; omega)), rfl⟩
def prin2 (a : Nat) (c : UInt8) : Bool := decide (a ≤ c.toNat) && decide (c.toNat ≤ 126)
set_option maxHeartbeats 400000 in
theorem between_any (s : ByteArray) (a n : Nat) (w : World) (hs : s.size ≤ 9223372036854775807) : Calls Tryz.prog 107 #[.string s, .int .u8 (a : Int), .int .i64 (n : Int)] w fun e w' => e = .returned (.bool (prinL a s.toList && decide (s.size ≤ n))) ∧ w = w' := by
  go_enter Tryz.func107, Tryz.ntmps107
  go_wp2_with fail
  go_loop [7] (fun i => ∃ k : Nat, k ≤ s.size ∧ i = .int .i64 k ∧ Hid (∀ (j : Nat) (hj : j < s.size), j < k → prin2 a s[j] = true)) (fun i => s.size - (intOf i).toNat)
  case atStart => exact ⟨0, by omega, rfl, fun j _ h => by omega⟩
  case round =>
    obtain ⟨k, hk, rfl, HJ⟩ := hrel
    by_cases hlt : k < s.size
    · by_cases c1 : (s[k].toNat : Int) < (a : Int)
      · have HF := Lib.hid (not_all_get (p := prin2 a) hlt (by unfold prin2; rw [decide_eq_false (by omega)]; rfl))
        go_wp2_with fail
        go_ret
        exact ⟨ret_bool (by rw [show prinL a s.toList = false from HF.out, Bool.false_and]), rfl⟩
      · by_cases c2 : 126 < (s[k].toNat : Int)
        · have HF := Lib.hid (not_all_get (p := prin2 a) hlt (by unfold prin2; rw [decide_eq_false (p := s[k].toNat ≤ 126) (by omega), Bool.and_false]))
          go_wp2_with fail
          go_ret
          exact ⟨ret_bool (by rw [show prinL a s.toList = false from HF.out, Bool.false_and]), rfl⟩
        · have HL := Lib.hid (show prin2 a s[k] = true by unfold prin2; rw [decide_eq_true (by omega), decide_eq_true (by omega)]; rfl)
          go_wp2_with fail
          go_round
          case rel => exact ⟨k + 1, by omega, by go_num, fun j hj h => by
            rcases Nat.lt_or_ge j k with h' | h'
            · exact HJ.out j hj h'
            · obtain rfl : j = k := by omega
              exact HL.out⟩
          case measure => simp [intOf]; omega
    · have HF := Lib.hid (all_get (s := s) (p := prin2 a) fun j hj => HJ.out j hj (by omega))
      go_wp2_with fail
      go_ret
      exact ⟨ret_bool (by rw [show prinL a s.toList = true from HF.out, Bool.true_and]), rfl⟩
set_option maxHeartbeats 400000 in
theorem rprint_any (s : ByteArray) (a n : Nat) (w : World) (hs : s.size ≤ 9223372036854775807) : Calls Tryz.prog 68 #[.string s, .int .u8 (a : Int), .int .i64 (n : Int)] w fun e w' => e = .returned (.bool (prinL a s.toList && decide (s.size ≤ n))) ∧ w = w' := by
  go_enter Tryz.func68, Tryz.ntmps68
  go_wp2_with fail
  go_loop [7] (fun i => ∃ k : Nat, k ≤ s.size ∧ i = .int .i64 k ∧ Hid (∀ (j : Nat) (hj : j < s.size), j < k → prin2 a s[j] = true)) (fun i => s.size - (intOf i).toNat)
  case atStart => exact ⟨0, by omega, rfl, fun j _ h => by omega⟩
  case round =>
    obtain ⟨k, hk, rfl, HJ⟩ := hrel
    by_cases hlt : k < s.size
    · by_cases c1 : (s[k].toNat : Int) < (a : Int)
      · have HF := Lib.hid (not_all_get (p := prin2 a) hlt (by unfold prin2; rw [decide_eq_false (by omega)]; rfl))
        go_wp2_with fail
        go_ret
        exact ⟨ret_bool (by rw [show prinL a s.toList = false from HF.out, Bool.false_and]), rfl⟩
      · by_cases c2 : 126 < (s[k].toNat : Int)
        · have HF := Lib.hid (not_all_get (p := prin2 a) hlt (by unfold prin2; rw [decide_eq_false (p := s[k].toNat ≤ 126) (by omega), Bool.and_false]))
          go_wp2_with fail
          go_ret
          exact ⟨ret_bool (by rw [show prinL a s.toList = false from HF.out, Bool.false_and]), rfl⟩
        · have HL := Lib.hid (show prin2 a s[k] = true by unfold prin2; rw [decide_eq_true (by omega), decide_eq_true (by omega)]; rfl)
          go_wp2_with fail
          go_round
          case rel => exact ⟨k + 1, by omega, by go_num, fun j hj h => by
            rcases Nat.lt_or_ge j k with h' | h'
            · exact HJ.out j hj h'
            · obtain rfl : j = k := by omega
              exact HL.out⟩
          case measure => simp [intOf]; omega
    · have HF := Lib.hid (all_get (s := s) (p := prin2 a) fun j hj => HJ.out j hj (by omega))
      go_wp2_with fail
      go_ret
      exact ⟨ret_bool (by rw [show prinL a s.toList = true from HF.out, Bool.true_and]), rfl⟩
theorem head_get (s : ByteArray) (h : 0 < s.size) : s.toList.headD 0 = s[0] := by
  rw [ByteArray.toList_eq]
  obtain ⟨⟨l⟩⟩ := s
  cases l with
  | nil => simp [ByteArray.size] at h
  | cons a r => rfl
theorem empty_size (s : ByteArray) : s.toList.isEmpty = decide (s.size = 0) := by
  rw [← size_toList s]
  cases s.toList <;> simp
set_option maxHeartbeats 400000 in
theorem ident_any (s : ByteArray) (w : World) (hs : s.size ≤ 9223372036854775807) : Calls Tryz.prog 63 #[.string s] w fun e w' => e = .returned (.bool (idB s.toList)) ∧ Below w.heap.size w w' := by
  have HQ := Lib.hid (show idB s.toList = (!s.toList.isEmpty && (letB (s.toList.headD 0) && symB s.toList)) from (id_same _).symm)
  by_cases h0 : s.size = 0
  · have he : s.toList.isEmpty = true := by rw [empty_size, decide_eq_true h0]
    rw [he] at HQ
    go_enter Tryz.func63, Tryz.ntmps63
    go_wp2_with fail
    go_ret
    exact ⟨ret_bool (by rw [HQ.out]; rfl), Below.refl _ _⟩
  · have he : s.toList.isEmpty = false := by rw [empty_size, decide_eq_false h0]
    have hp : 0 < s.size := by omega
    rw [he, head_get s hp, Bool.not_false, Bool.true_and] at HQ
    have HC := Lib.hid (fun w => letter_any s[0] w)
    cases hl : letB s[0]
    · rw [hl] at HC HQ
      clear hl
      go_enter Tryz.func63, Tryz.ntmps63
      go_wp2_with fail
      refine (HC.out _).mono ?_
      rintro e w' ⟨rfl, rfl⟩
      go_wp2_with fail
      go_ret
      exact ⟨ret_bool (by rw [HQ.out]; rfl), Below.refl _ _⟩
    · rw [hl, Bool.true_and] at HQ
      rw [hl] at HC
      clear hl
      go_enter Tryz.func63, Tryz.ntmps63
      go_wp2_with fail
      refine (HC.out _).mono ?_
      rintro e w' ⟨rfl, rfl⟩
      go_wp2_with fail
      refine (sym_any s _ hs).mono ?_
      rintro e w' ⟨rfl, hb⟩
      have HB := Lib.hid hb
      clear hb
      go_wp2_with fail
      go_ret
      exact ⟨ret_bool (by rw [HQ.out]), HB.out⟩
set_option maxHeartbeats 400000 in
theorem rident_any (s : ByteArray) (w : World) (hs : s.size ≤ 9223372036854775807) : Calls Tryz.prog 53 #[.string s] w fun e w' => e = .returned (.bool (idB s.toList)) ∧ Below w.heap.size w w' := by
  have HQ := Lib.hid (show idB s.toList = (namedB s.toList && symB s.toList) from rfl)
  have HC := Lib.hid (fun w => rnamed_any s w hs)
  cases hl : namedB s.toList
  · rw [hl] at HC HQ
    clear hl
    go_enter Tryz.func53, Tryz.ntmps53
    go_wp2_with fail
    refine (HC.out _).mono ?_
    rintro e w' ⟨rfl, rfl⟩
    go_wp2_with fail
    go_ret
    exact ⟨ret_bool (by rw [HQ.out]; rfl), Below.refl _ _⟩
  · rw [hl, Bool.true_and] at HQ
    rw [hl] at HC
    clear hl
    go_enter Tryz.func53, Tryz.ntmps53
    go_wp2_with fail
    refine (HC.out _).mono ?_
    rintro e w' ⟨rfl, rfl⟩
    go_wp2_with fail
    refine (rsym_any s _ hs).mono ?_
    rintro e w' ⟨rfl, hb⟩
    have HB := Lib.hid hb
    clear hb
    go_wp2_with fail
    go_ret
    exact ⟨ret_bool (by rw [HQ.out]), HB.out⟩
end Go.Proofs.YtpokelkneblafaaGreatDoor
