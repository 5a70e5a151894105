/- Strings that are symbols or names: the leaf functions of the program and of the reference return what the plain functions say. -/
import Derived.Test.YtpokelkneblafaaGreatDoorProg
import Derived.WalkKit
import Derived.WalkSpells
import Derived.WalkLawsBesides
import Derived.Handy
import Derived.Lib.Hide
import Derived.Below
import Derived.Laws.OwnMore
import Derived.Deep.Draws
import Derived.Laws.Rows
import Derived.Laws.BitsAllLaws
import Derived.Test.YtpokelkneblafaaGreatDoorGP0
namespace Go.Proofs.YtpokelkneblafaaGreatDoor
open Go.RowKit
theorem ret_bool {a b : Bool} (h : a = b) : Ending.returned (.bool a) = .returned (.bool b) := by rw [h]
theorem or_let (c : UInt8) : letB c = (decide (97 ≤ bits .or .u8 (c.toNat : Int) 32) && decide (bits .or .u8 (c.toNat : Int) 32 ≤ 122)) := by
  have h : ∀ n : Nat, n < 256 → letB (UInt8.ofNat n) = (decide (97 ≤ bits .or .u8 ((UInt8.ofNat n).toNat : Int) 32) && decide (bits .or .u8 ((UInt8.ofNat n).toNat : Int) 32 ≤ 122)) := by decide +kernel
  have := h c.toNat c.toNat_lt
  rwa [UInt8.ofNat_toNat] at this
theorem all_get {s : ByteArray} {p : UInt8 → Bool} (h : ∀ (j : Nat) (hj : j < s.size), p s[j] = true) : s.toList.all p = true := by
  rw [ByteArray.toList_eq, List.all_eq_true]
  intro x hx
  obtain ⟨j, hj, rfl⟩ := List.mem_iff_getElem.1 hx
  exact h j (by simpa using hj)
theorem not_all_get {s : ByteArray} {p : UInt8 → Bool} {k : Nat} (hk : k < s.size) (h : p s[k] = false) : s.toList.all p = false := by
  rw [ByteArray.toList_eq, List.all_eq_false]
  refine ⟨s[k], ?_, by simp [h]⟩
  rw [Array.mem_toList_iff]
  exact Array.getElem_mem (xs := s.data) hk
theorem size_toList (s : ByteArray) : s.toList.length = s.size := by rw [ByteArray.toList_eq, Array.length_toList]; rfl
set_option maxHeartbeats 400000 in
theorem letters_any (s : ByteArray) (w : World) (hs : s.size ≤ 9223372036854775807) : Calls Tryz.prog 112 #[.string s] w fun e w' => e = .returned (.bool (lettersB s.toList)) ∧ w = w' := by
  go_enter Tryz.func112, Tryz.ntmps112
  go_wp2_with fail
  go_loop [3] (fun i => ∃ k : Nat, k ≤ s.size ∧ i = .int .i64 k ∧ Hid (∀ (j : Nat) (hj : j < s.size), j < k → letB s[j] = true)) (fun i => s.size - (intOf i).toNat)
  case atStart => exact ⟨0, by omega, rfl, fun j _ h => by omega⟩
  case round =>
    obtain ⟨k, hk, rfl, HJ⟩ := hrel
    by_cases hlt : k < s.size
    · have ho := or_let s[k]
      cases hl : letB s[k]
      · have HF := Lib.hid (not_all_get hlt hl)
        rw [hl] at ho
        have ho' : bits .or .u8 (s[k].toNat : Int) 32 < 97 ∨ 122 < bits .or .u8 (s[k].toNat : Int) 32 := by simp at ho; omega
        clear ho hl
        rcases ho' with h | h
        · go_wp2_with fail
          go_ret
          exact ⟨ret_bool HF.out.symm, rfl⟩
        · go_wp2_with fail
          go_ret
          exact ⟨ret_bool HF.out.symm, rfl⟩
      · rw [hl] at ho
        have h1 : 97 ≤ bits .or .u8 (s[k].toNat : Int) 32 := by simp at ho; omega
        have h2 : bits .or .u8 (s[k].toNat : Int) 32 ≤ 122 := by simp at ho; omega
        have HL := Lib.hid hl
        clear ho hl
        go_wp2_with fail
        go_round
        case rel => exact ⟨k + 1, by omega, by go_num, fun j hj h => by
          rcases Nat.lt_or_ge j k with h' | h'
          · exact HJ.out j hj h'
          · obtain rfl : j = k := by omega
            exact HL.out⟩
        case measure => simp [intOf]; omega
    · have HF := Lib.hid (all_get (s := s) (p := letB) fun j hj => HJ.out j hj (by omega))
      go_wp2_with fail
      go_ret
      exact ⟨ret_bool HF.out.symm, rfl⟩
set_option maxHeartbeats 400000 in
theorem keyword_any (s : ByteArray) (w : World) : Calls Tryz.prog 114 #[.string s] w fun e w' => e = .returned (.bool (inB keywordsL s.toList)) ∧ w = w' := by
  cases h1 : (s.toList == [102, 114, 97, 99])
  · cases h2 : (s.toList == [114, 111, 111, 116])
    · cases h3 : (s.toList == [109, 97, 116, 114, 105, 120])
      · cases h4 : (s.toList == [102, 101, 110, 99, 101])
        · have HR : Hid (inB keywordsL s.toList = false) := by simp only [inB, keywordsL, List.contains_cons, h1, h2, h3, h4]; rfl
          go_enter Tryz.func114, Tryz.ntmps114
          go_wp2_with fail
          go_ret
          exact ⟨ret_bool HR.out.symm, rfl⟩
        · have HR : Hid (inB keywordsL s.toList = true) := by simp only [inB, keywordsL, List.contains_cons, h1, h2, h3, h4]; rfl
          go_enter Tryz.func114, Tryz.ntmps114
          go_wp2_with fail
          go_ret
          exact ⟨ret_bool HR.out.symm, rfl⟩
      · have HR : Hid (inB keywordsL s.toList = true) := by simp only [inB, keywordsL, List.contains_cons, h1, h2, h3]; rfl
        go_enter Tryz.func114, Tryz.ntmps114
        go_wp2_with fail
        go_ret
        exact ⟨ret_bool HR.out.symm, rfl⟩
    · have HR : Hid (inB keywordsL s.toList = true) := by simp only [inB, keywordsL, List.contains_cons, h1, h2]; rfl
      go_enter Tryz.func114, Tryz.ntmps114
      go_wp2_with fail
      go_ret
      exact ⟨ret_bool HR.out.symm, rfl⟩
  · have HR : Hid (inB keywordsL s.toList = true) := by simp only [inB, keywordsL, List.contains_cons, h1]; rfl
    go_enter Tryz.func114, Tryz.ntmps114
    go_wp2_with fail
    go_ret
    exact ⟨ret_bool HR.out.symm, rfl⟩
set_option maxHeartbeats 400000 in
theorem accent_any (s : ByteArray) (w : World) : Calls Tryz.prog 115 #[.string s] w fun e w' => e = .returned (.bool (inB accentsL s.toList)) ∧ w = w' := by
  cases h1 : (s.toList == [104, 97, 116])
  · cases h2 : (s.toList == [98, 97, 114])
    · cases h3 : (s.toList == [118, 101, 99])
      · cases h4 : (s.toList == [100, 111, 116])
        · cases h5 : (s.toList == [116, 105, 108, 100, 101])
          · cases h6 : (s.toList == [99, 104, 101, 99, 107])
            · have HR : Hid (inB accentsL s.toList = false) := by simp only [inB, accentsL, List.contains_cons, h1, h2, h3, h4, h5, h6]; rfl
              go_enter Tryz.func115, Tryz.ntmps115
              go_wp2_with fail
              go_ret
              exact ⟨ret_bool HR.out.symm, rfl⟩
            · have HR : Hid (inB accentsL s.toList = true) := by simp only [inB, accentsL, List.contains_cons, h1, h2, h3, h4, h5, h6]; rfl
              go_enter Tryz.func115, Tryz.ntmps115
              go_wp2_with fail
              go_ret
              exact ⟨ret_bool HR.out.symm, rfl⟩
          · have HR : Hid (inB accentsL s.toList = true) := by simp only [inB, accentsL, List.contains_cons, h1, h2, h3, h4, h5]; rfl
            go_enter Tryz.func115, Tryz.ntmps115
            go_wp2_with fail
            go_ret
            exact ⟨ret_bool HR.out.symm, rfl⟩
        · have HR : Hid (inB accentsL s.toList = true) := by simp only [inB, accentsL, List.contains_cons, h1, h2, h3, h4]; rfl
          go_enter Tryz.func115, Tryz.ntmps115
          go_wp2_with fail
          go_ret
          exact ⟨ret_bool HR.out.symm, rfl⟩
      · have HR : Hid (inB accentsL s.toList = true) := by simp only [inB, accentsL, List.contains_cons, h1, h2, h3]; rfl
        go_enter Tryz.func115, Tryz.ntmps115
        go_wp2_with fail
        go_ret
        exact ⟨ret_bool HR.out.symm, rfl⟩
    · have HR : Hid (inB accentsL s.toList = true) := by simp only [inB, accentsL, List.contains_cons, h1, h2]; rfl
      go_enter Tryz.func115, Tryz.ntmps115
      go_wp2_with fail
      go_ret
      exact ⟨ret_bool HR.out.symm, rfl⟩
  · have HR : Hid (inB accentsL s.toList = true) := by simp only [inB, accentsL, List.contains_cons, h1]; rfl
    go_enter Tryz.func115, Tryz.ntmps115
    go_wp2_with fail
    go_ret
    exact ⟨ret_bool HR.out.symm, rfl⟩
set_option maxHeartbeats 400000 in
theorem rletter_any (c : UInt8) (w : World) : Calls Tryz.prog 90 #[.int .u8 (c.toNat : Int)] w fun e w' => e = .returned (.bool (letB c)) ∧ w = w' := by
  have hc := c.toNat_lt
  by_cases h1 : 97 ≤ c.toNat
  · by_cases h2 : c.toNat ≤ 122
    · have HR := Lib.hid (show letB c = true by unfold letB; rw [decide_eq_true h1, decide_eq_true h2]; rfl)
      go_enter Tryz.func90, Tryz.ntmps90
      go_wp2_with fail
      go_ret
      exact ⟨ret_bool (by first | exact HR.out.symm | (rw [HR.out]; simp; omega)), rfl⟩
    · have HR := Lib.hid (show letB c = false by unfold letB; rw [decide_eq_false h2, Bool.and_false, decide_eq_false (show ¬ c.toNat ≤ 90 by omega), Bool.and_false]; rfl)
      go_enter Tryz.func90, Tryz.ntmps90
      go_wp2_with fail
      go_ret
      exact ⟨ret_bool (by first | exact HR.out.symm | (rw [HR.out]; simp; omega)), rfl⟩
  · by_cases h3 : 65 ≤ c.toNat
    · by_cases h4 : c.toNat ≤ 90
      · have HR := Lib.hid (show letB c = true by unfold letB; rw [decide_eq_true h3, decide_eq_true h4, Bool.or_eq_true]; exact .inr rfl)
        go_enter Tryz.func90, Tryz.ntmps90
        go_wp2_with fail
        go_ret
        exact ⟨ret_bool (by first | exact HR.out.symm | (rw [HR.out]; simp; omega)), rfl⟩
      · have HR := Lib.hid (show letB c = false by unfold letB; rw [decide_eq_false h1, decide_eq_false h4, Bool.and_false]; rfl)
        go_enter Tryz.func90, Tryz.ntmps90
        go_wp2_with fail
        go_ret
        exact ⟨ret_bool (by first | exact HR.out.symm | (rw [HR.out]; simp; omega)), rfl⟩
    · have HR := Lib.hid (show letB c = false by unfold letB; rw [decide_eq_false h1, decide_eq_false h3]; rfl)
      go_enter Tryz.func90, Tryz.ntmps90
      go_wp2_with fail
      go_ret
      exact ⟨ret_bool (by first | exact HR.out.symm | (rw [HR.out]; simp; omega)), rfl⟩
def LetterPost (c : UInt8) (w : World) (e : Ending) (w' : World) : Prop := ∃ n : Int, e = .returned (.int .i64 n) ∧ (letB c = true → 0 ≤ n) ∧ (letB c = false → n < 0) ∧ w = w'
set_option maxHeartbeats 400000 in
theorem rplace_any (c : UInt8) (w : World) : Calls Tryz.prog 70 #[.int .u8 (c.toNat : Int)] w (LetterPost c w) := by
  have hc := c.toNat_lt
  by_cases h1 : 97 ≤ c.toNat
  · by_cases h2 : c.toNat ≤ 122
    · have HR := Lib.hid (show letB c = true by unfold letB; rw [decide_eq_true h1, decide_eq_true h2]; rfl)
      go_enter Tryz.func70, Tryz.ntmps70
      go_wp2_with fail
      go_ret
      exact ⟨_, rfl, (fun _ => by omega), (fun h => absurd (h.symm.trans HR.out) (by decide)), rfl⟩
    · have HR := Lib.hid (show letB c = false by unfold letB; rw [decide_eq_false h2, Bool.and_false, decide_eq_false (show ¬ c.toNat ≤ 90 by omega), Bool.and_false]; rfl)
      go_enter Tryz.func70, Tryz.ntmps70
      go_wp2_with fail
      go_ret
      exact ⟨_, rfl, (fun h => absurd (h.symm.trans HR.out) (by decide)), (fun _ => by omega), rfl⟩
  · by_cases h3 : 65 ≤ c.toNat
    · by_cases h4 : c.toNat ≤ 90
      · have HR := Lib.hid (show letB c = true by unfold letB; rw [decide_eq_true h3, decide_eq_true h4, Bool.or_eq_true]; exact .inr rfl)
        go_enter Tryz.func70, Tryz.ntmps70
        go_wp2_with fail
        go_ret
        exact ⟨_, rfl, (fun _ => by omega), (fun h => absurd (h.symm.trans HR.out) (by decide)), rfl⟩
      · have HR := Lib.hid (show letB c = false by unfold letB; rw [decide_eq_false h1, decide_eq_false h4, Bool.and_false]; rfl)
        go_enter Tryz.func70, Tryz.ntmps70
        go_wp2_with fail
        go_ret
        exact ⟨_, rfl, (fun h => absurd (h.symm.trans HR.out) (by decide)), (fun _ => by omega), rfl⟩
    · have HR := Lib.hid (show letB c = false by unfold letB; rw [decide_eq_false h1, decide_eq_false h3]; rfl)
      go_enter Tryz.func70, Tryz.ntmps70
      go_wp2_with fail
      go_ret
      exact ⟨_, rfl, (fun h => absurd (h.symm.trans HR.out) (by decide)), (fun _ => by omega), rfl⟩
set_option maxHeartbeats 400000 in
theorem rnamed_any (s : ByteArray) (w : World) (hs : s.size ≤ 9223372036854775807) : Calls Tryz.prog 69 #[.string s] w fun e w' => e = .returned (.bool (namedB s.toList)) ∧ w = w' := by
  go_enter Tryz.func69, Tryz.ntmps69
  go_wp2_with fail
  go_loop [3] (fun i => ∃ k : Nat, k ≤ s.size ∧ i = .int .i64 k ∧ Hid (∀ (j : Nat) (hj : j < s.size), j < k → letB s[j] = true)) (fun i => s.size - (intOf i).toNat)
  case atStart => exact ⟨0, by omega, rfl, fun j _ h => by omega⟩
  case round =>
    obtain ⟨k, hk, rfl, HJ⟩ := hrel
    by_cases hlt : k < s.size
    · go_wp2_with fail
      refine (rplace_any s[k] _).mono ?_
      rintro e w' ⟨n, rfl, hn1, hn2, rfl⟩
      cases hl : letB s[k]
      · have HF := Lib.hid (not_all_get hlt hl)
        have hn := hn2 hl
        clear hn1 hn2 hl
        go_wp2_with fail
        go_ret
        exact ⟨ret_bool (by unfold namedB lettersB; rw [HF.out]; rfl), rfl⟩
      · have hn := hn1 hl
        have HL := Lib.hid hl
        clear hn1 hn2 hl
        go_wp2_with fail
        go_round
        case rel => exact ⟨k + 1, by omega, by go_num, fun j hj h => by
          rcases Nat.lt_or_ge j k with h' | h'
          · exact HJ.out j hj h'
          · obtain rfl : j = k := by omega
            exact HL.out⟩
        case measure => simp [intOf]; omega
    · have HF := Lib.hid (all_get (s := s) (p := letB) fun j hj => HJ.out j hj (by omega))
      have HZ := Lib.hid (size_toList s)
      by_cases h1 : 1 ≤ s.size
      · by_cases h2 : s.size ≤ 16
        · have HR := Lib.hid (show namedB s.toList = true by unfold namedB lettersB; rw [HF.out, HZ.out, decide_eq_true h1, decide_eq_true h2]; rfl)
          go_wp2_with fail
          go_ret
          exact ⟨ret_bool (by first | exact HR.out.symm | (rw [HR.out]; simp; omega)), rfl⟩
        · have HR := Lib.hid (show namedB s.toList = false by unfold namedB; rw [HZ.out, decide_eq_false h2, Bool.and_false, Bool.and_false])
          go_wp2_with fail
          go_ret
          exact ⟨ret_bool (by first | exact HR.out.symm | (rw [HR.out]; simp; omega)), rfl⟩
      · have HR := Lib.hid (show namedB s.toList = false by unfold namedB; rw [HZ.out, decide_eq_false h1, Bool.false_and, Bool.and_false])
        go_wp2_with fail
        go_ret
        exact ⟨ret_bool (by first | exact HR.out.symm | (rw [HR.out]; simp; omega)), rfl⟩
set_option maxHeartbeats 400000 in
theorem rhas_any (s : ByteArray) (c : UInt8) (w : World) (hs : s.size ≤ 9223372036854775807) : Calls Tryz.prog 120 #[.string s, .int .u8 (c.toNat : Int)] w fun e w' => e = .returned (.bool (hasB s.toList c)) ∧ w = w' := by
  go_enter Tryz.func120, Tryz.ntmps120
  go_wp2_with fail
  go_loop [5] (fun i => ∃ k : Nat, k ≤ s.size ∧ i = .int .i64 k ∧ Hid (∀ (j : Nat) (hj : j < s.size), j < k → (!(s[j] == c)) = true)) (fun i => s.size - (intOf i).toNat)
  case atStart => exact ⟨0, by omega, rfl, fun j _ h => by omega⟩
  case round =>
    obtain ⟨k, hk, rfl, HJ⟩ := hrel
    by_cases hlt : k < s.size
    · cases hl : (s[k] == c)
      · have hq : ((s[k].toNat : Int) == (c.toNat : Int)) = false := by
          rw [beq_eq_false_iff_ne] at hl ⊢
          intro e; apply hl
          exact UInt8.toNat_inj.1 (by omega)
        have HL := Lib.hid hl
        clear hl
        go_wp2_with fail
        go_round
        case rel => exact ⟨k + 1, by omega, by go_num, fun j hj h => by
          rcases Nat.lt_or_ge j k with h' | h'
          · exact HJ.out j hj h'
          · obtain rfl : j = k := by omega
            rw [HL.out]; rfl⟩
        case measure => simp [intOf]; omega
      · have hq : ((s[k].toNat : Int) == (c.toNat : Int)) = true := by rw [beq_iff_eq] at hl ⊢; rw [hl]
        have HF := Lib.hid (show hasB s.toList c = true by
          unfold hasB
          have := not_all_get (p := fun x => !(x == c)) hlt (by rw [hl]; rfl)
          rw [List.all_eq_false] at this
          obtain ⟨x, hx, hxc⟩ := this
          have e : x = c := by simpa using hxc
          rw [← e]; simpa using hx)
        clear hl
        go_wp2_with fail
        go_ret
        exact ⟨ret_bool HF.out.symm, rfl⟩
    · have HF := Lib.hid (show hasB s.toList c = false by
        unfold hasB
        have := all_get (s := s) (p := fun x => !(x == c)) fun j hj => HJ.out j hj (by omega)
        rw [List.all_eq_true] at this
        rw [Bool.eq_false_iff]
        intro hc
        have hm : c ∈ s.toList := by simpa using hc
        have := this c hm
        simp at this)
      go_wp2_with fail
      go_ret
      exact ⟨ret_bool HF.out.symm, rfl⟩
theorem signs_list : (⟨#[43, 45, 42, 47, 61, 60, 62, 44, 59, 58, 33, 124, 39, 63, 126, 64]⟩ : ByteArray).toList = signsL := by rw [ByteArray.toList_eq]; rfl
set_option maxHeartbeats 400000 in
theorem rchar_any (c : UInt8) (w : World) : Calls Tryz.prog 89 #[.int .u8 (c.toNat : Int)] w fun e w' => e = .returned (.bool (letB c || hasB signsL c)) ∧ w = w' := by
  have HH := Lib.hid (rhas_any ⟨#[43, 45, 42, 47, 61, 60, 62, 44, 59, 58, 33, 124, 39, 63, 126, 64]⟩ c)
  rw [signs_list] at HH
  cases hl : letB c
  · have HL := Lib.hid hl
    clear hl
    go_enter Tryz.func89, Tryz.ntmps89
    go_wp2_with fail
    refine (rletter_any c _).mono ?_
    rintro e w' ⟨rfl, rfl⟩
    rw [HL.out]
    go_wp2_with fail
    refine (HH.out _ (by decide)).mono ?_
    rintro e w' ⟨rfl, rfl⟩
    go_wp2_with fail
    go_ret
    exact ⟨ret_bool (Bool.false_or _).symm, rfl⟩
  · have HL := Lib.hid hl
    clear hl
    go_enter Tryz.func89, Tryz.ntmps89
    go_wp2_with fail
    refine (rletter_any c _).mono ?_
    rintro e w' ⟨rfl, rfl⟩
    rw [HL.out]
    go_wp2_with fail
    go_ret
    exact ⟨ret_bool (Bool.true_or _).symm, rfl⟩
end Go.Proofs.YtpokelkneblafaaGreatDoor
