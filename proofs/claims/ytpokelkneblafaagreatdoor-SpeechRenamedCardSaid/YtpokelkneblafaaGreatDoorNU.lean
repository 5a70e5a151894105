/- Numbers: the program and the reference. -/
import Derived.Test.YtpokelkneblafaaGreatDoorGS1
import Derived.Test.YtpokelkneblafaaGreatDoorTR
import Derived.Test.YtpokelkneblafaaGreatDoorCU
namespace Go.Proofs.YtpokelkneblafaaGreatDoor
open Go.RowKit
set_option maxHeartbeats 400000 in
theorem digits_any (s : ByteArray) (w : World) (hs : s.size ≤ 9223372036854775807) : Calls Tryz.prog 132 #[.string s] w fun e w' => e = .returned (.bool (digsB s.toList)) ∧ w = w' := by
  go_enter Tryz.func132, Tryz.ntmps132
  go_wp2_with fail
  go_loop [3] (fun i => ∃ k : Nat, k ≤ s.size ∧ i = .int .i64 k ∧ Hid (∀ (j : Nat) (hj : j < s.size), j < k → dig46 s[j] = true)) (fun i => s.size - (intOf i).toNat)
  case atStart => exact ⟨0, by omega, rfl, fun j _ h => by omega⟩
  case round =>
    obtain ⟨k, hk, rfl, HJ⟩ := hrel
    by_cases hlt : k < s.size
    · by_cases c1 : (s[k].toNat : Int) < 48
      · have HF := Lib.hid (not_all_get (p := dig46) hlt (by unfold dig46; rw [decide_eq_false (by omega)]; rfl))
        go_wp2_with fail
        go_ret
        exact ⟨ret_bool (by unfold digsB; rw [HF.out]; rfl), rfl⟩
      · by_cases c2 : 57 < (s[k].toNat : Int)
        · have HF := Lib.hid (not_all_get (p := dig46) hlt (by unfold dig46; rw [decide_eq_false (p := s[k].toNat ≤ 57) (by omega), Bool.and_false]))
          go_wp2_with fail
          go_ret
          exact ⟨ret_bool (by unfold digsB; rw [HF.out]; rfl), rfl⟩
        · have HL := Lib.hid (show dig46 s[k] = true by unfold dig46; rw [decide_eq_true (by omega), decide_eq_true (by omega)]; rfl)
          go_wp2_with fail
          go_round
          case rel => exact ⟨k + 1, by omega, by go_num, fun j hj h => by
            rcases Nat.lt_or_ge j k with h' | h'
            · exact HJ.out j hj h'
            · obtain rfl : j = k := by omega
              exact HL.out⟩
          case measure => simp [intOf]; omega
    · have HF := Lib.hid (all_get (s := s) (p := dig46) fun j hj => HJ.out j hj (by omega))
      go_wp2_with fail
      go_ret
      exact ⟨ret_bool (by unfold digsB; rw [HF.out]; rfl), rfl⟩
theorem rdigit_any (c : UInt8) (w : World) : Calls Tryz.prog 88 #[.int .u8 (c.toNat : Int)] w fun e w' => e = .returned (.bool (dig46 c)) ∧ w = w' := by
  by_cases h1 : 48 ≤ c.toNat
  · have HR := Lib.hid (show dig46 c = decide ((c.toNat : Int) ≤ 57) by unfold dig46; rw [decide_eq_true h1, Bool.true_and, decide_eq_decide]; omega)
    go_enter Tryz.func88, Tryz.ntmps88
    go_wp2_with fail
    go_ret
    exact ⟨ret_bool (by rw [HR.out]), rfl⟩
  · have HR := Lib.hid (show dig46 c = false by unfold dig46; rw [decide_eq_false h1]; rfl)
    go_enter Tryz.func88, Tryz.ntmps88
    go_wp2_with fail
    go_ret
    exact ⟨ret_bool HR.out.symm, rfl⟩
theorem list_mk (l : List UInt8) : (⟨l.toArray⟩ : ByteArray).toList = l := by rw [ByteArray.toList_eq]
theorem size_mk (l : List UInt8) : (⟨l.toArray⟩ : ByteArray).size = l.length := by simp [ByteArray.size]
theorem cut_len (l : List UInt8) : (Lib.cut l [46]).1.length ≤ l.length ∧ (Lib.cut l [46]).2.1.length ≤ l.length := by
  rcases mem_split 46 l with h | ⟨a, b, rfl, h⟩
  · rw [cut_miss 46 h]; simp
  · rw [cut_hit 46 h]; simp; omega
set_option maxHeartbeats 400000 in
theorem nnum_any (s : ByteArray) (w : World) (hs : s.size ≤ 9223372036854775807) : Calls Tryz.prog 108 #[.string s] w fun e w' => e = .returned (.bool (numP s.data.toList)) ∧ Below w.heap.size w w' := by
  have hlen : s.data.toList.length = s.size := by simp
  obtain ⟨l1, l2⟩ := cut_len s.data.toList
  have HQ := Lib.hid (show numP s.data.toList = (decide (s.size ≤ 20) && (digsB (Lib.cut s.data.toList [46]).1 && (!(Lib.cut s.data.toList [46]).2.2 || digsB (Lib.cut s.data.toList [46]).2.1))) by unfold numP; rw [hlen])
  have HC := Lib.hid (Tryz.strings_Cut_one s 46 w hs)
  rw [hlen] at l1 l2
  clear hlen
  generalize (Lib.cut s.data.toList [46]).1 = a at *
  generalize (Lib.cut s.data.toList [46]).2.1 = b at *
  generalize (Lib.cut s.data.toList [46]).2.2 = p at *
  have HA := Lib.hid (fun w1 => digits_any (⟨a.toArray⟩ : ByteArray) w1 (by rw [size_mk]; omega))
  have HB := Lib.hid (fun w1 => digits_any (⟨b.toArray⟩ : ByteArray) w1 (by rw [size_mk]; omega))
  rw [list_mk] at HA HB
  by_cases h20 : s.size ≤ 20
  · rw [decide_eq_true h20, Bool.true_and] at HQ
    go_enter Tryz.func108, Tryz.ntmps108
    go_wp2_with fail
    refine HC.out.mono ?_
    rintro e w' ⟨rfl, n, rfl⟩
    go_wp2_with fail
    refine (HA.out _).mono ?_
    rintro e w' ⟨rfl, rfl⟩
    cases ha : digsB a
    · rw [ha] at HQ
      clear ha
      go_wp2_with fail
      go_ret
      exact ⟨ret_bool (by rw [HQ.out]; rfl), below_drewN (Below.refl _ _) n⟩
    · rw [ha, Bool.true_and] at HQ
      clear ha
      cases p
      · go_wp2_with fail
        go_ret
        exact ⟨ret_bool (by rw [HQ.out]; rfl), below_drewN (Below.refl _ _) n⟩
      · rw [Bool.not_true, Bool.false_or] at HQ
        go_wp2_with fail
        refine (HB.out _).mono ?_
        rintro e w' ⟨rfl, rfl⟩
        generalize digsB b = d at *
        go_wp2_with fail
        go_ret
        exact ⟨ret_bool (by rw [HQ.out]), below_drewN (Below.refl _ _) n⟩
  · rw [decide_eq_false h20, Bool.false_and] at HQ
    go_enter Tryz.func108, Tryz.ntmps108
    go_wp2_with fail
    refine HC.out.mono ?_
    rintro e w' ⟨rfl, n, rfl⟩
    go_wp2_with fail
    go_ret
    exact ⟨ret_bool (by rw [HQ.out]), below_drewN (Below.refl _ _) n⟩
def okAt (s : ByteArray) (j : Nat) (h : j < s.size) : Prop := (s[j] = 46 ∧ 0 < j ∧ j + 1 < s.size) ∨ dig46 s[j] = true
theorem data_get (s : ByteArray) (j : Nat) (h : j < s.size) : s.data.toList[j]? = some s[j] := by
  rw [List.getElem?_eq_getElem (by simpa using h)]; rfl
theorem numR_ok {s : ByteArray} (H : ∀ (j : Nat) (hj : j < s.size), okAt s j hj) : numR s.data.toList = (decide (0 < s.size) && (decide (s.size ≤ 20) && decide (s.data.toList.count 46 ≤ 1))) := by
  have hl : s.data.toList.length = s.size := by simp
  unfold numR
  have h1 : s.data.toList.all (fun c => c == 46 || dig46 c) = true := by
    rw [List.all_eq_true]
    intro x hx
    obtain ⟨j, hj, rfl⟩ := List.mem_iff_getElem.1 hx
    rcases H j (by omega) with ⟨h, _⟩ | h
    · rw [Bool.or_eq_true]; exact .inl (by rw [beq_iff_eq]; exact h)
    · rw [Bool.or_eq_true]; exact .inr h
  have h2 : s.data.toList.head? ≠ some 46 := by
    intro e
    rw [List.head?_eq_getElem?] at e
    have h0 : 0 < s.size := by
      rcases Nat.eq_zero_or_pos s.size with h0 | h0
      · rw [List.getElem?_eq_none (by omega)] at e; cases e
      · exact h0
    rw [data_get s 0 h0] at e
    rcases H 0 h0 with ⟨_, h, _⟩ | h
    · omega
    · exact dig_not _ h (Option.some.inj e)
  have h3 : s.data.toList.getLast? ≠ some 46 := by
    intro e
    rw [List.getLast?_eq_getElem?, hl] at e
    have h0 : 0 < s.size := by
      rcases Nat.eq_zero_or_pos s.size with h0 | h0
      · rw [List.getElem?_eq_none (by omega)] at e; cases e
      · exact h0
    rw [data_get s (s.size - 1) (by omega)] at e
    rcases H (s.size - 1) (by omega) with ⟨_, _, h⟩ | h
    · omega
    · exact dig_not _ h (Option.some.inj e)
  rw [h1, decide_eq_true h2, decide_eq_true h3, hl]
  rfl
theorem numR_bad {s : ByteArray} {k : Nat} (hk : k < s.size) (h : ¬ okAt s k hk) : numR s.data.toList = false := by
  have hl : s.data.toList.length = s.size := by simp
  unfold okAt at h
  unfold numR
  by_cases h46 : s[k] = 46
  · have hk' : k = 0 ∨ k + 1 = s.size := by
      rcases Nat.eq_zero_or_pos k with h0 | h0
      · exact .inl h0
      · exact .inr (Classical.byContradiction fun hc => h (.inl ⟨h46, h0, by omega⟩))
    rcases hk' with rfl | hk'
    · have h2 : s.data.toList.head? = some 46 := by rw [List.head?_eq_getElem?, data_get s 0 hk, h46]
      rw [h2]; simp
    · have h3 : s.data.toList.getLast? = some 46 := by rw [List.getLast?_eq_getElem?, hl, show s.size - 1 = k by omega, data_get s k hk, h46]
      rw [h3]; simp
  · have hd : dig46 s[k] = false := by
      cases hd : dig46 s[k]
      · rfl
      · exact absurd (.inr hd) h
    have h1 : s.data.toList.all (fun c => c == 46 || dig46 c) = false := by
      rw [List.all_eq_false]
      refine ⟨s[k], List.mem_of_getElem? (data_get s k hk), ?_⟩
      rw [hd, beq_eq_false_iff_ne.2 h46]; simp
    rw [h1]; rfl
theorem count_take {s : ByteArray} {k : Nat} (hk : k < s.size) : (s.data.toList.take (k + 1)).count 46 = (s.data.toList.take k).count 46 + (if s[k] = 46 then 1 else 0) := by
  rw [List.take_add_one, data_get s k hk, Option.toList, List.count_append, List.count_singleton]
  by_cases h : s[k] = 46 <;> simp [h]
set_option maxHeartbeats 800000 in
theorem rnum_any (s : ByteArray) (w : World) (hs : s.size ≤ 9223372036854775807) : Calls Tryz.prog 67 #[.string s] w fun e w' => e = .returned (.bool (numR s.data.toList)) ∧ w = w' := by
  have hl : s.data.toList.length = s.size := by simp
  have HL := Lib.hid hl
  clear hl
  go_enter Tryz.func67, Tryz.ntmps67
  go_wp2_with fail
  go_loop [3, 4] (fun p i => ∃ k c : Nat, k ≤ s.size ∧ c ≤ k ∧ i = .int .i64 k ∧ p = .int .i64 c ∧ Hid (c = (s.data.toList.take k).count 46) ∧ Hid (∀ (j : Nat) (hj : j < s.size), j < k → okAt s j hj)) (fun _ i => s.size - (intOf i).toNat)
  case atStart => exact ⟨0, 0, by omega, by omega, rfl, rfl, rfl, fun j _ h => by omega⟩
  case round =>
    obtain ⟨k, c, hk, hck, rfl, rfl, HC, HJ⟩ := hrel
    by_cases hlt : k < s.size
    · have HT := Lib.hid (count_take hlt)
      by_cases h46 : s[k] = 46
      · have hq : ((s[k].toNat : Int) == 46) = true := by rw [h46]; rfl
        have HD := Lib.hid (show dig46 s[k] = false by rw [h46]; rfl)
        by_cases hin : 0 < k ∧ k + 1 < s.size
        · obtain ⟨h0, h1⟩ := hin
          have h1' : (k : Int) < (s.size : Int) - 1 := by omega
          have HK := Lib.hid (show okAt s k hlt from .inl ⟨h46, h0, h1⟩)
          have HS := Lib.hid (show c + 1 = (s.data.toList.take (k + 1)).count 46 by rw [HT.out, ← HC.out, if_pos h46])
          clear h46
          go_wp2_with fail
          go_round
          case rel => exact ⟨k + 1, c + 1, by omega, by omega, by go_num, by go_num, HS, fun j hj h => by
            rcases Nat.lt_or_ge j k with h' | h'
            · exact HJ.out j hj h'
            · obtain rfl : j = k := by omega
              exact HK.out⟩
          case measure => simp [intOf]; omega
        · have HB := Lib.hid (numR_bad hlt (fun h => by
            rcases h with ⟨_, a, b⟩ | h
            · exact hin ⟨a, b⟩
            · rw [HD.out] at h; cases h))
          clear h46
          by_cases h0 : 0 < k
          · have h1 : ¬ (k : Int) < (s.size : Int) - 1 := by omega
            clear hin
            go_wp2_with fail
            refine (rdigit_any s[k] _).mono ?_
            rintro e w' ⟨rfl, rfl⟩
            rw [HD.out]
            go_wp2_with fail
            go_ret
            exact ⟨ret_bool HB.out.symm, rfl⟩
          · clear hin
            go_wp2_with fail
            refine (rdigit_any s[k] _).mono ?_
            rintro e w' ⟨rfl, rfl⟩
            rw [HD.out]
            go_wp2_with fail
            go_ret
            exact ⟨ret_bool HB.out.symm, rfl⟩
      · have hq : ((s[k].toNat : Int) == 46) = false := by
          rw [beq_eq_false_iff_ne]; intro e; apply h46; exact UInt8.toNat_inj.1 (show s[k].toNat = 46 by omega)
        cases hd : dig46 s[k]
        · have HD := Lib.hid hd
          have HB := Lib.hid (numR_bad hlt (fun h => by
            rcases h with ⟨a, _⟩ | h
            · exact h46 a
            · rw [HD.out] at h; cases h))
          clear h46 hd
          go_wp2_with fail
          refine (rdigit_any s[k] _).mono ?_
          rintro e w' ⟨rfl, rfl⟩
          rw [HD.out]
          go_wp2_with fail
          go_ret
          exact ⟨ret_bool HB.out.symm, rfl⟩
        · have HD := Lib.hid hd
          have HK := Lib.hid (show okAt s k hlt from .inr hd)
          have HS := Lib.hid (show c = (s.data.toList.take (k + 1)).count 46 by rw [HT.out, ← HC.out, if_neg h46]; rfl)
          clear h46 hd
          go_wp2_with fail
          refine (rdigit_any s[k] _).mono ?_
          rintro e w' ⟨rfl, rfl⟩
          rw [HD.out]
          go_wp2_with fail
          go_round
          case rel => exact ⟨k + 1, c, by omega, by omega, by go_num, rfl, HS, fun j hj h => by
            rcases Nat.lt_or_ge j k with h' | h'
            · exact HJ.out j hj h'
            · obtain rfl : j = k := by omega
              exact HK.out⟩
          case measure => simp [intOf]; omega
    · obtain rfl : k = s.size := by omega
      have HQ := Lib.hid (numR_ok (s := s) fun j hj => HJ.out j hj hj)
      rw [show s.data.toList.take s.size = s.data.toList by rw [← HL.out]; exact List.take_length] at HC
      rw [← HC.out] at HQ
      clear HL HC HJ
      by_cases h0 : 0 < s.size
      · by_cases h20 : s.size ≤ 20
        · rw [decide_eq_true h0, decide_eq_true h20] at HQ
          go_wp2_with fail
          go_ret
          exact ⟨ret_bool (by rw [HQ.out]; simp; omega), rfl⟩
        · rw [decide_eq_true h0, decide_eq_false h20] at HQ
          go_wp2_with fail
          go_ret
          exact ⟨ret_bool (by rw [HQ.out]; rfl), rfl⟩
      · rw [decide_eq_false h0] at HQ
        go_wp2_with fail
        go_ret
        exact ⟨ret_bool (by rw [HQ.out]; rfl), rfl⟩
end Go.Proofs.YtpokelkneblafaaGreatDoor
