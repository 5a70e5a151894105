/- Numbers and fences: the program and the reference. -/
import Derived.Test.YtgoafobhhmeppaaGreatNT
import Derived.Test.YtgoafobhhmeppaaGreatCU
import Derived.Test.YtgoafobhhmeppaaGreatTM
namespace Go.Proofs.YtgoafobhhmeppaaGreat
open Go.RowKit
theorem list_mk (l : List UInt8) : (⟨l.toArray⟩ : ByteArray).toList = l := by rw [ByteArray.toList_eq]
theorem size_mk (l : List UInt8) : (⟨l.toArray⟩ : ByteArray).size = l.length := by simp [ByteArray.size]
theorem cut_len (l : List UInt8) : (Lib.cut l [46]).1.length ≤ l.length ∧ (Lib.cut l [46]).2.1.length ≤ l.length := by
  rcases mem_split 46 l with h | ⟨a, b, rfl, h⟩
  · rw [cut_miss 46 h]; simp
  · rw [cut_hit 46 h]; simp; omega
set_option maxHeartbeats 400000 in
theorem nnum_any (s : ByteArray) (w : World) (hs : s.size ≤ 9223372036854775807) : Calls Tryz.prog 73 #[.string s] w fun e w' => e = .returned (.bool (numP s.data.toList)) ∧ Below w.heap.size w w' := by
  have hlen : s.data.toList.length = s.size := by simp
  obtain ⟨l1, l2⟩ := cut_len s.data.toList
  have HQ := Lib.hid (show numP s.data.toList = (decide (s.size ≤ 20) && (digsB (Lib.cut s.data.toList [46]).1 && (!(Lib.cut s.data.toList [46]).2.2 || digsB (Lib.cut s.data.toList [46]).2.1))) by unfold numP; rw [hlen])
  have HC := Lib.hid (Tryz.strings_Cut_one s 46 w hs)
  rw [hlen] at l1 l2
  clear hlen
  generalize (Lib.cut s.data.toList [46]).1 = a at *
  generalize (Lib.cut s.data.toList [46]).2.1 = b at *
  generalize (Lib.cut s.data.toList [46]).2.2 = p at *
  have HA := Lib.hid (fun w1 => digits_any (⟨a.toArray⟩ : ByteArray) w1 (by rw [size_mk]; omega))
  have HB := Lib.hid (fun w1 => digits_any (⟨b.toArray⟩ : ByteArray) w1 (by rw [size_mk]; omega))
  rw [list_mk] at HA HB
  by_cases h20 : s.size ≤ 20
  · rw [decide_eq_true h20, Bool.true_and] at HQ
    go_enter Tryz.func73, Tryz.ntmps73
    go_wp2_with fail
    refine HC.out.mono ?_
    rintro e w' ⟨rfl, n, rfl⟩
    go_wp2_with fail
    refine (HA.out _).mono ?_
    rintro e w' ⟨rfl, rfl⟩
    cases ha : digsB a
    · rw [ha] at HQ
      clear ha
      go_wp2_with fail
      go_ret
      exact ⟨ret_bool (by rw [HQ.out]; rfl), below_drewN (Below.refl _ _) n⟩
    · rw [ha, Bool.true_and] at HQ
      clear ha
      cases p
      · go_wp2_with fail
        go_ret
        exact ⟨ret_bool (by rw [HQ.out]; rfl), below_drewN (Below.refl _ _) n⟩
      · rw [Bool.not_true, Bool.false_or] at HQ
        go_wp2_with fail
        refine (HB.out _).mono ?_
        rintro e w' ⟨rfl, rfl⟩
        generalize digsB b = d at *
        go_wp2_with fail
        go_ret
        exact ⟨ret_bool (by rw [HQ.out]), below_drewN (Below.refl _ _) n⟩
  · rw [decide_eq_false h20, Bool.false_and] at HQ
    go_enter Tryz.func73, Tryz.ntmps73
    go_wp2_with fail
    refine HC.out.mono ?_
    rintro e w' ⟨rfl, n, rfl⟩
    go_wp2_with fail
    go_ret
    exact ⟨ret_bool (by rw [HQ.out]), below_drewN (Below.refl _ _) n⟩
theorem delim_p (c : UInt8) : decide (0 ≤ Lib.indexByte [40, 41, 91, 93, 123, 125, 60, 62, 47, 124, 46] c) = hasB delimL c := by
  have h : ∀ n : Nat, n < 256 → decide (0 ≤ Lib.indexByte [40, 41, 91, 93, 123, 125, 60, 62, 47, 124, 46] (UInt8.ofNat n)) = hasB delimL (UInt8.ofNat n) := by decide +kernel
  have := h c.toNat c.toNat_lt
  rwa [UInt8.ofNat_toNat] at this
theorem two_bytes (s : ByteArray) (h : s.size = 2) : ∃ a b : UInt8, s = ⟨#[a, b]⟩ := by
  obtain ⟨⟨l⟩⟩ := s
  match l, h with
  | [a, b], _ => exact ⟨a, b, rfl⟩
  | [], h => simp [ByteArray.size] at h
  | [_], h => simp [ByteArray.size] at h
  | _ :: _ :: _ :: _, h => simp [ByteArray.size] at h
theorem fenc_two (a b : UInt8) : fencB (⟨#[a, b]⟩ : ByteArray).data.toList = (hasB delimL a && hasB delimL b) := rfl
theorem fenc_no {s : ByteArray} (h : s.size ≠ 2) : fencB s.data.toList = false := by
  have hl : s.data.toList.length = s.size := by simp
  unfold fencB
  split
  · rename_i a b he
    rw [he] at hl
    simp at hl
    omega
  · rfl
set_option maxHeartbeats 400000 in
theorem fence_any (s : ByteArray) (w : World) : Calls Tryz.prog 76 #[.string s] w fun e w' => e = .returned (.bool (fencB s.data.toList)) ∧ Below w.heap.size w w' := by
  by_cases h : s.size = 2
  · obtain ⟨a, b, rfl⟩ := two_bytes s h
    clear h
    rw [fenc_two]
    have HA := Lib.hid (Tryz.strings_IndexByte ⟨#[40, 41, 91, 93, 123, 125, 60, 62, 47, 124, 46]⟩ a.toNat)
    have HB := Lib.hid (Tryz.strings_IndexByte ⟨#[40, 41, 91, 93, 123, 125, 60, 62, 47, 124, 46]⟩ b.toNat)
    have DA := Lib.hid (delim_p a)
    have DB := Lib.hid (delim_p b)
    rw [show ((a.toNat : Int).toNat.toUInt8) = a by simp, show (⟨#[40, 41, 91, 93, 123, 125, 60, 62, 47, 124, 46]⟩ : ByteArray).data.toList = [40, 41, 91, 93, 123, 125, 60, 62, 47, 124, 46] from rfl] at HA
    rw [show ((b.toNat : Int).toNat.toUInt8) = b by simp, show (⟨#[40, 41, 91, 93, 123, 125, 60, 62, 47, 124, 46]⟩ : ByteArray).data.toList = [40, 41, 91, 93, 123, 125, 60, 62, 47, 124, 46] from rfl] at HB
    generalize Lib.indexByte [40, 41, 91, 93, 123, 125, 60, 62, 47, 124, 46] a = x at *
    generalize Lib.indexByte [40, 41, 91, 93, 123, 125, 60, 62, 47, 124, 46] b = y at *
    go_enter Tryz.func76, Tryz.ntmps76
    go_wp2_with fail
    refine (HA.out _).mono ?_
    rintro e w' ⟨rfl, rfl⟩
    by_cases hx : 0 ≤ x
    · go_wp2_with fail
      refine (HB.out _).mono ?_
      rintro e w' ⟨rfl, rfl⟩
      go_wp2_with fail
      go_ret
      exact ⟨ret_bool (by rw [← DA.out, ← DB.out, decide_eq_true hx, Bool.true_and]), Below.refl _ _⟩
    · go_wp2_with fail
      go_ret
      exact ⟨ret_bool (by rw [← DA.out, decide_eq_false (by omega), Bool.false_and]), Below.refl _ _⟩
  · have HQ := Lib.hid (fenc_no h)
    have hq : ((s.size : Int) == 2) = false := by rw [beq_eq_false_iff_ne]; omega
    clear h
    go_enter Tryz.func76, Tryz.ntmps76
    go_wp2_with fail
    go_ret
    exact ⟨ret_bool HQ.out.symm, Below.refl _ _⟩
end Go.Proofs.YtgoafobhhmeppaaGreat
