/- Products and quotients of rational numbers, in the program and in the reference; for all numbers. -/
import Derived.Test.YtlfapncbkgpclaaDoorQ2
namespace Go.Proofs.YtlfapncbkgpclaaDoor
open Go.RowKit
theorem mulB (x y : Int) (hx : -2147483647 ≤ x ∧ x ≤ 2147483647) (hy : -2147483647 ≤ y ∧ y ≤ 2147483647) : -4611686018427387904 ≤ x * y ∧ x * y ≤ 4611686018427387904 := by
  have h1 : x.natAbs ≤ 2147483647 := by omega
  have h2 : y.natAbs ≤ 2147483647 := by omega
  have h3 : (x * y).natAbs ≤ 2147483647 * 2147483647 := by rw [Int.natAbs_mul]; exact Nat.mul_le_mul h1 h2
  omega
theorem val_bd {n d : Int} (h : valQ n d = true) : 1 ≤ d ∧ d ≤ 2147483647 ∧ -2147483647 ≤ n ∧ n ≤ 2147483647 := by
  unfold valQ inB at h
  simp at h
  exact h.1
def mulQ (a b c d : Int) : Int × Int × Int := if valQ a b && valQ c d then makeQ (a * c) (b * d) else (0, 0, 1)
def divQ (a b c d : Int) : Int × Int × Int := if valQ a b && valQ c d then makeQ (a * d) (b * c) else (0, 0, 1)
theorem keepQ {W w1 : World} {k : Nat} {o : Obj} {g : Nat} {t : TypeId} {cs : Array Value} (h : Blk W g t cs) (e : w1 = (W.alloc o).drewN k) : Blk w1 g t cs := by
  rw [e]; exact (h.alloc o).drewN k

set_option maxHeartbeats 400000 in
theorem qmul_no1 (a b c d : Int) (w : World) (ha : valQ a b = false) : Calls Tryd.prog 46 #[ratV a b, ratV c d] w fun e w' => e = .returned (q3V (0, 0, 1)) ∧ Below w.heap.size w w' := by
  have HA := Lib.hid ha
  clear ha
  go_enter Tryd.func46, Tryd.ntmps46
  go_wp2_with fail
  refine (qvalid_any a b _).mono ?_
  rintro e w' ⟨rfl, k, rfl⟩
  rw [HA.out]
  go_wp2_with fail
  go_returns
  exact ⟨rfl, by repeat' (first | (with_reducible exact Below.refl _ _) | (with_reducible refine Below.alloc ?_ ?_ _) | (with_reducible refine Below.setCell ?_ ?_ _) | (with_reducible refine below_drewN ?_ _) | (with_reducible refine Below.drew ?_) | go_size)⟩

set_option maxHeartbeats 400000 in
theorem qmul_no2 (a b c d : Int) (w : World) (ha : valQ a b = true) (hb : valQ c d = false) : Calls Tryd.prog 46 #[ratV a b, ratV c d] w fun e w' => e = .returned (q3V (0, 0, 1)) ∧ Below w.heap.size w w' := by
  have HA := Lib.hid ha
  clear ha
  have HB := Lib.hid hb
  clear hb
  go_enter Tryd.func46, Tryd.ntmps46
  go_wp2_with fail
  refine (qvalid_any a b _).mono ?_
  rintro e w' ⟨rfl, k, rfl⟩
  rw [HA.out]
  go_wp2_with fail
  refine (qvalid_any c d _).mono ?_
  rintro e w' ⟨rfl, k2, rfl⟩
  rw [HB.out]
  go_wp2_with fail
  go_returns
  exact ⟨rfl, by repeat' (first | (with_reducible exact Below.refl _ _) | (with_reducible refine Below.alloc ?_ ?_ _) | (with_reducible refine Below.setCell ?_ ?_ _) | (with_reducible refine below_drewN ?_ _) | (with_reducible refine Below.drew ?_) | go_size)⟩

set_option maxHeartbeats 800000 in
theorem qmul_ok (a b c d : Int) (w : World) (ha : valQ a b = true) (hb : valQ c d = true) : Calls Tryd.prog 46 #[ratV a b, ratV c d] w fun e w' => e = .returned (q3V (makeQ (a * c) (b * d))) ∧ Below w.heap.size w w' := by
  have ba := val_bd ha
  have bb := val_bd hb
  have m1 := mulB a c (by omega) (by omega)
  have m2 := mulB b d (by omega) (by omega)
  have HA := Lib.hid ha
  have HB := Lib.hid hb
  clear ha hb
  go_enter Tryd.func46, Tryd.ntmps46
  go_wp2_with fail
  refine (qvalid_any a b _).mono ?_
  rintro e w' ⟨rfl, k, rfl⟩
  rw [HA.out]
  go_wp2_with fail
  refine (qvalid_any c d _).mono ?_
  rintro e w' ⟨rfl, k2, rfl⟩
  rw [HB.out]
  go_wp2_with fail
  refine (make_any (a * c) (b * d) _ (by omega) (by omega) (by omega) (by omega)).mono ?_
  rintro e w' ⟨rfl, hb⟩
  generalize hr : makeQ (a * c) (b * d) = r
  have HR := Lib.hid hr
  clear hr
  obtain ⟨hc, hf⟩ := bcell hb
  have hz : w.heap.size + 1 + 1 < w'.heap.size := by have := hb.size; simp at this; omega
  have H0 : Hid (Below w.heap.size w w') := Below.trans (by repeat' (first | (with_reducible exact Below.refl _ _) | (with_reducible refine Below.alloc ?_ ?_ _) | (with_reducible refine Below.setCell ?_ ?_ _) | (with_reducible refine below_drewN ?_ _) | (with_reducible refine Below.drew ?_) | go_size)) (hb.mono (by simp; omega))
  clear hb
  unfold q3V
  go_wp2_with fail
  refine bodyPost_ret (v := q3V r) (by simp [q3V, results, Tryd.results46, go_sem, hc]) rfl ⟨by rw [HR.out], by repeat' (first | (with_reducible exact H0.out) | (with_reducible refine Below.setCell ?_ ?_ _) | (with_reducible refine Below.alloc ?_ ?_ _) | (with_reducible refine below_drewN ?_ _) | (with_reducible refine Below.drew ?_) | go_size)⟩

theorem qmul_any (a b c d : Int) (w : World) : Calls Tryd.prog 46 #[ratV a b, ratV c d] w fun e w' => e = .returned (q3V (mulQ a b c d)) ∧ Below w.heap.size w w' := by
  unfold mulQ
  cases ha : valQ a b
  · exact qmul_no1 a b c d w ha
  · cases hb : valQ c d
    · exact qmul_no2 a b c d w ha hb
    · simp only [Bool.and_self, if_true]
      exact qmul_ok a b c d w ha hb

set_option maxHeartbeats 400000 in
theorem rqmul_no1 (a b c d : Int) (w : World) (ha : valQ a b = false) : Calls Tryd.prog 50 #[ratV a b, ratV c d] w fun e w' => e = .returned (q3V (0, 0, 1)) ∧ Below w.heap.size w w' := by
  have HA := Lib.hid ha
  clear ha
  go_enter Tryd.func50, Tryd.ntmps50
  go_wp2_with fail
  refine (rqvalid_any a b _).mono ?_
  rintro e w' ⟨rfl, k, rfl⟩
  rw [HA.out]
  go_wp2_with fail
  go_returns
  exact ⟨rfl, by repeat' (first | (with_reducible exact Below.refl _ _) | (with_reducible refine Below.alloc ?_ ?_ _) | (with_reducible refine Below.setCell ?_ ?_ _) | (with_reducible refine below_drewN ?_ _) | (with_reducible refine Below.drew ?_) | go_size)⟩

set_option maxHeartbeats 400000 in
theorem rqmul_no2 (a b c d : Int) (w : World) (ha : valQ a b = true) (hb : valQ c d = false) : Calls Tryd.prog 50 #[ratV a b, ratV c d] w fun e w' => e = .returned (q3V (0, 0, 1)) ∧ Below w.heap.size w w' := by
  have HA := Lib.hid ha
  clear ha
  have HB := Lib.hid hb
  clear hb
  go_enter Tryd.func50, Tryd.ntmps50
  go_wp2_with fail
  refine (rqvalid_any a b _).mono ?_
  rintro e w' ⟨rfl, k, rfl⟩
  rw [HA.out]
  go_wp2_with fail
  refine (rqvalid_any c d _).mono ?_
  rintro e w' ⟨rfl, k2, rfl⟩
  rw [HB.out]
  go_wp2_with fail
  go_returns
  exact ⟨rfl, by repeat' (first | (with_reducible exact Below.refl _ _) | (with_reducible refine Below.alloc ?_ ?_ _) | (with_reducible refine Below.setCell ?_ ?_ _) | (with_reducible refine below_drewN ?_ _) | (with_reducible refine Below.drew ?_) | go_size)⟩

set_option maxHeartbeats 800000 in
theorem rqmul_ok (a b c d : Int) (w : World) (ha : valQ a b = true) (hb : valQ c d = true) : Calls Tryd.prog 50 #[ratV a b, ratV c d] w fun e w' => e = .returned (q3V (makeQ (a * c) (b * d))) ∧ Below w.heap.size w w' := by
  have ba := val_bd ha
  have bb := val_bd hb
  have m1 := mulB a c (by omega) (by omega)
  have m2 := mulB b d (by omega) (by omega)
  have HA := Lib.hid ha
  have HB := Lib.hid hb
  clear ha hb
  go_enter Tryd.func50, Tryd.ntmps50
  go_wp2_with fail
  refine (rqvalid_any a b _).mono ?_
  rintro e w' ⟨rfl, k, rfl⟩
  rw [HA.out]
  go_wp2_with fail
  refine (rqvalid_any c d _).mono ?_
  rintro e w' ⟨rfl, k2, rfl⟩
  rw [HB.out]
  go_wp2_with fail
  refine (rmake_any (a * c) (b * d) _ (by omega) (by omega) (by omega) (by omega)).mono ?_
  rintro e w' ⟨rfl, hb⟩
  generalize hr : makeQ (a * c) (b * d) = r
  have HR := Lib.hid hr
  clear hr
  obtain ⟨hc, hf⟩ := bcell hb
  have hz : w.heap.size + 1 + 1 < w'.heap.size := by have := hb.size; simp at this; omega
  have H0 : Hid (Below w.heap.size w w') := Below.trans (by repeat' (first | (with_reducible exact Below.refl _ _) | (with_reducible refine Below.alloc ?_ ?_ _) | (with_reducible refine Below.setCell ?_ ?_ _) | (with_reducible refine below_drewN ?_ _) | (with_reducible refine Below.drew ?_) | go_size)) (hb.mono (by simp; omega))
  clear hb
  unfold q3V
  go_wp2_with fail
  refine bodyPost_ret (v := q3V r) (by simp [q3V, results, Tryd.results50, go_sem, hc]) rfl ⟨by rw [HR.out], by repeat' (first | (with_reducible exact H0.out) | (with_reducible refine Below.setCell ?_ ?_ _) | (with_reducible refine Below.alloc ?_ ?_ _) | (with_reducible refine below_drewN ?_ _) | (with_reducible refine Below.drew ?_) | go_size)⟩

theorem rqmul_any (a b c d : Int) (w : World) : Calls Tryd.prog 50 #[ratV a b, ratV c d] w fun e w' => e = .returned (q3V (mulQ a b c d)) ∧ Below w.heap.size w w' := by
  unfold mulQ
  cases ha : valQ a b
  · exact rqmul_no1 a b c d w ha
  · cases hb : valQ c d
    · exact rqmul_no2 a b c d w ha hb
    · simp only [Bool.and_self, if_true]
      exact rqmul_ok a b c d w ha hb

set_option maxHeartbeats 400000 in
theorem qdiv_no1 (a b c d : Int) (w : World) (ha : valQ a b = false) : Calls Tryd.prog 47 #[ratV a b, ratV c d] w fun e w' => e = .returned (q3V (0, 0, 1)) ∧ Below w.heap.size w w' := by
  have HA := Lib.hid ha
  clear ha
  go_enter Tryd.func47, Tryd.ntmps47
  go_wp2_with fail
  refine (qvalid_any a b _).mono ?_
  rintro e w' ⟨rfl, k, rfl⟩
  rw [HA.out]
  go_wp2_with fail
  go_returns
  exact ⟨rfl, by repeat' (first | (with_reducible exact Below.refl _ _) | (with_reducible refine Below.alloc ?_ ?_ _) | (with_reducible refine Below.setCell ?_ ?_ _) | (with_reducible refine below_drewN ?_ _) | (with_reducible refine Below.drew ?_) | go_size)⟩

set_option maxHeartbeats 400000 in
theorem qdiv_no2 (a b c d : Int) (w : World) (ha : valQ a b = true) (hb : valQ c d = false) : Calls Tryd.prog 47 #[ratV a b, ratV c d] w fun e w' => e = .returned (q3V (0, 0, 1)) ∧ Below w.heap.size w w' := by
  have HA := Lib.hid ha
  clear ha
  have HB := Lib.hid hb
  clear hb
  go_enter Tryd.func47, Tryd.ntmps47
  go_wp2_with fail
  refine (qvalid_any a b _).mono ?_
  rintro e w' ⟨rfl, k, rfl⟩
  rw [HA.out]
  go_wp2_with fail
  refine (qvalid_any c d _).mono ?_
  rintro e w' ⟨rfl, k2, rfl⟩
  rw [HB.out]
  go_wp2_with fail
  go_returns
  exact ⟨rfl, by repeat' (first | (with_reducible exact Below.refl _ _) | (with_reducible refine Below.alloc ?_ ?_ _) | (with_reducible refine Below.setCell ?_ ?_ _) | (with_reducible refine below_drewN ?_ _) | (with_reducible refine Below.drew ?_) | go_size)⟩

set_option maxHeartbeats 800000 in
theorem qdiv_ok (a b c d : Int) (w : World) (ha : valQ a b = true) (hb : valQ c d = true) (hz : c ≠ 0) : Calls Tryd.prog 47 #[ratV a b, ratV c d] w fun e w' => e = .returned (q3V (makeQ (a * d) (b * c))) ∧ Below w.heap.size w w' := by
  have ba := val_bd ha
  have bb := val_bd hb
  have m1 := mulB a d (by omega) (by omega)
  have m2 := mulB b c (by omega) (by omega)
  have hz' : (c == 0) = false := by simpa using hz
  clear hz
  have HA := Lib.hid ha
  have HB := Lib.hid hb
  clear ha hb
  go_enter Tryd.func47, Tryd.ntmps47
  go_wp2_with fail
  refine (qvalid_any a b _).mono ?_
  rintro e w' ⟨rfl, k, rfl⟩
  rw [HA.out]
  go_wp2_with fail
  refine (qvalid_any c d _).mono ?_
  rintro e w' ⟨rfl, k2, rfl⟩
  rw [HB.out]
  go_wp2_with fail
  refine (make_any (a * d) (b * c) _ (by omega) (by omega) (by omega) (by omega)).mono ?_
  rintro e w' ⟨rfl, hb⟩
  generalize hr : makeQ (a * d) (b * c) = r
  have HR := Lib.hid hr
  clear hr
  obtain ⟨hc, hf⟩ := bcell hb
  have hz : w.heap.size + 1 + 1 < w'.heap.size := by have := hb.size; simp at this; omega
  have H0 : Hid (Below w.heap.size w w') := Below.trans (by repeat' (first | (with_reducible exact Below.refl _ _) | (with_reducible refine Below.alloc ?_ ?_ _) | (with_reducible refine Below.setCell ?_ ?_ _) | (with_reducible refine below_drewN ?_ _) | (with_reducible refine Below.drew ?_) | go_size)) (hb.mono (by simp; omega))
  clear hb
  unfold q3V
  go_wp2_with fail
  refine bodyPost_ret (v := q3V r) (by simp [q3V, results, Tryd.results47, go_sem, hc]) rfl ⟨by rw [HR.out], by repeat' (first | (with_reducible exact H0.out) | (with_reducible refine Below.setCell ?_ ?_ _) | (with_reducible refine Below.alloc ?_ ?_ _) | (with_reducible refine below_drewN ?_ _) | (with_reducible refine Below.drew ?_) | go_size)⟩

set_option maxHeartbeats 400000 in
theorem qdiv_zero (a b d : Int) (w : World) (ha : valQ a b = true) (hb : valQ 0 d = true) : Calls Tryd.prog 47 #[ratV a b, ratV 0 d] w fun e w' => e = .returned (q3V (0, 0, 10)) ∧ Below w.heap.size w w' := by
  have HA := Lib.hid ha
  have HB := Lib.hid hb
  clear ha hb
  go_enter Tryd.func47, Tryd.ntmps47
  go_wp2_with fail
  refine (qvalid_any a b _).mono ?_
  rintro e w' ⟨rfl, k, rfl⟩
  rw [HA.out]
  go_wp2_with fail
  refine (qvalid_any 0 d _).mono ?_
  rintro e w' ⟨rfl, k2, rfl⟩
  rw [HB.out]
  go_wp2_with fail
  go_returns
  exact ⟨rfl, by repeat' (first | (with_reducible exact Below.refl _ _) | (with_reducible refine Below.alloc ?_ ?_ _) | (with_reducible refine Below.setCell ?_ ?_ _) | (with_reducible refine below_drewN ?_ _) | (with_reducible refine Below.drew ?_) | go_size)⟩

theorem qdiv_any (a b c d : Int) (w : World) : Calls Tryd.prog 47 #[ratV a b, ratV c d] w fun e w' => e = .returned (q3V (divQ a b c d)) ∧ Below w.heap.size w w' := by
  unfold divQ
  cases ha : valQ a b
  · exact qdiv_no1 a b c d w ha
  · cases hb : valQ c d
    · exact qdiv_no2 a b c d w ha hb
    · simp only [Bool.and_self, if_true]
      by_cases hz : c = 0
      · subst hz
        have e : makeQ (a * d) (b * 0) = (0, 0, 10) := by simp [makeQ]
        rw [e]
        exact qdiv_zero a b d w ha hb
      · exact qdiv_ok a b c d w ha hb hz

set_option maxHeartbeats 400000 in
theorem rqdiv_no1 (a b c d : Int) (w : World) (ha : valQ a b = false) : Calls Tryd.prog 51 #[ratV a b, ratV c d] w fun e w' => e = .returned (q3V (0, 0, 1)) ∧ Below w.heap.size w w' := by
  have HA := Lib.hid ha
  clear ha
  go_enter Tryd.func51, Tryd.ntmps51
  go_wp2_with fail
  refine (rqvalid_any a b _).mono ?_
  rintro e w' ⟨rfl, k, rfl⟩
  rw [HA.out]
  go_wp2_with fail
  go_returns
  exact ⟨rfl, by repeat' (first | (with_reducible exact Below.refl _ _) | (with_reducible refine Below.alloc ?_ ?_ _) | (with_reducible refine Below.setCell ?_ ?_ _) | (with_reducible refine below_drewN ?_ _) | (with_reducible refine Below.drew ?_) | go_size)⟩

set_option maxHeartbeats 400000 in
theorem rqdiv_no2 (a b c d : Int) (w : World) (ha : valQ a b = true) (hb : valQ c d = false) : Calls Tryd.prog 51 #[ratV a b, ratV c d] w fun e w' => e = .returned (q3V (0, 0, 1)) ∧ Below w.heap.size w w' := by
  have HA := Lib.hid ha
  clear ha
  have HB := Lib.hid hb
  clear hb
  go_enter Tryd.func51, Tryd.ntmps51
  go_wp2_with fail
  refine (rqvalid_any a b _).mono ?_
  rintro e w' ⟨rfl, k, rfl⟩
  rw [HA.out]
  go_wp2_with fail
  refine (rqvalid_any c d _).mono ?_
  rintro e w' ⟨rfl, k2, rfl⟩
  rw [HB.out]
  go_wp2_with fail
  go_returns
  exact ⟨rfl, by repeat' (first | (with_reducible exact Below.refl _ _) | (with_reducible refine Below.alloc ?_ ?_ _) | (with_reducible refine Below.setCell ?_ ?_ _) | (with_reducible refine below_drewN ?_ _) | (with_reducible refine Below.drew ?_) | go_size)⟩

set_option maxHeartbeats 800000 in
theorem rqdiv_ok (a b c d : Int) (w : World) (ha : valQ a b = true) (hb : valQ c d = true) : Calls Tryd.prog 51 #[ratV a b, ratV c d] w fun e w' => e = .returned (q3V (makeQ (a * d) (b * c))) ∧ Below w.heap.size w w' := by
  have ba := val_bd ha
  have bb := val_bd hb
  have m1 := mulB a d (by omega) (by omega)
  have m2 := mulB b c (by omega) (by omega)
  have HA := Lib.hid ha
  have HB := Lib.hid hb
  clear ha hb
  go_enter Tryd.func51, Tryd.ntmps51
  go_wp2_with fail
  refine (rqvalid_any a b _).mono ?_
  rintro e w' ⟨rfl, k, rfl⟩
  rw [HA.out]
  go_wp2_with fail
  refine (rqvalid_any c d _).mono ?_
  rintro e w' ⟨rfl, k2, rfl⟩
  rw [HB.out]
  go_wp2_with fail
  refine (rmake_any (a * d) (b * c) _ (by omega) (by omega) (by omega) (by omega)).mono ?_
  rintro e w' ⟨rfl, hb⟩
  generalize hr : makeQ (a * d) (b * c) = r
  have HR := Lib.hid hr
  clear hr
  obtain ⟨hc, hf⟩ := bcell hb
  have hz : w.heap.size + 1 + 1 < w'.heap.size := by have := hb.size; simp at this; omega
  have H0 : Hid (Below w.heap.size w w') := Below.trans (by repeat' (first | (with_reducible exact Below.refl _ _) | (with_reducible refine Below.alloc ?_ ?_ _) | (with_reducible refine Below.setCell ?_ ?_ _) | (with_reducible refine below_drewN ?_ _) | (with_reducible refine Below.drew ?_) | go_size)) (hb.mono (by simp; omega))
  clear hb
  unfold q3V
  go_wp2_with fail
  refine bodyPost_ret (v := q3V r) (by simp [q3V, results, Tryd.results51, go_sem, hc]) rfl ⟨by rw [HR.out], by repeat' (first | (with_reducible exact H0.out) | (with_reducible refine Below.setCell ?_ ?_ _) | (with_reducible refine Below.alloc ?_ ?_ _) | (with_reducible refine below_drewN ?_ _) | (with_reducible refine Below.drew ?_) | go_size)⟩

theorem rqdiv_any (a b c d : Int) (w : World) : Calls Tryd.prog 51 #[ratV a b, ratV c d] w fun e w' => e = .returned (q3V (divQ a b c d)) ∧ Below w.heap.size w w' := by
  unfold divQ
  cases ha : valQ a b
  · exact rqdiv_no1 a b c d w ha
  · cases hb : valQ c d
    · exact rqdiv_no2 a b c d w ha hb
    · simp only [Bool.and_self, if_true]
      exact rqdiv_ok a b c d w ha hb
end Go.Proofs.YtlfapncbkgpclaaDoor
