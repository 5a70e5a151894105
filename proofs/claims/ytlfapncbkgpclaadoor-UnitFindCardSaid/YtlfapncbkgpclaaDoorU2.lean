/- The operations on dimensions return the sums and differences of the exponents, checked; for every two dimensions. -/
import Derived.Test.YtlfapncbkgpclaaDoorU1
namespace Go.Proofs.YtlfapncbkgpclaaDoor
open Go.RowKit

def two (a b r : D7) : Value := if a.ok && b.ok then chk r else errV 1

set_option maxHeartbeats 800000 in
theorem cadd_ok (a b : D7) (w : World) (ha : a.ok = true) (hb : b.ok = true) : Calls Tryd.prog 35 #[a.v, b.v, .int .i64 1] w fun e w' => e = .returned (chk (a.add b)) ∧ Below w.heap.size w w' := by
  have HA := Lib.hid ha
  have HB := Lib.hid hb
  clear ha hb
  go_enter Tryd.func35, Tryd.ntmps35
  go_wp2_with fail
  refine (valid_any a _).mono ?_
  rintro e w' ⟨rfl, rfl⟩
  rw [HA.out]
  go_wp2_with fail
  refine (valid_any b _).mono ?_
  rintro e w' ⟨rfl, rfl⟩
  rw [HB.out]
  go_wp2_with fail
  go_loopw [8, 18] (fun _ i wr => ∃ k n : Nat, k ≤ 7 ∧ i = .int .i64 k ∧ XW w (D7.mix k a (a.add b)) [.cells b.c 23, .cells zc 23, .cells a.c 23, .cells b.c 23] n = wr) (fun _ i _ => 7 - (intOf i).toNat)
  case atStart => exact ⟨0, 0, by omega, rfl, by rw [mix0]; rfl⟩
  case round =>
    obtain ⟨k, n, hk, rfl, rfl⟩ := hrel
    by_cases hlt : k < 7
    · have h1 := (xw0 w (D7.mix k a (a.add b)) [.cells b.c 23, .cells zc 23, .cells a.c 23, .cells b.c 23] n).cell k
      have h1f := (xw0 w (D7.mix k a (a.add b)) [.cells b.c 23, .cells zc 23, .cells a.c 23, .cells b.c 23] n).frozen k
      have h2 := (xw1 w (D7.mix k a (a.add b)) b [.cells zc 23, .cells a.c 23, .cells b.c 23] n).cell k
      rw [cell_dim _ k hlt] at h1 h2
      rw [mix_at a _ k hlt] at h1
      have ba := ok_at HA.out k hlt
      have bb := ok_at HB.out k hlt
      have HS := Lib.hid (xw_set_drew w a (a.add b) [.cells b.c 23, .cells zc 23, .cells a.c 23, .cells b.c 23] k n hlt)
      rw [add_at] at HS
      generalize a.at k = x at h1 ba HS
      generalize b.at k = y at h2 bb HS
      generalize XW w (D7.mix k a (a.add b)) [.cells b.c 23, .cells zc 23, .cells a.c 23, .cells b.c 23] n = wk at *
      go_wp2_with fail
      go_region
      all_goals go_wp2
      go_roundw
      case rel => exact ⟨k + 1, n + 1, by omega, by go_num, HS.out.symm⟩
      case measure => simp [intOf]; omega
    · rw [mix7 _ _ k hlt]
      simp only [XW, List.foldl]
      go_wp2_with fail
      refine (valid_any (a.add b) _).mono ?_
      rintro e w' ⟨rfl, rfl⟩
      cases hr : (a.add b).ok
      · have HR := Lib.hid hr
        clear hr
        go_wp2_with fail
        go_returns
        exact ⟨by rw [chk_range HR.out], by repeat' (first | (with_reducible exact Below.refl _ _) | (with_reducible refine Below.alloc ?_ ?_ _) | (with_reducible refine Below.setCell ?_ ?_ _) | (with_reducible refine below_drewN ?_ _) | (with_reducible refine Below.drew ?_) | go_size)⟩
      · have HR := Lib.hid hr
        clear hr
        go_wp2_with fail
        go_returns
        exact ⟨by rw [chk_ok HR.out], by repeat' (first | (with_reducible exact Below.refl _ _) | (with_reducible refine Below.alloc ?_ ?_ _) | (with_reducible refine Below.setCell ?_ ?_ _) | (with_reducible refine below_drewN ?_ _) | (with_reducible refine Below.drew ?_) | go_size)⟩

set_option maxHeartbeats 400000 in
theorem cadd_no1 (a b : D7) (w : World) (ha : a.ok = false) : Calls Tryd.prog 35 #[a.v, b.v, .int .i64 1] w fun e w' => e = .returned (errV 1) ∧ Below w.heap.size w w' := by
  have HA := Lib.hid ha
  clear ha
  go_enter Tryd.func35, Tryd.ntmps35
  go_wp2_with fail
  refine (valid_any a _).mono ?_
  rintro e w' ⟨rfl, rfl⟩
  rw [HA.out]
  go_wp2_with fail
  go_returns
  exact ⟨rfl, by repeat' (first | (with_reducible exact Below.refl _ _) | (with_reducible refine Below.alloc ?_ ?_ _) | (with_reducible refine Below.setCell ?_ ?_ _) | (with_reducible refine below_drewN ?_ _) | (with_reducible refine Below.drew ?_) | go_size)⟩

set_option maxHeartbeats 400000 in
theorem cadd_no2 (a b : D7) (w : World) (ha : a.ok = true) (hb : b.ok = false) : Calls Tryd.prog 35 #[a.v, b.v, .int .i64 1] w fun e w' => e = .returned (errV 1) ∧ Below w.heap.size w w' := by
  have HA := Lib.hid ha
  clear ha
  have HB := Lib.hid hb
  clear hb
  go_enter Tryd.func35, Tryd.ntmps35
  go_wp2_with fail
  refine (valid_any a _).mono ?_
  rintro e w' ⟨rfl, rfl⟩
  rw [HA.out]
  go_wp2_with fail
  refine (valid_any b _).mono ?_
  rintro e w' ⟨rfl, rfl⟩
  rw [HB.out]
  go_wp2_with fail
  go_returns
  exact ⟨rfl, by repeat' (first | (with_reducible exact Below.refl _ _) | (with_reducible refine Below.alloc ?_ ?_ _) | (with_reducible refine Below.setCell ?_ ?_ _) | (with_reducible refine below_drewN ?_ _) | (with_reducible refine Below.drew ?_) | go_size)⟩

theorem cadd_any (a b : D7) (w : World) : Calls Tryd.prog 35 #[a.v, b.v, .int .i64 1] w fun e w' => e = .returned (two a b (a.add b)) ∧ Below w.heap.size w w' := by
  unfold two
  by_cases ha : a.ok = true
  · by_cases hb : b.ok = true
    · rw [ha, hb]
      exact cadd_ok a b w ha hb
    · rw [Bool.not_eq_true] at hb
      rw [ha, hb]
      exact cadd_no2 a b w ha hb
  · rw [Bool.not_eq_true] at ha
    rw [ha]
    exact cadd_no1 a b w ha

set_option maxHeartbeats 800000 in
theorem csub_ok (a b : D7) (w : World) (ha : a.ok = true) (hb : b.ok = true) : Calls Tryd.prog 35 #[a.v, b.v, .int .i64 (-1)] w fun e w' => e = .returned (chk (a.sub b)) ∧ Below w.heap.size w w' := by
  have HA := Lib.hid ha
  have HB := Lib.hid hb
  clear ha hb
  go_enter Tryd.func35, Tryd.ntmps35
  go_wp2_with fail
  refine (valid_any a _).mono ?_
  rintro e w' ⟨rfl, rfl⟩
  rw [HA.out]
  go_wp2_with fail
  refine (valid_any b _).mono ?_
  rintro e w' ⟨rfl, rfl⟩
  rw [HB.out]
  go_wp2_with fail
  go_loopw [8, 18] (fun _ i wr => ∃ k n : Nat, k ≤ 7 ∧ i = .int .i64 k ∧ XW w (D7.mix k a (a.sub b)) [.cells b.c 23, .cells zc 23, .cells a.c 23, .cells b.c 23] n = wr) (fun _ i _ => 7 - (intOf i).toNat)
  case atStart => exact ⟨0, 0, by omega, rfl, by rw [mix0]; rfl⟩
  case round =>
    obtain ⟨k, n, hk, rfl, rfl⟩ := hrel
    by_cases hlt : k < 7
    · have h1 := (xw0 w (D7.mix k a (a.sub b)) [.cells b.c 23, .cells zc 23, .cells a.c 23, .cells b.c 23] n).cell k
      have h1f := (xw0 w (D7.mix k a (a.sub b)) [.cells b.c 23, .cells zc 23, .cells a.c 23, .cells b.c 23] n).frozen k
      have h2 := (xw1 w (D7.mix k a (a.sub b)) b [.cells zc 23, .cells a.c 23, .cells b.c 23] n).cell k
      rw [cell_dim _ k hlt] at h1 h2
      rw [mix_at a _ k hlt] at h1
      have ba := ok_at HA.out k hlt
      have bb := ok_at HB.out k hlt
      have HS := Lib.hid (xw_set_drew w a (a.sub b) [.cells b.c 23, .cells zc 23, .cells a.c 23, .cells b.c 23] k n hlt)
      rw [sub_at] at HS
      generalize a.at k = x at h1 ba HS
      generalize b.at k = y at h2 bb HS
      generalize XW w (D7.mix k a (a.sub b)) [.cells b.c 23, .cells zc 23, .cells a.c 23, .cells b.c 23] n = wk at *
      go_wp2_with fail
      go_region
      all_goals go_wp2
      go_roundw
      case rel => exact ⟨k + 1, n + 1, by omega, by go_num, HS.out.symm⟩
      case measure => simp [intOf]; omega
    · rw [mix7 _ _ k hlt]
      simp only [XW, List.foldl]
      go_wp2_with fail
      refine (valid_any (a.sub b) _).mono ?_
      rintro e w' ⟨rfl, rfl⟩
      cases hr : (a.sub b).ok
      · have HR := Lib.hid hr
        clear hr
        go_wp2_with fail
        go_returns
        exact ⟨by rw [chk_range HR.out], by repeat' (first | (with_reducible exact Below.refl _ _) | (with_reducible refine Below.alloc ?_ ?_ _) | (with_reducible refine Below.setCell ?_ ?_ _) | (with_reducible refine below_drewN ?_ _) | (with_reducible refine Below.drew ?_) | go_size)⟩
      · have HR := Lib.hid hr
        clear hr
        go_wp2_with fail
        go_returns
        exact ⟨by rw [chk_ok HR.out], by repeat' (first | (with_reducible exact Below.refl _ _) | (with_reducible refine Below.alloc ?_ ?_ _) | (with_reducible refine Below.setCell ?_ ?_ _) | (with_reducible refine below_drewN ?_ _) | (with_reducible refine Below.drew ?_) | go_size)⟩

set_option maxHeartbeats 400000 in
theorem csub_no1 (a b : D7) (w : World) (ha : a.ok = false) : Calls Tryd.prog 35 #[a.v, b.v, .int .i64 (-1)] w fun e w' => e = .returned (errV 1) ∧ Below w.heap.size w w' := by
  have HA := Lib.hid ha
  clear ha
  go_enter Tryd.func35, Tryd.ntmps35
  go_wp2_with fail
  refine (valid_any a _).mono ?_
  rintro e w' ⟨rfl, rfl⟩
  rw [HA.out]
  go_wp2_with fail
  go_returns
  exact ⟨rfl, by repeat' (first | (with_reducible exact Below.refl _ _) | (with_reducible refine Below.alloc ?_ ?_ _) | (with_reducible refine Below.setCell ?_ ?_ _) | (with_reducible refine below_drewN ?_ _) | (with_reducible refine Below.drew ?_) | go_size)⟩

set_option maxHeartbeats 400000 in
theorem csub_no2 (a b : D7) (w : World) (ha : a.ok = true) (hb : b.ok = false) : Calls Tryd.prog 35 #[a.v, b.v, .int .i64 (-1)] w fun e w' => e = .returned (errV 1) ∧ Below w.heap.size w w' := by
  have HA := Lib.hid ha
  clear ha
  have HB := Lib.hid hb
  clear hb
  go_enter Tryd.func35, Tryd.ntmps35
  go_wp2_with fail
  refine (valid_any a _).mono ?_
  rintro e w' ⟨rfl, rfl⟩
  rw [HA.out]
  go_wp2_with fail
  refine (valid_any b _).mono ?_
  rintro e w' ⟨rfl, rfl⟩
  rw [HB.out]
  go_wp2_with fail
  go_returns
  exact ⟨rfl, by repeat' (first | (with_reducible exact Below.refl _ _) | (with_reducible refine Below.alloc ?_ ?_ _) | (with_reducible refine Below.setCell ?_ ?_ _) | (with_reducible refine below_drewN ?_ _) | (with_reducible refine Below.drew ?_) | go_size)⟩

theorem csub_any (a b : D7) (w : World) : Calls Tryd.prog 35 #[a.v, b.v, .int .i64 (-1)] w fun e w' => e = .returned (two a b (a.sub b)) ∧ Below w.heap.size w w' := by
  unfold two
  by_cases ha : a.ok = true
  · by_cases hb : b.ok = true
    · rw [ha, hb]
      exact csub_ok a b w ha hb
    · rw [Bool.not_eq_true] at hb
      rw [ha, hb]
      exact csub_no2 a b w ha hb
  · rw [Bool.not_eq_true] at ha
    rw [ha]
    exact csub_no1 a b w ha


set_option maxHeartbeats 400000 in
theorem checked_no (r : D7) (w : World) (hr : r.ok = false) : Calls Tryd.prog 36 #[r.v] w fun e w' => e = .returned (.tuple #[D7.zero.v, .int .i64 2]) ∧ (((w.alloc (.cells r.c 23)).alloc (.cells zc 23)).alloc (.cells r.c 23)) = w' := by
  have HR := Lib.hid hr
  clear hr
  go_enter Tryd.func36, Tryd.ntmps36
  go_wp2_with fail
  refine (rvalid_any r _).mono ?_
  rintro e w' ⟨rfl, rfl⟩
  rw [HR.out]
  go_wp2_with fail
  go_returns
  exact ⟨rfl, rfl⟩
set_option maxHeartbeats 400000 in
theorem checked_ok (r : D7) (w : World) (hr : r.ok = true) : Calls Tryd.prog 36 #[r.v] w fun e w' => e = .returned (.tuple #[r.v, .int .i64 0]) ∧ (((w.alloc (.cells r.c 23)).alloc (.cells r.c 23)).alloc (.cells r.c 23)) = w' := by
  have HR := Lib.hid hr
  clear hr
  go_enter Tryd.func36, Tryd.ntmps36
  go_wp2_with fail
  refine (rvalid_any r _).mono ?_
  rintro e w' ⟨rfl, rfl⟩
  rw [HR.out]
  go_wp2_with fail
  go_returns
  exact ⟨rfl, rfl⟩

set_option maxHeartbeats 800000 in
theorem rmul_ok (a b : D7) (w : World) (ha : a.ok = true) (hb : b.ok = true) : Calls Tryd.prog 16 #[a.v, b.v] w fun e w' => e = .returned (chk (a.add b)) ∧ Below w.heap.size w w' := by
  have HA := Lib.hid ha
  have HB := Lib.hid hb
  clear ha hb
  go_enter Tryd.func16, Tryd.ntmps16
  go_wp2_with fail
  refine (rvalid_any a _).mono ?_
  rintro e w' ⟨rfl, rfl⟩
  rw [HA.out]
  go_wp2_with fail
  refine (rvalid_any b _).mono ?_
  rintro e w' ⟨rfl, rfl⟩
  rw [HB.out]
  go_wp2_with fail
  go_loopw [6] (fun i wr => ∃ k n : Nat, k ≤ 7 ∧ i = .int .i64 k ∧ XW w (D7.mix k a (a.add b)) [.cells b.c 23, .cells zc 23, .cells a.c 23, .cells b.c 23] n = wr) (fun i _ => 7 - (intOf i).toNat)
  case atStart => exact ⟨0, 0, by omega, rfl, by rw [mix0]; rfl⟩
  case round =>
    obtain ⟨k, n, hk, rfl, rfl⟩ := hrel
    by_cases hlt : k < 7
    · have h1 := (xw0 w (D7.mix k a (a.add b)) [.cells b.c 23, .cells zc 23, .cells a.c 23, .cells b.c 23] n).cell k
      have h1f := (xw0 w (D7.mix k a (a.add b)) [.cells b.c 23, .cells zc 23, .cells a.c 23, .cells b.c 23] n).frozen k
      have h2 := (xw1 w (D7.mix k a (a.add b)) b [.cells zc 23, .cells a.c 23, .cells b.c 23] n).cell k
      rw [cell_dim _ k hlt] at h1 h2
      rw [mix_at a _ k hlt] at h1
      have ba := ok_at HA.out k hlt
      have bb := ok_at HB.out k hlt
      have HS := Lib.hid (xw_set_drew w a (a.add b) [.cells b.c 23, .cells zc 23, .cells a.c 23, .cells b.c 23] k n hlt)
      rw [add_at] at HS
      generalize a.at k = x at h1 ba HS
      generalize b.at k = y at h2 bb HS
      generalize XW w (D7.mix k a (a.add b)) [.cells b.c 23, .cells zc 23, .cells a.c 23, .cells b.c 23] n = wk at *
      go_wp2_with fail
      go_region
      all_goals go_wp2
      go_roundw
      case rel => exact ⟨k + 1, n + 1, by omega, by go_num, HS.out.symm⟩
      case measure => simp [intOf]; omega
    · rw [mix7 _ _ k hlt]
      simp only [XW, List.foldl]
      cases hr : (a.add b).ok
      · have HR := Lib.hid hr
        clear hr
        go_wp2_with fail
        refine (checked_no (a.add b) _ HR.out).mono ?_
        rintro e w' ⟨rfl, rfl⟩
        go_wp2_with fail
        go_returns
        exact ⟨by rw [chk_range HR.out], by repeat' (first | (with_reducible exact Below.refl _ _) | (with_reducible refine Below.alloc ?_ ?_ _) | (with_reducible refine Below.setCell ?_ ?_ _) | (with_reducible refine below_drewN ?_ _) | (with_reducible refine Below.drew ?_) | go_size)⟩
      · have HR := Lib.hid hr
        clear hr
        go_wp2_with fail
        refine (checked_ok (a.add b) _ HR.out).mono ?_
        rintro e w' ⟨rfl, rfl⟩
        go_wp2_with fail
        go_returns
        exact ⟨by rw [chk_ok HR.out], by repeat' (first | (with_reducible exact Below.refl _ _) | (with_reducible refine Below.alloc ?_ ?_ _) | (with_reducible refine Below.setCell ?_ ?_ _) | (with_reducible refine below_drewN ?_ _) | (with_reducible refine Below.drew ?_) | go_size)⟩

set_option maxHeartbeats 400000 in
theorem rmul_no1 (a b : D7) (w : World) (ha : a.ok = false) : Calls Tryd.prog 16 #[a.v, b.v] w fun e w' => e = .returned (errV 1) ∧ Below w.heap.size w w' := by
  have HA := Lib.hid ha
  clear ha
  go_enter Tryd.func16, Tryd.ntmps16
  go_wp2_with fail
  refine (rvalid_any a _).mono ?_
  rintro e w' ⟨rfl, rfl⟩
  rw [HA.out]
  go_wp2_with fail
  go_returns
  exact ⟨rfl, by repeat' (first | (with_reducible exact Below.refl _ _) | (with_reducible refine Below.alloc ?_ ?_ _) | (with_reducible refine Below.setCell ?_ ?_ _) | (with_reducible refine below_drewN ?_ _) | (with_reducible refine Below.drew ?_) | go_size)⟩

set_option maxHeartbeats 400000 in
theorem rmul_no2 (a b : D7) (w : World) (ha : a.ok = true) (hb : b.ok = false) : Calls Tryd.prog 16 #[a.v, b.v] w fun e w' => e = .returned (errV 1) ∧ Below w.heap.size w w' := by
  have HA := Lib.hid ha
  clear ha
  have HB := Lib.hid hb
  clear hb
  go_enter Tryd.func16, Tryd.ntmps16
  go_wp2_with fail
  refine (rvalid_any a _).mono ?_
  rintro e w' ⟨rfl, rfl⟩
  rw [HA.out]
  go_wp2_with fail
  refine (rvalid_any b _).mono ?_
  rintro e w' ⟨rfl, rfl⟩
  rw [HB.out]
  go_wp2_with fail
  go_returns
  exact ⟨rfl, by repeat' (first | (with_reducible exact Below.refl _ _) | (with_reducible refine Below.alloc ?_ ?_ _) | (with_reducible refine Below.setCell ?_ ?_ _) | (with_reducible refine below_drewN ?_ _) | (with_reducible refine Below.drew ?_) | go_size)⟩

theorem rmul_any (a b : D7) (w : World) : Calls Tryd.prog 16 #[a.v, b.v] w fun e w' => e = .returned (two a b (a.add b)) ∧ Below w.heap.size w w' := by
  unfold two
  by_cases ha : a.ok = true
  · by_cases hb : b.ok = true
    · rw [ha, hb]
      exact rmul_ok a b w ha hb
    · rw [Bool.not_eq_true] at hb
      rw [ha, hb]
      exact rmul_no2 a b w ha hb
  · rw [Bool.not_eq_true] at ha
    rw [ha]
    exact rmul_no1 a b w ha

set_option maxHeartbeats 800000 in
theorem rdiv_ok (a b : D7) (w : World) (ha : a.ok = true) (hb : b.ok = true) : Calls Tryd.prog 17 #[a.v, b.v] w fun e w' => e = .returned (chk (a.sub b)) ∧ Below w.heap.size w w' := by
  have HA := Lib.hid ha
  have HB := Lib.hid hb
  clear ha hb
  go_enter Tryd.func17, Tryd.ntmps17
  go_wp2_with fail
  refine (rvalid_any a _).mono ?_
  rintro e w' ⟨rfl, rfl⟩
  rw [HA.out]
  go_wp2_with fail
  refine (rvalid_any b _).mono ?_
  rintro e w' ⟨rfl, rfl⟩
  rw [HB.out]
  go_wp2_with fail
  go_loopw [6] (fun i wr => ∃ k n : Nat, k ≤ 7 ∧ i = .int .i64 k ∧ XW w (D7.mix k a (a.sub b)) [.cells b.c 23, .cells zc 23, .cells a.c 23, .cells b.c 23] n = wr) (fun i _ => 7 - (intOf i).toNat)
  case atStart => exact ⟨0, 0, by omega, rfl, by rw [mix0]; rfl⟩
  case round =>
    obtain ⟨k, n, hk, rfl, rfl⟩ := hrel
    by_cases hlt : k < 7
    · have h1 := (xw0 w (D7.mix k a (a.sub b)) [.cells b.c 23, .cells zc 23, .cells a.c 23, .cells b.c 23] n).cell k
      have h1f := (xw0 w (D7.mix k a (a.sub b)) [.cells b.c 23, .cells zc 23, .cells a.c 23, .cells b.c 23] n).frozen k
      have h2 := (xw1 w (D7.mix k a (a.sub b)) b [.cells zc 23, .cells a.c 23, .cells b.c 23] n).cell k
      rw [cell_dim _ k hlt] at h1 h2
      rw [mix_at a _ k hlt] at h1
      have ba := ok_at HA.out k hlt
      have bb := ok_at HB.out k hlt
      have HS := Lib.hid (xw_set_drew w a (a.sub b) [.cells b.c 23, .cells zc 23, .cells a.c 23, .cells b.c 23] k n hlt)
      rw [sub_at] at HS
      generalize a.at k = x at h1 ba HS
      generalize b.at k = y at h2 bb HS
      generalize XW w (D7.mix k a (a.sub b)) [.cells b.c 23, .cells zc 23, .cells a.c 23, .cells b.c 23] n = wk at *
      go_wp2_with fail
      go_region
      all_goals go_wp2
      go_roundw
      case rel => exact ⟨k + 1, n + 1, by omega, by go_num, HS.out.symm⟩
      case measure => simp [intOf]; omega
    · rw [mix7 _ _ k hlt]
      simp only [XW, List.foldl]
      cases hr : (a.sub b).ok
      · have HR := Lib.hid hr
        clear hr
        go_wp2_with fail
        refine (checked_no (a.sub b) _ HR.out).mono ?_
        rintro e w' ⟨rfl, rfl⟩
        go_wp2_with fail
        go_returns
        exact ⟨by rw [chk_range HR.out], by repeat' (first | (with_reducible exact Below.refl _ _) | (with_reducible refine Below.alloc ?_ ?_ _) | (with_reducible refine Below.setCell ?_ ?_ _) | (with_reducible refine below_drewN ?_ _) | (with_reducible refine Below.drew ?_) | go_size)⟩
      · have HR := Lib.hid hr
        clear hr
        go_wp2_with fail
        refine (checked_ok (a.sub b) _ HR.out).mono ?_
        rintro e w' ⟨rfl, rfl⟩
        go_wp2_with fail
        go_returns
        exact ⟨by rw [chk_ok HR.out], by repeat' (first | (with_reducible exact Below.refl _ _) | (with_reducible refine Below.alloc ?_ ?_ _) | (with_reducible refine Below.setCell ?_ ?_ _) | (with_reducible refine below_drewN ?_ _) | (with_reducible refine Below.drew ?_) | go_size)⟩

set_option maxHeartbeats 400000 in
theorem rdiv_no1 (a b : D7) (w : World) (ha : a.ok = false) : Calls Tryd.prog 17 #[a.v, b.v] w fun e w' => e = .returned (errV 1) ∧ Below w.heap.size w w' := by
  have HA := Lib.hid ha
  clear ha
  go_enter Tryd.func17, Tryd.ntmps17
  go_wp2_with fail
  refine (rvalid_any a _).mono ?_
  rintro e w' ⟨rfl, rfl⟩
  rw [HA.out]
  go_wp2_with fail
  go_returns
  exact ⟨rfl, by repeat' (first | (with_reducible exact Below.refl _ _) | (with_reducible refine Below.alloc ?_ ?_ _) | (with_reducible refine Below.setCell ?_ ?_ _) | (with_reducible refine below_drewN ?_ _) | (with_reducible refine Below.drew ?_) | go_size)⟩

set_option maxHeartbeats 400000 in
theorem rdiv_no2 (a b : D7) (w : World) (ha : a.ok = true) (hb : b.ok = false) : Calls Tryd.prog 17 #[a.v, b.v] w fun e w' => e = .returned (errV 1) ∧ Below w.heap.size w w' := by
  have HA := Lib.hid ha
  clear ha
  have HB := Lib.hid hb
  clear hb
  go_enter Tryd.func17, Tryd.ntmps17
  go_wp2_with fail
  refine (rvalid_any a _).mono ?_
  rintro e w' ⟨rfl, rfl⟩
  rw [HA.out]
  go_wp2_with fail
  refine (rvalid_any b _).mono ?_
  rintro e w' ⟨rfl, rfl⟩
  rw [HB.out]
  go_wp2_with fail
  go_returns
  exact ⟨rfl, by repeat' (first | (with_reducible exact Below.refl _ _) | (with_reducible refine Below.alloc ?_ ?_ _) | (with_reducible refine Below.setCell ?_ ?_ _) | (with_reducible refine below_drewN ?_ _) | (with_reducible refine Below.drew ?_) | go_size)⟩

theorem rdiv_any (a b : D7) (w : World) : Calls Tryd.prog 17 #[a.v, b.v] w fun e w' => e = .returned (two a b (a.sub b)) ∧ Below w.heap.size w w' := by
  unfold two
  by_cases ha : a.ok = true
  · by_cases hb : b.ok = true
    · rw [ha, hb]
      exact rdiv_ok a b w ha hb
    · rw [Bool.not_eq_true] at hb
      rw [ha, hb]
      exact rdiv_no2 a b w ha hb
  · rw [Bool.not_eq_true] at ha
    rw [ha]
    exact rdiv_no1 a b w ha
end Go.Proofs.YtlfapncbkgpclaaDoor

