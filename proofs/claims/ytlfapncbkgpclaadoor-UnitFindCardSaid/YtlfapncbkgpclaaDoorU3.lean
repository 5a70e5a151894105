/- Powers and roots of dimensions; for every dimension and integer. -/
import Derived.Test.YtlfapncbkgpclaaDoorU2
import Derived.Test.YtlfapncbkgpclaaDoorE
namespace Go.Proofs.YtlfapncbkgpclaaDoor
open Go.RowKit
theorem mul_bound (x n : Int) (hx : -100 ≤ x ∧ x ≤ 100) (hn : -101 ≤ n ∧ n ≤ 101) : -10100 ≤ x * n ∧ x * n ≤ 10100 := by
  have h1 : x.natAbs ≤ 100 := by omega
  have h2 : n.natAbs ≤ 101 := by omega
  have h3 : (x * n).natAbs ≤ 100 * 101 := by rw [Int.natAbs_mul]; exact Nat.mul_le_mul h1 h2
  omega
theorem half_bound (x : Int) (hx : -100 ≤ x ∧ x ≤ 100) : -50 ≤ x.tdiv 2 ∧ x.tdiv 2 ≤ 50 := by
  rcases Int.le_total 0 x with h | h
  · rw [Int.tdiv_eq_ediv_of_nonneg h]; omega
  · have : x = -(-x) := by omega
    rw [this, Int.neg_tdiv, Int.tdiv_eq_ediv_of_nonneg (by omega)]; omega
theorem alls_below (os : List Obj) : ∀ w : World, Below w.heap.size w (os.foldl World.alloc w) := by
  induction os with
  | nil => intro w; exact Below.refl _ _
  | cons o r ih => intro w; exact ((Below.refl _ _).alloc (Nat.le_refl _) o).trans ((ih (w.alloc o)).mono (by simp))
theorem xw_below (w : World) (x : D7) (os : List Obj) (n : Nat) : Below w.heap.size w (XW w x os n) := below_drewN (((Below.refl _ _).alloc (Nat.le_refl _) _).trans ((alls_below os _).mono (by simp))) n
def rootV (a : D7) : Value := if a.even then okV a.half else errV 2
theorem rootV_ok {a : D7} (h : a.even = true) : rootV a = .tuple #[a.half.v, .int .i64 0] := by simp [rootV, h, okV]
theorem rootV_no {a : D7} (h : a.even = false) : rootV a = .tuple #[D7.zero.v, .int .i64 2] := by simp [rootV, h, errV]

set_option maxHeartbeats 800000 in
theorem pow_ok (a : D7) (n : Int) (w : World) (ha : a.ok = true) (hz : D7.beq a D7.zero = false) (hn1 : -100 ≤ n) (hn2 : n ≤ 100) : Calls Tryd.prog 15 #[a.v, .int .i64 n] w fun e w' => e = .returned (chk (a.mul n)) ∧ Below w.heap.size w w' := by
  have HA := Lib.hid ha
  clear ha
  have heq := eq_dim
  go_enter Tryd.func15, Tryd.ntmps15
  go_wp2_with fail
  refine (valid_any a _).mono ?_
  rintro e w' ⟨rfl, rfl⟩
  rw [HA.out]
  go_wp2_with fail
  clear heq
  go_loopw [6, 22] (fun _ i wr => ∃ k : Nat, k ≤ 7 ∧ i = .int .i64 k ∧ XW w (D7.mix k a (a.mul n)) [.cells zc 23, .cells a.c 23] 0 = wr) (fun _ i _ => 7 - (intOf i).toNat)
  case atStart => exact ⟨0, by omega, rfl, by rw [mix0]; rfl⟩
  case round =>
    obtain ⟨k, hk, rfl, rfl⟩ := hrel
    by_cases hlt : k < 7
    · have h1 := (xw0 w (D7.mix k a (a.mul n)) [.cells zc 23, .cells a.c 23] 0).cell k
      have h1f := (xw0 w (D7.mix k a (a.mul n)) [.cells zc 23, .cells a.c 23] 0).frozen k
      rw [cell_dim _ k hlt] at h1
      rw [mix_at a _ k hlt] at h1
      have ba := ok_at HA.out k hlt
      have HS := Lib.hid (xw_set w a (a.mul n) [.cells zc 23, .cells a.c 23] k 0 hlt)
      rw [mul_at a n k hlt] at HS
      generalize a.at k = x at h1 ba HS
      have hxn := mul_bound x n ba ⟨by omega, by omega⟩
      generalize XW w (D7.mix k a (a.mul n)) [.cells zc 23, .cells a.c 23] 0 = wk at *
      go_wp2_with fail
      go_roundw
      case rel => exact ⟨k + 1, by omega, by go_num, HS.out.symm⟩
      case measure => simp [intOf]; omega
    · rw [mix7 _ _ k hlt]
      simp only [XW, List.foldl]
      go_wp2_with fail
      refine (valid_any (a.mul n) _).mono ?_
      rintro e w' ⟨rfl, rfl⟩
      cases hr : (a.mul n).ok
      · have HR := Lib.hid hr
        clear hr
        go_wp2_with fail
        go_returns
        exact ⟨by rw [chk_range HR.out], by repeat' (first | (with_reducible exact Below.refl _ _) | (with_reducible refine Below.alloc ?_ ?_ _) | (with_reducible refine Below.setCell ?_ ?_ _) | (with_reducible refine below_drewN ?_ _) | (with_reducible refine Below.drew ?_) | go_size)⟩
      · have HR := Lib.hid hr
        clear hr
        go_wp2_with fail
        go_returns
        exact ⟨by rw [chk_ok HR.out], by repeat' (first | (with_reducible exact Below.refl _ _) | (with_reducible refine Below.alloc ?_ ?_ _) | (with_reducible refine Below.setCell ?_ ?_ _) | (with_reducible refine below_drewN ?_ _) | (with_reducible refine Below.drew ?_) | go_size)⟩

set_option maxHeartbeats 400000 in
theorem pow_no (a : D7) (n : Int) (w : World) (ha : a.ok = false) : Calls Tryd.prog 15 #[a.v, .int .i64 n] w fun e w' => e = .returned (errV 1) ∧ Below w.heap.size w w' := by
  have HA := Lib.hid ha
  clear ha
  go_enter Tryd.func15, Tryd.ntmps15
  go_wp2_with fail
  refine (valid_any a _).mono ?_
  rintro e w' ⟨rfl, rfl⟩
  rw [HA.out]
  go_wp2_with fail
  go_returns
  exact ⟨rfl, by repeat' (first | (with_reducible exact Below.refl _ _) | (with_reducible refine Below.alloc ?_ ?_ _) | (with_reducible refine Below.setCell ?_ ?_ _) | (with_reducible refine below_drewN ?_ _) | (with_reducible refine Below.drew ?_) | go_size)⟩

set_option maxHeartbeats 400000 in
theorem pow_zero (a : D7) (n : Int) (w : World) (ha : a.ok = true) (hz : D7.beq a D7.zero = true) : Calls Tryd.prog 15 #[a.v, .int .i64 n] w fun e w' => e = .returned (okV a) ∧ Below w.heap.size w w' := by
  have HA := Lib.hid ha
  clear ha
  have heq := eq_dim
  go_enter Tryd.func15, Tryd.ntmps15
  go_wp2_with fail
  refine (valid_any a _).mono ?_
  rintro e w' ⟨rfl, rfl⟩
  rw [HA.out]
  go_wp2_with fail
  go_returns
  exact ⟨rfl, by repeat' (first | (with_reducible exact Below.refl _ _) | (with_reducible refine Below.alloc ?_ ?_ _) | (with_reducible refine Below.setCell ?_ ?_ _) | (with_reducible refine below_drewN ?_ _) | (with_reducible refine Below.drew ?_) | go_size)⟩

set_option maxHeartbeats 400000 in
theorem pow_far (a : D7) (n : Int) (w : World) (ha : a.ok = true) (hz : D7.beq a D7.zero = false) (hn : n < -100 ∨ 100 < n) : Calls Tryd.prog 15 #[a.v, .int .i64 n] w fun e w' => e = .returned (errV 2) ∧ Below w.heap.size w w' := by
  have HA := Lib.hid ha
  clear ha
  have heq := eq_dim
  rcases hn with hn | hn
  · go_enter Tryd.func15, Tryd.ntmps15
    go_wp2_with fail
    refine (valid_any a _).mono ?_
    rintro e w' ⟨rfl, rfl⟩
    rw [HA.out]
    go_wp2_with fail
    go_returns
    exact ⟨rfl, by repeat' (first | (with_reducible exact Below.refl _ _) | (with_reducible refine Below.alloc ?_ ?_ _) | (with_reducible refine Below.setCell ?_ ?_ _) | (with_reducible refine below_drewN ?_ _) | (with_reducible refine Below.drew ?_) | go_size)⟩
  · have hn' : ¬ n < -100 := by omega
    go_enter Tryd.func15, Tryd.ntmps15
    go_wp2_with fail
    refine (valid_any a _).mono ?_
    rintro e w' ⟨rfl, rfl⟩
    rw [HA.out]
    go_wp2_with fail
    go_returns
    exact ⟨rfl, by repeat' (first | (with_reducible exact Below.refl _ _) | (with_reducible refine Below.alloc ?_ ?_ _) | (with_reducible refine Below.setCell ?_ ?_ _) | (with_reducible refine below_drewN ?_ _) | (with_reducible refine Below.drew ?_) | go_size)⟩

set_option maxHeartbeats 800000 in
theorem rpow_ok (a : D7) (n : Int) (w : World) (ha : a.ok = true) (hn1 : -101 < n) (hn2 : n < 101) : Calls Tryd.prog 18 #[a.v, .int .i64 n] w fun e w' => e = .returned (chk (a.mul n)) ∧ Below w.heap.size w w' := by
  have HA := Lib.hid ha
  clear ha
  go_enter Tryd.func18, Tryd.ntmps18
  go_wp2_with fail
  refine (rvalid_any a _).mono ?_
  rintro e w' ⟨rfl, rfl⟩
  rw [HA.out]
  go_wp2_with fail
  go_loopw [6] (fun i wr => ∃ k : Nat, k ≤ 7 ∧ i = .int .i64 k ∧ XW w (D7.mix k a (a.mul n)) [.cells zc 23, .cells a.c 23] 0 = wr) (fun i _ => 7 - (intOf i).toNat)
  case atStart => exact ⟨0, by omega, rfl, by rw [mix0]; rfl⟩
  case round =>
    obtain ⟨k, hk, rfl, rfl⟩ := hrel
    by_cases hlt : k < 7
    · have h1 := (xw0 w (D7.mix k a (a.mul n)) [.cells zc 23, .cells a.c 23] 0).cell k
      have h1f := (xw0 w (D7.mix k a (a.mul n)) [.cells zc 23, .cells a.c 23] 0).frozen k
      rw [cell_dim _ k hlt] at h1
      rw [mix_at a _ k hlt] at h1
      have ba := ok_at HA.out k hlt
      have HS := Lib.hid (xw_set w a (a.mul n) [.cells zc 23, .cells a.c 23] k 0 hlt)
      rw [mul_at a n k hlt] at HS
      generalize a.at k = x at h1 ba HS
      have hxn := mul_bound x n ba ⟨by omega, by omega⟩
      generalize XW w (D7.mix k a (a.mul n)) [.cells zc 23, .cells a.c 23] 0 = wk at *
      go_wp2_with fail
      go_roundw
      case rel => exact ⟨k + 1, by omega, by go_num, HS.out.symm⟩
      case measure => simp [intOf]; omega
    · rw [mix7 _ _ k hlt]
      simp only [XW, List.foldl]
      cases hr : (a.mul n).ok
      · have HR := Lib.hid hr
        clear hr
        go_wp2_with fail
        refine (checked_no (a.mul n) _ HR.out).mono ?_
        rintro e w' ⟨rfl, rfl⟩
        go_wp2_with fail
        go_returns
        exact ⟨by rw [chk_range HR.out], by repeat' (first | (with_reducible exact Below.refl _ _) | (with_reducible refine Below.alloc ?_ ?_ _) | (with_reducible refine Below.setCell ?_ ?_ _) | (with_reducible refine below_drewN ?_ _) | (with_reducible refine Below.drew ?_) | go_size)⟩
      · have HR := Lib.hid hr
        clear hr
        go_wp2_with fail
        refine (checked_ok (a.mul n) _ HR.out).mono ?_
        rintro e w' ⟨rfl, rfl⟩
        go_wp2_with fail
        go_returns
        exact ⟨by rw [chk_ok HR.out], by repeat' (first | (with_reducible exact Below.refl _ _) | (with_reducible refine Below.alloc ?_ ?_ _) | (with_reducible refine Below.setCell ?_ ?_ _) | (with_reducible refine below_drewN ?_ _) | (with_reducible refine Below.drew ?_) | go_size)⟩

set_option maxHeartbeats 800000 in
theorem rpow_hi (a : D7) (n : Int) (w : World) (ha : a.ok = true) (hn1 : 101 ≤ n) : Calls Tryd.prog 18 #[a.v, .int .i64 n] w fun e w' => e = .returned (chk (a.mul 101)) ∧ Below w.heap.size w w' := by
  have HA := Lib.hid ha
  clear ha
  go_enter Tryd.func18, Tryd.ntmps18
  go_wp2_with fail
  refine (rvalid_any a _).mono ?_
  rintro e w' ⟨rfl, rfl⟩
  rw [HA.out]
  go_wp2_with fail
  go_loopw [6] (fun i wr => ∃ k : Nat, k ≤ 7 ∧ i = .int .i64 k ∧ XW w (D7.mix k a (a.mul 101)) [.cells zc 23, .cells a.c 23] 0 = wr) (fun i _ => 7 - (intOf i).toNat)
  case atStart => exact ⟨0, by omega, rfl, by rw [mix0]; rfl⟩
  case round =>
    obtain ⟨k, hk, rfl, rfl⟩ := hrel
    by_cases hlt : k < 7
    · have h1 := (xw0 w (D7.mix k a (a.mul 101)) [.cells zc 23, .cells a.c 23] 0).cell k
      have h1f := (xw0 w (D7.mix k a (a.mul 101)) [.cells zc 23, .cells a.c 23] 0).frozen k
      rw [cell_dim _ k hlt] at h1
      rw [mix_at a _ k hlt] at h1
      have ba := ok_at HA.out k hlt
      have HS := Lib.hid (xw_set w a (a.mul 101) [.cells zc 23, .cells a.c 23] k 0 hlt)
      rw [mul_at a 101 k hlt] at HS
      generalize a.at k = x at h1 ba HS
      have hxn := mul_bound x 101 ba ⟨by omega, by omega⟩
      generalize XW w (D7.mix k a (a.mul 101)) [.cells zc 23, .cells a.c 23] 0 = wk at *
      go_wp2_with fail
      go_roundw
      case rel => exact ⟨k + 1, by omega, by go_num, HS.out.symm⟩
      case measure => simp [intOf]; omega
    · rw [mix7 _ _ k hlt]
      simp only [XW, List.foldl]
      cases hr : (a.mul 101).ok
      · have HR := Lib.hid hr
        clear hr
        go_wp2_with fail
        refine (checked_no (a.mul 101) _ HR.out).mono ?_
        rintro e w' ⟨rfl, rfl⟩
        go_wp2_with fail
        go_returns
        exact ⟨by rw [chk_range HR.out], by repeat' (first | (with_reducible exact Below.refl _ _) | (with_reducible refine Below.alloc ?_ ?_ _) | (with_reducible refine Below.setCell ?_ ?_ _) | (with_reducible refine below_drewN ?_ _) | (with_reducible refine Below.drew ?_) | go_size)⟩
      · have HR := Lib.hid hr
        clear hr
        go_wp2_with fail
        refine (checked_ok (a.mul 101) _ HR.out).mono ?_
        rintro e w' ⟨rfl, rfl⟩
        go_wp2_with fail
        go_returns
        exact ⟨by rw [chk_ok HR.out], by repeat' (first | (with_reducible exact Below.refl _ _) | (with_reducible refine Below.alloc ?_ ?_ _) | (with_reducible refine Below.setCell ?_ ?_ _) | (with_reducible refine below_drewN ?_ _) | (with_reducible refine Below.drew ?_) | go_size)⟩

set_option maxHeartbeats 800000 in
theorem rpow_lo (a : D7) (n : Int) (w : World) (ha : a.ok = true) (hn1 : n ≤ -101) : Calls Tryd.prog 18 #[a.v, .int .i64 n] w fun e w' => e = .returned (chk (a.mul (-101))) ∧ Below w.heap.size w w' := by
  have HA := Lib.hid ha
  clear ha
  go_enter Tryd.func18, Tryd.ntmps18
  go_wp2_with fail
  refine (rvalid_any a _).mono ?_
  rintro e w' ⟨rfl, rfl⟩
  rw [HA.out]
  go_wp2_with fail
  go_loopw [6] (fun i wr => ∃ k : Nat, k ≤ 7 ∧ i = .int .i64 k ∧ XW w (D7.mix k a (a.mul (-101))) [.cells zc 23, .cells a.c 23] 0 = wr) (fun i _ => 7 - (intOf i).toNat)
  case atStart => exact ⟨0, by omega, rfl, by rw [mix0]; rfl⟩
  case round =>
    obtain ⟨k, hk, rfl, rfl⟩ := hrel
    by_cases hlt : k < 7
    · have h1 := (xw0 w (D7.mix k a (a.mul (-101))) [.cells zc 23, .cells a.c 23] 0).cell k
      have h1f := (xw0 w (D7.mix k a (a.mul (-101))) [.cells zc 23, .cells a.c 23] 0).frozen k
      rw [cell_dim _ k hlt] at h1
      rw [mix_at a _ k hlt] at h1
      have ba := ok_at HA.out k hlt
      have HS := Lib.hid (xw_set w a (a.mul (-101)) [.cells zc 23, .cells a.c 23] k 0 hlt)
      rw [mul_at a (-101) k hlt] at HS
      generalize a.at k = x at h1 ba HS
      have hxn := mul_bound x (-101) ba ⟨by omega, by omega⟩
      generalize XW w (D7.mix k a (a.mul (-101))) [.cells zc 23, .cells a.c 23] 0 = wk at *
      go_wp2_with fail
      go_roundw
      case rel => exact ⟨k + 1, by omega, by go_num, HS.out.symm⟩
      case measure => simp [intOf]; omega
    · rw [mix7 _ _ k hlt]
      simp only [XW, List.foldl]
      cases hr : (a.mul (-101)).ok
      · have HR := Lib.hid hr
        clear hr
        go_wp2_with fail
        refine (checked_no (a.mul (-101)) _ HR.out).mono ?_
        rintro e w' ⟨rfl, rfl⟩
        go_wp2_with fail
        go_returns
        exact ⟨by rw [chk_range HR.out], by repeat' (first | (with_reducible exact Below.refl _ _) | (with_reducible refine Below.alloc ?_ ?_ _) | (with_reducible refine Below.setCell ?_ ?_ _) | (with_reducible refine below_drewN ?_ _) | (with_reducible refine Below.drew ?_) | go_size)⟩
      · have HR := Lib.hid hr
        clear hr
        go_wp2_with fail
        refine (checked_ok (a.mul (-101)) _ HR.out).mono ?_
        rintro e w' ⟨rfl, rfl⟩
        go_wp2_with fail
        go_returns
        exact ⟨by rw [chk_ok HR.out], by repeat' (first | (with_reducible exact Below.refl _ _) | (with_reducible refine Below.alloc ?_ ?_ _) | (with_reducible refine Below.setCell ?_ ?_ _) | (with_reducible refine below_drewN ?_ _) | (with_reducible refine Below.drew ?_) | go_size)⟩

set_option maxHeartbeats 400000 in
theorem rpow_no (a : D7) (n : Int) (w : World) (ha : a.ok = false) : Calls Tryd.prog 18 #[a.v, .int .i64 n] w fun e w' => e = .returned (errV 1) ∧ Below w.heap.size w w' := by
  have HA := Lib.hid ha
  clear ha
  go_enter Tryd.func18, Tryd.ntmps18
  go_wp2_with fail
  refine (rvalid_any a _).mono ?_
  rintro e w' ⟨rfl, rfl⟩
  rw [HA.out]
  go_wp2_with fail
  go_returns
  exact ⟨rfl, by repeat' (first | (with_reducible exact Below.refl _ _) | (with_reducible refine Below.alloc ?_ ?_ _) | (with_reducible refine Below.setCell ?_ ?_ _) | (with_reducible refine below_drewN ?_ _) | (with_reducible refine Below.drew ?_) | go_size)⟩

set_option maxHeartbeats 800000 in
theorem root_ok (a : D7) (w : World) (ha : a.ok = true) : Calls Tryd.prog 14 #[a.v] w fun e w' => e = .returned (rootV a) ∧ Below w.heap.size w w' := by
  have HA := Lib.hid ha
  clear ha
  go_enter Tryd.func14, Tryd.ntmps14
  go_wp2_with fail
  refine (valid_any a _).mono ?_
  rintro e w' ⟨rfl, rfl⟩
  rw [HA.out]
  go_wp2_with fail
  go_loopw [4, 9] (fun _ i wr => ∃ k : Nat, k ≤ 7 ∧ i = .int .i64 k ∧ XW w (D7.mix k a (a.half)) [.cells zc 23, .cells a.c 23] 0 = wr ∧ Hid (∀ j, j < k → (a.at j).tmod 2 = 0)) (fun _ i _ => 7 - (intOf i).toNat)
  case atStart => exact ⟨0, by omega, rfl, by rw [mix0]; rfl, fun j h => by omega⟩
  case round =>
    obtain ⟨k, hk, rfl, rfl, hj⟩ := hrel
    by_cases hlt : k < 7
    · have h1 := (xw0 w (D7.mix k a (a.half)) [.cells zc 23, .cells a.c 23] 0).cell k
      have h1f := (xw0 w (D7.mix k a (a.half)) [.cells zc 23, .cells a.c 23] 0).frozen k
      rw [cell_dim _ k hlt] at h1
      rw [mix_at a _ k hlt] at h1
      have ba := ok_at HA.out k hlt
      have HS := Lib.hid (xw_set w a (a.half) [.cells zc 23, .cells a.c 23] k 0 hlt)
      rw [half_at a k hlt] at HS
      generalize hd : a.at k = x at h1 ba HS
      have HD := Lib.hid hd
      clear hd
      have hq := half_bound x ba
      have HZ := Lib.hid (xw1 w (D7.mix k a a.half) D7.zero [.cells a.c 23] 0)
      have H0 := Lib.hid (xw_below w (D7.mix k a a.half) [.cells zc 23, .cells a.c 23] 0)
      generalize XW w (D7.mix k a (a.half)) [.cells zc 23, .cells a.c 23] 0 = wk at *
      by_cases hm : x.tmod 2 = 0
      · have hm' : (x.tmod 2 != 0) = false := by simp [hm]
        have HM := Lib.hid hm
        clear hm
        go_wp2_with fail
        go_roundw
        case rel => exact ⟨k + 1, by omega, by go_num, HS.out.symm, fun j h => by
          rcases Nat.lt_or_ge j k with h1 | h1
          · exact hj.out j h1
          · obtain rfl : j = k := by omega
            rw [HD.out]; exact HM.out⟩
        case measure => simp [intOf]; omega
      · have hm' : (x.tmod 2 != 0) = true := by simp [hm]
        have HM : Hid (a.even = false) := not_even a k hlt (by rw [HD.out]; exact hm)
        clear hm HS
        have hcz := fun i => HZ.out.cell i
        have hfz := fun i => HZ.out.frozen i
        go_wp2_with fail
        refine bodyPost_ret (v := .tuple #[D7.zero.v, .int .i64 2]) (by simp [results, Tryd.results14, go_sem, hcz]) rfl ⟨by rw [rootV_no HM.out], ?_⟩
        repeat' (first | (with_reducible exact H0.out) | (with_reducible refine Below.setCell ?_ ?_ _) | go_size)
    · rw [mix7 _ _ k hlt]
      simp only [XW, List.foldl]
      go_wp2_with fail
      go_returns
      exact ⟨by rw [rootV_ok ((even_iff a).2 fun j h => hj.out j (by omega))], by repeat' (first | (with_reducible exact Below.refl _ _) | (with_reducible refine Below.alloc ?_ ?_ _) | (with_reducible refine Below.setCell ?_ ?_ _) | (with_reducible refine below_drewN ?_ _) | (with_reducible refine Below.drew ?_) | go_size)⟩

set_option maxHeartbeats 400000 in
theorem root_no (a : D7) (w : World) (ha : a.ok = false) : Calls Tryd.prog 14 #[a.v] w fun e w' => e = .returned (errV 1) ∧ Below w.heap.size w w' := by
  have HA := Lib.hid ha
  clear ha
  go_enter Tryd.func14, Tryd.ntmps14
  go_wp2_with fail
  refine (valid_any a _).mono ?_
  rintro e w' ⟨rfl, rfl⟩
  rw [HA.out]
  go_wp2_with fail
  go_returns
  exact ⟨rfl, by repeat' (first | (with_reducible exact Below.refl _ _) | (with_reducible refine Below.alloc ?_ ?_ _) | (with_reducible refine Below.setCell ?_ ?_ _) | (with_reducible refine below_drewN ?_ _) | (with_reducible refine Below.drew ?_) | go_size)⟩

set_option maxHeartbeats 800000 in
theorem rroot_ok (a : D7) (w : World) (ha : a.ok = true) : Calls Tryd.prog 19 #[a.v] w fun e w' => e = .returned (rootV a) ∧ Below w.heap.size w w' := by
  have HA := Lib.hid ha
  clear ha
  go_enter Tryd.func19, Tryd.ntmps19
  go_wp2_with fail
  refine (rvalid_any a _).mono ?_
  rintro e w' ⟨rfl, rfl⟩
  rw [HA.out]
  go_wp2_with fail
  go_loopw [4] (fun i wr => ∃ k : Nat, k ≤ 7 ∧ i = .int .i64 k ∧ XW w (D7.mix k a (a.half)) [.cells zc 23, .cells a.c 23] 0 = wr ∧ Hid (∀ j, j < k → (a.at j).tmod 2 = 0)) (fun i _ => 7 - (intOf i).toNat)
  case atStart => exact ⟨0, by omega, rfl, by rw [mix0]; rfl, fun j h => by omega⟩
  case round =>
    obtain ⟨k, hk, rfl, rfl, hj⟩ := hrel
    by_cases hlt : k < 7
    · have h1 := (xw0 w (D7.mix k a (a.half)) [.cells zc 23, .cells a.c 23] 0).cell k
      have h1f := (xw0 w (D7.mix k a (a.half)) [.cells zc 23, .cells a.c 23] 0).frozen k
      rw [cell_dim _ k hlt] at h1
      rw [mix_at a _ k hlt] at h1
      have ba := ok_at HA.out k hlt
      have HS := Lib.hid (xw_set w a (a.half) [.cells zc 23, .cells a.c 23] k 0 hlt)
      rw [half_at a k hlt] at HS
      generalize hd : a.at k = x at h1 ba HS
      have HD := Lib.hid hd
      clear hd
      have hq := half_bound x ba
      have HZ := Lib.hid (xw1 w (D7.mix k a a.half) D7.zero [.cells a.c 23] 0)
      have H0 := Lib.hid (xw_below w (D7.mix k a a.half) [.cells zc 23, .cells a.c 23] 0)
      generalize XW w (D7.mix k a (a.half)) [.cells zc 23, .cells a.c 23] 0 = wk at *
      by_cases hm : x.tmod 2 = 0
      · have hm' : (x.tmod 2 != 0) = false := by simp [hm]
        have HM := Lib.hid hm
        clear hm
        go_wp2_with fail
        go_roundw
        case rel => exact ⟨k + 1, by omega, by go_num, HS.out.symm, fun j h => by
          rcases Nat.lt_or_ge j k with h1 | h1
          · exact hj.out j h1
          · obtain rfl : j = k := by omega
            rw [HD.out]; exact HM.out⟩
        case measure => simp [intOf]; omega
      · have hm' : (x.tmod 2 != 0) = true := by simp [hm]
        have HM : Hid (a.even = false) := not_even a k hlt (by rw [HD.out]; exact hm)
        clear hm HS
        have hcz := fun i => HZ.out.cell i
        have hfz := fun i => HZ.out.frozen i
        go_wp2_with fail
        refine bodyPost_ret (v := .tuple #[D7.zero.v, .int .i64 2]) (by simp [results, Tryd.results19, go_sem, hcz]) rfl ⟨by rw [rootV_no HM.out], ?_⟩
        repeat' (first | (with_reducible exact H0.out) | (with_reducible refine Below.setCell ?_ ?_ _) | go_size)
    · rw [mix7 _ _ k hlt]
      simp only [XW, List.foldl]
      go_wp2_with fail
      go_returns
      exact ⟨by rw [rootV_ok ((even_iff a).2 fun j h => hj.out j (by omega))], by repeat' (first | (with_reducible exact Below.refl _ _) | (with_reducible refine Below.alloc ?_ ?_ _) | (with_reducible refine Below.setCell ?_ ?_ _) | (with_reducible refine below_drewN ?_ _) | (with_reducible refine Below.drew ?_) | go_size)⟩

set_option maxHeartbeats 400000 in
theorem rroot_no (a : D7) (w : World) (ha : a.ok = false) : Calls Tryd.prog 19 #[a.v] w fun e w' => e = .returned (errV 1) ∧ Below w.heap.size w w' := by
  have HA := Lib.hid ha
  clear ha
  go_enter Tryd.func19, Tryd.ntmps19
  go_wp2_with fail
  refine (rvalid_any a _).mono ?_
  rintro e w' ⟨rfl, rfl⟩
  rw [HA.out]
  go_wp2_with fail
  go_returns
  exact ⟨rfl, by repeat' (first | (with_reducible exact Below.refl _ _) | (with_reducible refine Below.alloc ?_ ?_ _) | (with_reducible refine Below.setCell ?_ ?_ _) | (with_reducible refine below_drewN ?_ _) | (with_reducible refine Below.drew ?_) | go_size)⟩
end Go.Proofs.YtlfapncbkgpclaaDoor
