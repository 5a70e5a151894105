/- ValidValue says whether a value is valid: program and reference; for all values. -/
import Derived.Test.YtlfapncbkgpclaaDoorQ7
namespace Go.Proofs.YtlfapncbkgpclaaDoor
open Go.RowKit
set_option maxHeartbeats 400000 in
theorem vv_any (x : V9) (w : World) : Calls Tryd.prog 24 #[x.v] w fun e w' => e = .returned (.bool x.ok) ∧ Below w.heap.size w w' := by
  unfold V9.ok
  cases h : valQ x.n x.d
  · have HV := Lib.hid h
    clear h
    go_enter Tryd.func24, Tryd.ntmps24
    go_wp2_with fail
    refine (qvalid_any x.n x.d _).mono ?_
    rintro e w' ⟨rfl, k, rfl⟩
    rw [HV.out]
    go_wp2_with fail
    go_ret
    exact ⟨rfl, by repeat' (first | (with_reducible exact Below.refl _ _) | (with_reducible refine Below.alloc ?_ ?_ _) | (with_reducible refine Below.setCell ?_ ?_ _) | (with_reducible refine below_drewN ?_ _) | (with_reducible refine Below.drew ?_) | go_size)⟩
  · have HV := Lib.hid h
    clear h
    go_enter Tryd.func24, Tryd.ntmps24
    go_wp2_with fail
    refine (qvalid_any x.n x.d _).mono ?_
    rintro e w' ⟨rfl, k, rfl⟩
    rw [HV.out]
    go_wp2_with fail
    refine (valid_any x.m _).mono ?_
    rintro e w' ⟨rfl, rfl⟩
    go_wp2_with fail
    go_ret
    exact ⟨rfl, by repeat' (first | (with_reducible exact Below.refl _ _) | (with_reducible refine Below.alloc ?_ ?_ _) | (with_reducible refine Below.setCell ?_ ?_ _) | (with_reducible refine below_drewN ?_ _) | (with_reducible refine Below.drew ?_) | go_size)⟩
set_option maxHeartbeats 400000 in
theorem number_any (x : V9) (w : World) : Calls Tryd.prog 52 #[x.v] w fun e w' => e = .returned (ratV x.n x.d) ∧ (w.alloc (.cells x.c 35)).alloc (.cells (ratC x.n x.d) 53) = w' := by
  go_enter Tryd.func52, Tryd.ntmps52
  go_wp2_with fail
  go_returns
  exact ⟨rfl, rfl⟩
set_option maxHeartbeats 400000 in
theorem rvv_any (x : V9) (w : World) : Calls Tryd.prog 28 #[x.v] w fun e w' => e = .returned (.bool x.ok) ∧ Below w.heap.size w w' := by
  unfold V9.ok
  rw [Bool.and_comm]
  cases h : x.m.ok
  · have HV := Lib.hid h
    clear h
    go_enter Tryd.func28, Tryd.ntmps28
    go_wp2_with fail
    refine (rvalid_any x.m _).mono ?_
    rintro e w' ⟨rfl, rfl⟩
    rw [HV.out]
    go_wp2_with fail
    go_ret
    exact ⟨rfl, by repeat' (first | (with_reducible exact Below.refl _ _) | (with_reducible refine Below.alloc ?_ ?_ _) | (with_reducible refine Below.setCell ?_ ?_ _) | (with_reducible refine below_drewN ?_ _) | (with_reducible refine Below.drew ?_) | go_size)⟩
  · have HV := Lib.hid h
    clear h
    go_enter Tryd.func28, Tryd.ntmps28
    go_wp2_with fail
    refine (rvalid_any x.m _).mono ?_
    rintro e w' ⟨rfl, rfl⟩
    rw [HV.out]
    go_wp2_with fail
    refine (number_any x _).mono ?_
    rintro e w' ⟨rfl, rfl⟩
    go_wp2_with fail
    refine (rqvalid_any x.n x.d _).mono ?_
    rintro e w' ⟨rfl, k, rfl⟩
    go_wp2_with fail
    go_ret
    exact ⟨rfl, by repeat' (first | (with_reducible exact Below.refl _ _) | (with_reducible refine Below.alloc ?_ ?_ _) | (with_reducible refine Below.setCell ?_ ?_ _) | (with_reducible refine below_drewN ?_ _) | (with_reducible refine Below.drew ?_) | go_size)⟩
set_option maxHeartbeats 400000 in
theorem rmk_any (n d : Int) (m : D7) (w : World) : Calls Tryd.prog 53 #[ratV n d, m.v] w fun e w' => e = .returned (V9.v ⟨n, d, m⟩) ∧ ((w.alloc (.cells (ratC n d) 53)).alloc (.cells m.c 23)).alloc (.cells (V9.c ⟨n, d, m⟩) 35) = w' := by
  go_enter Tryd.func53, Tryd.ntmps53
  go_wp2_with fail
  go_returns
  exact ⟨rfl, rfl⟩
end Go.Proofs.YtlfapncbkgpclaaDoor
