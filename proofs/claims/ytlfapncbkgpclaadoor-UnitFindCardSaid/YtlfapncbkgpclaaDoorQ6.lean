/- Pow of the reference: rational numbers that are greater than 0, with exponents from -100 to 100. -/
import Derived.Test.YtlfapncbkgpclaaDoorQ5
namespace Go.Proofs.YtlfapncbkgpclaaDoor
open Go.RowKit
set_option maxRecDepth 100000 in
set_option maxHeartbeats 1000000 in
theorem rpow_pos (a b : Nat) (m : Nat) (w : World) (hg : Nat.gcd a b = 1) (ha : 1 ≤ a) (hb : 1 ≤ b) (ha2 : a ≤ 2147483647) (hb2 : b ≤ 2147483647) (hm : m ≤ 31) (hm1 : 1 ≤ m) (hne : ((a : Int) == 1) = false ∨ ((a : Int) == 1) = true ∧ ((b : Int) == 1) = false) : Calls Tryd.prog 49 #[ratV a b, .int .i64 m] w fun e w' => e = .returned (q3V (powT a b m)) ∧ Below w.heap.size w w' := by
  have HV := Lib.hid (val_cop hg hb ha2 hb2)
  have HG := Lib.hid hg
  clear hg
  have a0 : ((a : Int) == 0) = false := by simp; omega
  have a1 : ((a : Int) == -1) = false := by simp
  have m0 : ((m : Int) == 0) = false := by simp; omega
  rcases hne with hne | ⟨hne, hne2⟩
  all_goals
    go_enter Tryd.func49, Tryd.ntmps49
    go_wp2_with fail
    refine (rqvalid_any a b _).mono ?_
    rintro e w' ⟨rfl, k, rfl⟩
    rw [HV.out]
    go_wp2_with fail
    go_loopw [8, 9, 10] (fun i _ _ wr => ∃ j : Nat, j ≤ m ∧ i = .int .i64 j ∧ Blk wr w.heap.size 53 (ratC a b) ∧ Blk wr (w.heap.size + 1) 53 zrat ∧ Blk wr (w.heap.size + 1 + 1 + 1 + 1) 53 (ratC ((a ^ j : Nat) : Int) ((b ^ j : Nat) : Int)) ∧ Below w.heap.size w wr ∧ a ^ j ≤ 2147483647 ∧ b ^ j ≤ 2147483647) (fun i _ _ _ => m - (intOf i).toNat)
    case atStart =>
      refine ⟨0, by omega, rfl, ?_, ?_, ?_, ?_, by rw [Nat.pow_zero]; omega, by rw [Nat.pow_zero]; omega⟩
      · exact (((((Blk.new w 53 (ratC a b)).alloc _).alloc _).alloc _).drewN _).alloc _
      · have := Blk.new (w.alloc (.cells (ratC a b) 53)) 53 zrat
        rw [World.size_alloc] at this
        exact (((this.alloc _).alloc _).drewN _).alloc _
      · rw [Nat.pow_zero, Nat.pow_zero]
        have := Blk.new (((((w.alloc (.cells (ratC a b) 53)).alloc (.cells zrat 53)).alloc (.cells (ratC 1 1) 53)).alloc (.cells (ratC a b) 53)).drewN k) 53 (ratC 1 1)
        have e : (((((w.alloc (.cells (ratC a b) 53)).alloc (.cells zrat 53)).alloc (.cells (ratC 1 1) 53)).alloc (.cells (ratC a b) 53)).drewN k).heap.size = w.heap.size + 1 + 1 + 1 + 1 := by simp
        rw [e] at this
        exact this
      · repeat' (first | (with_reducible exact Below.refl _ _) | (with_reducible refine Below.alloc ?_ ?_ _) | (with_reducible refine Below.setCell ?_ ?_ _) | (with_reducible refine below_drewN ?_ _) | (with_reducible refine Below.drew ?_) | go_size)
    case round =>
      obtain ⟨j, hj, rfl, B0, B1, B2, hbel, hA, hB⟩ := hrel
      have c0 := fun i => B0.cell i
      have c1 := fun i => B1.cell i
      have f1 := fun i => B1.frozen i
      have c2 := fun i => B2.cell i
      have f2 := fun i => B2.frozen i
      have l0 := B0.lt
      have l1 := B1.lt
      have l2 := B2.lt
      by_cases hlt : j < m
      · have b1' : a ^ 1 ≤ 2147483647 := by rw [Nat.pow_one]; exact ha2
        have b2' : b ^ 1 ≤ 2147483647 := by rw [Nat.pow_one]; exact hb2
        have hM := Lib.hid (mul_pow j 1 HG.out hb hA hB b1' b2')
        rw [Nat.pow_one, Nat.pow_one] at hM
        clear b1' b2'
        generalize ((a ^ j : Nat) : Int) = u at *
        generalize ((b ^ j : Nat) : Int) = v at *
        go_wp2_with fail
        refine (rqmul_any u v a b _).mono ?_
        rintro e w2 ⟨rfl, hb2'⟩
        rw [hM.out]
        have B0' := keep hb2' B0
        have B1' := keep hb2' B1
        have B2' := keep hb2' B2
        have hbel' := hbel.trans (hb2'.mono hbel.size)
        clear c0 c1 f1 c2 f2 l0 l1 l2 B0 B1 B2 hbel hb2' hM
        have c0 := fun i => B0'.cell i
        have c1 := fun i => B1'.cell i
        have f1 := fun i => B1'.frozen i
        have c2 := fun i => B2'.cell i
        have f2 := fun i => B2'.frozen i
        have l0 := B0'.lt
        have l1 := B1'.lt
        have l2 := B2'.lt
        by_cases hfit : a ^ (j + 1) ≤ 2147483647 ∧ b ^ (j + 1) ≤ 2147483647
        · rw [powT_ok hfit.1 hfit.2]
          generalize hu2 : ((a ^ (j + 1) : Nat) : Int) = u2
          generalize hv2 : ((b ^ (j + 1) : Nat) : Int) = v2
          have HU2 := Lib.hid hu2
          have HV2 := Lib.hid hv2
          clear hu2 hv2
          have B0s := (blk_far2 (.int .i64 u2) (.int .i64 v2) B0' (show w.heap.size ≠ w.heap.size + 1 + 1 + 1 + 1 by omega)).alloc (.cells (ratC u2 v2) 53)
          have B1s := (blk_far2 (.int .i64 u2) (.int .i64 v2) B1' (show w.heap.size + 1 ≠ w.heap.size + 1 + 1 + 1 + 1 by omega)).alloc (.cells (ratC u2 v2) 53)
          have B2s := (blk_set2 (u := .int .i64 u2) (v := .int .i64 v2) B2').alloc (.cells (ratC u2 v2) 53)
          have hbels := ((hbel'.setCell (p := ⟨w.heap.size + 1 + 1 + 1 + 1, 0, none⟩) (by simp; omega) (.int .i64 u2)).setCell (p := ⟨w.heap.size + 1 + 1 + 1 + 1, 1, none⟩) (by simp; omega) (.int .i64 v2)).alloc (by simp; exact hbel'.size) (.cells (ratC u2 v2) 53)
          have HFIT := Lib.hid hfit
          clear hfit
          unfold q3V
          go_wp2_with fail
          go_roundw
          case rel => exact ⟨j + 1, by omega, by go_num, B0s, B1s, by rw [HU2.out, HV2.out]; exact B2s, hbels, HFIT.out.1, HFIT.out.2⟩
          case measure => simp [intOf]; omega
        · rw [powT_no hfit]
          have HT := Lib.hid (powT_mono ha hb (show j + 1 ≤ m by omega) hfit)
          have H0 := Lib.hid hbel'
          clear hbel' hfit
          unfold q3V
          go_wp2_with fail
          refine bodyPost_ret (v := q3V (0, 0, 2)) (by simp [q3V, results, Tryd.results49, go_sem, c1, l1]) rfl ⟨by rw [HT.out], by repeat' (first | (with_reducible exact H0.out) | (with_reducible refine Below.setCell ?_ ?_ _) | (with_reducible refine Below.alloc ?_ ?_ _) | (with_reducible refine below_drewN ?_ _) | (with_reducible refine Below.drew ?_) | (have := H0.out.size; go_size))⟩
      · obtain rfl : j = m := by omega
        have HT := Lib.hid (powT_ok hA hB)
        generalize ((a ^ j : Nat) : Int) = u at c2 HT
        generalize ((b ^ j : Nat) : Int) = v at c2 HT
        clear B0 B1 B2 hA hB
        have H0 := Lib.hid hbel
        clear hbel
        go_wp2_with fail
        refine bodyPost_ret (v := q3V (u, v, 0)) (by simp [q3V, results, Tryd.results49, go_sem, c1]) rfl ⟨by rw [HT.out], by repeat' (first | (with_reducible exact H0.out) | (with_reducible refine Below.setCell ?_ ?_ _) | (with_reducible refine Below.alloc ?_ ?_ _) | (with_reducible refine below_drewN ?_ _) | (with_reducible refine Below.drew ?_) | (have := H0.out.size; go_size))⟩

set_option maxRecDepth 100000 in
set_option maxHeartbeats 400000 in
theorem rpow_nought (a b : Nat) (w : World) (hg : Nat.gcd a b = 1) (ha : 1 ≤ a) (hb : 1 ≤ b) (ha2 : a ≤ 2147483647) (hb2 : b ≤ 2147483647) : Calls Tryd.prog 49 #[ratV a b, .int .i64 0] w fun e w' => e = .returned (q3V (1, 1, 0)) ∧ Below w.heap.size w w' := by
  have HV := Lib.hid (val_cop hg hb ha2 hb2)
  have HG := Lib.hid hg
  clear hg
  have a0 : ((a : Int) == 0) = false := by simp; omega
  have a1 : ((a : Int) == -1) = false := by simp
  · go_enter Tryd.func49, Tryd.ntmps49
    go_wp2_with fail
    refine (rqvalid_any a b _).mono ?_
    rintro e w' ⟨rfl, k, rfl⟩
    rw [HV.out]
    go_wp2_with fail
    go_returns
    exact ⟨rfl, by repeat' (first | (with_reducible exact Below.refl _ _) | (with_reducible refine Below.alloc ?_ ?_ _) | (with_reducible refine Below.setCell ?_ ?_ _) | (with_reducible refine below_drewN ?_ _) | (with_reducible refine Below.drew ?_) | go_size)⟩
set_option maxRecDepth 100000 in
set_option maxHeartbeats 400000 in
theorem rpow_one (n : Int) (w : World) : Calls Tryd.prog 49 #[ratV 1 1, .int .i64 n] w fun e w' => e = .returned (q3V (1, 1, 0)) ∧ Below w.heap.size w w' := by
  by_cases hn : n = 0
  · subst hn
    exact rpow_nought 1 1 w (by decide) (by decide) (by decide) (by decide) (by decide)
  · have n0 : (n == 0) = false := by simpa using hn
    have HV := Lib.hid (val_cop (a := 1) (b := 1) (by decide) (by decide) (by decide) (by decide))
    clear hn
    go_enter Tryd.func49, Tryd.ntmps49
    go_wp2_with fail
    refine (rqvalid_any 1 1 _).mono ?_
    rintro e w' ⟨rfl, k, rfl⟩
    rw [show valQ 1 1 = true from HV.out]
    go_wp2_with fail
    go_returns
    exact ⟨rfl, by repeat' (first | (with_reducible exact Below.refl _ _) | (with_reducible refine Below.alloc ?_ ?_ _) | (with_reducible refine Below.setCell ?_ ?_ _) | (with_reducible refine below_drewN ?_ _) | (with_reducible refine Below.drew ?_) | go_size)⟩
set_option maxRecDepth 100000 in
set_option maxHeartbeats 800000 in
theorem rpow_far (a b : Nat) (n : Int) (w : World) (hg : Nat.gcd a b = 1) (ha : 1 ≤ a) (hb : 1 ≤ b) (ha2 : a ≤ 2147483647) (hb2 : b ≤ 2147483647) (hne : ((a : Int) == 1) = false ∨ ((a : Int) == 1) = true ∧ ((b : Int) == 1) = false) (hn : n < -31 ∨ 31 < n) : Calls Tryd.prog 49 #[ratV a b, .int .i64 n] w fun e w' => e = .returned (q3V (0, 0, 2)) ∧ Below w.heap.size w w' := by
  have HV := Lib.hid (val_cop hg hb ha2 hb2)
  have HG := Lib.hid hg
  clear hg
  have a0 : ((a : Int) == 0) = false := by simp; omega
  have a1 : ((a : Int) == -1) = false := by simp
  have n0 : (n == 0) = false := by simp; omega
  rcases hn with hn | hn <;> rcases hne with hne | ⟨hne, hne2⟩
  all_goals
    go_enter Tryd.func49, Tryd.ntmps49
    go_wp2_with fail
    refine (rqvalid_any a b _).mono ?_
    rintro e w' ⟨rfl, k, rfl⟩
    rw [HV.out]
    go_wp2_with fail
    go_returns
    exact ⟨rfl, by repeat' (first | (with_reducible exact Below.refl _ _) | (with_reducible refine Below.alloc ?_ ?_ _) | (with_reducible refine Below.setCell ?_ ?_ _) | (with_reducible refine below_drewN ?_ _) | (with_reducible refine Below.drew ?_) | go_size)⟩
set_option maxRecDepth 100000 in
set_option maxHeartbeats 800000 in
theorem rpow_neg (a b m : Nat) (w : World) (hg : Nat.gcd a b = 1) (ha : 1 ≤ a) (hb : 1 ≤ b) (ha2 : a ≤ 2147483647) (hb2 : b ≤ 2147483647) (hne : ((a : Int) == 1) = false ∨ ((a : Int) == 1) = true ∧ ((b : Int) == 1) = false) (hm : m ≤ 31) (hm1 : 1 ≤ m) : Calls Tryd.prog 49 #[ratV a b, .int .i64 (-(m : Int))] w fun e w' => e = .returned (q3V (powT b a m)) ∧ Below w.heap.size w w' := by
  have HN : Hid (((b : Int) == 1) = false ∨ ((b : Int) == 1) = true ∧ ((a : Int) == 1) = false) := by
    show ((b : Int) == 1) = false ∨ ((b : Int) == 1) = true ∧ ((a : Int) == 1) = false
    rcases hne with h | ⟨_, h⟩
    · cases hb1 : ((b : Int) == 1)
      · exact .inl rfl
      · exact .inr ⟨rfl, h⟩
    · exact .inl h
  have HM : Hid (makeQ (b : Int) (a : Int) = ((b : Int), (a : Int), 0)) := by
    have := make_cop (a := b) (b := a) (by rw [Nat.gcd_comm]; exact hg) ha
    rw [if_pos ⟨hb2, ha2⟩] at this
    exact this
  have HV := Lib.hid (val_cop hg hb ha2 hb2)
  have HG := Lib.hid hg
  clear hg
  have a0 : ((a : Int) == 0) = false := by simp; omega
  have a1 : ((a : Int) == -1) = false := by simp
  have n0 : ((-(m : Int)) == 0) = false := by simp; omega
  rcases hne with hne | ⟨hne, hne2⟩
  all_goals
    go_enter Tryd.func49, Tryd.ntmps49
    go_wp2_with fail
    refine (rqvalid_any a b _).mono ?_
    rintro e w' ⟨rfl, k, rfl⟩
    rw [HV.out]
    go_wp2_with fail
    refine (rmake_any b a _ (by omega) (by omega) (by omega) (by omega)).mono ?_
    rintro e w2 ⟨rfl, hb2'⟩
    rw [HM.out]
    have B0 := keep hb2' (((((Blk.new w 53 (ratC a b)).alloc _).alloc _).alloc _).drewN _)
    have B1 := keep hb2' ((((Blk.new (w.alloc (.cells (ratC a b) 53)) 53 zrat).alloc _).alloc _).drewN _)
    rw [World.size_alloc] at B1
    have H0 : Hid (Below w.heap.size w w2) := Below.trans (by repeat' (first | (with_reducible exact Below.refl _ _) | (with_reducible refine Below.alloc ?_ ?_ _) | (with_reducible refine Below.setCell ?_ ?_ _) | (with_reducible refine below_drewN ?_ _) | (with_reducible refine Below.drew ?_) | go_size)) (hb2'.mono (by simp; omega))
    clear hb2'
    have c0 := fun i => B0.cell i
    have f0 := fun i => B0.frozen i
    have c1 := fun i => B1.cell i
    have f1 := fun i => B1.frozen i
    have l0 := B0.lt
    have l1 := B1.lt
    unfold q3V
    go_wp2_with fail
    refine (rpow_pos b a m _ (by rw [Nat.gcd_comm]; exact HG.out) hb ha hb2 ha2 hm hm1 HN.out).mono ?_
    rintro e w3 ⟨rfl, hb3⟩
    generalize hr : powT b a m = r
    have HR := Lib.hid hr
    clear hr
    have B1' := keep hb3 (blk_far2 (.int .i64 b) (.int .i64 a) B1 (show w.heap.size + 1 ≠ w.heap.size by omega))
    have H1 := Lib.hid (((H0.out.setCell (p := ⟨w.heap.size, 0, none⟩) (Nat.le_refl _) (.int .i64 b)).setCell (p := ⟨w.heap.size, 1, none⟩) (Nat.le_refl _) (.int .i64 a)).trans (hb3.mono (by simp; have := H0.out.size; omega)))
    clear hb3 c0 f0 c1 f1 l0 l1 B0 B1 H0
    have H0 := H1
    clear H1
    have c1 := fun i => B1'.cell i
    have f1 := fun i => B1'.frozen i
    have l1 := B1'.lt
    unfold q3V
    go_wp2_with fail
    refine bodyPost_ret (v := q3V r) (by simp [q3V, results, Tryd.results49, go_sem, c1]) rfl ⟨by rw [HR.out], by repeat' (first | (with_reducible exact H0.out) | (with_reducible refine Below.setCell ?_ ?_ _) | (with_reducible refine Below.alloc ?_ ?_ _) | (with_reducible refine below_drewN ?_ _) | (with_reducible refine Below.drew ?_) | (have := H0.out.size; go_size))⟩

/-- a power with any exponent -/
def powQ (a b : Nat) (n : Int) : Int × Int × Int := if 0 ≤ n then powT a b n.toNat else powT b a n.natAbs
theorem qpow_any (a b : Nat) (n : Int) (w : World) (hg : Nat.gcd a b = 1) (ha : 1 ≤ a) (hb : 1 ≤ b) (ha2 : a ≤ 2147483647) (hb2 : b ≤ 2147483647) (hn1 : -100 ≤ n) (hn2 : n ≤ 100) : Calls Tryd.prog 45 #[ratV a b, .int .i64 n] w fun e w' => e = .returned (q3V (powQ a b n)) ∧ Below w.heap.size w w' := by
  unfold powQ
  by_cases h : 0 ≤ n
  · obtain ⟨m, rfl⟩ := Int.eq_ofNat_of_zero_le h
    rw [if_pos h, Int.toNat_natCast]
    exact qpow_pos a b m w hg ha hb ha2 hb2 (by omega)
  · rw [if_neg h]
    have e : n = -((n.natAbs : Nat) : Int) := by omega
    have := qpow_neg a b n.natAbs w hg ha hb ha2 hb2 (by omega) (by omega)
    rw [← e] at this
    exact this
theorem two_pow32 (m : Nat) (h : 31 < m) : 2147483647 < 2 ^ m := by
  have : 2 ^ 32 ≤ 2 ^ m := Nat.pow_le_pow_right (by decide) (by omega)
  omega
theorem powT_one (m : Nat) : powT 1 1 m = (1, 1, 0) := by simp [powT]
theorem powT_far {a b m : Nat} (hne : 2 ≤ a ∨ 2 ≤ b) (hm : 31 < m) : powT a b m = (0, 0, 2) := by
  refine if_neg fun h => ?_
  have := two_pow32 m hm
  rcases hne with h' | h'
  · have := Nat.pow_le_pow_left h' m
    omega
  · have := Nat.pow_le_pow_left h' m
    omega
theorem rqpow_any (a b : Nat) (n : Int) (w : World) (hg : Nat.gcd a b = 1) (ha : 1 ≤ a) (hb : 1 ≤ b) (ha2 : a ≤ 2147483647) (hb2 : b ≤ 2147483647) (hn1 : -100 ≤ n) (hn2 : n ≤ 100) : Calls Tryd.prog 49 #[ratV a b, .int .i64 n] w fun e w' => e = .returned (q3V (powQ a b n)) ∧ Below w.heap.size w w' := by
  unfold powQ
  by_cases h1 : a = 1 ∧ b = 1
  · obtain ⟨rfl, rfl⟩ := h1
    rw [powT_one, powT_one, ite_self]
    exact rpow_one n w
  · have h2 : 2 ≤ a ∨ 2 ≤ b := by omega
    have hne : ((a : Int) == 1) = false ∨ ((a : Int) == 1) = true ∧ ((b : Int) == 1) = false := by
      by_cases ha1 : a = 1
      · right
        subst ha1
        exact ⟨rfl, by simp; omega⟩
      · left
        simp; omega
    by_cases h : 0 ≤ n
    · obtain ⟨m, rfl⟩ := Int.eq_ofNat_of_zero_le h
      rw [if_pos h, Int.toNat_natCast]
      by_cases hf : 31 < m
      · rw [powT_far h2 hf]
        exact rpow_far a b m w hg ha hb ha2 hb2 hne (by omega)
      · by_cases h0 : m = 0
        · subst h0
          have : powT a b 0 = (1, 1, 0) := by simp [powT]
          rw [this]
          exact rpow_nought a b w hg ha hb ha2 hb2
        · exact rpow_pos a b m w hg ha hb ha2 hb2 (by omega) (by omega) hne
    · rw [if_neg h]
      by_cases hf : 31 < n.natAbs
      · rw [powT_far (by omega) hf]
        exact rpow_far a b n w hg ha hb ha2 hb2 hne (by omega)
      · have e : n = -((n.natAbs : Nat) : Int) := by omega
        have := rpow_neg a b n.natAbs w hg ha hb ha2 hb2 hne (by omega) (by omega)
        rw [← e] at this
        exact this
end Go.Proofs.YtlfapncbkgpclaaDoor
