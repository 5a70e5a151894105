/- Pow of rational numbers that are greater than 0, with exponents from -100 to 100. -/
import Derived.Test.YtlfapncbkgpclaaDoorQ4
namespace Go.Proofs.YtlfapncbkgpclaaDoor
open Go.RowKit
theorem bit_of (m k : Nat) (hm : m ≤ 100) : bits BinOp.and IntKind.u64 ((m : Int) / 2 ^ k) 1 = ((m / 2 ^ k % 2 : Nat) : Int) := by
  have e : ((m : Int) / 2 ^ k) = ((m / 2 ^ k : Nat) : Int) := by rw [Int.natCast_ediv, Int.natCast_pow]; rfl
  have h1 : m / 2 ^ k ≤ m := Nat.div_le_self _ _
  rw [e]
  clear e
  generalize m / 2 ^ k = q at *
  rw [and_one_u64 _ (by omega) (by omega)]
  rfl
set_option maxRecDepth 100000 in
set_option maxHeartbeats 1000000 in
theorem qpow_pos (a b : Nat) (m : Nat) (w : World) (hg : Nat.gcd a b = 1) (ha : 1 ≤ a) (hb : 1 ≤ b) (ha2 : a ≤ 2147483647) (hb2 : b ≤ 2147483647) (hm : m ≤ 100) : Calls Tryd.prog 45 #[ratV a b, .int .i64 m] w fun e w' => e = .returned (q3V (powT a b m)) ∧ Below w.heap.size w w' := by
  have HV := Lib.hid (val_cop hg hb ha2 hb2)
  have HG := Lib.hid hg
  clear hg
  have a0 : ((a : Int) == 0) = false := by simp; omega
  have HL : Hid (m < 2 ^ Lib.bitLen m ∧ Lib.bitLen m ≤ 7) := bl_lt ⟨m, by omega⟩
  go_enter Tryd.func45, Tryd.ntmps45
  go_wp2_with fail
  refine (qvalid_any a b _).mono ?_
  rintro e w' ⟨rfl, k, rfl⟩
  rw [HV.out]
  go_wp2_with fail
  refine (mag_any m _ (by omega) (by omega)).mono ?_
  rintro e w' ⟨rfl, rfl⟩
  rw [Int.natAbs_natCast]
  go_wp2_with fail
  refine (Tryd.bits_Len64 m _ (by omega) (by omega)).mono ?_
  rintro e w' ⟨rfl, rfl⟩
  rw [Int.toNat_natCast]
  generalize Lib.bitLen m = L at HL
  have hL := HL.out.2
  go_wp2_with fail
  go_loopw [8, 9] (fun i _ wr => ∃ k : Nat, k ≤ 7 ∧ i = .int .i64 ((k : Int) - 1) ∧ Blk wr w.heap.size 51 (ratC a b) ∧ Blk wr (w.heap.size + 1) 51 zrat ∧ Blk wr (w.heap.size + 1 + 1 + 1) 51 (ratC ((a ^ (m / 2 ^ k) : Nat) : Int) ((b ^ (m / 2 ^ k) : Nat) : Int)) ∧ Below w.heap.size w wr ∧ a ^ (m / 2 ^ k) ≤ 2147483647 ∧ b ^ (m / 2 ^ k) ≤ 2147483647) (fun i _ _ => (intOf i + 1).toNat)
  case atStart =>
    have e0 : m / 2 ^ L = 0 := Nat.div_eq_of_lt HL.out.1
    refine ⟨L, hL, rfl, ?_, ?_, ?_, ?_, by rw [e0, Nat.pow_zero]; omega, by rw [e0, Nat.pow_zero]; omega⟩
    · exact ((((Blk.new w 51 (ratC a b)).alloc _).alloc _).drewN _).alloc _
    · have := Blk.new (w.alloc (.cells (ratC a b) 51)) 51 zrat
      rw [World.size_alloc] at this
      exact ((this.alloc _).drewN _).alloc _
    · rw [e0, Nat.pow_zero, Nat.pow_zero]
      have := Blk.new ((((w.alloc (.cells (ratC a b) 51)).alloc (.cells zrat 51)).alloc (.cells (ratC a b) 51)).drewN k) 51 (ratC 1 1)
      have e : ((((w.alloc (.cells (ratC a b) 51)).alloc (.cells zrat 51)).alloc (.cells (ratC a b) 51)).drewN k).heap.size = w.heap.size + 1 + 1 + 1 := by simp
      rw [e] at this
      exact this
    · repeat' (first | (with_reducible exact Below.refl _ _) | (with_reducible refine Below.alloc ?_ ?_ _) | (with_reducible refine Below.setCell ?_ ?_ _) | (with_reducible refine below_drewN ?_ _) | (with_reducible refine Below.drew ?_) | go_size)
  case round =>
    obtain ⟨k, hk, rfl, B0, B1, B2, hbel, hA, hB⟩ := hrel
    have c0 := fun i => B0.cell i
    have c1 := fun i => B1.cell i
    have f1 := fun i => B1.frozen i
    have c2 := fun i => B2.cell i
    have f2 := fun i => B2.frozen i
    have l0 := B0.lt
    have l1 := B1.lt
    have l2 := B2.lt
    cases k with
    | zero =>
      have HT : Hid (powT a b m = (((a ^ m : Nat) : Int), ((b ^ m : Nat) : Int), 0)) := by
        have e : m / 2 ^ 0 = m := by simp
        rw [e] at hA hB
        exact powT_ok hA hB
      have HE : Hid (m / 2 ^ 0 = m) := by show m / 2 ^ 0 = m; simp
      rw [HE.out] at c2
      generalize ((a ^ m : Nat) : Int) = u at c2 HT
      generalize ((b ^ m : Nat) : Int) = v at c2 HT
      clear B0 B1 B2 hA hB
      have H0 := Lib.hid hbel
      clear hbel
      go_wp2_with fail
      refine bodyPost_ret (v := q3V (u, v, 0)) (by simp [q3V, results, Tryd.results45, go_sem, c1]) rfl ⟨by rw [HT.out], by repeat' (first | (with_reducible exact H0.out) | (with_reducible refine Below.setCell ?_ ?_ _) | (with_reducible refine Below.alloc ?_ ?_ _) | (with_reducible refine below_drewN ?_ _) | (with_reducible refine Below.drew ?_) | go_size)⟩
    | succ k =>
      have hj := half_step m k
      have hjm : m / 2 ^ k ≤ m := Nat.div_le_self _ _
      generalize m / 2 ^ (k + 1) = j at *
      have hM := Lib.hid (mul_pow j j HG.out hb hA hB hA hB)
      have HJ := Lib.hid hj
      generalize hu : ((a ^ j : Nat) : Int) = u at *
      generalize hv : ((b ^ j : Nat) : Int) = v at *
      have HU := Lib.hid hu
      have HW := Lib.hid hv
      clear hu hv hj
      go_wp2_with fail
      refine (qmul_any u v u v _).mono ?_
      rintro e w2 ⟨rfl, hb2⟩
      rw [hM.out]
      have B0' := keep hb2 B0
      have B1' := keep hb2 B1
      have B2' := keep hb2 B2
      have hbel' := hbel.trans (hb2.mono hbel.size)
      clear c0 c1 f1 c2 f2 l0 l1 l2 B0 B1 B2 hbel hb2 hM
      have c0 := fun i => B0'.cell i
      have c1 := fun i => B1'.cell i
      have f1 := fun i => B1'.frozen i
      have c2 := fun i => B2'.cell i
      have f2 := fun i => B2'.frozen i
      have l0 := B0'.lt
      have l1 := B1'.lt
      have l2 := B2'.lt
      by_cases hfit : a ^ (j + j) ≤ 2147483647 ∧ b ^ (j + j) ≤ 2147483647
      · rw [powT_ok hfit.1 hfit.2]
        generalize hu2 : ((a ^ (j + j) : Nat) : Int) = u2
        generalize hv2 : ((b ^ (j + j) : Nat) : Int) = v2
        have HU2 := Lib.hid hu2
        have HV2 := Lib.hid hv2
        clear hu2 hv2
        have B0s := blk_far2 (.int .i64 u2) (.int .i64 v2) B0' (show w.heap.size ≠ w.heap.size + 1 + 1 + 1 by omega)
        have B1s := blk_far2 (.int .i64 u2) (.int .i64 v2) B1' (show w.heap.size + 1 ≠ w.heap.size + 1 + 1 + 1 by omega)
        have B2s := blk_set2 (u := .int .i64 u2) (v := .int .i64 v2) B2'
        have hbels : Below w.heap.size w ((w2.setCell ⟨w.heap.size + 1 + 1 + 1, 0, none⟩ (.int .i64 u2)).setCell ⟨w.heap.size + 1 + 1 + 1, 1, none⟩ (.int .i64 v2)) := (hbel'.setCell (by simp; omega) _).setCell (by simp; omega) _
        unfold q3V
        by_cases hbit : m / 2 ^ k % 2 = 0
        · have hand : (bits BinOp.and IntKind.u64 ((m : Int) / 2 ^ k) 1 == 0) = true := by rw [bit_of m k hm, hbit]; rfl
          have hj2 : m / 2 ^ k = j + j := by have := HJ.out; omega
          clear hbit
          have HS := Lib.hid hj2
          clear hj2
          go_wp2_with fail
          go_roundw
          case rel => exact ⟨k, by omega, rfl, B0s, B1s, by rw [HS.out, HU2.out, HV2.out]; exact B2s, hbels, by rw [HS.out]; exact hfit.1, by rw [HS.out]; exact hfit.2⟩
          case measure => first | (simp [intOf]; done) | (simp [intOf]; omega)
        · have hand : (bits BinOp.and IntKind.u64 ((m : Int) / 2 ^ k) 1 == 0) = false := by rw [bit_of m k hm, show m / 2 ^ k % 2 = 1 by omega]; rfl
          have hj2 : m / 2 ^ k = j + j + 1 := by have := HJ.out; omega
          have HS := Lib.hid hj2
          have a1 : a ^ 1 ≤ 2147483647 := by rw [Nat.pow_one]; exact ha2
          have b1 : b ^ 1 ≤ 2147483647 := by rw [Nat.pow_one]; exact hb2
          have hM := Lib.hid (mul_pow (j + j) 1 HG.out hb hfit.1 hfit.2 a1 b1)
          rw [HU2.out, HV2.out, Nat.pow_one, Nat.pow_one] at hM
          clear hbit hj2 a1 b1
          have HFIT := Lib.hid hfit
          clear hfit
          go_wp2_with fail
          refine (qmul_any u2 v2 a b _).mono ?_
          rintro e w3 ⟨rfl, hb3⟩
          rw [hM.out]
          have B0t := keep hb3 B0s
          have B1t := keep hb3 B1s
          have B2t := keep hb3 B2s
          have hbelt := hbels.trans (hb3.mono hbels.size)
          clear c0 c1 f1 c2 f2 l0 l1 l2 B0s B1s B2s hbels B0' B1' B2' hbel' hb3 hM
          have c0 := fun i => B0t.cell i
          have c1 := fun i => B1t.cell i
          have f1 := fun i => B1t.frozen i
          have c2 := fun i => B2t.cell i
          have f2 := fun i => B2t.frozen i
          have l0 := B0t.lt
          have l1 := B1t.lt
          have l2 := B2t.lt
          by_cases hfit : a ^ (j + j + 1) ≤ 2147483647 ∧ b ^ (j + j + 1) ≤ 2147483647
          · rw [powT_ok hfit.1 hfit.2]
            generalize hu3 : ((a ^ (j + j + 1) : Nat) : Int) = u3
            generalize hv3 : ((b ^ (j + j + 1) : Nat) : Int) = v3
            have HU3 := Lib.hid hu3
            have HV3 := Lib.hid hv3
            clear hu3 hv3
            have B0x := blk_far2 (.int .i64 u3) (.int .i64 v3) B0t (show w.heap.size ≠ w.heap.size + 1 + 1 + 1 by omega)
            have B1x := blk_far2 (.int .i64 u3) (.int .i64 v3) B1t (show w.heap.size + 1 ≠ w.heap.size + 1 + 1 + 1 by omega)
            have B2x := blk_set2 (u := .int .i64 u3) (v := .int .i64 v3) B2t
            have hbelx : Below w.heap.size w ((w3.setCell ⟨w.heap.size + 1 + 1 + 1, 0, none⟩ (.int .i64 u3)).setCell ⟨w.heap.size + 1 + 1 + 1, 1, none⟩ (.int .i64 v3)) := (hbelt.setCell (by simp; omega) _).setCell (by simp; omega) _
            have HFIT3 := Lib.hid hfit
            clear hfit
            unfold q3V
            go_wp2_with fail
            go_roundw
            case rel => exact ⟨k, by omega, rfl, B0x, B1x, by rw [HS.out, HU3.out, HV3.out]; exact B2x, hbelx, by rw [HS.out]; exact HFIT3.out.1, by rw [HS.out]; exact HFIT3.out.2⟩
            case measure => first | (simp [intOf]; done) | (simp [intOf]; omega)
          · rw [powT_no hfit]
            have HT := Lib.hid (powT_mono ha hb (show j + j + 1 ≤ m by have := HS.out; omega) hfit)
            have H0 := Lib.hid hbelt
            clear hbelt hfit
            unfold q3V
            go_wp2_with fail
            refine bodyPost_ret (v := q3V (0, 0, 2)) (by simp [q3V, results, Tryd.results45, go_sem, c1]) rfl ⟨by rw [HT.out], by repeat' (first | (with_reducible exact H0.out) | (with_reducible refine Below.setCell ?_ ?_ _) | (with_reducible refine Below.alloc ?_ ?_ _) | (with_reducible refine below_drewN ?_ _) | (with_reducible refine Below.drew ?_) | go_size)⟩
      · rw [powT_no hfit]
        have HT := Lib.hid (powT_mono ha hb (show j + j ≤ m by have := HJ.out; omega) hfit)
        have H0 := Lib.hid hbel'
        clear hbel' hfit
        unfold q3V
        go_wp2_with fail
        refine bodyPost_ret (v := q3V (0, 0, 2)) (by simp [q3V, results, Tryd.results45, go_sem, c1]) rfl ⟨by rw [HT.out], by repeat' (first | (with_reducible exact H0.out) | (with_reducible refine Below.setCell ?_ ?_ _) | (with_reducible refine Below.alloc ?_ ?_ _) | (with_reducible refine below_drewN ?_ _) | (with_reducible refine Below.drew ?_) | go_size)⟩
set_option maxRecDepth 100000 in
set_option maxHeartbeats 1000000 in
theorem qpow_neg (a b : Nat) (m : Nat) (w : World) (hg : Nat.gcd a b = 1) (ha : 1 ≤ a) (hb : 1 ≤ b) (ha2 : a ≤ 2147483647) (hb2 : b ≤ 2147483647) (hm : m ≤ 100) (hm1 : 1 ≤ m) : Calls Tryd.prog 45 #[ratV a b, .int .i64 (-(m : Int))] w fun e w' => e = .returned (q3V (powT b a m)) ∧ Below w.heap.size w w' := by
  have HV := Lib.hid (val_cop hg hb ha2 hb2)
  have HG := Lib.hid hg
  clear hg
  have a0 : ((a : Int) == 0) = false := by simp; omega
  have HL : Hid (m < 2 ^ Lib.bitLen m ∧ Lib.bitLen m ≤ 7) := bl_lt ⟨m, by omega⟩
  go_enter Tryd.func45, Tryd.ntmps45
  go_wp2_with fail
  refine (qvalid_any a b _).mono ?_
  rintro e w' ⟨rfl, k, rfl⟩
  rw [HV.out]
  go_wp2_with fail
  refine (mag_any (-(m : Int)) _ (by omega) (by omega)).mono ?_
  rintro e w' ⟨rfl, rfl⟩
  rw [Int.natAbs_neg, Int.natAbs_natCast]
  go_wp2_with fail
  refine (Tryd.bits_Len64 m _ (by omega) (by omega)).mono ?_
  rintro e w' ⟨rfl, rfl⟩
  rw [Int.toNat_natCast]
  generalize Lib.bitLen m = L at HL
  have hL := HL.out.2
  go_wp2_with fail
  go_loopw [8, 9] (fun i _ wr => ∃ k : Nat, k ≤ 7 ∧ i = .int .i64 ((k : Int) - 1) ∧ Blk wr w.heap.size 51 (ratC a b) ∧ Blk wr (w.heap.size + 1) 51 zrat ∧ Blk wr (w.heap.size + 1 + 1 + 1) 51 (ratC ((a ^ (m / 2 ^ k) : Nat) : Int) ((b ^ (m / 2 ^ k) : Nat) : Int)) ∧ Below w.heap.size w wr ∧ a ^ (m / 2 ^ k) ≤ 2147483647 ∧ b ^ (m / 2 ^ k) ≤ 2147483647) (fun i _ _ => (intOf i + 1).toNat)
  case atStart =>
    have e0 : m / 2 ^ L = 0 := Nat.div_eq_of_lt HL.out.1
    refine ⟨L, hL, rfl, ?_, ?_, ?_, ?_, by rw [e0, Nat.pow_zero]; omega, by rw [e0, Nat.pow_zero]; omega⟩
    · exact ((((Blk.new w 51 (ratC a b)).alloc _).alloc _).drewN _).alloc _
    · have := Blk.new (w.alloc (.cells (ratC a b) 51)) 51 zrat
      rw [World.size_alloc] at this
      exact ((this.alloc _).drewN _).alloc _
    · rw [e0, Nat.pow_zero, Nat.pow_zero]
      have := Blk.new ((((w.alloc (.cells (ratC a b) 51)).alloc (.cells zrat 51)).alloc (.cells (ratC a b) 51)).drewN k) 51 (ratC 1 1)
      have e : ((((w.alloc (.cells (ratC a b) 51)).alloc (.cells zrat 51)).alloc (.cells (ratC a b) 51)).drewN k).heap.size = w.heap.size + 1 + 1 + 1 := by simp
      rw [e] at this
      exact this
    · repeat' (first | (with_reducible exact Below.refl _ _) | (with_reducible refine Below.alloc ?_ ?_ _) | (with_reducible refine Below.setCell ?_ ?_ _) | (with_reducible refine below_drewN ?_ _) | (with_reducible refine Below.drew ?_) | go_size)
  case round =>
    obtain ⟨k, hk, rfl, B0, B1, B2, hbel, hA, hB⟩ := hrel
    have c0 := fun i => B0.cell i
    have c1 := fun i => B1.cell i
    have f1 := fun i => B1.frozen i
    have c2 := fun i => B2.cell i
    have f2 := fun i => B2.frozen i
    have l0 := B0.lt
    have l1 := B1.lt
    have l2 := B2.lt
    cases k with
    | zero =>
      have HE : Hid (m / 2 ^ 0 = m) := by show m / 2 ^ 0 = m; simp
      rw [HE.out] at c2 hA hB
      have HM : Hid (makeQ ((b ^ m : Nat) : Int) ((a ^ m : Nat) : Int) = powT b a m) := make_cop (by rw [Nat.gcd_comm]; exact cop_pow HG.out m m) (pow_pos' ha m)
      have hA1 := pow_pos' ha m
      have hB1 := pow_pos' hb m
      generalize (a ^ m) = u at c2 HM hA hA1
      generalize (b ^ m) = v at c2 HM hB hB1
      generalize hr : powT b a m = r at HM
      have HR := Lib.hid hr
      clear hr
      have H0 := Lib.hid hbel
      go_wp2_with fail
      refine (make_any v u _ (by omega) (by omega) (by omega) (by omega)).mono ?_
      rintro e w2 ⟨rfl, hb2⟩
      rw [HM.out]
      have B1' := keep hb2 B1
      have hbel' := hbel.trans (hb2.mono hbel.size)
      clear c0 c1 f1 c2 f2 l0 l1 l2 B0 B1 B2 hbel hb2 H0
      have c1 := fun i => B1'.cell i
      have f1 := fun i => B1'.frozen i
      have l1 := B1'.lt
      have H0 := Lib.hid hbel'
      clear hbel'
      unfold q3V
      go_wp2_with fail
      refine bodyPost_ret (v := q3V r) (by simp [q3V, results, Tryd.results45, go_sem, c1]) rfl ⟨by rw [HR.out], by repeat' (first | (with_reducible exact H0.out) | (with_reducible refine Below.setCell ?_ ?_ _) | (with_reducible refine Below.alloc ?_ ?_ _) | (with_reducible refine below_drewN ?_ _) | (with_reducible refine Below.drew ?_) | go_size)⟩
    | succ k =>
      have hj := half_step m k
      have hjm : m / 2 ^ k ≤ m := Nat.div_le_self _ _
      generalize m / 2 ^ (k + 1) = j at *
      have hM := Lib.hid (mul_pow j j HG.out hb hA hB hA hB)
      have HJ := Lib.hid hj
      generalize hu : ((a ^ j : Nat) : Int) = u at *
      generalize hv : ((b ^ j : Nat) : Int) = v at *
      have HU := Lib.hid hu
      have HW := Lib.hid hv
      clear hu hv hj
      go_wp2_with fail
      refine (qmul_any u v u v _).mono ?_
      rintro e w2 ⟨rfl, hb2⟩
      rw [hM.out]
      have B0' := keep hb2 B0
      have B1' := keep hb2 B1
      have B2' := keep hb2 B2
      have hbel' := hbel.trans (hb2.mono hbel.size)
      clear c0 c1 f1 c2 f2 l0 l1 l2 B0 B1 B2 hbel hb2 hM
      have c0 := fun i => B0'.cell i
      have c1 := fun i => B1'.cell i
      have f1 := fun i => B1'.frozen i
      have c2 := fun i => B2'.cell i
      have f2 := fun i => B2'.frozen i
      have l0 := B0'.lt
      have l1 := B1'.lt
      have l2 := B2'.lt
      by_cases hfit : a ^ (j + j) ≤ 2147483647 ∧ b ^ (j + j) ≤ 2147483647
      · rw [powT_ok hfit.1 hfit.2]
        generalize hu2 : ((a ^ (j + j) : Nat) : Int) = u2
        generalize hv2 : ((b ^ (j + j) : Nat) : Int) = v2
        have HU2 := Lib.hid hu2
        have HV2 := Lib.hid hv2
        clear hu2 hv2
        have B0s := blk_far2 (.int .i64 u2) (.int .i64 v2) B0' (show w.heap.size ≠ w.heap.size + 1 + 1 + 1 by omega)
        have B1s := blk_far2 (.int .i64 u2) (.int .i64 v2) B1' (show w.heap.size + 1 ≠ w.heap.size + 1 + 1 + 1 by omega)
        have B2s := blk_set2 (u := .int .i64 u2) (v := .int .i64 v2) B2'
        have hbels : Below w.heap.size w ((w2.setCell ⟨w.heap.size + 1 + 1 + 1, 0, none⟩ (.int .i64 u2)).setCell ⟨w.heap.size + 1 + 1 + 1, 1, none⟩ (.int .i64 v2)) := (hbel'.setCell (by simp; omega) _).setCell (by simp; omega) _
        unfold q3V
        by_cases hbit : m / 2 ^ k % 2 = 0
        · have hand : (bits BinOp.and IntKind.u64 ((m : Int) / 2 ^ k) 1 == 0) = true := by rw [bit_of m k hm, hbit]; rfl
          have hj2 : m / 2 ^ k = j + j := by have := HJ.out; omega
          clear hbit
          have HS := Lib.hid hj2
          clear hj2
          go_wp2_with fail
          go_roundw
          case rel => exact ⟨k, by omega, rfl, B0s, B1s, by rw [HS.out, HU2.out, HV2.out]; exact B2s, hbels, by rw [HS.out]; exact hfit.1, by rw [HS.out]; exact hfit.2⟩
          case measure => first | (simp [intOf]; done) | (simp [intOf]; omega)
        · have hand : (bits BinOp.and IntKind.u64 ((m : Int) / 2 ^ k) 1 == 0) = false := by rw [bit_of m k hm, show m / 2 ^ k % 2 = 1 by omega]; rfl
          have hj2 : m / 2 ^ k = j + j + 1 := by have := HJ.out; omega
          have HS := Lib.hid hj2
          have a1 : a ^ 1 ≤ 2147483647 := by rw [Nat.pow_one]; exact ha2
          have b1 : b ^ 1 ≤ 2147483647 := by rw [Nat.pow_one]; exact hb2
          have hM := Lib.hid (mul_pow (j + j) 1 HG.out hb hfit.1 hfit.2 a1 b1)
          rw [HU2.out, HV2.out, Nat.pow_one, Nat.pow_one] at hM
          clear hbit hj2 a1 b1
          have HFIT := Lib.hid hfit
          clear hfit
          go_wp2_with fail
          refine (qmul_any u2 v2 a b _).mono ?_
          rintro e w3 ⟨rfl, hb3⟩
          rw [hM.out]
          have B0t := keep hb3 B0s
          have B1t := keep hb3 B1s
          have B2t := keep hb3 B2s
          have hbelt := hbels.trans (hb3.mono hbels.size)
          clear c0 c1 f1 c2 f2 l0 l1 l2 B0s B1s B2s hbels B0' B1' B2' hbel' hb3 hM
          have c0 := fun i => B0t.cell i
          have c1 := fun i => B1t.cell i
          have f1 := fun i => B1t.frozen i
          have c2 := fun i => B2t.cell i
          have f2 := fun i => B2t.frozen i
          have l0 := B0t.lt
          have l1 := B1t.lt
          have l2 := B2t.lt
          by_cases hfit : a ^ (j + j + 1) ≤ 2147483647 ∧ b ^ (j + j + 1) ≤ 2147483647
          · rw [powT_ok hfit.1 hfit.2]
            generalize hu3 : ((a ^ (j + j + 1) : Nat) : Int) = u3
            generalize hv3 : ((b ^ (j + j + 1) : Nat) : Int) = v3
            have HU3 := Lib.hid hu3
            have HV3 := Lib.hid hv3
            clear hu3 hv3
            have B0x := blk_far2 (.int .i64 u3) (.int .i64 v3) B0t (show w.heap.size ≠ w.heap.size + 1 + 1 + 1 by omega)
            have B1x := blk_far2 (.int .i64 u3) (.int .i64 v3) B1t (show w.heap.size + 1 ≠ w.heap.size + 1 + 1 + 1 by omega)
            have B2x := blk_set2 (u := .int .i64 u3) (v := .int .i64 v3) B2t
            have hbelx : Below w.heap.size w ((w3.setCell ⟨w.heap.size + 1 + 1 + 1, 0, none⟩ (.int .i64 u3)).setCell ⟨w.heap.size + 1 + 1 + 1, 1, none⟩ (.int .i64 v3)) := (hbelt.setCell (by simp; omega) _).setCell (by simp; omega) _
            have HFIT3 := Lib.hid hfit
            clear hfit
            unfold q3V
            go_wp2_with fail
            go_roundw
            case rel => exact ⟨k, by omega, rfl, B0x, B1x, by rw [HS.out, HU3.out, HV3.out]; exact B2x, hbelx, by rw [HS.out]; exact HFIT3.out.1, by rw [HS.out]; exact HFIT3.out.2⟩
            case measure => first | (simp [intOf]; done) | (simp [intOf]; omega)
          · rw [powT_no hfit]
            have HT := Lib.hid (powT_mono hb ha (show j + j + 1 ≤ m by have := HS.out; omega) (fun h => hfit ⟨h.2, h.1⟩))
            have H0 := Lib.hid hbelt
            clear hbelt hfit
            unfold q3V
            go_wp2_with fail
            refine bodyPost_ret (v := q3V (0, 0, 2)) (by simp [q3V, results, Tryd.results45, go_sem, c1]) rfl ⟨by rw [HT.out], by repeat' (first | (with_reducible exact H0.out) | (with_reducible refine Below.setCell ?_ ?_ _) | (with_reducible refine Below.alloc ?_ ?_ _) | (with_reducible refine below_drewN ?_ _) | (with_reducible refine Below.drew ?_) | go_size)⟩
      · rw [powT_no hfit]
        have HT := Lib.hid (powT_mono hb ha (show j + j ≤ m by have := HJ.out; omega) (fun h => hfit ⟨h.2, h.1⟩))
        have H0 := Lib.hid hbel'
        clear hbel' hfit
        unfold q3V
        go_wp2_with fail
        refine bodyPost_ret (v := q3V (0, 0, 2)) (by simp [q3V, results, Tryd.results45, go_sem, c1]) rfl ⟨by rw [HT.out], by repeat' (first | (with_reducible exact H0.out) | (with_reducible refine Below.setCell ?_ ?_ _) | (with_reducible refine Below.alloc ?_ ?_ _) | (with_reducible refine below_drewN ?_ _) | (with_reducible refine Below.drew ?_) | go_size)⟩
end Go.Proofs.YtlfapncbkgpclaaDoor
