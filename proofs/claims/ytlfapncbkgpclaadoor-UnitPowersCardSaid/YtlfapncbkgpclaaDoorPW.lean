/- UnitPowers returns true for every dimension and two small integers, if awake does. -/
import Derived.Test.YtlfapncbkgpclaaDoorAR
namespace Go.Proofs.YtlfapncbkgpclaaDoor
open Go.RowKit
theorem eOf_ok (r : D7) : eOf (okV r) = 0 := rfl
theorem eOf_err (n : Int) : eOf (errV n) = n := rfl
theorem dOf_ok (r : D7) : dOf (okV r) = r := rfl
/-- a power that is valid -/
theorem pow_zero_err {a : D7} {n : Int} (h : eOf (powV a n) = 0) : a.ok = true ∧ (a.mul n).ok = true ∧ dOf (powV a n) = a.mul n := by
  unfold powV at h ⊢
  cases ha : a.ok
  · rw [ha, if_neg (by simp), eOf_err] at h
    exact absurd h (by decide)
  · simp only [ha, if_true] at h ⊢
    cases hz : D7.beq a D7.zero
    · simp only [hz, Bool.false_eq_true, if_false] at h ⊢
      by_cases hn : n < -100 ∨ 100 < n
      · rw [if_pos hn, eOf_err] at h
        exact absurd h (by decide)
      · rw [if_neg hn] at h ⊢
        cases hr : (a.mul n).ok
        · unfold chk at h
          rw [hr, if_neg (by simp), eOf_err] at h
          exact absurd h (by decide)
        · unfold chk
          rw [hr, if_pos rfl]
          exact ⟨trivial, rfl, rfl⟩
    · simp only [if_true]
      have e := zero_of a hz
      subst e
      rw [mul_zero_dim]
      exact ⟨trivial, ha, rfl⟩
theorem mul_add (a : D7) (m n : Int) : (a.mul m).add (a.mul n) = a.mul (m + n) := by
  simp [D7.mul, D7.add, Int.mul_add]
theorem powers {a : D7} {m n : Int} (h1 : eOf (powV a m) = 0) (h2 : eOf (powV a n) = 0) (h3 : eOf (powV a (m + n)) = 0) :
    twoE (dOf (powV a m)) (dOf (powV a n)) ((dOf (powV a m)).add (dOf (powV a n))) = 0 ∧ twoD (dOf (powV a m)) (dOf (powV a n)) ((dOf (powV a m)).add (dOf (powV a n))) = dOf (powV a (m + n)) := by
  obtain ⟨_, a1, e1⟩ := pow_zero_err h1
  obtain ⟨_, a2, e2⟩ := pow_zero_err h2
  obtain ⟨_, a3, e3⟩ := pow_zero_err h3
  rw [e1, e2, e3, mul_add]
  obtain ⟨x, y⟩ := two_ok a1 a2 a3
  exact ⟨y, x⟩

set_option maxRecDepth 100000 in
set_option maxHeartbeats 4000000 in
theorem powers_walk (a : D7) (m n : Int) (w : World) (haw : Awake w) (m1 : -128 ≤ m) (m2 : m ≤ 127) (n1 : -128 ≤ n) (n2 : n ≤ 127) : Calls Tryd.prog 4 #[a.v, .int .i8 m, .int .i8 n] w fun e w' => e = .returned (.bool true) ∧ Below w.heap.size w w' := by
  have heq := eq_dim
  have hself := beq_self
  go_enter Tryd.func4, Tryd.ntmps4
  go_wp2_with fail
  refine (haw _ (((Below.refl _ _).alloc (Nat.le_refl _) _))).mono ?_
  rintro e w1 ⟨rfl, hb⟩
  clear haw
  have H0 := Lib.hid (below1 hb)
  have Ka := Lib.hid (keep hb (Blk.new w 23 a.c))
  clear hb
  have ca := fun o => Ka.out.cell o
  have la := Ka.out.lt
  go_wp2_with fail
  refine (pow_any a m _).mono ?_
  rintro e w2 ⟨rfl, hb⟩
  rw [parts_pow]
  generalize hR : dOf (powV a m) = R
  generalize hE : eOf (powV a m) = E
  have HR := Lib.hid hR
  have HE := Lib.hid hE
  clear hR hE
  have Na := Lib.hid (keep hb (Ka.out))
  have N0 := Lib.hid (H0.out.trans (hb.mono H0.out.size))
  clear hb H0 Ka ca la
  have H0 := N0
  have Ka := Na
  clear N0 Na
  have ca := fun o => Ka.out.cell o
  have la := Ka.out.lt
  go_wp2_with fail
  refine (pow_any a n _).mono ?_
  rintro e w3 ⟨rfl, hb⟩
  rw [parts_pow]
  generalize hS : dOf (powV a n) = S
  generalize hF : eOf (powV a n) = F
  have HS := Lib.hid hS
  have HF := Lib.hid hF
  clear hS hF
  have Na := Lib.hid (keep hb (Ka.out.alloc _))
  have Nr := Lib.hid (keep hb (Blk.new _ 23 (D7.c R)))
  have N0 := Lib.hid (H0.out.trans (((Below.refl _ _).alloc H0.out.size _).trans (hb.mono (by have := H0.out.size; simp; omega))))
  clear hb H0 Ka ca la
  have H0 := N0
  have Ka := Na
  have Kr := Nr
  clear N0 Na Nr
  have ca := fun o => Ka.out.cell o
  have la := Ka.out.lt
  have cr := fun o => Kr.out.cell o
  have lr := Kr.out.lt
  go_wp2_with fail
  refine (pow_any a (m + n) _).mono ?_
  rintro e w4 ⟨rfl, hb⟩
  rw [parts_pow]
  generalize hT : dOf (powV a (m + n)) = T
  generalize hG : eOf (powV a (m + n)) = G
  have HT := Lib.hid hT
  have HG := Lib.hid hG
  clear hT hG
  have Na := Lib.hid (keep hb (Ka.out.alloc _))
  have Nr := Lib.hid (keep hb (Kr.out.alloc _))
  have Ns := Lib.hid (keep hb (Blk.new _ 23 (D7.c S)))
  have N0 := Lib.hid (H0.out.trans (((Below.refl _ _).alloc H0.out.size _).trans (hb.mono (by have := H0.out.size; simp; omega))))
  clear hb H0 Ka ca la Kr cr lr
  have H0 := N0
  have Ka := Na
  have Kr := Nr
  have Ks := Ns
  clear N0 Na Nr Ns
  have ca := fun o => Ka.out.cell o
  have la := Ka.out.lt
  have cr := fun o => Kr.out.cell o
  have lr := Kr.out.lt
  have cs := fun o => Ks.out.cell o
  have ls := Ks.out.lt
  by_cases h0 : E = 0 ∧ F = 0 ∧ G = 0
  · obtain ⟨h1, h2, h3⟩ := h0
    have HP := Lib.hid (powers (HE.out.trans h1) (HF.out.trans h2) (HG.out.trans h3))
    rw [HR.out, HS.out, HT.out] at HP
    subst h1 h2 h3
    go_wp2_with fail
    refine (mul_any R S _).mono ?_
    rintro e w5 ⟨rfl, hb⟩
    rw [HP.out.1, HP.out.2]
    have Na := Lib.hid (keep hb (Ka.out.alloc _))
    have Nr := Lib.hid (keep hb (Kr.out.alloc _))
    have Ns := Lib.hid (keep hb (Ks.out.alloc _))
    have Nt := Lib.hid (keep hb (Blk.new _ 23 (D7.c T)))
    have N0 := Lib.hid (H0.out.trans (((Below.refl _ _).alloc H0.out.size _).trans (hb.mono (by have := H0.out.size; simp; omega))))
    clear hb H0 Ka ca la Kr cr lr Ks cs ls
    have H0 := N0
    have Ka := Na
    have Kr := Nr
    have Ks := Ns
    have Kt := Nt
    clear N0 Na Nr Ns Nt
    have ca := fun o => Ka.out.cell o
    have la := Ka.out.lt
    have cr := fun o => Kr.out.cell o
    have lr := Kr.out.lt
    have cs := fun o => Ks.out.cell o
    have ls := Ks.out.lt
    have ct := fun o => Kt.out.cell o
    have lt := Kt.out.lt
    go_wp2_with fail
    go_ret; exact ⟨rfl, by repeat' (first | (with_reducible exact H0.out) | (with_reducible refine Below.alloc ?_ ?_ _) | (have := H0.out.size; go_size))⟩
  · by_cases hE : E = 0
    · by_cases hF : F = 0
      · have hG : ¬ G = 0 := fun h => h0 ⟨hE, hF, h⟩
        have h1 : (E != 0) = false := by simpa using hE
        have h2 : (F != 0) = false := by simpa using hF
        have h3 : (G != 0) = true := by simpa using hG
        clear h0 hE hF hG
        go_wp2_with fail
        go_ret; exact ⟨rfl, by repeat' (first | (with_reducible exact H0.out) | (with_reducible refine Below.alloc ?_ ?_ _) | (have := H0.out.size; go_size))⟩
      · have h1 : (E != 0) = false := by simpa using hE
        have h2 : (F != 0) = true := by simpa using hF
        clear h0 hE hF
        go_wp2_with fail
        go_ret; exact ⟨rfl, by repeat' (first | (with_reducible exact H0.out) | (with_reducible refine Below.alloc ?_ ?_ _) | (have := H0.out.size; go_size))⟩
    · have h1 : (E != 0) = true := by simpa using hE
      clear h0 hE
      go_wp2_with fail
      go_ret; exact ⟨rfl, by repeat' (first | (with_reducible exact H0.out) | (with_reducible refine Below.alloc ?_ ?_ _) | (have := H0.out.size; go_size))⟩
end Go.Proofs.YtlfapncbkgpclaaDoor
