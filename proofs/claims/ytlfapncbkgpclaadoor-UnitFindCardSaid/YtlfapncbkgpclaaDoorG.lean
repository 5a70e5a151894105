/- UnitGroup returns true for every three dimensions, if awake does. -/
import Derived.Test.YtlfapncbkgpclaaDoorU4
namespace Go.Proofs.YtlfapncbkgpclaaDoor
open Go.RowKit
def Awake (w : World) : Prop := ∀ w' : World, Below w.heap.size w w' → Calls Tryd.prog 11 #[] w' fun e w'' => e = .returned (.bool true) ∧ Below w'.heap.size w' w''
theorem add_comm' (a b : D7) : b.add a = a.add b := by simp [D7.add, Int.add_comm]
theorem two_comm (a b : D7) : twoD b a (b.add a) = twoD a b (a.add b) ∧ twoE b a (b.add a) = twoE a b (a.add b) := by
  unfold twoD twoE
  rw [add_comm', Bool.and_comm]
  exact ⟨rfl, rfl⟩
theorem twoE_zero {a b r : D7} (h : twoE a b r = 0) : a.ok = true ∧ b.ok = true ∧ r.ok = true ∧ twoD a b r = r := by
  unfold twoE chkE at h
  unfold twoD chkD
  cases ha : a.ok <;> cases hb : b.ok <;> cases hr : r.ok <;> simp_all
theorem two_ok {a b r : D7} (ha : a.ok = true) (hb : b.ok = true) (hr : r.ok = true) : twoD a b r = r ∧ twoE a b r = 0 := by
  simp [twoD, twoE, chkD, chkE, ha, hb, hr]
theorem add_sub (a b : D7) : (a.add b).sub b = a := by
  cases a; cases b; simp [D7.add, D7.sub]
theorem back {a b : D7} (h : twoE a b (a.add b) = 0) : twoD (twoD a b (a.add b)) b ((twoD a b (a.add b)).sub b) = a ∧ twoE (twoD a b (a.add b)) b ((twoD a b (a.add b)).sub b) = 0 := by
  obtain ⟨h1, h2, h3, h4⟩ := twoE_zero h
  rw [h4, add_sub]
  exact two_ok h3 h2 h1
theorem assoc {a b c : D7} (h : twoE a b (a.add b) = 0) (g : twoE b c (b.add c) = 0) :
    twoD (twoD a b (a.add b)) c ((twoD a b (a.add b)).add c) = twoD a (twoD b c (b.add c)) (a.add (twoD b c (b.add c))) ∧
    twoE (twoD a b (a.add b)) c ((twoD a b (a.add b)).add c) = twoE a (twoD b c (b.add c)) (a.add (twoD b c (b.add c))) := by
  obtain ⟨h1, h2, h3, h4⟩ := twoE_zero h
  obtain ⟨g1, g2, g3, g4⟩ := twoE_zero g
  have e : (a.add b).add c = a.add (b.add c) := by simp [D7.add, Int.add_assoc]
  rw [h4, g4, e]
  simp [twoD, twoE, h1, h3, g2, g3]
theorem half_dbl (x : Int) : (x + x).tdiv 2 = x := by
  rw [show x + x = x * 2 by omega, Int.mul_tdiv_cancel _ (by decide)]
theorem even_dbl (x : Int) : (x + x).tmod 2 = 0 := by
  rw [show x + x = x * 2 by omega, Int.mul_tmod_left]
theorem square_root (a : D7) (h : twoE a a (a.add a) = 0) : rootR (twoD a a (a.add a)) = okV a := by
  obtain ⟨h1, h2, h3, h4⟩ := twoE_zero h
  rw [h4]
  have e1 : (a.add a).even = true := by simp [D7.even, D7.add, even_dbl]
  have e2 : (a.add a).half = a := by cases a; simp [D7.half, D7.add, half_dbl]
  simp [rootR, rootV, h3, e1, e2]

set_option maxRecDepth 100000 in
set_option maxHeartbeats 4000000 in
theorem group_walk (a b c : D7) (w : World) (haw : Awake w) : Calls Tryd.prog 3 #[a.v, b.v, c.v] w fun e w' => e = .returned (.bool true) ∧ Below w.heap.size w w' := by
  have heq := eq_dim
  have hself := beq_self
  go_enter Tryd.func3, Tryd.ntmps3
  go_wp2_with fail
  refine (haw _ (((((Below.refl _ _).alloc (Nat.le_refl _) _).alloc (by simp) _).alloc (by simp; omega) _))).mono ?_
  rintro e w1 ⟨rfl, hb⟩
  clear haw
  have H0 := Lib.hid (below3 hb)
  have Ka := Lib.hid (keep hb (((Blk.new w 23 a.c).alloc _).alloc _))
  have Kb := Lib.hid (keep hb ((Blk.new (w.alloc _) 23 b.c).alloc _))
  have Kc := Lib.hid (keep hb (Blk.new ((w.alloc _).alloc _) 23 c.c))
  rw [World.size_alloc] at Kb Kc
  rw [World.size_alloc] at Kc
  clear hb
  have ca := fun o => Ka.out.cell o
  have la := Ka.out.lt
  have cb := fun o => Kb.out.cell o
  have lb := Kb.out.lt
  have cc := fun o => Kc.out.cell o
  have lc := Kc.out.lt
  go_wp2_with fail
  refine (mul_any a b _).mono ?_
  rintro e w2 ⟨rfl, hb⟩
  generalize hR : twoD a b (a.add b) = R
  generalize hE : twoE a b (a.add b) = E
  have HR := Lib.hid hR
  have HE := Lib.hid hE
  clear hR hE
  have Na := Lib.hid (keep hb (Ka.out))
  have Nb := Lib.hid (keep hb (Kb.out))
  have Nc := Lib.hid (keep hb (Kc.out))
  have N0 := Lib.hid (H0.out.trans (hb.mono H0.out.size))
  clear hb H0 Ka ca la Kb cb lb Kc cc lc
  have H0 := N0
  have Ka := Na
  have Kb := Nb
  have Kc := Nc
  clear N0 Na Nb Nc
  have ca := fun o => Ka.out.cell o
  have la := Ka.out.lt
  have cb := fun o => Kb.out.cell o
  have lb := Kb.out.lt
  have cc := fun o => Kc.out.cell o
  have lc := Kc.out.lt
  go_wp2_with fail
  refine (mul_any b a _).mono ?_
  rintro e w3 ⟨rfl, hb⟩
  rw [(two_comm a b).1, (two_comm a b).2, HR.out, HE.out]
  have Na := Lib.hid (keep hb (Ka.out.alloc _))
  have Nb := Lib.hid (keep hb (Kb.out.alloc _))
  have Nc := Lib.hid (keep hb (Kc.out.alloc _))
  have Nr := Lib.hid (keep hb (Blk.new _ 23 (D7.c R)))
  have N0 := Lib.hid (H0.out.trans (((Below.refl _ _).alloc H0.out.size _).trans (hb.mono (by have := H0.out.size; simp; omega))))
  clear hb H0 Ka ca la Kb cb lb Kc cc lc
  have H0 := N0
  have Ka := Na
  have Kb := Nb
  have Kc := Nc
  have Kr := Nr
  clear N0 Na Nb Nc Nr
  have ca := fun o => Ka.out.cell o
  have la := Ka.out.lt
  have cb := fun o => Kb.out.cell o
  have lb := Kb.out.lt
  have cc := fun o => Kc.out.cell o
  have lc := Kc.out.lt
  have cr := fun o => Kr.out.cell o
  have lr := Kr.out.lt
  by_cases hE : E = 0
  · have HB := Lib.hid (back (HE.out.trans hE))
    have HE0 := Lib.hid (HE.out.trans hE)
    rw [HR.out] at HB
    subst hE
    go_wp2_with fail
    refine (div_any R b _).mono ?_
    rintro e w4 ⟨rfl, hb⟩
    rw [HB.out.1, HB.out.2]
    have Na := Lib.hid (keep hb (Ka.out.alloc _))
    have Nb := Lib.hid (keep hb (Kb.out.alloc _))
    have Nc := Lib.hid (keep hb (Kc.out.alloc _))
    have Nr := Lib.hid (keep hb (Kr.out.alloc _))
    have Nr2 := Lib.hid (keep hb (Blk.new _ 23 (D7.c R)))
    have N0 := Lib.hid (H0.out.trans (((Below.refl _ _).alloc H0.out.size _).trans (hb.mono (by have := H0.out.size; simp; omega))))
    clear hb H0 Ka ca la Kb cb lb Kc cc lc Kr cr lr
    have H0 := N0
    have Ka := Na
    have Kb := Nb
    have Kc := Nc
    have Kr := Nr
    have Kr2 := Nr2
    clear N0 Na Nb Nc Nr Nr2
    have ca := fun o => Ka.out.cell o
    have la := Ka.out.lt
    have cb := fun o => Kb.out.cell o
    have lb := Kb.out.lt
    have cc := fun o => Kc.out.cell o
    have lc := Kc.out.lt
    have cr := fun o => Kr.out.cell o
    have lr := Kr.out.lt
    have cr2 := fun o => Kr2.out.cell o
    have lr2 := Kr2.out.lt
    go_wp2_with fail
    refine (mul_any b c _).mono ?_
    rintro e w5 ⟨rfl, hb⟩
    generalize hS : twoD b c (b.add c) = S
    generalize hF : twoE b c (b.add c) = F
    have HS := Lib.hid hS
    have HF := Lib.hid hF
    clear hS hF
    have Na := Lib.hid (keep hb (Ka.out.alloc _))
    have Nb := Lib.hid (keep hb (Kb.out.alloc _))
    have Nc := Lib.hid (keep hb (Kc.out.alloc _))
    have Nr := Lib.hid (keep hb (Kr.out.alloc _))
    have Nr2 := Lib.hid (keep hb (Kr2.out.alloc _))
    have Nq := Lib.hid (keep hb (Blk.new _ 23 (D7.c a)))
    have N0 := Lib.hid (H0.out.trans (((Below.refl _ _).alloc H0.out.size _).trans (hb.mono (by have := H0.out.size; simp; omega))))
    clear hb H0 Ka ca la Kb cb lb Kc cc lc Kr cr lr Kr2 cr2 lr2
    have H0 := N0
    have Ka := Na
    have Kb := Nb
    have Kc := Nc
    have Kr := Nr
    have Kr2 := Nr2
    have Kq := Nq
    clear N0 Na Nb Nc Nr Nr2 Nq
    have ca := fun o => Ka.out.cell o
    have la := Ka.out.lt
    have cb := fun o => Kb.out.cell o
    have lb := Kb.out.lt
    have cc := fun o => Kc.out.cell o
    have lc := Kc.out.lt
    have cr := fun o => Kr.out.cell o
    have lr := Kr.out.lt
    have cr2 := fun o => Kr2.out.cell o
    have lr2 := Kr2.out.lt
    have cq := fun o => Kq.out.cell o
    have lq := Kq.out.lt
    go_wp2_with fail
    refine (mul_any R c _).mono ?_
    rintro e w6 ⟨rfl, hb⟩
    generalize hT : twoD R c (R.add c) = T
    generalize hG : twoE R c (R.add c) = G
    have HT := Lib.hid hT
    have HG := Lib.hid hG
    clear hT hG
    have Na := Lib.hid (keep hb (Ka.out.alloc _))
    have Nb := Lib.hid (keep hb (Kb.out.alloc _))
    have Nc := Lib.hid (keep hb (Kc.out.alloc _))
    have Nr := Lib.hid (keep hb (Kr.out.alloc _))
    have Nr2 := Lib.hid (keep hb (Kr2.out.alloc _))
    have Nq := Lib.hid (keep hb (Kq.out.alloc _))
    have Ns := Lib.hid (keep hb (Blk.new _ 23 (D7.c S)))
    have N0 := Lib.hid (H0.out.trans (((Below.refl _ _).alloc H0.out.size _).trans (hb.mono (by have := H0.out.size; simp; omega))))
    clear hb H0 Ka ca la Kb cb lb Kc cc lc Kr cr lr Kr2 cr2 lr2 Kq cq lq
    have H0 := N0
    have Ka := Na
    have Kb := Nb
    have Kc := Nc
    have Kr := Nr
    have Kr2 := Nr2
    have Kq := Nq
    have Ks := Ns
    clear N0 Na Nb Nc Nr Nr2 Nq Ns
    have ca := fun o => Ka.out.cell o
    have la := Ka.out.lt
    have cb := fun o => Kb.out.cell o
    have lb := Kb.out.lt
    have cc := fun o => Kc.out.cell o
    have lc := Kc.out.lt
    have cr := fun o => Kr.out.cell o
    have lr := Kr.out.lt
    have cr2 := fun o => Kr2.out.cell o
    have lr2 := Kr2.out.lt
    have cq := fun o => Kq.out.cell o
    have lq := Kq.out.lt
    have cs := fun o => Ks.out.cell o
    have ls := Ks.out.lt
    by_cases hF : F = 0
    · have HA := Lib.hid (assoc HE0.out (HF.out.trans hF))
      rw [HR.out, HS.out, HT.out, HG.out] at HA
      subst hF
      go_wp2_with fail
      refine (mul_any a S _).mono ?_
      rintro e w7 ⟨rfl, hb⟩
      rw [← HA.out.1, ← HA.out.2]
      have Na := Lib.hid (keep hb (Ka.out.alloc _))
      have Nb := Lib.hid (keep hb (Kb.out.alloc _))
      have Nc := Lib.hid (keep hb (Kc.out.alloc _))
      have Nr := Lib.hid (keep hb (Kr.out.alloc _))
      have Nr2 := Lib.hid (keep hb (Kr2.out.alloc _))
      have Nq := Lib.hid (keep hb (Kq.out.alloc _))
      have Ns := Lib.hid (keep hb (Ks.out.alloc _))
      have Nt := Lib.hid (keep hb (Blk.new _ 23 (D7.c T)))
      have N0 := Lib.hid (H0.out.trans (((Below.refl _ _).alloc H0.out.size _).trans (hb.mono (by have := H0.out.size; simp; omega))))
      clear hb H0 Ka ca la Kb cb lb Kc cc lc Kr cr lr Kr2 cr2 lr2 Kq cq lq Ks cs ls
      have H0 := N0
      have Ka := Na
      have Kb := Nb
      have Kc := Nc
      have Kr := Nr
      have Kr2 := Nr2
      have Kq := Nq
      have Ks := Ns
      have Kt := Nt
      clear N0 Na Nb Nc Nr Nr2 Nq Ns Nt
      have ca := fun o => Ka.out.cell o
      have la := Ka.out.lt
      have cb := fun o => Kb.out.cell o
      have lb := Kb.out.lt
      have cc := fun o => Kc.out.cell o
      have lc := Kc.out.lt
      have cr := fun o => Kr.out.cell o
      have lr := Kr.out.lt
      have cr2 := fun o => Kr2.out.cell o
      have lr2 := Kr2.out.lt
      have cq := fun o => Kq.out.cell o
      have lq := Kq.out.lt
      have cs := fun o => Ks.out.cell o
      have ls := Ks.out.lt
      have ct := fun o => Kt.out.cell o
      have lt := Kt.out.lt
      go_wp2_with fail
      refine (mul_any a a _).mono ?_
      rintro e w9 ⟨rfl, hb⟩
      generalize hR3 : twoD a a (a.add a) = R3
      generalize hE3 : twoE a a (a.add a) = E3
      have HR3 := Lib.hid hR3
      have HE3 := Lib.hid hE3
      clear hR3 hE3
      have Na := Lib.hid (keep hb (Ka.out.alloc _))
      have Nb := Lib.hid (keep hb (Kb.out.alloc _))
      have Nc := Lib.hid (keep hb (Kc.out.alloc _))
      have Nr := Lib.hid (keep hb (Kr.out.alloc _))
      have Nr2 := Lib.hid (keep hb (Kr2.out.alloc _))
      have Nq := Lib.hid (keep hb (Kq.out.alloc _))
      have Ns := Lib.hid (keep hb (Ks.out.alloc _))
      have Nt := Lib.hid (keep hb (Kt.out.alloc _))
      have Np := Lib.hid (keep hb (Blk.new _ 23 (D7.c T)))
      have N0 := Lib.hid (H0.out.trans (((Below.refl _ _).alloc H0.out.size _).trans (hb.mono (by have := H0.out.size; simp; omega))))
      clear hb H0 Ka ca la Kb cb lb Kc cc lc Kr cr lr Kr2 cr2 lr2 Kq cq lq Ks cs ls Kt ct lt
      have H0 := N0
      have Ka := Na
      have Kb := Nb
      have Kc := Nc
      have Kr := Nr
      have Kr2 := Nr2
      have Kq := Nq
      have Ks := Ns
      have Kt := Nt
      have Kp := Np
      clear N0 Na Nb Nc Nr Nr2 Nq Ns Nt Np
      have ca := fun o => Ka.out.cell o
      have la := Ka.out.lt
      have cb := fun o => Kb.out.cell o
      have lb := Kb.out.lt
      have cc := fun o => Kc.out.cell o
      have lc := Kc.out.lt
      have cr := fun o => Kr.out.cell o
      have lr := Kr.out.lt
      have cr2 := fun o => Kr2.out.cell o
      have lr2 := Kr2.out.lt
      have cq := fun o => Kq.out.cell o
      have lq := Kq.out.lt
      have cs := fun o => Ks.out.cell o
      have ls := Ks.out.lt
      have ct := fun o => Kt.out.cell o
      have lt := Kt.out.lt
      have cp := fun o => Kp.out.cell o
      have lp := Kp.out.lt
      by_cases hE3 : E3 = 0
      · have HQ := Lib.hid (square_root a (HE3.out.trans hE3))
        subst hE3
        rw [HR3.out] at HQ
        go_wp2_with fail
        refine (root_any R3 _).mono ?_
        rintro e w10 ⟨rfl, hb⟩
        rw [HQ.out]
        unfold okV
        have Na := Lib.hid (keep hb (Ka.out.alloc _))
        have Nb := Lib.hid (keep hb (Kb.out.alloc _))
        have Nc := Lib.hid (keep hb (Kc.out.alloc _))
        have Nr := Lib.hid (keep hb (Kr.out.alloc _))
        have Nr2 := Lib.hid (keep hb (Kr2.out.alloc _))
        have Nq := Lib.hid (keep hb (Kq.out.alloc _))
        have Ns := Lib.hid (keep hb (Ks.out.alloc _))
        have Nt := Lib.hid (keep hb (Kt.out.alloc _))
        have Np := Lib.hid (keep hb (Kp.out.alloc _))
        have Nr3 := Lib.hid (keep hb (Blk.new _ 23 (D7.c R3)))
        have N0 := Lib.hid (H0.out.trans (((Below.refl _ _).alloc H0.out.size _).trans (hb.mono (by have := H0.out.size; simp; omega))))
        clear hb H0 Ka ca la Kb cb lb Kc cc lc Kr cr lr Kr2 cr2 lr2 Kq cq lq Ks cs ls Kt ct lt Kp cp lp
        have H0 := N0
        have Ka := Na
        have Kb := Nb
        have Kc := Nc
        have Kr := Nr
        have Kr2 := Nr2
        have Kq := Nq
        have Ks := Ns
        have Kt := Nt
        have Kp := Np
        have Kr3 := Nr3
        clear N0 Na Nb Nc Nr Nr2 Nq Ns Nt Np Nr3
        have ca := fun o => Ka.out.cell o
        have la := Ka.out.lt
        have cb := fun o => Kb.out.cell o
        have lb := Kb.out.lt
        have cc := fun o => Kc.out.cell o
        have lc := Kc.out.lt
        have cr := fun o => Kr.out.cell o
        have lr := Kr.out.lt
        have cr2 := fun o => Kr2.out.cell o
        have lr2 := Kr2.out.lt
        have cq := fun o => Kq.out.cell o
        have lq := Kq.out.lt
        have cs := fun o => Ks.out.cell o
        have ls := Ks.out.lt
        have ct := fun o => Kt.out.cell o
        have lt := Kt.out.lt
        have cp := fun o => Kp.out.cell o
        have lp := Kp.out.lt
        have cr3 := fun o => Kr3.out.cell o
        have lr3 := Kr3.out.lt
        go_wp2_with fail
        go_ret; exact ⟨rfl, by repeat' (first | (with_reducible exact H0.out) | (with_reducible refine Below.alloc ?_ ?_ _) | (have := H0.out.size; go_size))⟩
      · have hE3' : (E3 == 0) = false := by simpa using hE3
        clear hE3
        go_wp2_with fail
        go_ret; exact ⟨rfl, by repeat' (first | (with_reducible exact H0.out) | (with_reducible refine Below.alloc ?_ ?_ _) | (have := H0.out.size; go_size))⟩
    · have hF' : (F == 0) = false := by simpa using hF
      clear hF
      go_wp2_with fail
      refine (mul_any a S _).mono ?_
      rintro e w7 ⟨rfl, hb⟩
      generalize twoD a S (a.add S) = U; generalize twoE a S (a.add S) = V
      have Na := Lib.hid (keep hb (Ka.out.alloc _))
      have Nb := Lib.hid (keep hb (Kb.out.alloc _))
      have Nc := Lib.hid (keep hb (Kc.out.alloc _))
      have Nr := Lib.hid (keep hb (Kr.out.alloc _))
      have Nr2 := Lib.hid (keep hb (Kr2.out.alloc _))
      have Nq := Lib.hid (keep hb (Kq.out.alloc _))
      have Ns := Lib.hid (keep hb (Ks.out.alloc _))
      have Nt := Lib.hid (keep hb (Blk.new _ 23 (D7.c T)))
      have N0 := Lib.hid (H0.out.trans (((Below.refl _ _).alloc H0.out.size _).trans (hb.mono (by have := H0.out.size; simp; omega))))
      clear hb H0 Ka ca la Kb cb lb Kc cc lc Kr cr lr Kr2 cr2 lr2 Kq cq lq Ks cs ls
      have H0 := N0
      have Ka := Na
      have Kb := Nb
      have Kc := Nc
      have Kr := Nr
      have Kr2 := Nr2
      have Kq := Nq
      have Ks := Ns
      have Kt := Nt
      clear N0 Na Nb Nc Nr Nr2 Nq Ns Nt
      have ca := fun o => Ka.out.cell o
      have la := Ka.out.lt
      have cb := fun o => Kb.out.cell o
      have lb := Kb.out.lt
      have cc := fun o => Kc.out.cell o
      have lc := Kc.out.lt
      have cr := fun o => Kr.out.cell o
      have lr := Kr.out.lt
      have cr2 := fun o => Kr2.out.cell o
      have lr2 := Kr2.out.lt
      have cq := fun o => Kq.out.cell o
      have lq := Kq.out.lt
      have cs := fun o => Ks.out.cell o
      have ls := Ks.out.lt
      have ct := fun o => Kt.out.cell o
      have lt := Kt.out.lt
      go_wp2_with fail
      refine (mul_any a a _).mono ?_
      rintro e w9 ⟨rfl, hb⟩
      generalize hR3 : twoD a a (a.add a) = R3
      generalize hE3 : twoE a a (a.add a) = E3
      have HR3 := Lib.hid hR3
      have HE3 := Lib.hid hE3
      clear hR3 hE3
      have Na := Lib.hid (keep hb (Ka.out.alloc _))
      have Nb := Lib.hid (keep hb (Kb.out.alloc _))
      have Nc := Lib.hid (keep hb (Kc.out.alloc _))
      have Nr := Lib.hid (keep hb (Kr.out.alloc _))
      have Nr2 := Lib.hid (keep hb (Kr2.out.alloc _))
      have Nq := Lib.hid (keep hb (Kq.out.alloc _))
      have Ns := Lib.hid (keep hb (Ks.out.alloc _))
      have Nt := Lib.hid (keep hb (Kt.out.alloc _))
      have Np := Lib.hid (keep hb (Blk.new _ 23 (D7.c U)))
      have N0 := Lib.hid (H0.out.trans (((Below.refl _ _).alloc H0.out.size _).trans (hb.mono (by have := H0.out.size; simp; omega))))
      clear hb H0 Ka ca la Kb cb lb Kc cc lc Kr cr lr Kr2 cr2 lr2 Kq cq lq Ks cs ls Kt ct lt
      have H0 := N0
      have Ka := Na
      have Kb := Nb
      have Kc := Nc
      have Kr := Nr
      have Kr2 := Nr2
      have Kq := Nq
      have Ks := Ns
      have Kt := Nt
      have Kp := Np
      clear N0 Na Nb Nc Nr Nr2 Nq Ns Nt Np
      have ca := fun o => Ka.out.cell o
      have la := Ka.out.lt
      have cb := fun o => Kb.out.cell o
      have lb := Kb.out.lt
      have cc := fun o => Kc.out.cell o
      have lc := Kc.out.lt
      have cr := fun o => Kr.out.cell o
      have lr := Kr.out.lt
      have cr2 := fun o => Kr2.out.cell o
      have lr2 := Kr2.out.lt
      have cq := fun o => Kq.out.cell o
      have lq := Kq.out.lt
      have cs := fun o => Ks.out.cell o
      have ls := Ks.out.lt
      have ct := fun o => Kt.out.cell o
      have lt := Kt.out.lt
      have cp := fun o => Kp.out.cell o
      have lp := Kp.out.lt
      by_cases hE3 : E3 = 0
      · have HQ := Lib.hid (square_root a (HE3.out.trans hE3))
        subst hE3
        rw [HR3.out] at HQ
        go_wp2_with fail
        refine (root_any R3 _).mono ?_
        rintro e w10 ⟨rfl, hb⟩
        rw [HQ.out]
        unfold okV
        have Na := Lib.hid (keep hb (Ka.out.alloc _))
        have Nb := Lib.hid (keep hb (Kb.out.alloc _))
        have Nc := Lib.hid (keep hb (Kc.out.alloc _))
        have Nr := Lib.hid (keep hb (Kr.out.alloc _))
        have Nr2 := Lib.hid (keep hb (Kr2.out.alloc _))
        have Nq := Lib.hid (keep hb (Kq.out.alloc _))
        have Ns := Lib.hid (keep hb (Ks.out.alloc _))
        have Nt := Lib.hid (keep hb (Kt.out.alloc _))
        have Np := Lib.hid (keep hb (Kp.out.alloc _))
        have Nr3 := Lib.hid (keep hb (Blk.new _ 23 (D7.c R3)))
        have N0 := Lib.hid (H0.out.trans (((Below.refl _ _).alloc H0.out.size _).trans (hb.mono (by have := H0.out.size; simp; omega))))
        clear hb H0 Ka ca la Kb cb lb Kc cc lc Kr cr lr Kr2 cr2 lr2 Kq cq lq Ks cs ls Kt ct lt Kp cp lp
        have H0 := N0
        have Ka := Na
        have Kb := Nb
        have Kc := Nc
        have Kr := Nr
        have Kr2 := Nr2
        have Kq := Nq
        have Ks := Ns
        have Kt := Nt
        have Kp := Np
        have Kr3 := Nr3
        clear N0 Na Nb Nc Nr Nr2 Nq Ns Nt Np Nr3
        have ca := fun o => Ka.out.cell o
        have la := Ka.out.lt
        have cb := fun o => Kb.out.cell o
        have lb := Kb.out.lt
        have cc := fun o => Kc.out.cell o
        have lc := Kc.out.lt
        have cr := fun o => Kr.out.cell o
        have lr := Kr.out.lt
        have cr2 := fun o => Kr2.out.cell o
        have lr2 := Kr2.out.lt
        have cq := fun o => Kq.out.cell o
        have lq := Kq.out.lt
        have cs := fun o => Ks.out.cell o
        have ls := Ks.out.lt
        have ct := fun o => Kt.out.cell o
        have lt := Kt.out.lt
        have cp := fun o => Kp.out.cell o
        have lp := Kp.out.lt
        have cr3 := fun o => Kr3.out.cell o
        have lr3 := Kr3.out.lt
        go_wp2_with fail
        go_ret; exact ⟨rfl, by repeat' (first | (with_reducible exact H0.out) | (with_reducible refine Below.alloc ?_ ?_ _) | (have := H0.out.size; go_size))⟩
      · have hE3' : (E3 == 0) = false := by simpa using hE3
        clear hE3
        go_wp2_with fail
        go_ret; exact ⟨rfl, by repeat' (first | (with_reducible exact H0.out) | (with_reducible refine Below.alloc ?_ ?_ _) | (have := H0.out.size; go_size))⟩
  · have hE' : (E == 0) = false := by simpa using hE
    clear hE
    go_wp2_with fail
    refine (mul_any a a _).mono ?_
    rintro e w9 ⟨rfl, hb⟩
    generalize hR3 : twoD a a (a.add a) = R3
    generalize hE3 : twoE a a (a.add a) = E3
    have HR3 := Lib.hid hR3
    have HE3 := Lib.hid hE3
    clear hR3 hE3
    have Na := Lib.hid (keep hb (Ka.out.alloc _))
    have Nb := Lib.hid (keep hb (Kb.out.alloc _))
    have Nc := Lib.hid (keep hb (Kc.out.alloc _))
    have Nr := Lib.hid (keep hb (Kr.out.alloc _))
    have Nr2 := Lib.hid (keep hb (Blk.new _ 23 (D7.c R)))
    have N0 := Lib.hid (H0.out.trans (((Below.refl _ _).alloc H0.out.size _).trans (hb.mono (by have := H0.out.size; simp; omega))))
    clear hb H0 Ka ca la Kb cb lb Kc cc lc Kr cr lr
    have H0 := N0
    have Ka := Na
    have Kb := Nb
    have Kc := Nc
    have Kr := Nr
    have Kr2 := Nr2
    clear N0 Na Nb Nc Nr Nr2
    have ca := fun o => Ka.out.cell o
    have la := Ka.out.lt
    have cb := fun o => Kb.out.cell o
    have lb := Kb.out.lt
    have cc := fun o => Kc.out.cell o
    have lc := Kc.out.lt
    have cr := fun o => Kr.out.cell o
    have lr := Kr.out.lt
    have cr2 := fun o => Kr2.out.cell o
    have lr2 := Kr2.out.lt
    by_cases hE3 : E3 = 0
    · have HQ := Lib.hid (square_root a (HE3.out.trans hE3))
      subst hE3
      rw [HR3.out] at HQ
      go_wp2_with fail
      refine (root_any R3 _).mono ?_
      rintro e w10 ⟨rfl, hb⟩
      rw [HQ.out]
      unfold okV
      have Na := Lib.hid (keep hb (Ka.out.alloc _))
      have Nb := Lib.hid (keep hb (Kb.out.alloc _))
      have Nc := Lib.hid (keep hb (Kc.out.alloc _))
      have Nr := Lib.hid (keep hb (Kr.out.alloc _))
      have Nr2 := Lib.hid (keep hb (Kr2.out.alloc _))
      have Nr3 := Lib.hid (keep hb (Blk.new _ 23 (D7.c R3)))
      have N0 := Lib.hid (H0.out.trans (((Below.refl _ _).alloc H0.out.size _).trans (hb.mono (by have := H0.out.size; simp; omega))))
      clear hb H0 Ka ca la Kb cb lb Kc cc lc Kr cr lr Kr2 cr2 lr2
      have H0 := N0
      have Ka := Na
      have Kb := Nb
      have Kc := Nc
      have Kr := Nr
      have Kr2 := Nr2
      have Kr3 := Nr3
      clear N0 Na Nb Nc Nr Nr2 Nr3
      have ca := fun o => Ka.out.cell o
      have la := Ka.out.lt
      have cb := fun o => Kb.out.cell o
      have lb := Kb.out.lt
      have cc := fun o => Kc.out.cell o
      have lc := Kc.out.lt
      have cr := fun o => Kr.out.cell o
      have lr := Kr.out.lt
      have cr2 := fun o => Kr2.out.cell o
      have lr2 := Kr2.out.lt
      have cr3 := fun o => Kr3.out.cell o
      have lr3 := Kr3.out.lt
      go_wp2_with fail
      go_ret; exact ⟨rfl, by repeat' (first | (with_reducible exact H0.out) | (with_reducible refine Below.alloc ?_ ?_ _) | (have := H0.out.size; go_size))⟩
    · have hE3' : (E3 == 0) = false := by simpa using hE3
      clear hE3
      go_wp2_with fail
      go_ret; exact ⟨rfl, by repeat' (first | (with_reducible exact H0.out) | (with_reducible refine Below.alloc ?_ ?_ _) | (have := H0.out.size; go_size))⟩
end Go.Proofs.YtlfapncbkgpclaaDoor
