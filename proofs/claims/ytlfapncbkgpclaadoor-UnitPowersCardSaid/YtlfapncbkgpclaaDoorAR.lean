/- UnitArithmetic returns true for every two dimensions and integer, if awake does. -/
import Derived.Test.YtlfapncbkgpclaaDoorG
namespace Go.Proofs.YtlfapncbkgpclaaDoor
open Go.RowKit
theorem zero_of (a : D7) (h : D7.beq a D7.zero = true) : a = D7.zero := (beq_iff a D7.zero).1 h
theorem mul_zero_dim (n : Int) : D7.zero.mul n = D7.zero := by simp [D7.mul]
theorem mul_one_far (a : D7) (n : Int) (hz : D7.beq a D7.zero = false) (hn : n = 101 ∨ n = -101) : (a.mul n).ok = false := by
  have : ∃ k, k < 7 ∧ a.at k ≠ 0 := by
    refine Classical.byContradiction fun hc => ?_
    have hall : ∀ k, k < 7 → a.at k = 0 := fun k hk => Classical.byContradiction fun h => hc ⟨k, hk, h⟩
    have e : a = D7.zero := D7.ext' (hall 0 (by omega)) (hall 1 (by omega)) (hall 2 (by omega)) (hall 3 (by omega)) (hall 4 (by omega)) (hall 5 (by omega)) (hall 6 (by omega))
    rw [e, beq_self] at hz
    cases hz
  obtain ⟨k, hk, hne⟩ := this
  refine not_ok _ k hk ?_
  rw [mul_at a n k hk]
  rcases hn with rfl | rfl <;> omega
theorem pow_same (a : D7) (n : Int) : powV a n = rpowV a n := by
  unfold powV rpowV
  cases ha : a.ok
  · rfl
  · simp only [if_true]
    cases hz : D7.beq a D7.zero
    · simp only [Bool.false_eq_true, if_false]
      by_cases hn : n < -100 ∨ 100 < n
      · rw [if_pos hn]
        have hm : max (-101) (min 101 n) = 101 ∨ max (-101) (min 101 n) = -101 := by omega
        simp [chk, mul_one_far a _ hz hm]
      · rw [if_neg hn, show max (-101) (min 101 n) = n by omega]
    · simp only [if_true]
      have e := zero_of a hz
      rw [e, mul_zero_dim]
      rw [e] at ha
      simp [chk, ha]

set_option maxRecDepth 100000 in
set_option maxHeartbeats 4000000 in
theorem arith_walk (a b : D7) (n : Int) (w : World) (haw : Awake w) : Calls Tryd.prog 5 #[a.v, b.v, .int .i64 n] w fun e w' => e = .returned (.bool true) ∧ Below w.heap.size w w' := by
  have heq := eq_dim
  have hself := beq_self
  go_enter Tryd.func5, Tryd.ntmps5
  go_wp2_with fail
  refine (haw _ ((((Below.refl _ _).alloc (Nat.le_refl _) _).alloc (by simp) _))).mono ?_
  rintro e w1 ⟨rfl, hb⟩
  clear haw
  have H0 := Lib.hid (below2 hb)
  have Ka := Lib.hid (keep hb ((Blk.new w 23 a.c).alloc _))
  have Kb := Lib.hid (keep hb (Blk.new (w.alloc _) 23 b.c))
  rw [World.size_alloc] at Kb
  clear hb
  have ca := fun o => Ka.out.cell o
  have la := Ka.out.lt
  have cb := fun o => Kb.out.cell o
  have lb := Kb.out.lt
  go_wp2_with fail
  refine (mul_any a b _).mono ?_
  rintro e w2 ⟨rfl, hb⟩
  generalize hR : twoD a b (a.add b) = R
  generalize hE : twoE a b (a.add b) = E
  have HR := Lib.hid hR
  have HE := Lib.hid hE
  clear hR hE
  have Na := Lib.hid (keep hb (Ka.out))
  have Nb := Lib.hid (keep hb (Kb.out))
  have N0 := Lib.hid (H0.out.trans (hb.mono H0.out.size))
  clear hb H0 Ka ca la Kb cb lb
  have H0 := N0
  have Ka := Na
  have Kb := Nb
  clear N0 Na Nb
  have ca := fun o => Ka.out.cell o
  have la := Ka.out.lt
  have cb := fun o => Kb.out.cell o
  have lb := Kb.out.lt
  go_wp2_with fail
  refine (rmul_any a b _).mono ?_
  rintro e w3 ⟨rfl, hb⟩
  rw [two_eq, HR.out, HE.out]
  have Na := Lib.hid (keep hb (Ka.out.alloc _))
  have Nb := Lib.hid (keep hb (Kb.out.alloc _))
  have Nr := Lib.hid (keep hb (Blk.new _ 23 (D7.c R)))
  have N0 := Lib.hid (H0.out.trans (((Below.refl _ _).alloc H0.out.size _).trans (hb.mono (by have := H0.out.size; simp; omega))))
  clear hb H0 Ka ca la Kb cb lb
  have H0 := N0
  have Ka := Na
  have Kb := Nb
  have Kr := Nr
  clear N0 Na Nb Nr
  have ca := fun o => Ka.out.cell o
  have la := Ka.out.lt
  have cb := fun o => Kb.out.cell o
  have lb := Kb.out.lt
  have cr := fun o => Kr.out.cell o
  have lr := Kr.out.lt
  go_wp2_with fail
  refine (div_any a b _).mono ?_
  rintro e w4 ⟨rfl, hb⟩
  generalize hS : twoD a b (a.sub b) = S
  generalize hF : twoE a b (a.sub b) = F
  have HS := Lib.hid hS
  have HF := Lib.hid hF
  clear hS hF
  have Na := Lib.hid (keep hb (Ka.out.alloc _))
  have Nb := Lib.hid (keep hb (Kb.out.alloc _))
  have Nr := Lib.hid (keep hb (Kr.out.alloc _))
  have Nr2 := Lib.hid (keep hb (Blk.new _ 23 (D7.c R)))
  have N0 := Lib.hid (H0.out.trans (((Below.refl _ _).alloc H0.out.size _).trans (hb.mono (by have := H0.out.size; simp; omega))))
  clear hb H0 Ka ca la Kb cb lb Kr cr lr
  have H0 := N0
  have Ka := Na
  have Kb := Nb
  have Kr := Nr
  have Kr2 := Nr2
  clear N0 Na Nb Nr Nr2
  have ca := fun o => Ka.out.cell o
  have la := Ka.out.lt
  have cb := fun o => Kb.out.cell o
  have lb := Kb.out.lt
  have cr := fun o => Kr.out.cell o
  have lr := Kr.out.lt
  have cr2 := fun o => Kr2.out.cell o
  have lr2 := Kr2.out.lt
  go_wp2_with fail
  refine (rdiv_any a b _).mono ?_
  rintro e w5 ⟨rfl, hb⟩
  rw [two_eq, HS.out, HF.out]
  have Na := Lib.hid (keep hb (Ka.out.alloc _))
  have Nb := Lib.hid (keep hb (Kb.out.alloc _))
  have Nr := Lib.hid (keep hb (Kr.out.alloc _))
  have Nr2 := Lib.hid (keep hb (Kr2.out.alloc _))
  have Ns := Lib.hid (keep hb (Blk.new _ 23 (D7.c S)))
  have N0 := Lib.hid (H0.out.trans (((Below.refl _ _).alloc H0.out.size _).trans (hb.mono (by have := H0.out.size; simp; omega))))
  clear hb H0 Ka ca la Kb cb lb Kr cr lr Kr2 cr2 lr2
  have H0 := N0
  have Ka := Na
  have Kb := Nb
  have Kr := Nr
  have Kr2 := Nr2
  have Ks := Ns
  clear N0 Na Nb Nr Nr2 Ns
  have ca := fun o => Ka.out.cell o
  have la := Ka.out.lt
  have cb := fun o => Kb.out.cell o
  have lb := Kb.out.lt
  have cr := fun o => Kr.out.cell o
  have lr := Kr.out.lt
  have cr2 := fun o => Kr2.out.cell o
  have lr2 := Kr2.out.lt
  have cs := fun o => Ks.out.cell o
  have ls := Ks.out.lt
  go_wp2_with fail
  refine (pow_any a n _).mono ?_
  rintro e w6 ⟨rfl, hb⟩
  rw [parts_pow]
  generalize hT : dOf (powV a n) = T
  generalize hG : eOf (powV a n) = G
  have HT := Lib.hid hT
  have HG := Lib.hid hG
  clear hT hG
  have Na := Lib.hid (keep hb (Ka.out.alloc _))
  have Nb := Lib.hid (keep hb (Kb.out.alloc _))
  have Nr := Lib.hid (keep hb (Kr.out.alloc _))
  have Nr2 := Lib.hid (keep hb (Kr2.out.alloc _))
  have Ns := Lib.hid (keep hb (Ks.out.alloc _))
  have Ns2 := Lib.hid (keep hb (Blk.new _ 23 (D7.c S)))
  have N0 := Lib.hid (H0.out.trans (((Below.refl _ _).alloc H0.out.size _).trans (hb.mono (by have := H0.out.size; simp; omega))))
  clear hb H0 Ka ca la Kb cb lb Kr cr lr Kr2 cr2 lr2 Ks cs ls
  have H0 := N0
  have Ka := Na
  have Kb := Nb
  have Kr := Nr
  have Kr2 := Nr2
  have Ks := Ns
  have Ks2 := Ns2
  clear N0 Na Nb Nr Nr2 Ns Ns2
  have ca := fun o => Ka.out.cell o
  have la := Ka.out.lt
  have cb := fun o => Kb.out.cell o
  have lb := Kb.out.lt
  have cr := fun o => Kr.out.cell o
  have lr := Kr.out.lt
  have cr2 := fun o => Kr2.out.cell o
  have lr2 := Kr2.out.lt
  have cs := fun o => Ks.out.cell o
  have ls := Ks.out.lt
  have cs2 := fun o => Ks2.out.cell o
  have ls2 := Ks2.out.lt
  go_wp2_with fail
  refine (rpow_any a n _).mono ?_
  rintro e w7 ⟨rfl, hb⟩
  rw [← pow_same, parts_pow, HT.out, HG.out]
  have Na := Lib.hid (keep hb (Ka.out.alloc _))
  have Nb := Lib.hid (keep hb (Kb.out.alloc _))
  have Nr := Lib.hid (keep hb (Kr.out.alloc _))
  have Nr2 := Lib.hid (keep hb (Kr2.out.alloc _))
  have Ns := Lib.hid (keep hb (Ks.out.alloc _))
  have Ns2 := Lib.hid (keep hb (Ks2.out.alloc _))
  have Nt := Lib.hid (keep hb (Blk.new _ 23 (D7.c T)))
  have N0 := Lib.hid (H0.out.trans (((Below.refl _ _).alloc H0.out.size _).trans (hb.mono (by have := H0.out.size; simp; omega))))
  clear hb H0 Ka ca la Kb cb lb Kr cr lr Kr2 cr2 lr2 Ks cs ls Ks2 cs2 ls2
  have H0 := N0
  have Ka := Na
  have Kb := Nb
  have Kr := Nr
  have Kr2 := Nr2
  have Ks := Ns
  have Ks2 := Ns2
  have Kt := Nt
  clear N0 Na Nb Nr Nr2 Ns Ns2 Nt
  have ca := fun o => Ka.out.cell o
  have la := Ka.out.lt
  have cb := fun o => Kb.out.cell o
  have lb := Kb.out.lt
  have cr := fun o => Kr.out.cell o
  have lr := Kr.out.lt
  have cr2 := fun o => Kr2.out.cell o
  have lr2 := Kr2.out.lt
  have cs := fun o => Ks.out.cell o
  have ls := Ks.out.lt
  have cs2 := fun o => Ks2.out.cell o
  have ls2 := Ks2.out.lt
  have ct := fun o => Kt.out.cell o
  have lt := Kt.out.lt
  go_wp2_with fail
  refine (root_any a _).mono ?_
  rintro e w8 ⟨rfl, hb⟩
  rw [parts_root]
  generalize hU : dOf (rootR a) = U
  generalize hV : eOf (rootR a) = V
  have HU := Lib.hid hU
  have HV := Lib.hid hV
  clear hU hV
  have Na := Lib.hid (keep hb (Ka.out.alloc _))
  have Nb := Lib.hid (keep hb (Kb.out.alloc _))
  have Nr := Lib.hid (keep hb (Kr.out.alloc _))
  have Nr2 := Lib.hid (keep hb (Kr2.out.alloc _))
  have Ns := Lib.hid (keep hb (Ks.out.alloc _))
  have Ns2 := Lib.hid (keep hb (Ks2.out.alloc _))
  have Nt := Lib.hid (keep hb (Kt.out.alloc _))
  have Nt2 := Lib.hid (keep hb (Blk.new _ 23 (D7.c T)))
  have N0 := Lib.hid (H0.out.trans (((Below.refl _ _).alloc H0.out.size _).trans (hb.mono (by have := H0.out.size; simp; omega))))
  clear hb H0 Ka ca la Kb cb lb Kr cr lr Kr2 cr2 lr2 Ks cs ls Ks2 cs2 ls2 Kt ct lt
  have H0 := N0
  have Ka := Na
  have Kb := Nb
  have Kr := Nr
  have Kr2 := Nr2
  have Ks := Ns
  have Ks2 := Ns2
  have Kt := Nt
  have Kt2 := Nt2
  clear N0 Na Nb Nr Nr2 Ns Ns2 Nt Nt2
  have ca := fun o => Ka.out.cell o
  have la := Ka.out.lt
  have cb := fun o => Kb.out.cell o
  have lb := Kb.out.lt
  have cr := fun o => Kr.out.cell o
  have lr := Kr.out.lt
  have cr2 := fun o => Kr2.out.cell o
  have lr2 := Kr2.out.lt
  have cs := fun o => Ks.out.cell o
  have ls := Ks.out.lt
  have cs2 := fun o => Ks2.out.cell o
  have ls2 := Ks2.out.lt
  have ct := fun o => Kt.out.cell o
  have lt := Kt.out.lt
  have ct2 := fun o => Kt2.out.cell o
  have lt2 := Kt2.out.lt
  go_wp2_with fail
  refine (rroot_any a _).mono ?_
  rintro e w9 ⟨rfl, hb⟩
  rw [parts_root, HU.out, HV.out]
  have Na := Lib.hid (keep hb (Ka.out.alloc _))
  have Nb := Lib.hid (keep hb (Kb.out.alloc _))
  have Nr := Lib.hid (keep hb (Kr.out.alloc _))
  have Nr2 := Lib.hid (keep hb (Kr2.out.alloc _))
  have Ns := Lib.hid (keep hb (Ks.out.alloc _))
  have Ns2 := Lib.hid (keep hb (Ks2.out.alloc _))
  have Nt := Lib.hid (keep hb (Kt.out.alloc _))
  have Nt2 := Lib.hid (keep hb (Kt2.out.alloc _))
  have Nu := Lib.hid (keep hb (Blk.new _ 23 (D7.c U)))
  have N0 := Lib.hid (H0.out.trans (((Below.refl _ _).alloc H0.out.size _).trans (hb.mono (by have := H0.out.size; simp; omega))))
  clear hb H0 Ka ca la Kb cb lb Kr cr lr Kr2 cr2 lr2 Ks cs ls Ks2 cs2 ls2 Kt ct lt Kt2 ct2 lt2
  have H0 := N0
  have Ka := Na
  have Kb := Nb
  have Kr := Nr
  have Kr2 := Nr2
  have Ks := Ns
  have Ks2 := Ns2
  have Kt := Nt
  have Kt2 := Nt2
  have Ku := Nu
  clear N0 Na Nb Nr Nr2 Ns Ns2 Nt Nt2 Nu
  have ca := fun o => Ka.out.cell o
  have la := Ka.out.lt
  have cb := fun o => Kb.out.cell o
  have lb := Kb.out.lt
  have cr := fun o => Kr.out.cell o
  have lr := Kr.out.lt
  have cr2 := fun o => Kr2.out.cell o
  have lr2 := Kr2.out.lt
  have cs := fun o => Ks.out.cell o
  have ls := Ks.out.lt
  have cs2 := fun o => Ks2.out.cell o
  have ls2 := Ks2.out.lt
  have ct := fun o => Kt.out.cell o
  have lt := Kt.out.lt
  have ct2 := fun o => Kt2.out.cell o
  have lt2 := Kt2.out.lt
  have cu := fun o => Ku.out.cell o
  have lu := Ku.out.lt
  go_wp2_with fail
  go_ret; exact ⟨rfl, by repeat' (first | (with_reducible exact H0.out) | (with_reducible refine Below.alloc ?_ ?_ _) | (have := H0.out.size; go_size))⟩
end Go.Proofs.YtlfapncbkgpclaaDoor
