/- Equal of the reference. -/
import Derived.Test.YtpokelkneblafaaGreatDoorVP
import Derived.Test.YtpokelkneblafaaGreatDoorC5
import Derived.Deep.RegionWith
import Derived.Deep.DeepCutAuto
namespace Go.Proofs.YtpokelkneblafaaGreatDoor
open Go.RowKit
mutual
def eqM : Trm → Trm → Bool
  | .mk k a v f ts, u => (k == u.kind && (a.toList == u.nam.toList && (v.toList == u.vr.toList && (f.toList == u.form.toList && decide (ts.length = u.args.length))))) && eqL ts u.args
def eqL : List Trm → List Trm → Bool
  | [], us => us.isEmpty
  | t :: ts, us => match us with
    | [] => false
    | u :: us => eqM t u && eqL ts us
end
theorem bytes_eq {a b : ByteArray} (h : (a.toList == b.toList) = true) : a = b := by
  rw [beq_iff_eq, ByteArray.toList_eq, ByteArray.toList_eq] at h
  apply ByteArray.ext
  exact Array.toList_inj.1 h
mutual
theorem eqM_iff : ∀ t u : Trm, eqM t u = true ↔ t = u
  | .mk k a v f ts, .mk k' a' v' f' us => by
    unfold eqM
    simp only [Trm.kind, Trm.nam, Trm.vr, Trm.form, Trm.args, Bool.and_eq_true, beq_iff_eq]
    constructor
    · rintro ⟨⟨rfl, h1, h2, h3, h4⟩, h5⟩
      rw [bytes_eq (beq_iff_eq.2 h1), bytes_eq (beq_iff_eq.2 h2), bytes_eq (beq_iff_eq.2 h3), (eqL_iff ts us).1 h5]
    · intro e
      injection e with e1 e2 e3 e4 e5
      subst e1; subst e2; subst e3; subst e4; subst e5
      exact ⟨⟨rfl, rfl, rfl, rfl, decide_eq_true rfl⟩, (eqL_iff ts ts).2 rfl⟩
theorem eqL_iff : ∀ ts us : List Trm, eqL ts us = true ↔ ts = us
  | [], us => by unfold eqL; rw [List.isEmpty_iff]; exact eq_comm
  | t :: ts, [] => by unfold eqL; simp
  | t :: ts, u :: us => by
    unfold eqL
    simp only [Bool.and_eq_true]
    rw [eqM_iff t u, eqL_iff ts us, List.cons.injEq]
end
theorem eqL_snoc {ts us : List Trm} {j : Nat} {x y : Trm} (h1 : ts[j]? = some x) (h2 : us[j]? = some y) : eqL (ts.take (j + 1)) (us.take (j + 1)) = (eqL (ts.take j) (us.take j) && eqM x y) := by
  rw [Bool.eq_iff_iff, Bool.and_eq_true, eqL_iff, eqL_iff, eqM_iff, List.take_add_one, List.take_add_one, h1, h2]
  have l1 : j < ts.length := (List.getElem?_eq_some_iff.1 h1).1
  have l2 : j < us.length := (List.getElem?_eq_some_iff.1 h2).1
  constructor
  · intro e
    have := List.append_inj e (by simp; omega)
    exact ⟨this.1, by simpa using this.2⟩
  · rintro ⟨e, rfl⟩
    rw [e]
theorem eqL_false {ts us : List Trm} {j : Nat} (h : eqL (ts.take j) (us.take j) = false) : eqL ts us = false := by
  cases hq : eqL ts us
  · rfl
  · rw [(eqL_iff ts us).1 hq] at h
    rw [(eqL_iff _ _).2 rfl] at h
    cases h
def Wof (k : Int) (a v f : ByteArray) (A : Option Addr) (n cap : Nat) : Obj := .cells (trmC k a v A n cap f) 25
set_option maxRecDepth 100000 in
set_option maxHeartbeats 4000000 in
theorem requal_any : ∀ (z : Nat) (t u : Trm) (c d : Array Value) (w : World), cntM t ≤ z → MAt w t c → MAt w u d → Calls Tryz.prog 8 #[.agg c, .agg d] w fun e w' => e = .returned (.bool (eqM t u)) ∧ Below w.heap.size w w' := by
  intro z
  induction z with
  | zero => intro t u c d w h; have := cnt_pos t; omega
  | succ z ih =>
    intro t u c d w hz hM hM2
    have IH := Lib.hid ih
    clear ih
    obtain ⟨A, cap, rfl, ha, hv, hf, hl, hc, hk⟩ := hM.form
    obtain ⟨A', cap', rfl, ha', hv', hf', hl', hc', hk'⟩ := hM2.form
    obtain ⟨k, a, v, f, ts⟩ := t
    obtain ⟨k', a', v', f', us⟩ := u
    dsimp only [Trm.kind, Trm.nam, Trm.vr, Trm.form, Trm.args] at ha hv hf hl hk ha' hv' hf' hl' hk' ⊢
    have HQ := Lib.hid (show eqM (.mk k a v f ts) (.mk k' a' v' f' us) = ((k == k' && (a.toList == a'.toList && (v.toList == v'.toList && (f.toList == f'.toList && decide (ts.length = us.length))))) && eqL ts us) by unfold eqM; rfl)
    have HZ := Lib.hid (show cntL ts ≤ z by rw [cntM] at hz; omega)
    have HW := Lib.hid (show (w.alloc (.cells (trmC k a v A ts.length cap f) 25)).heap.size = w.heap.size + 1 by simp)
    have B1 := bel_alloc w (.cells (trmC k a v A ts.length cap f) 25)
    have B2 := bel_alloc (w.alloc (.cells (trmC k a v A ts.length cap f) 25)) (.cells (trmC k' a' v' A' us.length cap' f') 25)
    have HB := Lib.hid (B1.trans (B2.mono B1.size))
    have HK := Lib.hid (hk.keep HB.out)
    have HK' := Lib.hid (hk'.keep HB.out)
    have K0 := Lib.hid (keep B2 (Blk.new w 25 (trmC k a v A ts.length cap f)))
    have K1 : Hid (Blk ((w.alloc (.cells (trmC k a v A ts.length cap f) 25)).alloc (.cells (trmC k' a' v' A' us.length cap' f') 25)) (w.heap.size + 1) 25 (trmC k' a' v' A' us.length cap' f')) := by
      show Blk _ _ _ _
      rw [← HW.out]
      exact Blk.new _ _ _
    clear hM hM2 hk hk' B1 B2 HW hz
    dsimp only [trmC] at HB HK HK' K0 K1
    have c0 := K0.out.cell 0
    have c1 := K0.out.cell 1
    have c2 := K0.out.cell 2
    have c3 := K0.out.cell 3
    have c4 := K0.out.cell 4
    have e0 := K1.out.cell 0
    have e1 := K1.out.cell 1
    have e2 := K1.out.cell 2
    have e3 := K1.out.cell 3
    have e4 := K1.out.cell 4
    go_enter Tryz.func8, Tryz.ntmps8
    cases q0 : (k == k')
    · rw [q0] at HQ
      have n0 : (k != k') = true := by rw [bne, q0]; rfl
      go_wp2_with fail
      go_ret
      exact ⟨ret_bool (by rw [HQ.out]; rfl), HB.out⟩
    have n0 : (k != k') = false := by rw [bne, q0]; rfl
    rw [q0, Bool.true_and] at HQ
    replace q0 := Lib.hid q0
    cases q1 : (a.toList == a'.toList)
    · rw [q1] at HQ
      have n1 : (!(a.toList == a'.toList)) = true := by rw [q1]; rfl
      go_wp2_with fail
      go_ret
      exact ⟨ret_bool (by rw [HQ.out]; rfl), HB.out⟩
    have n1 : (!(a.toList == a'.toList)) = false := by rw [q1]; rfl
    rw [q1, Bool.true_and] at HQ
    replace q1 := Lib.hid q1
    cases q2 : (v.toList == v'.toList)
    · rw [q2] at HQ
      have n2 : (!(v.toList == v'.toList)) = true := by rw [q2]; rfl
      go_wp2_with fail
      go_ret
      exact ⟨ret_bool (by rw [HQ.out]; rfl), HB.out⟩
    have n2 : (!(v.toList == v'.toList)) = false := by rw [q2]; rfl
    rw [q2, Bool.true_and] at HQ
    replace q2 := Lib.hid q2
    cases q4 : (f.toList == f'.toList)
    · rw [q4] at HQ
      have n4 : (!(f.toList == f'.toList)) = true := by rw [q4]; rfl
      go_wp2_with fail
      go_ret
      exact ⟨ret_bool (by rw [HQ.out]; rfl), HB.out⟩
    have n4 : (!(f.toList == f'.toList)) = false := by rw [q4]; rfl
    rw [q4, Bool.true_and] at HQ
    replace q4 := Lib.hid q4
    by_cases hn : ts.length ≠ us.length
    · have n3 : ((ts.length : Int) != (us.length : Int)) = true := by rw [bne_iff_ne]; omega
      rw [decide_eq_false hn] at HQ
      clear hn
      go_wp2_with fail
      go_ret
      exact ⟨ret_bool (by rw [HQ.out]; rfl), HB.out⟩
    have n3 : ((ts.length : Int) != (us.length : Int)) = false := by rw [bne_eq_false_iff_eq]; omega
    replace hn : ts.length = us.length := Classical.not_not.1 hn
    rw [decide_eq_true hn, Bool.true_and] at HQ
    replace hn := Lib.hid hn
    go_wp2_with fail
    clear c0 c1 c2 c3 c4 e0 e1 e2 e3 e4
    generalize (w.alloc (.cells #[.int .i64 k, .string a, .string v, .slice A ts.length cap, .string f] 25)).alloc (.cells #[.int .i64 k', .string a', .string v', .slice A' us.length cap', .string f'] 25) = w1 at *
    go_loopw [5] (fun i wr => ∃ j : Nat, j ≤ ts.length ∧ i = .int .i64 j ∧ Hid (eqL (ts.take j) (us.take j) = true) ∧ Hid (Blk wr w.heap.size 25 #[.int .i64 k, .string a, .string v, .slice A ts.length cap, .string f]) ∧ Hid (Blk wr (w.heap.size + 1) 25 #[.int .i64 k', .string a', .string v', .slice A' us.length cap', .string f']) ∧ Hid (ArgsAt wr A ts) ∧ Hid (ArgsAt wr A' us) ∧ Hid (Below w.heap.size w wr)) (fun i _ => ts.length - (intOf i).toNat)
    case atStart => exact ⟨0, by omega, rfl, rfl, K0, K1, HK, HK', HB⟩
    case round =>
      clear K0 K1 HK HK' HB
      obtain ⟨j, hj, rfl, HJ, K0, K1, HK, HK', HB⟩ := hrel
      have c3 := K0.out.cell 3
      have e3 := K1.out.cell 3
      by_cases hlt : j < ts.length
      · obtain ⟨x, hx⟩ : ∃ x, ts[j]? = some x := ⟨_, List.getElem?_eq_getElem hlt⟩
        obtain ⟨y, hy⟩ : ∃ y, us[j]? = some y := ⟨_, List.getElem?_eq_getElem (by have := hn.out; omega)⟩
        obtain ⟨ad, A2, cap2, rfl, hadl, hp⟩ := HK.out.at_ hx
        obtain ⟨ad', A3, cap3, rfl, hadl', hp'⟩ := HK'.out.at_ hy
        have HX := Lib.hid hp.whole
        have HY := Lib.hid hp'.whole
        obtain ⟨hb1, d0, d1, d2, d3, d4, -⟩ := hp
        obtain ⟨hb2, g0, g1, g2, g3, g4, -⟩ := hp'
        have HS := Lib.hid (show cntM x ≤ z by have := cnt_arg hx; have := HZ.out; omega)
        have HSN := Lib.hid (eqL_snoc hx hy)
        rw [HJ.out, Bool.true_and] at HSN
        have HFA := Lib.hid (fun h => eqL_false (ts := ts) (us := us) (j := j + 1) h)
        have hlu : (j : Int) < (us.length : Int) := by have := hn.out; omega
        clear hx hy
        go_wp2_with fail
        go_upto_region 6 with (fail)
        refine wp_region_ext (by kernel_rfl) (by kernel_rfl) ?_
        have EC := fun e : Ext wr => (keep e.bel K0.out).cell 3
        have EE := fun e : Ext wr => (keep e.bel K1.out).cell 3
        have D0 := fun e : Ext wr => e.cell hb1 d0
        have D1 := fun e : Ext wr => e.cell (p := ⟨(ad.add (j * 5)).block, (ad.add (j * 5)).off + 1, none⟩) hb1 d1
        have D2 := fun e : Ext wr => e.cell (p := ⟨(ad.add (j * 5)).block, (ad.add (j * 5)).off + 2, none⟩) hb1 d2
        have D3 := fun e : Ext wr => e.cell (p := ⟨(ad.add (j * 5)).block, (ad.add (j * 5)).off + 3, none⟩) hb1 d3
        have D4 := fun e : Ext wr => e.cell (p := ⟨(ad.add (j * 5)).block, (ad.add (j * 5)).off + 4, none⟩) hb1 d4
        have G0 := fun e : Ext wr => e.cell hb2 g0
        have G1 := fun e : Ext wr => e.cell (p := ⟨(ad'.add (j * 5)).block, (ad'.add (j * 5)).off + 1, none⟩) hb2 g1
        have G2 := fun e : Ext wr => e.cell (p := ⟨(ad'.add (j * 5)).block, (ad'.add (j * 5)).off + 2, none⟩) hb2 g2
        have G3 := fun e : Ext wr => e.cell (p := ⟨(ad'.add (j * 5)).block, (ad'.add (j * 5)).off + 3, none⟩) hb2 g3
        have G4 := fun e : Ext wr => e.cell (p := ⟨(ad'.add (j * 5)).block, (ad'.add (j * 5)).off + 4, none⟩) hb2 g4
        have HC := Lib.hid (fun e : Ext wr => Calls.ext (IH.out x y _ _ e.val HS.out (HX.out.keep e.bel) (HY.out.keep e.bel)))
        clear c3 e3 d0 d1 d2 d3 d4 g0 g1 g2 g3 g4
        repeat (go_big_quiet_step (fail))
        go_big_quiet_step ((rename_i e; exact HC.out e))
        repeat (go_big_quiet_step (fail))
        refine wpQuiet_nil ?_
        intro wq hwq
        obtain ⟨⟨w9, hb⟩, e9⟩ := hwq
        dsimp only at e9
        subst e9
        replace K0 := Lib.hid (keep hb K0.out)
        replace K1 := Lib.hid (keep hb K1.out)
        replace HK := Lib.hid (HK.out.keep hb)
        replace HK' := Lib.hid (HK'.out.keep hb)
        replace HB := Lib.hid (HB.out.trans (hb.mono HB.out.size))
        clear EC EE D0 D1 D2 D3 D4 G0 G1 G2 G3 G4 HC hb hb1 hb2 HX HY
        cases hr : eqM x y
        · have hq : eqL ts us = false := HFA.out (by rw [HSN.out, hr])
          rw [hq] at HQ
          clear hr hq
          go_wp2_with fail
          go_ret
          exact ⟨ret_bool (by rw [HQ.out]), HB.out⟩
        · rw [hr] at HSN
          clear hr
          go_wp2_with fail
          go_roundw
          case rel => exact ⟨j + 1, by omega, by go_num, HSN, K0, K1, HK, HK', HB⟩
          case measure => simp [intOf]; omega
      · obtain rfl : j = ts.length := by omega
        have hq : eqL ts us = true := by
          have h := HJ.out
          rw [List.take_length, hn.out, List.take_length] at h
          exact h
        rw [hq] at HQ
        clear hq
        go_wp2_with fail
        go_ret
        exact ⟨ret_bool (by rw [HQ.out]), HB.out⟩
end Go.Proofs.YtpokelkneblafaaGreatDoor
