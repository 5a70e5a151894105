/- grouped of the law: how many groups are left · Nodes in a row of one's own: a copy of a list, one of them written over -/
import Derived.Test.YthpioplpfmlgcaaGreatDoorHead8241c
import Derived.Test.YthpioplpfmlgcaaGreatDoorH09685d45
import Derived.BigQuiet
import Derived.Deep.DeepCutAuto
import Derived.Deep.CutBlock
import Derived.Test.YthpioplpfmlgcaaGreatDoorH0c3a5f26
import Derived.Test.YthpioplpfmlgcaaGreatDoorH826c579a
namespace Go.Proofs.YthpioplpfmlgcaaGreatDoor.El
open Go.Proofs.YthpioplpfmlgcaaGreatDoor.At
open Go.Proofs.YthpioplpfmlgcaaGreatDoor.Ch
open Go.Proofs.YthpioplpfmlgcaaGreatDoor.Sp
open Go.Proofs.YthpioplpfmlgcaaGreatDoor.Sy
open Go.RowKit
theorem ite_rng {p q : Prop} [Decidable p] [Decidable q] {m x : Int} (hp : p → 0 < m) (h : -1 ≤ m) (hx : -1 ≤ x ∧ x ≤ m) : -1 ≤ (if p then m - 1 else if q then -1 else x) ∧ (if p then m - 1 else if q then -1 else x) ≤ m := by
  by_cases h1 : p
  · have := hp h1
    rw [if_pos h1]
    exact ⟨by omega, by omega⟩
  · rw [if_neg h1]
    by_cases h2 : q
    · rw [if_pos h2]
      exact ⟨by omega, by omega⟩
    · rw [if_neg h2]
      exact hx
mutual
theorem grpF_rng : ∀ (t u : Trm) (m : Int), -1 ≤ m → -1 ≤ grpF t u m ∧ grpF t u m ≤ m
  | .mk k a v f ts, u, m, h => by
    rw [grpF_eq]
    exact ite_rng (fun h1 => h1.1) h (grpL_rng ts u.args m h)
theorem grpL_rng : ∀ (ts us : List Trm) (m : Int), -1 ≤ m → -1 ≤ grpL ts us m ∧ grpL ts us m ≤ m
  | [], us, m, h => by rw [grpL]; exact ⟨h, Int.le_refl _⟩
  | t :: ts, us, m, h => by
    by_cases hm : m < 0
    · rw [grpL.eq_def]
      dsimp only
      rw [if_pos hm]
      exact ⟨h, Int.le_refl _⟩
    · cases us with
      | nil =>
        rw [grpL.eq_def]
        dsimp only
        rw [if_neg hm]
        exact ⟨h, Int.le_refl _⟩
      | cons u us =>
        rw [grpL, if_neg hm]
        have h1 := grpF_rng t u m h
        have h2 := grpL_rng ts us (grpF t u m) h1.1
        exact ⟨h2.1, by omega⟩
end
/-- whether the second one is a group around the first one -/
def hereB (t u : Trm) (m : Int) : Bool := decide (0 < m) && (u.kind == 4 && (u.nam.toList == [103, 114, 111, 117, 112] && (u.form.toList == [102, 101, 110, 99, 101, 40, 41] && (match u.args with
  | [x] => eqM t x
  | _ => false))))
def diffB (t u : Trm) : Bool := t.kind != u.kind || (!(t.nam.toList == u.nam.toList) || (!(t.vr.toList == u.vr.toList) || (!(t.form.toList == u.form.toList) || decide (t.args.length ≠ u.args.length))))
theorem grpF_here (t u : Trm) (m : Int) : grpF t u m = if hereB t u m = true then m - 1 else if diffB t u = true then -1 else grpL t.args u.args m := by
  obtain ⟨k, a, v, f, ts⟩ := t
  rw [grpF_eq]
  have e1 : grpS.data.toList = [103, 114, 111, 117, 112] := by decide +kernel
  have e2 : (fenS ++ brkS).data.toList = [102, 101, 110, 99, 101, 40, 41] := by decide +kernel
  have h1 : ∀ x : ByteArray, (x.toList == [103, 114, 111, 117, 112]) = true ↔ x.data.toList = grpS.data.toList := fun x => by rw [e1, beq_iff_eq, ByteArray.toList_eq]
  have h2 : ∀ x : ByteArray, (x.toList == [102, 101, 110, 99, 101, 40, 41]) = true ↔ x.data.toList = (fenS ++ brkS).data.toList := fun x => by rw [e2, beq_iff_eq, ByteArray.toList_eq]
  have h3 : ∀ x y : ByteArray, (!(x.toList == y.toList)) = true ↔ x.data.toList ≠ y.data.toList := fun x y => by rw [Bool.not_eq_true', beq_eq_false_iff_ne, ByteArray.toList_eq, ByteArray.toList_eq]
  have c1 : (0 < m ∧ u.kind = 4 ∧ u.nam.data.toList = grpS.data.toList ∧ u.form.data.toList = (fenS ++ brkS).data.toList ∧ (match u.args with
      | [x] => eqM (.mk k a v f ts) x
      | _ => false) = true) ↔ hereB (.mk k a v f ts) u m = true := by
    unfold hereB
    rw [Bool.and_eq_true, Bool.and_eq_true, Bool.and_eq_true, Bool.and_eq_true, decide_eq_true_eq, h1, h2, beq_iff_eq]
  have c2 : (k ≠ u.kind ∨ a.data.toList ≠ u.nam.data.toList ∨ v.data.toList ≠ u.vr.data.toList ∨ f.data.toList ≠ u.form.data.toList ∨ ts.length ≠ u.args.length) ↔ diffB (.mk k a v f ts) u = true := by
    unfold diffB
    rw [Bool.or_eq_true, Bool.or_eq_true, Bool.or_eq_true, Bool.or_eq_true, h3, h3, h3, decide_eq_true_eq, bne_iff_ne]
    exact Iff.rfl
  clear h1 h2 h3
  by_cases h1 : hereB (.mk k a v f ts) u m = true
  · rw [if_pos h1]
    exact if_pos (c1.2 h1)
  · rw [if_neg h1]
    refine (if_neg (fun h => h1 (c1.1 h))).trans ?_
    by_cases h2 : diffB (.mk k a v f ts) u = true
    · rw [if_pos h2]
      exact if_pos (c2.2 h2)
    · rw [if_neg h2]
      exact if_neg (fun h => h2 (c2.1 h))
def lastB (t : Trm) (us : List Trm) : Bool := match us with
  | [x] => eqM t x
  | _ => false
theorem here_tail {t : Trm} {k' : Int} {a' v' f' : ByteArray} {us : List Trm} {m : Int} (h0 : 0 < m) (q1 : (k' == 4) = true) (q2 : (a'.toList == [103, 114, 111, 117, 112]) = true) (q3 : (f'.toList == [102, 101, 110, 99, 101, 40, 41]) = true) : hereB t (.mk k' a' v' f' us) m = lastB t us := by
  unfold hereB
  rw [decide_eq_true h0, show (Trm.mk k' a' v' f' us).kind = k' from rfl, show (Trm.mk k' a' v' f' us).nam = a' from rfl, show (Trm.mk k' a' v' f' us).form = f' from rfl, q1, q2, q3]
  rfl
theorem grpL_step {ts us : List Trm} {j : Nat} {x y : Trm} {m : Int} (h1 : ts[j]? = some x) (h2 : us[j]? = some y) (hm : 0 ≤ m) : grpL (ts.drop j) (us.drop j) m = grpL (ts.drop (j + 1)) (us.drop (j + 1)) (grpF x y m) := by
  obtain ⟨l1, rfl⟩ := List.getElem?_eq_some_iff.1 h1
  obtain ⟨l2, rfl⟩ := List.getElem?_eq_some_iff.1 h2
  rw [List.drop_eq_getElem_cons l1, List.drop_eq_getElem_cons l2, grpL, if_neg (by omega)]
theorem grpL_neg {ts us : List Trm} {m : Int} (hm : m < 0) : grpL ts us m = m := by
  cases ts with
  | nil => rw [grpL]
  | cons t ts =>
    rw [grpL.eq_def]
    dsimp only
    rw [if_pos hm]
set_option maxRecDepth 100000 in
set_option maxHeartbeats 8000000 in
theorem grouped_any : ∀ (z : Nat) (t u : Trm) (c d : Array Value) (m : Int) (w : World), cntM t ≤ z → -1 ≤ m → m ≤ 9223372036854775807 → MAt w t c → MAt w u d → Calls Tryz.prog 25 #[.agg c, .agg d, .int .i64 m] w fun e w' => e = .returned (.int .i64 (grpF t u m)) ∧ Below w.heap.size w w' := by
  intro z
  induction z with
  | zero => intro t u c d m w h; have := cnt_pos t; omega
  | succ z ih =>
    intro t u c d m w hz hm0 hm1 hM hM2
    have IH := Lib.hid ih
    clear ih
    obtain ⟨A, cap, rfl, ha, hv, hf, hl, hc, hk⟩ := hM.form
    obtain ⟨A', cap', rfl, ha', hv', hf', hl', hc', hk'⟩ := hM2.form
    obtain ⟨k, a, v, f, ts⟩ := t
    obtain ⟨k', a', v', f', us⟩ := u
    dsimp only [Trm.kind, Trm.nam, Trm.vr, Trm.form, Trm.args] at ha hv hf hl hk ha' hv' hf' hl' hk' ⊢
    have HQ := Lib.hid (grpF_here (.mk k a v f ts) (.mk k' a' v' f' us) m)
    have HDI := Lib.hid (show diffB (.mk k a v f ts) (.mk k' a' v' f' us) = (k != k' || (!(a.toList == a'.toList) || (!(v.toList == v'.toList) || (!(f.toList == f'.toList) || decide (ts.length ≠ us.length))))) from rfl)
    have HZ := Lib.hid (show cntL ts ≤ z by rw [cntM] at hz; omega)
    have HCT := Lib.hid hz
    have HM0 := Lib.hid hM
    have HMR := Lib.hid (And.intro hm0 hm1)
    have HW := Lib.hid (show (w.alloc (.cells (trmC k a v A ts.length cap f) 31)).heap.size = w.heap.size + 1 by simp)
    have B1 := bel_alloc w (.cells (trmC k a v A ts.length cap f) 31)
    have B2 := bel_alloc (w.alloc (.cells (trmC k a v A ts.length cap f) 31)) (.cells (trmC k' a' v' A' us.length cap' f') 31)
    have HB := Lib.hid (B1.trans (B2.mono B1.size))
    have HK := Lib.hid (hk.keep HB.out)
    have HK' := Lib.hid (hk'.keep HB.out)
    have K0 := Lib.hid (keep B2 (Blk.new w 31 (trmC k a v A ts.length cap f)))
    have K1 : Hid (Blk ((w.alloc (.cells (trmC k a v A ts.length cap f) 31)).alloc (.cells (trmC k' a' v' A' us.length cap' f') 31)) (w.heap.size + 1) 31 (trmC k' a' v' A' us.length cap' f')) := by
      show Blk _ _ _ _
      rw [← HW.out]
      exact Blk.new _ _ _
    clear hM hM2 hk hk' B1 B2 HW hz hm0 hm1
    dsimp only [trmC] at HB HK HK' K0 K1 HM0
    go_enter Tryz.func25, Tryz.ntmps25
    go_upto_region 1 with (fail)
    generalize (w.alloc (.cells #[.int .i64 k, .string a, .string v, .slice A ts.length cap, .string f] 31)).alloc (.cells #[.int .i64 k', .string a', .string v', .slice A' us.length cap', .string f'] 31) = w1 at *
    go_cut [38] (fun b wc => b = .bool (hereB (.mk k a v f ts) (.mk k' a' v' f' us) m) ∧ Below w1.heap.size w1 wc)
    case first =>
      have c0 := K0.out.cell 0
      have c1 := K0.out.cell 1
      have c2 := K0.out.cell 2
      have c3 := K0.out.cell 3
      have c4 := K0.out.cell 4
      have e0 := K1.out.cell 0
      have e1 := K1.out.cell 1
      have e2 := K1.out.cell 2
      have e3 := K1.out.cell 3
      have e4 := K1.out.cell 4
      by_cases h0 : 0 < m
      case neg =>
        have HD := Lib.hid (show hereB (.mk k a v f ts) (.mk k' a' v' f' us) m = false by unfold hereB; rw [decide_eq_false h0, Bool.false_and])
        go_quiet (fail)
        go_wp2_with fail
        go_meet
        exact ⟨by rw [HD.out], below_drewN (Below.refl _ _) _⟩
      cases q1 : (k' == 4) with
      | false =>
        have HD := Lib.hid (show hereB (.mk k a v f ts) (.mk k' a' v' f' us) m = false by unfold hereB; rw [show (Trm.mk k' a' v' f' us).kind = k' from rfl, q1, Bool.false_and, Bool.and_false])
        go_quiet (fail)
        go_wp2_with fail
        go_meet
        exact ⟨by rw [HD.out], below_drewN (Below.refl _ _) _⟩
      | true =>
      cases q2 : (a'.toList == [103, 114, 111, 117, 112]) with
      | false =>
        have HD := Lib.hid (show hereB (.mk k a v f ts) (.mk k' a' v' f' us) m = false by unfold hereB; rw [show (Trm.mk k' a' v' f' us).nam = a' from rfl, q2, Bool.false_and, Bool.and_false, Bool.and_false])
        go_quiet (fail)
        go_wp2_with fail
        go_meet
        exact ⟨by rw [HD.out], below_drewN (Below.refl _ _) _⟩
      | true =>
      cases q3 : (f'.toList == [102, 101, 110, 99, 101, 40, 41]) with
      | false =>
        have HD := Lib.hid (show hereB (.mk k a v f ts) (.mk k' a' v' f' us) m = false by unfold hereB; rw [show (Trm.mk k' a' v' f' us).form = f' from rfl, q3, Bool.false_and, Bool.and_false, Bool.and_false, Bool.and_false])
        go_quiet (fail)
        go_wp2_with fail
        go_meet
        exact ⟨by rw [HD.out], below_drewN (Below.refl _ _) _⟩
      | true =>
      have HDE := Lib.hid (here_tail (t := .mk k a v f ts) (v' := v') (us := us) h0 q1 q2 q3)
      by_cases h5 : us.length = 1
      case neg =>
        have HD := Lib.hid (show hereB (.mk k a v f ts) (.mk k' a' v' f' us) m = false by
          rw [HDE.out]
          cases us with
          | nil => rfl
          | cons x r =>
            cases r with
            | nil => exact absurd rfl h5
            | cons y r => rfl)
        have q5 : ((us.length : Int) == 1) = false := by rw [beq_eq_false_iff_ne]; omega
        clear h5
        go_quiet (fail)
        go_wp2_with fail
        go_meet
        exact ⟨by rw [HD.out], below_drewN (Below.refl _ _) _⟩
      obtain ⟨x, hx⟩ : ∃ x, us = [x] := List.length_eq_one_iff.1 h5
      obtain ⟨ad', A3, cap3, rfl, hadl', hp'⟩ := HK'.out.at_ (show us[0]? = some x by rw [hx]; rfl)
      have HY := Lib.hid hp'.whole
      obtain ⟨hb2, g0, g1, g2, g3, g4, -⟩ := hp'
      have q5 : ((us.length : Int) == 1) = true := by rw [beq_iff_eq]; omega
      have hpos : (0 : Int) < (us.length : Int) := by omega
      have HD := Lib.hid (show hereB (.mk k a v f ts) (.mk k' a' v' f' us) m = eqM (.mk k a v f ts) x by rw [HDE.out, hx]; rfl)
      clear hx h5 HDE
      have HBW := HB
      rw [show ad'.add (0 * 5) = ad' by rw [Nat.zero_mul]; unfold Addr.add; cases ad'; simp] at hb2 g0 g1 g2 g3 g4
      refine wp_region_ext (by kernel_rfl) (by kernel_rfl) ?_
      have C0 := fun e : Ext w1 => (keep e.bel K0.out).cell 0
      have C1 := fun e : Ext w1 => (keep e.bel K0.out).cell 1
      have C2 := fun e : Ext w1 => (keep e.bel K0.out).cell 2
      have C3 := fun e : Ext w1 => (keep e.bel K0.out).cell 3
      have C4 := fun e : Ext w1 => (keep e.bel K0.out).cell 4
      have E0 := fun e : Ext w1 => (keep e.bel K1.out).cell 0
      have E1 := fun e : Ext w1 => (keep e.bel K1.out).cell 1
      have E3 := fun e : Ext w1 => (keep e.bel K1.out).cell 3
      have E4 := fun e : Ext w1 => (keep e.bel K1.out).cell 4
      have G0 := fun e : Ext w1 => e.cell hb2 g0
      have G1 := fun e : Ext w1 => e.cell (p := ⟨ad'.block, ad'.off + 1, none⟩) hb2 g1
      have G2 := fun e : Ext w1 => e.cell (p := ⟨ad'.block, ad'.off + 2, none⟩) hb2 g2
      have G3 := fun e : Ext w1 => e.cell (p := ⟨ad'.block, ad'.off + 3, none⟩) hb2 g3
      have G4 := fun e : Ext w1 => e.cell (p := ⟨ad'.block, ad'.off + 4, none⟩) hb2 g4
      have HC := Lib.hid (fun e : Ext w1 => Calls.ext (requal_any _ (.mk k a v f ts) x _ _ e.val (Nat.le_refl _) (HM0.out.keep (HBW.out.trans (e.bel.mono HBW.out.size))) (HY.out.keep e.bel)))
      clear c0 c1 c2 c3 c4 e0 e1 e2 e3 e4 g0 g1 g2 g3 g4
      repeat (go_big_quiet_step (fail))
      go_big_quiet_step ((rename_i e; exact HC.out e))
      repeat (go_big_quiet_step (fail))
      refine wpQuiet_nil ?_
      intro wq hwq
      obtain ⟨⟨w9, hb⟩, e9⟩ := hwq
      dsimp only at e9
      subst e9
      go_wp2_with fail
      go_meet
      exact ⟨by rw [HD.out], hb⟩
    obtain ⟨h38, hb⟩ := hcut
    subst h38
    replace HB := Lib.hid (HB.out.trans (hb.mono HB.out.size))
    replace K0 := Lib.hid (keep hb K0.out)
    replace K1 := Lib.hid (keep hb K1.out)
    replace HK := Lib.hid (HK.out.keep hb)
    replace HK' := Lib.hid (HK'.out.keep hb)
    clear hb
    cases hh : hereB (.mk k a v f ts) (.mk k' a' v' f' us) m with
    | true =>
      rw [hh, if_pos rfl] at HQ
      have HM3 := Lib.hid (show -1 ≤ m - 1 ∧ 0 < m by
        unfold hereB at hh
        rw [Bool.and_eq_true, decide_eq_true_eq] at hh
        omega)
      have hr : wrap64 (m - 1) = m - 1 := by have := HM3.out; have := HMR.out; unfold wrap64; omega
      clear hh
      go_wp2_with fail
      exact bodyPost_ret (v := .int .i64 (m - 1)) (by simp [results, Tryz.results25, go_sem, hr]) rfl ⟨by rw [HQ.out], HB.out⟩
    | false =>
    rw [hh, if_neg (by simp)] at HQ
    clear hh
    clear HM0
    have c0 := K0.out.cell 0
    have c1 := K0.out.cell 1
    have c2 := K0.out.cell 2
    have c3 := K0.out.cell 3
    have c4 := K0.out.cell 4
    have e0 := K1.out.cell 0
    have e1 := K1.out.cell 1
    have e2 := K1.out.cell 2
    have e3 := K1.out.cell 3
    have e4 := K1.out.cell 4
    cases q0 : (k == k')
    · have n0 : (k != k') = true := by rw [bne, q0]; rfl
      have HR1 := Lib.hid (show grpF (.mk k a v f ts) (.mk k' a' v' f' us) m = -1 by rw [HQ.out, if_pos (by rw [HDI.out, n0]; rfl)])
      clear q0
      go_wp2_with fail
      exact bodyPost_ret (v := .int .i64 (-1)) (by simp [results, Tryz.results25, go_sem]) rfl ⟨by rw [HR1.out], HB.out⟩
    have n0 : (k != k') = false := by rw [bne, q0]; rfl
    clear q0
    rw [n0, Bool.false_or] at HDI
    cases q1 : (a.toList == a'.toList)
    · have HR1 := Lib.hid (show grpF (.mk k a v f ts) (.mk k' a' v' f' us) m = -1 by rw [HQ.out, if_pos (by rw [HDI.out, q1]; rfl)])
      go_wp2_with fail
      exact bodyPost_ret (v := .int .i64 (-1)) (by simp [results, Tryz.results25, go_sem]) rfl ⟨by rw [HR1.out], HB.out⟩
    rw [q1, Bool.not_true, Bool.false_or] at HDI
    cases q2 : (v.toList == v'.toList)
    · have HR1 := Lib.hid (show grpF (.mk k a v f ts) (.mk k' a' v' f' us) m = -1 by rw [HQ.out, if_pos (by rw [HDI.out, q2]; rfl)])
      go_wp2_with fail
      exact bodyPost_ret (v := .int .i64 (-1)) (by simp [results, Tryz.results25, go_sem]) rfl ⟨by rw [HR1.out], HB.out⟩
    rw [q2, Bool.not_true, Bool.false_or] at HDI
    cases q3 : (f.toList == f'.toList)
    · have HR1 := Lib.hid (show grpF (.mk k a v f ts) (.mk k' a' v' f' us) m = -1 by rw [HQ.out, if_pos (by rw [HDI.out, q3]; rfl)])
      go_wp2_with fail
      exact bodyPost_ret (v := .int .i64 (-1)) (by simp [results, Tryz.results25, go_sem]) rfl ⟨by rw [HR1.out], HB.out⟩
    rw [q3, Bool.not_true, Bool.false_or] at HDI
    by_cases hn : ts.length ≠ us.length
    · have n3 : ((ts.length : Int) != (us.length : Int)) = true := by rw [bne_iff_ne]; omega
      have HR1 := Lib.hid (show grpF (.mk k a v f ts) (.mk k' a' v' f' us) m = -1 by rw [HQ.out, if_pos (by rw [HDI.out, decide_eq_true hn])])
      clear hn
      go_wp2_with fail
      exact bodyPost_ret (v := .int .i64 (-1)) (by simp [results, Tryz.results25, go_sem]) rfl ⟨by rw [HR1.out], HB.out⟩
    have n3 : ((ts.length : Int) != (us.length : Int)) = false := by rw [bne_eq_false_iff_eq]; omega
    replace hn : ts.length = us.length := Classical.not_not.1 hn
    have HGL := Lib.hid (show grpF (.mk k a v f ts) (.mk k' a' v' f' us) m = grpL (ts.drop 0) (us.drop 0) m by
      rw [HQ.out, if_neg (by rw [HDI.out, decide_eq_false (fun h => h hn)]; simp), List.drop_zero, List.drop_zero]; rfl)
    replace hn := Lib.hid hn
    have HMQ := Lib.hid HMR.out
    clear HQ HDI
    go_wp2_with fail
    clear c0 c1 c2 c3 c4 e0 e1 e2 e3 e4 n0 q1 q2 q3 n3
    clear HMR HCT
    go_loopw [2, 7] (fun mm i wr => ∃ (j : Nat) (q : Int), j ≤ ts.length ∧ mm = .int .i64 q ∧ i = .int .i64 j ∧ Hid (grpF (.mk k a v f ts) (.mk k' a' v' f' us) m = grpL (ts.drop j) (us.drop j) q) ∧ Hid (-1 ≤ q ∧ q ≤ 9223372036854775807) ∧ Hid (Blk wr w.heap.size 31 #[.int .i64 k, .string a, .string v, .slice A ts.length cap, .string f]) ∧ Hid (Blk wr (w.heap.size + 1) 31 #[.int .i64 k', .string a', .string v', .slice A' us.length cap', .string f']) ∧ Hid (ArgsAt wr A ts) ∧ Hid (ArgsAt wr A' us) ∧ Hid (Below w.heap.size w wr)) (fun _ i _ => ts.length - (intOf i).toNat)
    case atStart => exact ⟨0, m, by omega, rfl, rfl, HGL, HMQ, K0, K1, HK, HK', HB⟩
    case round =>
      clear K0 K1 HK HK' HB HGL HMQ
      obtain ⟨j, q, hj, rfl, rfl, HGL, HMQ, K0, K1, HK, HK', HB⟩ := hrel
      have c3 := K0.out.cell 3
      have e3 := K1.out.cell 3
      by_cases hlt : j < ts.length
      · by_cases hq : 0 ≤ q
        · obtain ⟨x, hx⟩ : ∃ x, ts[j]? = some x := ⟨_, List.getElem?_eq_getElem hlt⟩
          obtain ⟨y, hy⟩ : ∃ y, us[j]? = some y := ⟨_, List.getElem?_eq_getElem (by have := hn.out; omega)⟩
          obtain ⟨ad, A2, cap2, rfl, hadl, hp⟩ := HK.out.at_ hx
          obtain ⟨ad', A3, cap3, rfl, hadl', hp'⟩ := HK'.out.at_ hy
          have HX := Lib.hid hp.whole
          have HY := Lib.hid hp'.whole
          obtain ⟨hb1, d0, d1, d2, d3, d4, -⟩ := hp
          obtain ⟨hb2, g0, g1, g2, g3, g4, -⟩ := hp'
          have HS := Lib.hid (show cntM x ≤ z by have := cnt_arg hx; have := HZ.out; omega)
          have HSN := Lib.hid (HGL.out.trans (grpL_step hx hy hq))
          have HRG := Lib.hid (show -1 ≤ grpF x y q ∧ grpF x y q ≤ 9223372036854775807 by have h1 := grpF_rng x y q (by omega); have h2 := HMQ.out; exact ⟨h1.1, by omega⟩)
          have hlu : (j : Int) < (us.length : Int) := by have := hn.out; omega
          clear hx hy
          go_wp2_with fail
          go_upto_region 8 with (fail)
          refine wp_region_ext (by kernel_rfl) (by kernel_rfl) ?_
          have EC := fun e : Ext wr => (keep e.bel K0.out).cell 3
          have EE := fun e : Ext wr => (keep e.bel K1.out).cell 3
          have D0 := fun e : Ext wr => e.cell hb1 d0
          have D1 := fun e : Ext wr => e.cell (p := ⟨(ad.add (j * 5)).block, (ad.add (j * 5)).off + 1, none⟩) hb1 d1
          have D2 := fun e : Ext wr => e.cell (p := ⟨(ad.add (j * 5)).block, (ad.add (j * 5)).off + 2, none⟩) hb1 d2
          have D3 := fun e : Ext wr => e.cell (p := ⟨(ad.add (j * 5)).block, (ad.add (j * 5)).off + 3, none⟩) hb1 d3
          have D4 := fun e : Ext wr => e.cell (p := ⟨(ad.add (j * 5)).block, (ad.add (j * 5)).off + 4, none⟩) hb1 d4
          have G0 := fun e : Ext wr => e.cell hb2 g0
          have G1 := fun e : Ext wr => e.cell (p := ⟨(ad'.add (j * 5)).block, (ad'.add (j * 5)).off + 1, none⟩) hb2 g1
          have G2 := fun e : Ext wr => e.cell (p := ⟨(ad'.add (j * 5)).block, (ad'.add (j * 5)).off + 2, none⟩) hb2 g2
          have G3 := fun e : Ext wr => e.cell (p := ⟨(ad'.add (j * 5)).block, (ad'.add (j * 5)).off + 3, none⟩) hb2 g3
          have G4 := fun e : Ext wr => e.cell (p := ⟨(ad'.add (j * 5)).block, (ad'.add (j * 5)).off + 4, none⟩) hb2 g4
          have HC := Lib.hid (fun e : Ext wr => Calls.ext (IH.out x y _ _ q e.val HS.out HMQ.out.1 HMQ.out.2 (HX.out.keep e.bel) (HY.out.keep e.bel)))
          clear c3 e3 d0 d1 d2 d3 d4 g0 g1 g2 g3 g4
          repeat (go_big_quiet_step (fail))
          go_big_quiet_step ((rename_i e; exact HC.out e))
          repeat (go_big_quiet_step (fail))
          refine wpQuiet_nil ?_
          intro wq hwq
          obtain ⟨⟨w9, hb⟩, e9⟩ := hwq
          dsimp only at e9
          subst e9
          replace K0 := Lib.hid (keep hb K0.out)
          replace K1 := Lib.hid (keep hb K1.out)
          replace HK := Lib.hid (HK.out.keep hb)
          replace HK' := Lib.hid (HK'.out.keep hb)
          replace HB := Lib.hid (HB.out.trans (hb.mono HB.out.size))
          clear EC EE D0 D1 D2 D3 D4 G0 G1 G2 G3 G4 HC hb hb1 hb2 HX HY
          go_wp2_with fail
          go_roundw
          case rel => exact ⟨j + 1, grpF x y q, by omega, rfl, by go_num, HSN, HRG, K0, K1, HK, HK', HB⟩
          case measure => simp [intOf]; omega
        · have HE := Lib.hid (show grpF (.mk k a v f ts) (.mk k' a' v' f' us) m = q by rw [HGL.out]; exact grpL_neg (by omega))
          go_wp2_with fail
          exact bodyPost_ret (v := .int .i64 (q)) (by simp [results, Tryz.results25, go_sem]) rfl ⟨by rw [HE.out], HB.out⟩
      · obtain rfl : j = ts.length := by omega
        have HE := Lib.hid (show grpF (.mk k a v f ts) (.mk k' a' v' f' us) m = q by rw [HGL.out, List.drop_length, grpL])
        go_wp2_with fail
        exact bodyPost_ret (v := .int .i64 (q)) (by simp [results, Tryz.results25, go_sem]) rfl ⟨by rw [HE.out], HB.out⟩
end Go.Proofs.YthpioplpfmlgcaaGreatDoor.El
namespace Go.Proofs.YthpioplpfmlgcaaGreatDoor.El
open Go.Proofs.YthpioplpfmlgcaaGreatDoor.At
open Go.Proofs.YthpioplpfmlgcaaGreatDoor.Ch
open Go.Proofs.YthpioplpfmlgcaaGreatDoor.Sp
open Go.Proofs.YthpioplpfmlgcaaGreatDoor.Sy
open Go.RowKit
theorem _root_.Go.Proofs.YthpioplpfmlgcaaGreatDoor.At.NodAt.size {w : World} {t : Tre} {c : Array Value} (h : NodAt w t c) : c.size = 4 := by
  obtain ⟨A, cap, rfl, _⟩ := h.form
  rfl
theorem flat4 : ∀ (l : List (Array Value)) (k j : Nat) (c : Array Value), (∀ c ∈ l, c.size = 4) → l[k]? = some c → j < 4 → (l.flatMap (·.toList))[k * 4 + j]? = c[j]?
  | [], k, j, c, _, h, _ => by simp at h
  | x :: r, 0, j, c, hs, h, hj => by
    obtain rfl : x = c := by simpa using h
    have := hs x List.mem_cons_self
    rw [List.flatMap_cons, List.getElem?_append_left (by simp; omega)]
    simp
  | x :: r, k + 1, j, c, hs, h, hj => by
    have ih := flat4 r k j c (fun c hc => hs c (List.mem_cons_of_mem _ hc)) (by simpa using h) hj
    have := hs x List.mem_cons_self
    rw [List.flatMap_cons, List.getElem?_append_right (by simp; omega), ← ih]
    congr 1
    simp
    omega
theorem flat4_len : ∀ l : List (Array Value), (∀ c ∈ l, c.size = 4) → (l.flatMap (·.toList)).length = l.length * 4
  | [], _ => rfl
  | c :: l, h => by
    rw [List.flatMap_cons, List.length_append, flat4_len l fun c hc => h c (List.mem_cons_of_mem _ hc), List.length_cons, Array.length_toList, h c List.mem_cons_self]
    omega
/-- the cells of a list of nodes -/
structure NodC (w : World) (css : List (Array Value)) (ks : List Tre) : Prop where
  len : css.length = ks.length
  at_ : ∀ (j : Nat) c x, css[j]? = some c → ks[j]? = some x → NodAt w x c
theorem NodC.size {w : World} {css : List (Array Value)} {ks : List Tre} (h : NodC w css ks) : ∀ c ∈ css, c.size = 4 := fun c hc => by
  obtain ⟨j, hj⟩ := List.mem_iff_getElem?.1 hc
  have hj2 := (List.getElem?_eq_some_iff.1 hj).1
  exact (h.at_ j c (ks[j]'(by have := h.len; omega)) hj (List.getElem?_eq_getElem (by have := h.len; omega))).size
theorem NodC.one {w : World} {css : List (Array Value)} {ks : List Tre} (h : NodC w css ks) : ∀ u ∈ css.flatMap (·.toList), u.oneCell' = true := fun u hu => by
  obtain ⟨c, hc, hr⟩ := List.mem_flatMap.1 hu
  obtain ⟨j, hj⟩ := List.mem_iff_getElem?.1 hc
  have hj2 := (List.getElem?_eq_some_iff.1 hj).1
  obtain ⟨A, cap, rfl, _⟩ := (h.at_ j c (ks[j]'(by have := h.len; omega)) hj (List.getElem?_eq_getElem (by have := h.len; omega))).form
  simp at hr
  rcases hr with rfl | rfl | rfl | rfl <;> rfl
theorem nods_cells {w : World} {A : Option Addr} {ks : List Tre} (h : KidsAt w A ks) : ∃ css : List (Array Value), NodC w css ks ∧ Reads w w.heap.size 4 A ks.length (css.flatMap (·.toList)) := by
  have ex : ∀ i : Nat, ∃ c : Array Value, ∀ x, ks[i]? = some x → NodAt w x c ∧ ∃ ad : Addr, A = some ad ∧ ad.block < w.heap.size ∧ ∀ j, j < 4 → w.cell? (ad.add (i * 4 + j)) = c[j]? := fun i => by
    cases hx : ks[i]? with
    | none => exact ⟨#[], fun x h => by cases h⟩
    | some x =>
      obtain ⟨ad, h1, h2, c, h4, h5⟩ := h i x hx
      refine ⟨c, fun y hy => ?_⟩
      cases hy
      exact ⟨h4, ad, h1, h2, h5⟩
  obtain ⟨cs, hcs⟩ := Classical.axiomOfChoice ex
  have hlen : ((List.range ks.length).map cs).length = ks.length := by simp
  have hget : ∀ (j : Nat) c, ((List.range ks.length).map cs)[j]? = some c → j < ks.length ∧ c = cs j := fun j c hj => by
    rw [List.getElem?_map] at hj
    rcases Nat.lt_or_ge j ks.length with hl | hl
    · rw [List.getElem?_range hl] at hj
      exact ⟨hl, (Option.some.inj hj).symm⟩
    · rw [List.getElem?_eq_none (by simpa using hl)] at hj; cases hj
  have hN : NodC w ((List.range ks.length).map cs) ks := ⟨hlen, fun j c x hj hx => by
    obtain ⟨_, rfl⟩ := hget j c hj
    exact (hcs j x hx).1⟩
  have hsz := hN.size
  refine ⟨_, hN, by rw [flat4_len _ hsz, hlen], fun hn => ?_⟩
  obtain ⟨_, ad, hA, hlt, _⟩ := hcs 0 _ (List.getElem?_eq_getElem hn)
  refine ⟨ad, hA, hlt, fun j u hj => ?_⟩
  have hjl := (List.getElem?_eq_some_iff.1 hj).1
  rw [flat4_len _ hsz, hlen] at hjl
  have hq : j / 4 < ks.length := by omega
  obtain ⟨_, ad2, hA2, _, h5⟩ := hcs (j / 4) _ (List.getElem?_eq_getElem hq)
  obtain rfl : ad = ad2 := Option.some.inj (hA.symm.trans hA2)
  have h6 := flat4 _ (j / 4) (j % 4) (cs (j / 4)) hsz (by rw [List.getElem?_map, List.getElem?_range hq]; rfl) (by omega)
  rw [show j / 4 * 4 + j % 4 = j by omega, hj, ← h5 (j % 4) (by omega), show j / 4 * 4 + j % 4 = j by omega] at h6
  exact h6.symm
/-- nodes in a block of one's own, what hangs on them from before -/
structure NRow (w0 w : World) (g : Nat) (ts : List Tre) : Prop where
  bel : Below w0.heap.size w0 w
  lo : w0.heap.size ≤ g
  cells : ∃ cur, Blk w g 25 cur ∧ ts.length * 4 ≤ cur.size ∧ ∀ (i : Nat) t, ts[i]? = some t → ∃ c, NodAt w0 t c ∧ ∀ j, j < 4 → cur[i * 4 + j]? = c[j]?
theorem NRow.keep {w0 w w' : World} {g : Nat} {ts : List Tre} (h : NRow w0 w g ts) (hb : Below w.heap.size w w') : NRow w0 w' g ts := by
  obtain ⟨cur, h1, h2, h3⟩ := h.cells
  exact ⟨h.bel.trans (hb.mono h.bel.size), h.lo, cur, _root_.Go.Proofs.YthpioplpfmlgcaaGreatDoor.keep hb h1, h2, h3⟩
theorem addg (g m : Nat) : (⟨g, 0, none⟩ : Addr).add m = ⟨g, m, none⟩ := by unfold Addr.add; split <;> simp_all
theorem NRow.kids {w0 w : World} {g : Nat} {ts : List Tre} (h : NRow w0 w g ts) : KidsAt w (some ⟨g, 0, none⟩) ts := fun i t hi => by
  obtain ⟨cur, h1, h2, h3⟩ := h.cells
  obtain ⟨c, h4, h5⟩ := h3 i t hi
  exact ⟨_, rfl, h1.lt, c, h4.keep h.bel, fun j hj => by rw [addg, h1.cell, h5 j hj]⟩
theorem nrow_of {w0 w' : World} {B n : Nat} {v : Value} {ts : List Tre} {css : List (Array Value)} (hN : NodC w0 css ts) (ho : w'.ownsRow B 25 4 v n (css.flatMap (·.toList))) (hn : n = ts.length) (h0 : ts ≠ []) (hb : Below w0.heap.size w0 w') (hB : w0.heap.size ≤ B) : ∃ g cap, v = .slice (some ⟨g, 0, none⟩) ts.length cap ∧ ts.length ≤ cap ∧ cap ≤ 9223372036854775807 ∧ NRow w0 w' g ts := by
  subst hn
  rcases ho.2 with ⟨rfl, h1⟩ | ⟨g, cap, cur, rfl, hg, hbk, hn, hc, hs, ht⟩
  · exact absurd (List.length_eq_zero_iff.1 h1) h0
  · refine ⟨g, cap, rfl, hn, by unfold maxLen at hc; omega, hb, by omega, cur, hbk, by rw [hs]; exact Nat.mul_le_mul_right 4 hn, fun i t hi => ?_⟩
    have hil := (List.getElem?_eq_some_iff.1 hi).1
    obtain ⟨c, hci⟩ : ∃ c, css[i]? = some c := ⟨_, List.getElem?_eq_getElem (by have := hN.len; omega)⟩
    refine ⟨c, hN.at_ i c t hci hi, fun j hj => ?_⟩
    have h3 := flat4 css i j c hN.size hci hj
    rw [← ht, List.getElem?_take, if_pos (by omega), Array.getElem?_toList] at h3
    exact h3
/-- one of them is written over -/
theorem NRow.put {w0 w : World} {g k : Nat} {ts : List Tre} (h : NRow w0 w g ts) (hk : k < ts.length) {y : Tre} {y0 y1 y2 y3 : Value} (hy : NodAt (setsAt w g (k * 4) [y0, y1, y2, y3]) y #[y0, y1, y2, y3]) : KidsAt (setsAt w g (k * 4) [y0, y1, y2, y3]) (some ⟨g, 0, none⟩) (ts.set k y) := fun i t hi => by
  obtain ⟨cur, h1, h2, h3⟩ := h.cells
  have hlo := h.lo
  have hg := setsAt_grown [y0, y1, y2, y3] w g (k * 4)
  have hb : Below w0.heap.size w0 (setsAt w g (k * 4) [y0, y1, y2, y3]) := h.bel.grown hg h.bel.size fun r e => by have := Option.some.inj e; omega
  have hbk := setsAt_blk [y0, y1, y2, y3] w g (k * 4) cur h1
  have hsz : k * 4 + [y0, y1, y2, y3].length ≤ cur.size := by simp; omega
  by_cases hik : i = k
  · subst hik
    rw [List.getElem?_set_self hk] at hi
    obtain rfl := Option.some.inj hi
    refine ⟨_, rfl, hbk.lt, _, hy, fun j hj => ?_⟩
    rw [addg, hbk.cell, putsAt_get _ _ _ _ hsz, if_pos (by simp; omega), show i * 4 + j - i * 4 = j by omega]
    match j, hj with
    | 0, _ | 1, _ | 2, _ | 3, _ => rfl
    | j + 4, hj => omega
  · rw [List.getElem?_set_ne (fun e => hik e.symm)] at hi
    obtain ⟨c, h4, h5⟩ := h3 i t hi
    refine ⟨_, rfl, hbk.lt, c, h4.keep hb, fun j hj => ?_⟩
    rw [addg, hbk.cell, putsAt_get _ _ _ _ hsz, if_neg (by simp; omega), h5 j hj]
theorem info_nod : (Tryz.prog.info? 25).map (fun i => (i.zero, i.size, i.bytes)) = some (some (.agg #[.int .i64 0, .string ⟨#[]⟩, .int .i64 0, .slice none 0 0]), 4, 56) := by kernel_rfl
theorem nod_parts : ∃ i, Tryz.prog.info? 25 = some i ∧ i.zero = some (.agg #[.int .i64 0, .string ⟨#[]⟩, .int .i64 0, .slice none 0 0]) ∧ i.size = 4 ∧ i.bytes = 56 := by
  have h := info_nod
  cases e : Tryz.prog.info? 25 with
  | none => rw [e] at h; cases h
  | some i =>
    rw [e] at h
    simp only [Option.map_some, Option.some.injEq, Prod.mk.injEq] at h
    exact ⟨i, rfl, h.1, h.2.1, h.2.2⟩
theorem own_none (w : World) : (w.alloc (.cells #[] 25)).ownsRow w.heap.size 25 4 (.slice (some ⟨w.heap.size, 0, none⟩) 0 0) 0 [] := World.ownsRow_made w #[] 0 (Nat.le_refl _) (by decide) rfl
end Go.Proofs.YthpioplpfmlgcaaGreatDoor.El
