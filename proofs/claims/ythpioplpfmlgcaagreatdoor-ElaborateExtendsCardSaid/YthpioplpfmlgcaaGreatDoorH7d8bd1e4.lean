/- Equal of the reference · How many readings valid rules have at most: plain · An operand in brackets: the meaning has one group more: plain · Errors of meanings; the slots of a tree with one operand: plain · The walk of ElaborateExtends: one rule more -/
import Derived.Test.YthpioplpfmlgcaaGreatDoorHfbed354a
import Derived.Test.YthpioplpfmlgcaaGreatDoorH09685d45
import Derived.Deep.RegionWith
import Derived.Deep.DeepCutAuto
import Derived.Test.YthpioplpfmlgcaaGreatDoorH4c6de665
import Derived.Test.YthpioplpfmlgcaaGreatDoorH95b2a9f9
import Derived.Test.YthpioplpfmlgcaaGreatDoorH64d930c9
import Derived.Test.YthpioplpfmlgcaaGreatDoorHcfd92578
import Derived.Test.YthpioplpfmlgcaaGreatDoorH5f6aca22
import Derived.BigQuiet
import Derived.Deep.CutBlock
namespace Go.Proofs.YthpioplpfmlgcaaGreatDoor.Sp
open Go.Proofs.YthpioplpfmlgcaaGreatDoor.At
open Go.RowKit
mutual
def eqM : Trm → Trm → Bool
  | .mk k a v f ts, u => (k == u.kind && (a.toList == u.nam.toList && (v.toList == u.vr.toList && (f.toList == u.form.toList && decide (ts.length = u.args.length))))) && eqL ts u.args
def eqL : List Trm → List Trm → Bool
  | [], us => us.isEmpty
  | t :: ts, us => match us with
    | [] => false
    | u :: us => eqM t u && eqL ts us
end
theorem bytes_eq {a b : ByteArray} (h : (a.toList == b.toList) = true) : a = b := by
  rw [beq_iff_eq, ByteArray.toList_eq, ByteArray.toList_eq] at h
  apply ByteArray.ext
  exact Array.toList_inj.1 h
mutual
theorem eqM_iff : ∀ t u : Trm, eqM t u = true ↔ t = u
  | .mk k a v f ts, .mk k' a' v' f' us => by
    unfold eqM
    simp only [Trm.kind, Trm.nam, Trm.vr, Trm.form, Trm.args, Bool.and_eq_true, beq_iff_eq]
    constructor
    · rintro ⟨⟨rfl, h1, h2, h3, h4⟩, h5⟩
      rw [bytes_eq (beq_iff_eq.2 h1), bytes_eq (beq_iff_eq.2 h2), bytes_eq (beq_iff_eq.2 h3), (eqL_iff ts us).1 h5]
    · intro e
      injection e with e1 e2 e3 e4 e5
      subst e1; subst e2; subst e3; subst e4; subst e5
      exact ⟨⟨rfl, rfl, rfl, rfl, decide_eq_true rfl⟩, (eqL_iff ts ts).2 rfl⟩
theorem eqL_iff : ∀ ts us : List Trm, eqL ts us = true ↔ ts = us
  | [], us => by unfold eqL; rw [List.isEmpty_iff]; exact eq_comm
  | t :: ts, [] => by unfold eqL; simp
  | t :: ts, u :: us => by
    unfold eqL
    simp only [Bool.and_eq_true]
    rw [eqM_iff t u, eqL_iff ts us, List.cons.injEq]
end
theorem eqL_snoc {ts us : List Trm} {j : Nat} {x y : Trm} (h1 : ts[j]? = some x) (h2 : us[j]? = some y) : eqL (ts.take (j + 1)) (us.take (j + 1)) = (eqL (ts.take j) (us.take j) && eqM x y) := by
  rw [Bool.eq_iff_iff, Bool.and_eq_true, eqL_iff, eqL_iff, eqM_iff, List.take_add_one, List.take_add_one, h1, h2]
  have l1 : j < ts.length := (List.getElem?_eq_some_iff.1 h1).1
  have l2 : j < us.length := (List.getElem?_eq_some_iff.1 h2).1
  constructor
  · intro e
    have := List.append_inj e (by simp; omega)
    exact ⟨this.1, by simpa using this.2⟩
  · rintro ⟨e, rfl⟩
    rw [e]
theorem eqL_false {ts us : List Trm} {j : Nat} (h : eqL (ts.take j) (us.take j) = false) : eqL ts us = false := by
  cases hq : eqL ts us
  · rfl
  · rw [(eqL_iff ts us).1 hq] at h
    rw [(eqL_iff _ _).2 rfl] at h
    cases h
set_option maxRecDepth 100000 in
set_option maxHeartbeats 4000000 in
theorem requal_any : ∀ (z : Nat) (t u : Trm) (c d : Array Value) (w : World), cntM t ≤ z → MAt w t c → MAt w u d → Calls Tryz.prog 16 #[.agg c, .agg d] w fun e w' => e = .returned (.bool (eqM t u)) ∧ Below w.heap.size w w' := by
  intro z
  induction z with
  | zero => intro t u c d w h; have := cnt_pos t; omega
  | succ z ih =>
    intro t u c d w hz hM hM2
    have IH := Lib.hid ih
    clear ih
    obtain ⟨A, cap, rfl, ha, hv, hf, hl, hc, hk⟩ := hM.form
    obtain ⟨A', cap', rfl, ha', hv', hf', hl', hc', hk'⟩ := hM2.form
    obtain ⟨k, a, v, f, ts⟩ := t
    obtain ⟨k', a', v', f', us⟩ := u
    dsimp only [Trm.kind, Trm.nam, Trm.vr, Trm.form, Trm.args] at ha hv hf hl hk ha' hv' hf' hl' hk' ⊢
    have HQ := Lib.hid (show eqM (.mk k a v f ts) (.mk k' a' v' f' us) = ((k == k' && (a.toList == a'.toList && (v.toList == v'.toList && (f.toList == f'.toList && decide (ts.length = us.length))))) && eqL ts us) by unfold eqM; rfl)
    have HZ := Lib.hid (show cntL ts ≤ z by rw [cntM] at hz; omega)
    have HW := Lib.hid (show (w.alloc (.cells (trmC k a v A ts.length cap f) 31)).heap.size = w.heap.size + 1 by simp)
    have B1 := bel_alloc w (.cells (trmC k a v A ts.length cap f) 31)
    have B2 := bel_alloc (w.alloc (.cells (trmC k a v A ts.length cap f) 31)) (.cells (trmC k' a' v' A' us.length cap' f') 31)
    have HB := Lib.hid (B1.trans (B2.mono B1.size))
    have HK := Lib.hid (hk.keep HB.out)
    have HK' := Lib.hid (hk'.keep HB.out)
    have K0 := Lib.hid (keep B2 (Blk.new w 31 (trmC k a v A ts.length cap f)))
    have K1 : Hid (Blk ((w.alloc (.cells (trmC k a v A ts.length cap f) 31)).alloc (.cells (trmC k' a' v' A' us.length cap' f') 31)) (w.heap.size + 1) 31 (trmC k' a' v' A' us.length cap' f')) := by
      show Blk _ _ _ _
      rw [← HW.out]
      exact Blk.new _ _ _
    clear hM hM2 hk hk' B1 B2 HW hz
    dsimp only [trmC] at HB HK HK' K0 K1
    have c0 := K0.out.cell 0
    have c1 := K0.out.cell 1
    have c2 := K0.out.cell 2
    have c3 := K0.out.cell 3
    have c4 := K0.out.cell 4
    have e0 := K1.out.cell 0
    have e1 := K1.out.cell 1
    have e2 := K1.out.cell 2
    have e3 := K1.out.cell 3
    have e4 := K1.out.cell 4
    go_enter Tryz.func16, Tryz.ntmps16
    cases q0 : (k == k')
    · rw [q0] at HQ
      have n0 : (k != k') = true := by rw [bne, q0]; rfl
      go_wp2_with fail
      go_ret
      exact ⟨ret_bool (by rw [HQ.out]; rfl), HB.out⟩
    have n0 : (k != k') = false := by rw [bne, q0]; rfl
    rw [q0, Bool.true_and] at HQ
    replace q0 := Lib.hid q0
    cases q1 : (a.toList == a'.toList)
    · rw [q1] at HQ
      have n1 : (!(a.toList == a'.toList)) = true := by rw [q1]; rfl
      go_wp2_with fail
      go_ret
      exact ⟨ret_bool (by rw [HQ.out]; rfl), HB.out⟩
    have n1 : (!(a.toList == a'.toList)) = false := by rw [q1]; rfl
    rw [q1, Bool.true_and] at HQ
    replace q1 := Lib.hid q1
    cases q2 : (v.toList == v'.toList)
    · rw [q2] at HQ
      have n2 : (!(v.toList == v'.toList)) = true := by rw [q2]; rfl
      go_wp2_with fail
      go_ret
      exact ⟨ret_bool (by rw [HQ.out]; rfl), HB.out⟩
    have n2 : (!(v.toList == v'.toList)) = false := by rw [q2]; rfl
    rw [q2, Bool.true_and] at HQ
    replace q2 := Lib.hid q2
    cases q4 : (f.toList == f'.toList)
    · rw [q4] at HQ
      have n4 : (!(f.toList == f'.toList)) = true := by rw [q4]; rfl
      go_wp2_with fail
      go_ret
      exact ⟨ret_bool (by rw [HQ.out]; rfl), HB.out⟩
    have n4 : (!(f.toList == f'.toList)) = false := by rw [q4]; rfl
    rw [q4, Bool.true_and] at HQ
    replace q4 := Lib.hid q4
    by_cases hn : ts.length ≠ us.length
    · have n3 : ((ts.length : Int) != (us.length : Int)) = true := by rw [bne_iff_ne]; omega
      rw [decide_eq_false hn] at HQ
      clear hn
      go_wp2_with fail
      go_ret
      exact ⟨ret_bool (by rw [HQ.out]; rfl), HB.out⟩
    have n3 : ((ts.length : Int) != (us.length : Int)) = false := by rw [bne_eq_false_iff_eq]; omega
    replace hn : ts.length = us.length := Classical.not_not.1 hn
    rw [decide_eq_true hn, Bool.true_and] at HQ
    replace hn := Lib.hid hn
    go_wp2_with fail
    clear c0 c1 c2 c3 c4 e0 e1 e2 e3 e4
    generalize (w.alloc (.cells #[.int .i64 k, .string a, .string v, .slice A ts.length cap, .string f] 31)).alloc (.cells #[.int .i64 k', .string a', .string v', .slice A' us.length cap', .string f'] 31) = w1 at *
    go_loopw [5] (fun i wr => ∃ j : Nat, j ≤ ts.length ∧ i = .int .i64 j ∧ Hid (eqL (ts.take j) (us.take j) = true) ∧ Hid (Blk wr w.heap.size 31 #[.int .i64 k, .string a, .string v, .slice A ts.length cap, .string f]) ∧ Hid (Blk wr (w.heap.size + 1) 31 #[.int .i64 k', .string a', .string v', .slice A' us.length cap', .string f']) ∧ Hid (ArgsAt wr A ts) ∧ Hid (ArgsAt wr A' us) ∧ Hid (Below w.heap.size w wr)) (fun i _ => ts.length - (intOf i).toNat)
    case atStart => exact ⟨0, by omega, rfl, rfl, K0, K1, HK, HK', HB⟩
    case round =>
      clear K0 K1 HK HK' HB
      obtain ⟨j, hj, rfl, HJ, K0, K1, HK, HK', HB⟩ := hrel
      have c3 := K0.out.cell 3
      have e3 := K1.out.cell 3
      by_cases hlt : j < ts.length
      · obtain ⟨x, hx⟩ : ∃ x, ts[j]? = some x := ⟨_, List.getElem?_eq_getElem hlt⟩
        obtain ⟨y, hy⟩ : ∃ y, us[j]? = some y := ⟨_, List.getElem?_eq_getElem (by have := hn.out; omega)⟩
        obtain ⟨ad, A2, cap2, rfl, hadl, hp⟩ := HK.out.at_ hx
        obtain ⟨ad', A3, cap3, rfl, hadl', hp'⟩ := HK'.out.at_ hy
        have HX := Lib.hid hp.whole
        have HY := Lib.hid hp'.whole
        obtain ⟨hb1, d0, d1, d2, d3, d4, -⟩ := hp
        obtain ⟨hb2, g0, g1, g2, g3, g4, -⟩ := hp'
        have HS := Lib.hid (show cntM x ≤ z by have := cnt_arg hx; have := HZ.out; omega)
        have HSN := Lib.hid (eqL_snoc hx hy)
        rw [HJ.out, Bool.true_and] at HSN
        have HFA := Lib.hid (fun h => eqL_false (ts := ts) (us := us) (j := j + 1) h)
        have hlu : (j : Int) < (us.length : Int) := by have := hn.out; omega
        clear hx hy
        go_wp2_with fail
        go_upto_region 6 with (fail)
        refine wp_region_ext (by kernel_rfl) (by kernel_rfl) ?_
        have EC := fun e : Ext wr => (keep e.bel K0.out).cell 3
        have EE := fun e : Ext wr => (keep e.bel K1.out).cell 3
        have D0 := fun e : Ext wr => e.cell hb1 d0
        have D1 := fun e : Ext wr => e.cell (p := ⟨(ad.add (j * 5)).block, (ad.add (j * 5)).off + 1, none⟩) hb1 d1
        have D2 := fun e : Ext wr => e.cell (p := ⟨(ad.add (j * 5)).block, (ad.add (j * 5)).off + 2, none⟩) hb1 d2
        have D3 := fun e : Ext wr => e.cell (p := ⟨(ad.add (j * 5)).block, (ad.add (j * 5)).off + 3, none⟩) hb1 d3
        have D4 := fun e : Ext wr => e.cell (p := ⟨(ad.add (j * 5)).block, (ad.add (j * 5)).off + 4, none⟩) hb1 d4
        have G0 := fun e : Ext wr => e.cell hb2 g0
        have G1 := fun e : Ext wr => e.cell (p := ⟨(ad'.add (j * 5)).block, (ad'.add (j * 5)).off + 1, none⟩) hb2 g1
        have G2 := fun e : Ext wr => e.cell (p := ⟨(ad'.add (j * 5)).block, (ad'.add (j * 5)).off + 2, none⟩) hb2 g2
        have G3 := fun e : Ext wr => e.cell (p := ⟨(ad'.add (j * 5)).block, (ad'.add (j * 5)).off + 3, none⟩) hb2 g3
        have G4 := fun e : Ext wr => e.cell (p := ⟨(ad'.add (j * 5)).block, (ad'.add (j * 5)).off + 4, none⟩) hb2 g4
        have HC := Lib.hid (fun e : Ext wr => Calls.ext (IH.out x y _ _ e.val HS.out (HX.out.keep e.bel) (HY.out.keep e.bel)))
        clear c3 e3 d0 d1 d2 d3 d4 g0 g1 g2 g3 g4
        repeat (go_big_quiet_step (fail))
        go_big_quiet_step ((rename_i e; exact HC.out e))
        repeat (go_big_quiet_step (fail))
        refine wpQuiet_nil ?_
        intro wq hwq
        obtain ⟨⟨w9, hb⟩, e9⟩ := hwq
        dsimp only at e9
        subst e9
        replace K0 := Lib.hid (keep hb K0.out)
        replace K1 := Lib.hid (keep hb K1.out)
        replace HK := Lib.hid (HK.out.keep hb)
        replace HK' := Lib.hid (HK'.out.keep hb)
        replace HB := Lib.hid (HB.out.trans (hb.mono HB.out.size))
        clear EC EE D0 D1 D2 D3 D4 G0 G1 G2 G3 G4 HC hb hb1 hb2 HX HY
        cases hr : eqM x y
        · have hq : eqL ts us = false := HFA.out (by rw [HSN.out, hr])
          rw [hq] at HQ
          clear hr hq
          go_wp2_with fail
          go_ret
          exact ⟨ret_bool (by rw [HQ.out]), HB.out⟩
        · rw [hr] at HSN
          clear hr
          go_wp2_with fail
          go_roundw
          case rel => exact ⟨j + 1, by omega, by go_num, HSN, K0, K1, HK, HK', HB⟩
          case measure => simp [intOf]; omega
      · obtain rfl : j = ts.length := by omega
        have hq : eqL ts us = true := by
          have h := HJ.out
          rw [List.take_length, hn.out, List.take_length] at h
          exact h
        rw [hq] at HQ
        clear hq
        go_wp2_with fail
        go_ret
        exact ⟨ret_bool (by rw [HQ.out]), HB.out⟩
end Go.Proofs.YthpioplpfmlgcaaGreatDoor.Sp
namespace Go.Proofs.YthpioplpfmlgcaaGreatDoor.Ch
end Go.Proofs.YthpioplpfmlgcaaGreatDoor.Ch
namespace Go.Proofs.YthpioplpfmlgcaaGreatDoor.El
open Go.Proofs.YthpioplpfmlgcaaGreatDoor.At
open Go.Proofs.YthpioplpfmlgcaaGreatDoor.Ch
open Go.Proofs.YthpioplpfmlgcaaGreatDoor.Sp
open Go.Proofs.YthpioplpfmlgcaaGreatDoor.Sy
open Go.RowKit
mutual
theorem eq_self : ∀ t : Trm, eqM t t = true
  | .mk k a v f ts => by
    rw [eqM]
    simp only [Trm.kind, Trm.nam, Trm.vr, Trm.form, Trm.args, beq_self_eq_true, decide_true, Bool.true_and]
    exact eq_selfL ts
theorem eq_selfL : ∀ ts : List Trm, eqL ts ts = true
  | [] => by rw [eqL]; rfl
  | t :: ts => by rw [eqL, eq_self t, eq_selfL ts]; rfl
end
end Go.Proofs.YthpioplpfmlgcaaGreatDoor.El
namespace Go.Proofs.YthpioplpfmlgcaaGreatDoor.El
open Go.Proofs.YthpioplpfmlgcaaGreatDoor.At
open Go.Proofs.YthpioplpfmlgcaaGreatDoor.Ch
open Go.Proofs.YthpioplpfmlgcaaGreatDoor.Sp
open Go.Proofs.YthpioplpfmlgcaaGreatDoor.Sy
open Go.RowKit
/-- a failure of a list -/
def badE {α : Type} (m : Mea α) : Prop := ∀ e p, m = .bad e p → e = 14 ∨ e = 15
theorem badE.ok {α : Type} (a : α) : badE (Mea.ok a) := fun e p h => by cases h
theorem badE.then_ {α β : Type} {m : Mea α} {f : α → Mea β} (h : badE m) (hf : ∀ a, m = .ok a → badE (f a)) : badE (m.then_ f) := by
  intro e p he
  cases m with
  | bad e' p' =>
    have he2 : (Mea.bad e' p' : Mea β) = .bad e p := he
    injection he2 with h1 h2
    rw [← h1]
    exact h e' p' rfl
  | ok a => exact hf a rfl e p he
/-- a failure whose position is not too long -/
def badN {α : Type} (N : Nat) (m : Mea α) : Prop := ∀ e p, m = .bad e p → p.length ≤ N
theorem badN.ok {α : Type} (N : Nat) (a : α) : badN N (Mea.ok a) := fun e p h => by cases h
theorem badN.then_ {α β : Type} {N : Nat} {m : Mea α} {f : α → Mea β} (h : badN N m) (hf : ∀ a, m = .ok a → badN N (f a)) : badN N (m.then_ f) := by
  intro e p he
  cases m with
  | bad e' p' =>
    have he2 : (Mea.bad e' p' : Mea β) = .bad e p := he
    injection he2 with h1 h2
    rw [← h2]
    exact h e' p' rfl
  | ok a => exact hf a rfl e p he
theorem slots_plen {M : List Tre → List Int → Nat → Mea Trm} {path : List Int} {N : Nat} : ∀ (ks : List Tre) (s b : Nat), (∀ d ∈ ks, ∀ (i : Int) k, badN N (M d.kids (path ++ [i]) k)) → badN N (slotsF M path ks s b)
  | [], _, _, _ => by rw [slotsF]; exact badN.ok _ _
  | n :: ns, s, b, h => by
    rw [slotsF]
    exact (h n List.mem_cons_self _ _).then_ fun t _ => (slots_plen ns _ _ fun d hd => h d (List.mem_cons_of_mem _ hd)).then_ fun ts _ => badN.ok _ _
theorem opnd_plen {M : List Tre → List Int → Nat → Mea Trm} {n : Tre} {path : List Int} {N : Nat} (h : ∀ d ∈ n.kids, ∀ (i : Int) k, badN N (M d.kids (path ++ [i]) k)) : badN N (opndF M n path) := by
  unfold opndF
  split
  · exact badN.ok _ _
  split
  · exact badN.ok _ _
  split
  · exact badN.ok _ _
  · refine badN.then_ ?_ fun ts _ => badN.ok _ _
    cases hk : n.kids with
    | nil => exact badN.ok _ _
    | cons d ks =>
      rw [hk] at h
      dsimp only
      split
      · exact slots_plen ks 1 0 fun e he => h e (List.mem_cons_of_mem _ he)
      · exact slots_plen (d :: ks) 0 0 h
theorem scr_plen {rs : List Rul} {M : List Tre → List Int → Nat → Mea Trm} {n : Tre} {path : List Int} {p : Bool} {N : Nat} (h : ∀ d ∈ n.kids, ∀ (i : Int) k, badN N (M d.kids (path ++ [i]) k)) : badN N (scrF rs M n path p) := by
  unfold scrF
  split
  · exact badN.ok _ _
  · exact (slots_plen _ _ _ fun d hd => h d (List.mem_of_mem_tail hd)).then_ fun ts _ => badN.ok _ _
theorem partsF_plen {rs : List Rul} {M : List Tre → List Int → Nat → Mea Trm} {path : List Int} {kd : Nat → Int} {k N : Nat} : ∀ (ns : List Tre) (ts : List ByteArray) (i : Nat), (∀ n ∈ ns, ∀ d ∈ n.kids, ∀ (j i : Int) k, badN N (M d.kids (path ++ [j] ++ [i]) k)) → badN N (partsF rs M path kd k ns ts i)
  | [], ts, i, _ => by
    have : partsF rs M path kd k [] ts i = .ok [] := by cases ts <;> simp [partsF]
    rw [this]; exact badN.ok _ _
  | n :: ns, [], i, _ => by
    have : partsF rs M path kd k (n :: ns) [] i = .ok [] := by simp [partsF]
    rw [this]; exact badN.ok _ _
  | n :: ns, t :: ts, i, h => by
    rw [partsF]
    refine badN.then_ ?_ fun x _ => (partsF_plen ns ts (i + 1) fun m hm => h m (List.mem_cons_of_mem _ hm)).then_ fun ps _ => badN.ok _ _
    split
    · exact opnd_plen fun d hd => h n List.mem_cons_self d hd _
    · exact scr_plen fun d hd => h n List.mem_cons_self d hd _
theorem list_plen (rs : List Rul) : ∀ (f : Nat) (items : List Tre) (path : List Int) (k : Nat), badN (path.length + 2 * f + 1) (listM rs f items path k)
  | 0, items, path, k => by rw [listM]; intro e p he; injection he with h1 h2; rw [← h2]; omega
  | f + 1, items, path, k => by
    rw [listM]
    unfold listF
    split
    · intro e p he; injection he with h1 h2; rw [← h2, List.length_append, List.length_singleton]; omega
    split
    · intro e p he; injection he with h1 h2; rw [← h2, List.length_append, List.length_singleton]; omega
    split
    · intro e p he; injection he with h1 h2; rw [← h2, List.length_append, List.length_singleton]; omega
    · refine (partsF_plen _ _ _ fun n hn d hd j i k' => ?_).then_ fun ps _ => badN.ok _ _
      have h := list_plen rs f d.kids (path ++ [j] ++ [i]) k'
      intro e p he
      have := h e p he
      rw [List.length_append, List.length_append, List.length_singleton, List.length_singleton] at this
      omega
    · intro e p he; injection he with h1 h2; rw [← h2, List.length_append, List.length_singleton]; omega
end Go.Proofs.YthpioplpfmlgcaaGreatDoor.El
namespace Go.Proofs.YthpioplpfmlgcaaGreatDoor.El
open Go.Proofs.YthpioplpfmlgcaaGreatDoor.At
open Go.Proofs.YthpioplpfmlgcaaGreatDoor.Ch
open Go.Proofs.YthpioplpfmlgcaaGreatDoor.Sp
open Go.Proofs.YthpioplpfmlgcaaGreatDoor.Sy
open Go.RowKit
abbrev rulsC (rs : List Rul) : List Value := rs.flatMap fun r => r.c.toList
theorem rulsC_len : ∀ rs : List Rul, (rulsC rs).length = rs.length * 6
  | [] => rfl
  | r :: rs => by
    have ih := rulsC_len rs
    show (r.c.toList ++ rulsC rs).length = (rs.length + 1) * 6
    rw [List.length_append, ih, show r.c.toList.length = 6 from rfl]
    omega
theorem rulsC_at : ∀ (rs : List Rul) (k j : Nat) (r : Rul), rs[k]? = some r → j < 6 → (rulsC rs)[k * 6 + j]? = r.c[j]?
  | [], k, j, r, h, _ => by simp at h
  | x :: rs, 0, j, r, h, hj => by
    obtain rfl : x = r := by simpa using h
    show (x.c.toList ++ rulsC rs)[0 * 6 + j]? = x.c[j]?
    rw [Nat.zero_mul, Nat.zero_add, List.getElem?_append_left (show j < x.c.toList.length from hj), Array.getElem?_toList]
  | x :: rs, k + 1, j, r, h, hj => by
    have ih := rulsC_at rs k j r (by simpa using h) hj
    show (x.c.toList ++ rulsC rs)[(k + 1) * 6 + j]? = r.c[j]?
    have hl : x.c.toList.length = 6 := rfl
    rw [List.getElem?_append_right (by omega), hl, ← ih]
    congr 1
    omega
theorem rulsC_back {rs : List Rul} {i : Nat} {v : Value} (h : (rulsC rs)[i]? = some v) : ∃ r, rs[i / 6]? = some r ∧ r.c[i % 6]? = some v := by
  have hl := (List.getElem?_eq_some_iff.1 h).1
  rw [rulsC_len] at hl
  have hq : i / 6 < rs.length := by omega
  refine ⟨_, List.getElem?_eq_getElem hq, ?_⟩
  rw [← rulsC_at rs (i / 6) (i % 6) _ (List.getElem?_eq_getElem hq) (by omega), show i / 6 * 6 + i % 6 = i by omega]
  exact h
theorem rulsC_one (rs : List Rul) : ∀ u ∈ rulsC rs, u.oneCell' = true := fun u hu => by
  obtain ⟨r, _, hr⟩ := List.mem_flatMap.1 hu
  simp at hr
  rcases hr with rfl | rfl | rfl | rfl | rfl | rfl <;> rfl
theorem reads_ruls {w : World} {A : Option Addr} {rs : List Rul} {n : Nat} (h : RulsAt w A rs) (hn : n = rs.length) : Reads w w.heap.size 6 A n (rulsC rs) := by
  subst hn
  refine ⟨rulsC_len rs, fun h0 => ?_⟩
  obtain ⟨_, ad, h1, h2, _⟩ := h 0 _ (List.getElem?_eq_getElem h0)
  refine ⟨ad, h1, h2, fun j v hj => ?_⟩
  obtain ⟨r, h3, h4⟩ := rulsC_back hj
  obtain ⟨_, ad2, h5, _, h6⟩ := h _ r h3
  obtain rfl : ad = ad2 := Option.some.inj (h1.symm.trans h5)
  have := h6 _ v h4
  rwa [show j / 6 * 6 + j % 6 = j by omega] at this
theorem own_ruls {w : World} {B : Nat} {v : Value} {rs : List Rul} (ho : w.ownsRow B 50 6 v rs.length (rulsC rs)) (hf : ∀ r ∈ rs, r.fits) : ∃ A cap, v = .slice A rs.length cap ∧ rs.length ≤ cap ∧ cap ≤ 9223372036854775807 ∧ RulsAt w A rs := by
  rcases ho.2 with ⟨rfl, h0⟩ | ⟨g, cap, cur, rfl, hg, hb, hn, hc, hs, ht⟩
  · obtain rfl : rs = [] := List.length_eq_zero_iff.1 h0
    exact ⟨none, 0, rfl, by simp, by omega, fun j p hj => by simp at hj⟩
  · have hb' : Blk w g 50 cur := hb
    refine ⟨_, cap, rfl, hn, by unfold maxLen at hc; omega, fun k r hk => ⟨hf r (List.mem_of_getElem? hk), ⟨g, 0, none⟩, rfl, hb'.lt, fun j u hj => ?_⟩⟩
    have hj6 : j < 6 := (Array.getElem?_eq_some_iff.1 hj).1
    have h3 := rulsC_at rs k j r hk hj6
    rw [hj, ← ht, List.getElem?_take] at h3
    rw [show (⟨g, 0, none⟩ : Addr).add (k * 6 + j) = ⟨g, k * 6 + j, none⟩ by unfold Addr.add; split <;> simp_all, hb'.cell]
    split at h3
    · rw [← Array.getElem?_toList]; exact h3
    · cases h3
abbrev GM := Nat × Value × Nat × Value
def MoS (w5 : World) (rs : List Rul) (x : Rul) : List Bool → GM → World → Prop
  | [a1, a2, a3, a4], gx, wq => Below w5.heap.size w5 wq ∧ (a1 = true → a2 = false → wq.ownsRow w5.heap.size 50 6 (.slice (some ⟨gx.1, 0, none⟩) 0 0) 0 []) ∧ (a2 = true → a4 = false → wq.ownsRow w5.heap.size 50 6 gx.2.1 rs.length (rulsC rs)) ∧ (a4 = true → wq.ownsRow w5.heap.size 50 6 gx.2.2.2 (rs ++ [x]).length (rulsC (rs ++ [x]))) ∧
    (a3 = true → a4 = false → Blk wq gx.2.2.1 50 x.c ∧ (a1 = true → a2 = false → gx.2.2.1 ≠ gx.1) ∧ (a2 = true → gx.2.1.ownBlock ≠ some gx.2.2.1))
  | _, _, _ => False
theorem info_rul : (Tryz.prog.info? 50).map (fun i => (i.zero, i.size, i.bytes)) = some (some (.agg #[.int .i64 0, .string ⟨#[]⟩, .string ⟨#[]⟩, .int .i64 0, .int .i64 0, .int .i64 0]), 6, 64) := by kernel_rfl
theorem rul_parts : ∃ i, Tryz.prog.info? 50 = some i ∧ i.zero = some (.agg #[.int .i64 0, .string ⟨#[]⟩, .string ⟨#[]⟩, .int .i64 0, .int .i64 0, .int .i64 0]) ∧ i.size = 6 ∧ i.bytes = 64 := by
  have h := info_rul
  cases e : Tryz.prog.info? 50 with
  | none => rw [e] at h; cases h
  | some i =>
    rw [e] at h
    simp only [Option.map_some, Option.some.injEq, Prod.mk.injEq] at h
    exact ⟨i, rfl, h.1, h.2.1, h.2.2⟩
theorem grownBy_new (w : World) (o : Obj) : w.grownBy (w.alloc o) none := by
  have hb := bel_alloc w o
  exact ⟨hb.os, hb.tape, hb.output, hb.size, fun i hi _ => hb.block i hi⟩
theorem own_kept_new {w : World} {o : Obj} {B k n : Nat} {e : TypeId} {v : Value} {xs : List Value} (h : w.ownsRow B e k v n xs) : (w.alloc o).ownsRow B e k v n xs :=
  World.ownsRow.kept h (grownBy_new w o) (by
    cases hv : v.ownBlock with
    | none => exact .inl rfl
    | some b => exact .inr (by simp))
/-- what Tree answers with, of both sorts -/
def outT : Mea Trm → Int × List Int × Trm
  | .ok t => (0, [], t)
  | .bad e p => (e, p, zerT)
theorem TreeP.flat {m : Mea Trm} {w w' : World} {e : Ending} (h : TreeP m w e w') : ∃ cm A cp, e = .returned (.tuple #[.agg cm, .slice A (outT m).2.1.length cp, .int .i64 (outT m).1]) ∧ TmAt (fun b => w.heap.size ≤ b) w' (outT m).2.2 cm ∧ PathAt w' A (outT m).2.1 ∧ (outT m).2.1.length ≤ cp ∧ cp ≤ 9223372036854775807 ∧ Below w.heap.size w w' := by
  cases m with
  | ok t =>
    obtain ⟨⟨c, h1, h2⟩, hb⟩ := h
    exact ⟨c, none, 0, h1, h2, path_nil, Nat.le_refl _, by omega, hb⟩
  | bad er p =>
    obtain ⟨⟨A, cp, h1, h2, h3, h4⟩, hb⟩ := h
    exact ⟨zerC, A, cp, h1, zer_at _ _, h2, h3, h4, hb⟩
theorem out_len (rs : List Rul) (f : Nat) (t : Tre) (hf : f ≤ 1000) : (outT (treeF rs f t)).2.1.length ≤ 1000000 := by
  unfold treeF
  split
  · cases h : listM rs f t.kids [] 0 with
    | ok u =>
      dsimp only
      split
      · exact Nat.zero_le _
      · simp [outT]
    | bad e p =>
      have := list_plen rs f t.kids [] 0 e p h
      simp only [List.length_nil] at this
      show p.length ≤ 1000000
      omega
  · exact Nat.zero_le _
theorem eqm_self (t : Trm) : eqM t t = true := eq_self t
theorem tree_more {rs : List Rul} {x : Rul} (hv : validB (rs ++ [x]) = true) (h4 : x.kind ≠ 4) (f : Nat) (t : Tre) (hh : hasT x.sym.data.toList t = false) : treeF (rs ++ [x]) f t = treeF rs f t := by
  unfold treeF
  rw [hv, valid_less hv, list_more hv h4 f t.kids [] 0 (hasT_own hh).2]
set_option maxRecDepth 100000 in
set_option maxHeartbeats 8000000 in
theorem extends_walk (A : Option Addr) (cap : Nat) (rs : List Rul) (t : Tre) (c : Array Value) (x : Rul) (w : World) (hR : RulsAt w A rs) (hrc : rs.length ≤ cap) (hcc : cap ≤ 2199023255488) (hN : NodAt w t c) (hx : x.fits) : Calls Tryz.prog 7 #[.slice A rs.length cap, .agg c, .agg x.c] w fun e w' => e = .returned (.bool true) ∧ Below w.heap.size w w' := by
  obtain ⟨s0, hs, hy0, hy1, hy2⟩ := rul_parts
  obtain ⟨A2, cap2, rfl, hsz, hl2, hc2, hk⟩ := hN.form
  have B1 := bel_alloc w (.cells #[.int .i64 t.kind, .string t.text, .int .i64 t.cols, .slice A2 t.kids.length cap2] 25)
  have s1 : (w.alloc (.cells #[.int .i64 t.kind, .string t.text, .int .i64 t.cols, .slice A2 t.kids.length cap2] 25)).heap.size = w.heap.size + 1 := by simp
  have B2 := bel_alloc (w.alloc (.cells #[.int .i64 t.kind, .string t.text, .int .i64 t.cols, .slice A2 t.kids.length cap2] 25)) (.cells x.c 50)
  have HB := Lib.hid (B1.trans (B2.mono B1.size))
  have K0 := Lib.hid (keep B2 (Blk.new w 25 #[.int .i64 t.kind, .string t.text, .int .i64 t.cols, .slice A2 t.kids.length cap2]))
  have K1 := Lib.hid (Blk.new (w.alloc (.cells #[.int .i64 t.kind, .string t.text, .int .i64 t.cols, .slice A2 t.kids.length cap2] 25)) 50 x.c)
  rw [s1] at K1
  have HR := Lib.hid hR
  have HN := Lib.hid hN
  have HX := Lib.hid hx
  have HLN := Lib.hid (show rs.length + 1 ≤ 2199023255489 ∧ rs.length ≤ cap ∧ cap ≤ 9223372036854775807 by omega)
  have HF := Lib.hid (fun r (h : r ∈ rs) => by obtain ⟨k, hk⟩ := List.mem_iff_getElem?.1 h; exact (hR k r hk).1 : ∀ r ∈ rs, r.fits)
  clear hR hN hx hk hsz B1 B2 s1 hrc hcc hl2 hc2
  go_enter Tryz.func7, Tryz.ntmps7
  go_upto_region 1 with (fail)
  generalize (w.alloc (.cells #[.int .i64 t.kind, .string t.text, .int .i64 t.cols, .slice A2 t.kids.length cap2] 25)).alloc (.cells x.c 50) = w1 at *
  go_wp2_with fail
  refine (awake_any w1).mono ?_
  rintro e w5 ⟨rfl, hb⟩
  replace HB := Lib.hid (HB.out.trans (hb.mono HB.out.size))
  replace K0 := Lib.hid (keep hb K0.out)
  replace K1 := Lib.hid (keep hb K1.out)
  replace HR := Lib.hid (HR.out.keep HB.out)
  replace HN := Lib.hid (HN.out.keep HB.out)
  clear hb
  go_upto_region 3 with (fail)
  refine region_ghost (X := GM) (by kernel_rfl) _ (fun gx => [.slice (some ⟨gx.1, 0, none⟩) 0 0, .slice A rs.length cap, gx.2.1, .agg x.c, .slice (some ⟨gx.2.2.1, 0, none⟩) 1 1, gx.2.2.2, gx.2.2.2]) [true, true, true, true, true, true, true] [0, 2, 4, 5] (MoS w5 rs x) (0, .nilFunc, 0, .nilFunc) (by kernel_rfl) (fun gx => by simp [fin, finOn, dstAt, List.range, List.range.loop, Act.put]; rfl) (fun _ => by kernel_rfl) (by kernel_rfl) ⟨below_drew (Below.refl _ _), (fun h => by cases h), (fun h => by cases h), (fun h => by cases h), fun h => by cases h⟩ ?_ ?_
  · refine ⟨fun L gx wq hL hb ha hI => ?_, fun L gx wq hL hb ha hI => ?_, fun L gx wq hL hb ha hI => ?_, fun L gx wq hL hb ha hI => ?_, fun L gx wq hL hb ha hI => ?_, fun L gx wq hL hb ha hI => ?_, fun L gx wq hL hb ha hI => ?_, trivial⟩
    · have e0 : L 0 = false := hL
      have e2 : L 2 = false := ha 2 (by kernel_rfl)
      have e5 : L 5 = false := ha 5 (by kernel_rfl)
      simp only [List.map, e0, e2, e5, Nat.reduceBEq, Bool.or_false, Bool.false_or] at hI ⊢
      obtain ⟨h1, h2, h3, h4, h5⟩ := hI
      refine Gives.value (v := .slice (some ⟨wq.heap.size, 0, none⟩) 0 0) (w' := wq.alloc (.cells #[] 50)) (by simp [go_sem]) ⟨(wq.heap.size, gx.2), rfl, (KeepsV.of_same ⟨.inl rfl, .inr (.inr rfl), (by first | exact .inr (.inr rfl) | exact .inr (.inl (by kernel_rfl))), .inr (.inr rfl), (by first | exact .inr (.inr rfl) | exact .inr (.inl (by kernel_rfl))), (by first | exact .inr (.inr rfl) | exact .inr (.inl (by kernel_rfl))), (by first | exact .inr (.inr rfl) | exact .inr (.inl (by kernel_rfl))), trivial⟩), h1.alloc h1.size _, fun _ _ => ?_, (fun h => by cases h), (fun h => by cases h), fun e3 _ => ?_⟩
      · exact World.ownsRow_made wq #[] 0 h1.size (by decide) rfl
      · obtain ⟨p, _, _⟩ := h5 e3 rfl
        exact ⟨p.grown (grownBy_new wq _) (fun e => by cases e), (fun _ _ e => by have := p.lt; dsimp only at e; omega), (fun h => by cases h)⟩
    · exact Gives.plain (v := .slice A rs.length cap) (w' := wq) (by kernel_rfl) rfl hI
    · have e0 : L 0 = true := hb 0 (by kernel_rfl)
      have e2 : L 2 = false := hL
      have e5 : L 5 = false := ha 5 (by kernel_rfl)
      simp only [List.map, e0, e2, e5, Bool.or_false, Bool.or_true] at hI ⊢
      obtain ⟨h1, h2, h3, h4, h5⟩ := hI
      have hsz := h1.size
      have hln := HLN.out
      refine gives_append (.tmp 16) (.tmp 17) 22 rfl w5.heap.size 50 s0 _ 6 64 Tryz.underlying22 hs hy0 hy1 hy2 rfl (by decide) (.slice (some ⟨gx.1, 0, none⟩) 0 0) 0 [] rfl (h2 rfl rfl) wq.heap.size A rs.length cap (rulsC rs) rfl (reads_ruls (HR.out.keep h1) rfl) (rulsC_one rs) (by unfold maxLen; omega) (by omega) h1.size (fun v' w' q2 q3 q4 => ⟨(gx.1, v', gx.2.2), rfl, (KeepsV.of_same ⟨(by first | exact .inr (.inr rfl) | exact .inr (.inl (by kernel_rfl))), .inr (.inr rfl), .inl rfl, .inr (.inr rfl), (by first | exact .inr (.inr rfl) | exact .inr (.inl (by kernel_rfl))), (by first | exact .inr (.inr rfl) | exact .inr (.inl (by kernel_rfl))), (by first | exact .inr (.inr rfl) | exact .inr (.inl (by kernel_rfl))), trivial⟩), h1.grown q3 h1.size fun b hb => (World.ownsRow.lt (h2 rfl rfl) b hb).1, (fun _ h => by cases h), (fun _ _ => ?_), (fun h => by cases h), fun e3 _ => ?_⟩)
      · rw [Nat.zero_add, List.nil_append] at q2
        exact q2
      · obtain ⟨p, p2, _⟩ := h5 e3 rfl
        have hne := p2 rfl rfl
        refine ⟨p.grown q3 fun e => hne (Option.some.inj e.symm).symm, (fun _ h => by cases h), fun _ e => ?_⟩
        rcases q4 with q4 | q4
        · rw [q4] at e
          exact hne (Option.some.inj e).symm
        · rw [q4] at e
          have := p.lt
          have := Option.some.inj e
          dsimp only at this; omega
    · have cJ := fun i => (keep hI.1 K1.out).cell i
      exact Gives.plain (v := .agg x.c) (w' := wq) (by simp [go_sem, cJ, Rul.c]) rfl hI
    · have e4 : L 4 = false := hL
      have e5 : L 5 = false := ha 5 (by kernel_rfl)
      simp only [List.map, e4, e5, Bool.or_false] at hI ⊢
      obtain ⟨h1, h2, h3, h4, h5⟩ := hI
      refine Gives.value (v := .slice (some ⟨wq.heap.size, 0, none⟩) 1 1) (w' := wq.alloc (.cells x.c 50)) (by simp [go_sem, Rul.c]) ⟨(gx.1, gx.2.1, wq.heap.size, gx.2.2.2), rfl, (KeepsV.of_same ⟨(by first | exact .inr (.inr rfl) | exact .inr (.inl (by kernel_rfl))), .inr (.inr rfl), (by first | exact .inr (.inr rfl) | exact .inr (.inl (by kernel_rfl))), .inr (.inr rfl), .inl rfl, (by first | exact .inr (.inr rfl) | exact .inr (.inl (by kernel_rfl))), (by first | exact .inr (.inr rfl) | exact .inr (.inl (by kernel_rfl))), trivial⟩), h1.alloc h1.size _, fun a b => ?_, fun a b => ?_, (fun h => by cases h), fun _ _ => ⟨Blk.new _ _ _, fun a b e => ?_, fun a e => ?_⟩⟩
      · exact own_kept_new (h2 a b)
      · exact own_kept_new (h3 a b)
      · have := (World.ownsRow.lt (h2 a b) gx.1 rfl).2
        dsimp only at e; omega
      · have := (World.ownsRow.lt (h3 a rfl) _ e).2
        dsimp only at this; omega
    · have e0 : L 0 = true := hb 0 (by kernel_rfl)
      have e2 : L 2 = true := hb 2 (by kernel_rfl)
      have e4 : L 4 = true := hb 4 (by kernel_rfl)
      have e5 : L 5 = false := hL
      simp only [List.map, e0, e2, e4, e5, Bool.or_false, Bool.or_true] at hI ⊢
      obtain ⟨h1, h2, h3, h4, h5⟩ := hI
      obtain ⟨p, _, p3⟩ := h5 rfl rfl
      have hsz := h1.size
      have hln := HLN.out
      exact gives_append (.tmp 18) (.tmp 20) 22 rfl w5.heap.size 50 s0 _ 6 64 Tryz.underlying22 hs hy0 hy1 hy2 rfl (by decide) gx.2.1 rs.length (rulsC rs) rfl (h3 rfl rfl) wq.heap.size (some ⟨gx.2.2.1, 0, none⟩) 1 1 x.c.toList rfl (Sp.reads_agg p rfl) (fun u hu => rulsC_one [x] u (List.mem_flatMap.2 ⟨x, List.mem_singleton.2 rfl, hu⟩)) (by unfold maxLen; omega) (by omega) h1.size (fun v' w' q2 q3 q4 => ⟨(gx.1, gx.2.1, gx.2.2.1, v'), rfl, (KeepsV.of_same ⟨(by first | exact .inr (.inr rfl) | exact .inr (.inl (by kernel_rfl))), .inr (.inr rfl), (by first | exact .inr (.inr rfl) | exact .inr (.inl (by kernel_rfl))), .inr (.inr rfl), (by first | exact .inr (.inr rfl) | exact .inr (.inl (by kernel_rfl))), .inl rfl, (by first | exact .inr (.inr rfl) | exact .inr (.inl (by kernel_rfl))), trivial⟩), h1.grown q3 h1.size fun b hb => (World.ownsRow.lt (h3 rfl rfl) b hb).1, (fun _ h => by cases h), (fun _ h => by cases h), (fun _ => by
        rw [List.length_append, show rulsC (rs ++ [x]) = rulsC rs ++ x.c.toList by simp [rulsC]]
        exact q2), fun _ h => by cases h⟩)
    · exact Gives.plain (v := gx.2.2.2) (w' := wq) (by kernel_rfl) rfl hI
  · intro gx wq hI
    dsimp only [List.map, MoS] at hI
    obtain ⟨hb, -, -, h4, -⟩ := hI
    replace h4 := h4 rfl
    obtain ⟨A3, cap3, hv, hl3, hc3, hR3⟩ := own_ruls h4 (fun r hr => by
      rcases List.mem_append.1 hr with h | h
      · exact HF.out r h
      · rw [List.mem_singleton.1 h]; exact HX.out)
    generalize gx.2.2.2 = u3 at *
    subst hv
    clear h4
    generalize gx.1 = ga at *
    generalize gx.2.1 = gb at *
    generalize gx.2.2.1 = gc at *
    clear gx
    have HEQ := Lib.hid (show rs ++ [x] = rs ++ [x] from rfl)
    obtain ⟨rs2, hrs2⟩ : ∃ q, q = rs ++ [x] := ⟨_, rfl⟩
    rw [← hrs2] at hl3 hR3 ⊢
    clear HEQ
    have HRS2 := Lib.hid hrs2
    have HR2 := Lib.hid hR3
    have HL2 := Lib.hid (show rs2.length ≤ 2199023255489 ∧ rs2.length ≤ cap3 ∧ cap3 ≤ 9223372036854775807 ∧ rs2.length = rs.length + 1 by rw [hrs2, List.length_append, List.length_singleton]; rw [hrs2, List.length_append, List.length_singleton] at hl3; have := HLN.out; omega)
    clear hrs2 hR3 hl3 hc3
    replace HB := Lib.hid (HB.out.trans (hb.mono HB.out.size))
    replace K0 := Lib.hid (keep hb K0.out)
    replace K1 := Lib.hid (keep hb K1.out)
    replace HR := Lib.hid (HR.out.keep hb)
    replace HN := Lib.hid (HN.out.keep hb)
    clear hb
    generalize wq = w6 at *
    go_wp2_with fail
    refine (short40_any A3 cap3 rs2 w6 HR2.out (by have := HL2.out; omega)).mono ?_
    rintro e w7 ⟨rfl, rfl⟩
    cases hs4 : short40 rs2 with
    | false =>
      clear hs4
      go_wp2_with fail
      exact bodyPost_ret (v := .bool true) (by simp [results, Tryz.results7, go_sem]) rfl ⟨rfl, HB.out⟩
    | true =>
    have HS40 := Lib.hid (short40_of hs4)
    clear hs4
    have n0 := K0.out.cell 0
    have n1 := K0.out.cell 1
    have n2 := K0.out.cell 2
    have n3 := K0.out.cell 3
    go_wp2_with fail
    refine (small_any t _ 60 w6 HN.out (by decide) (by decide)).mono ?_
    rintro e w7 ⟨rfl, hb⟩
    replace HB := Lib.hid (HB.out.trans (hb.mono HB.out.size))
    replace K0 := Lib.hid (keep hb K0.out)
    replace K1 := Lib.hid (keep hb K1.out)
    replace HR := Lib.hid (HR.out.keep hb)
    replace HN := Lib.hid (HN.out.keep hb)
    replace HR2 := Lib.hid (HR2.out.keep hb)
    clear hb n0 n1 n2 n3
    cases hs4 : smallB t 60 with
    | false =>
      clear hs4
      go_wp2_with fail
      exact bodyPost_ret (v := .bool true) (by simp [results, Tryz.results7, go_sem]) rfl ⟨rfl, HB.out⟩
    | true =>
    have HC60 := Lib.hid (show countT t ≤ 60 by have h := (small_of (by decide) hs4).1; omega)
    clear hs4
    go_wp2_with fail
    refine (Go.Proofs.YthpioplpfmlgcaaGreatDoor.rvalid_any A3 cap3 rs2 w7 HR2.out (by have := HS40.out; omega)).mono ?_
    rintro e w8 ⟨rfl, hb⟩
    replace HB := Lib.hid (HB.out.trans (hb.mono HB.out.size))
    replace K0 := Lib.hid (keep hb K0.out)
    replace K1 := Lib.hid (keep hb K1.out)
    replace HR := Lib.hid (HR.out.keep hb)
    replace HN := Lib.hid (HN.out.keep hb)
    replace HR2 := Lib.hid (HR2.out.keep hb)
    clear hb
    cases hs4 : validB rs2 with
    | false =>
      clear hs4
      go_wp2_with fail
      exact bodyPost_ret (v := .bool true) (by simp [results, Tryz.results7, go_sem]) rfl ⟨rfl, HB.out⟩
    | true =>
    have HV := Lib.hid hs4
    clear hs4
    have x0 := K1.out.cell 0
    by_cases h4 : x.kind = 4
    · have q4 : (x.kind == 4) = true := beq_iff_eq.2 h4
      clear h4
      go_wp2_with fail
      exact bodyPost_ret (v := .bool true) (by simp [results, Tryz.results7, go_sem]) rfl ⟨rfl, HB.out⟩
    have q4 : (x.kind == 4) = false := beq_eq_false_iff_ne.2 h4
    have H4 := Lib.hid h4
    clear h4
    have x1 := K1.out.cell 1
    have n0 := K0.out.cell 0
    have n1 := K0.out.cell 1
    have n2 := K0.out.cell 2
    have n3 := K0.out.cell 3
    go_wp2_with fail
    refine (hast_any _ t _ x.sym w8 (Nat.lt_succ_self _) HN.out).mono ?_
    rintro e w9 ⟨rfl, hb⟩
    replace HB := Lib.hid (HB.out.trans (hb.mono HB.out.size))
    replace K0 := Lib.hid (keep hb K0.out)
    replace HR := Lib.hid (HR.out.keep hb)
    replace HN := Lib.hid (HN.out.keep hb)
    replace HR2 := Lib.hid (HR2.out.keep hb)
    clear hb n0 n1 n2 n3 x0 x1 K1
    cases hs4 : hasT x.sym.data.toList t with
    | true =>
      clear hs4
      go_wp2_with fail
      exact bodyPost_ret (v := .bool true) (by simp [results, Tryz.results7, go_sem]) rfl ⟨rfl, HB.out⟩
    | false =>
    have HTM := Lib.hid (show treeF rs2 102 t = treeF rs 102 t by rw [HRS2.out]; exact tree_more (by rw [← HRS2.out]; exact HV.out) H4.out 102 t hs4)
    clear hs4 q4
    have n0 := K0.out.cell 0
    have n1 := K0.out.cell 1
    have n2 := K0.out.cell 2
    have n3 := K0.out.cell 3
    go_wp2_with fail
    refine (tree_any A cap rs 102 t _ w9 HR.out HLN.out.2.1 HLN.out.2.2 (by have := HS40.out; have := HL2.out; omega) HN.out (by have := HC60.out; have := kids_count t; omega)).mono ?_
    rintro e wa hm
    obtain ⟨cm, pA, pc, rfl, hmt, hpp, hp1, hp2, hb⟩ := hm.flat
    replace HB := Lib.hid (HB.out.trans (hb.mono HB.out.size))
    replace K0 := Lib.hid (keep hb K0.out)
    replace HN := Lib.hid (HN.out.keep hb)
    replace HR2 := Lib.hid (HR2.out.keep hb)
    have HPL := Lib.hid (out_len rs 102 t (by decide))
    have HMM := Lib.hid hmt
    have HPP := Lib.hid hpp
    have HPC := Lib.hid (And.intro hp1 hp2)
    clear hb n0 n1 n2 n3 hm hmt hpp hp1 hp2 HR
    have HTM2 := Lib.hid (And.intro HTM.out trivial)
    obtain ⟨o, ho⟩ : ∃ o, o = outT (treeF rs 102 t) := ⟨_, rfl⟩
    have HOO := Lib.hid (show outT (treeF rs2 102 t) = o by rw [HTM.out, ← ho])
    rw [← ho] at HPL HMM HPP HPC ⊢
    clear ho HTM HTM2
    obtain ⟨er, p, u⟩ := o
    dsimp only at HPL HMM HPP HPC ⊢
    obtain ⟨mA, mc, rfl, hm2⟩ := HMM.out.form
    clear hm2
    have n0 := K0.out.cell 0
    have n1 := K0.out.cell 1
    have n2 := K0.out.cell 2
    have n3 := K0.out.cell 3
    have z0 := fun i => (Blk.new wa 31 zerC).cell i
    have z1 := fun i => (Blk.new wa 31 zerC).frozen i
    go_upto_region 7 with (fail)
    have hb := bel_alloc wa (.cells #[.int .i64 u.kind, .string u.nam, .string u.vr, .slice mA u.args.length mc, .string u.form] 31)
    have K8 := Lib.hid (Blk.new wa 31 #[.int .i64 u.kind, .string u.nam, .string u.vr, .slice mA u.args.length mc, .string u.form])
    replace HB := Lib.hid (HB.out.trans (hb.mono HB.out.size))
    replace K0 := Lib.hid (keep hb K0.out)
    replace HN := Lib.hid (HN.out.keep hb)
    replace HR2 := Lib.hid (HR2.out.keep hb)
    replace HMM := Lib.hid (HMM.out.keep hb)
    replace HPP := Lib.hid (HPP.out.keep hb)
    clear hb n0 n1 n2 n3 z0 z1
    generalize wa.alloc (.cells #[.int .i64 u.kind, .string u.nam, .string u.vr, .slice mA u.args.length mc, .string u.form] 31) = wb at *
    generalize wa.heap.size = g8 at *
    have n0 := K0.out.cell 0
    have n1 := K0.out.cell 1
    have n2 := K0.out.cell 2
    have n3 := K0.out.cell 3
    go_wp2_with fail
    refine (tree_any A3 cap3 rs2 102 t _ wb HR2.out HL2.out.2.1 HL2.out.2.2.1 (by have := HS40.out; omega) HN.out (by have := HC60.out; have := kids_count t; omega)).mono ?_
    rintro e wc hm
    obtain ⟨cm, pB, pd, rfl, hmt, hpp, hp1, hp2, hb⟩ := hm.flat
    rw [HOO.out] at hmt hpp hp1 ⊢
    dsimp only at hmt hpp hp1 ⊢
    replace HB := Lib.hid (HB.out.trans (hb.mono HB.out.size))
    replace K8 := Lib.hid (keep hb K8.out)
    replace HMM := Lib.hid (HMM.out.keep hb)
    replace HPP := Lib.hid (HPP.out.keep hb)
    have HM2 := Lib.hid hmt
    have HP2 := Lib.hid hpp
    have HP2C := Lib.hid (And.intro hp1 hp2)
    clear hb n0 n1 n2 n3 hm hmt hpp hp1 hp2 HR2 HOO HN K0
    obtain ⟨nA, nc, rfl, hm2⟩ := HM2.out.form
    clear hm2
    have z0 := fun i => (Blk.new wc 31 zerC).cell i
    have z1 := fun i => (Blk.new wc 31 zerC).frozen i
    go_upto_region 8 with (fail)
    have hb := bel_alloc wc (.cells #[.int .i64 u.kind, .string u.nam, .string u.vr, .slice nA u.args.length nc, .string u.form] 31)
    have K9 := Lib.hid (Blk.new wc 31 #[.int .i64 u.kind, .string u.nam, .string u.vr, .slice nA u.args.length nc, .string u.form])
    replace HB := Lib.hid (HB.out.trans (hb.mono HB.out.size))
    replace K8 := Lib.hid (keep hb K8.out)
    replace HMM := Lib.hid (HMM.out.keep hb)
    replace HPP := Lib.hid (HPP.out.keep hb)
    replace HM2 := Lib.hid (HM2.out.keep hb)
    replace HP2 := Lib.hid (HP2.out.keep hb)
    clear hb z0 z1
    generalize wc.alloc (.cells #[.int .i64 u.kind, .string u.nam, .string u.vr, .slice nA u.args.length nc, .string u.form] 31) = wd at *
    generalize wc.heap.size = g9 at *
    have qe : (er == er) = true := beq_self_eq_true _
    go_wp2_with fail
    refine (same_any pA pB pc pd p p wd HPP.out HP2.out HPL.out).mono ?_
    rintro e we ⟨he, hb⟩
    rw [decide_eq_true rfl] at he
    subst he
    replace HB := Lib.hid (HB.out.trans (hb.mono HB.out.size))
    replace K8 := Lib.hid (keep hb K8.out)
    replace K9 := Lib.hid (keep hb K9.out)
    replace HMM := Lib.hid (HMM.out.keep hb)
    replace HM2 := Lib.hid (HM2.out.keep hb)
    clear hb
    have z0 := fun i => K8.out.cell i
    have z1 := fun i => K9.out.cell i
    go_wp2_with fail
    refine (requal_any _ u u _ _ we (Nat.le_refl _) HMM.out.mat HM2.out.mat).mono ?_
    rintro e wf ⟨he, hb⟩
    rw [eqm_self] at he
    subst he
    replace HB := Lib.hid (HB.out.trans (hb.mono HB.out.size))
    clear hb z0 z1
    go_wp2_with fail
    exact bodyPost_ret (v := .bool true) (by simp [results, Tryz.results7, go_sem]) rfl ⟨rfl, HB.out⟩
end Go.Proofs.YthpioplpfmlgcaaGreatDoor.El
