/- Names of the reference: the variables of a valid term · A meaning is a well-formed term, with at most twice as many subterms as the tree has nodes: plain · How many readings valid rules have at most: plain · An operand in brackets: the meaning has one group more: plain · Errors of meanings; the slots of a tree with one operand: plain · The walk of ElaborateValid -/
import Derived.Test.YthpioplpfmlgcaaGreatDoorH24e75535
import Derived.Test.YthpioplpfmlgcaaGreatDoorH3bcb8067
import Derived.Deep.CutBlock
import Derived.Deep.DeepCutAuto
import Derived.Test.YthpioplpfmlgcaaGreatDoorHc5d26673
import Derived.Test.YthpioplpfmlgcaaGreatDoorH4c6de665
import Derived.Test.YthpioplpfmlgcaaGreatDoorH95b2a9f9
import Derived.Test.YthpioplpfmlgcaaGreatDoorH64d930c9
import Derived.Test.YthpioplpfmlgcaaGreatDoorH5f6aca22
import Derived.BigQuiet
namespace Go.Proofs.YthpioplpfmlgcaaGreatDoor.El
open Go.Proofs.YthpioplpfmlgcaaGreatDoor.At
open Go.Proofs.YthpioplpfmlgcaaGreatDoor.Ch
open Go.Proofs.YthpioplpfmlgcaaGreatDoor.Sp
open Go.Proofs.YthpioplpfmlgcaaGreatDoor.Sy
open Go.RowKit
/-- a variable of a term, short -/
def VarN (t : Trm) (s : Nm) : Prop := ∃ b ∈ vrsM t, b.data.toList = s ∧ s.length ≤ 16
theorem sym_len {l : List UInt8} (h : symB l = true) : l.length ≤ 16 := by
  unfold symB at h
  split at h
  · simp
  · simp only [Bool.and_eq_true, decide_eq_true_eq] at h
    exact h.2.1
theorem id_len {l : List UInt8} (h : idB l = true) : l.length ≤ 16 := by
  unfold idB at h
  rw [Bool.and_eq_true] at h
  exact sym_len h.2
theorem var_arg {k : Int} {a v f : ByteArray} {ts : List Trm} {x : Trm} {s : Nm} (hx : x ∈ ts) (h : VarN x s) : VarN (.mk k a v f ts) s := by
  obtain ⟨b, h1, h2⟩ := h
  refine ⟨b, ?_, h2⟩
  rw [vrsM]
  refine List.mem_append.2 (.inr ?_)
  induction ts with
  | nil => cases hx
  | cons y ts ih =>
    rw [vrsL]
    rcases List.mem_cons.1 hx with rfl | hx
    · exact List.mem_append.2 (.inl h1)
    · exact List.mem_append.2 (.inr (ih hx))
theorem var_two {a v f : ByteArray} {ts : List Trm} (h : formM (.mk 2 a v f ts) = true) : VarN (.mk 2 a v f ts) a.data.toList := by
  rw [formM, Bool.and_eq_true] at h
  have h1 := h.1
  unfold ownM at h1
  rw [if_neg (by decide), if_pos rfl, Bool.and_eq_true] at h1
  exact ⟨a, by rw [vrsM]; exact List.mem_append.2 (.inl (by rw [if_pos rfl]; exact List.mem_singleton.2 rfl)), rfl, id_len h1.2⟩
theorem var_five {a v f : ByteArray} {ts : List Trm} (h : formM (.mk 5 a v f ts) = true) : VarN (.mk 5 a v f ts) v.data.toList := by
  rw [formM, Bool.and_eq_true] at h
  have h1 := h.1
  unfold ownM at h1
  rw [if_neg (by decide), if_neg (by decide), if_neg (by decide), if_neg (by decide), if_pos rfl, Bool.and_eq_true, Bool.and_eq_true, Bool.and_eq_true, Bool.and_eq_true] at h1
  exact ⟨v, by rw [vrsM]; exact List.mem_append.2 (.inl (by rw [if_neg (by decide), if_pos rfl]; exact List.mem_singleton.2 rfl)), rfl, id_len h1.2.2.1⟩
def NamS (t : Trm) (w : World) (e : Ending) (w' : World) : Prop := ∃ v zs, e = .returned v ∧ NmL w' v zs ∧ zs.length ≤ cntM t ∧ (∀ s ∈ zs, VarN t s) ∧ Below w.heap.size w w'
theorem nml_nil (w : World) : NmL w (.slice none 0 0) [] := ⟨none, 0, rfl, Nat.le_refl _, by omega, NmsAt.nil _ _⟩
set_option maxRecDepth 100000 in
set_option maxHeartbeats 8000000 in
theorem names_any : ∀ (z : Nat) (t : Trm) (c : Array Value) (w : World), cntM t ≤ z → cntM t ≤ 500000 → MAt w t c → Calls Tryz.prog 18 #[.agg c] w (NamS t w) := by
  intro z
  induction z with
  | zero => intro t c w h; have := cnt_pos t; omega
  | succ z ih =>
    intro t c w hz hcm hM
    have IH := Lib.hid ih
    clear ih
    obtain ⟨A, cap, rfl, ha, hv, hf, hl, hc, hk⟩ := hM.form
    obtain ⟨k, a, v0, f, ts⟩ := t
    dsimp only [Trm.kind, Trm.nam, Trm.vr, Trm.form, Trm.args] at ha hv hf hl hk ⊢
    have HZ := Lib.hid (show cntL ts ≤ z ∧ cntL ts + 1 ≤ 500000 ∧ cntM (.mk k a v0 f ts) = cntL ts + 1 by rw [cntM] at hz hcm ⊢; omega)
    have HAV := Lib.hid (And.intro ha hv)
    have hba := bel_alloc w (.cells (trmC k a v0 A ts.length cap f) 31)
    have HB := Lib.hid hba
    have K0 := Lib.hid (Blk.new w 31 (trmC k a v0 A ts.length cap f))
    have HM := Lib.hid (hM.keep hba)
    have HK := Lib.hid (hk.keep hba)
    clear hM hk hz hcm hba ha hv hf
    dsimp only [trmC] at HB K0 HM HK
    go_enter Tryz.func18, Tryz.ntmps18
    go_upto_region 1 with (fail)
    generalize w.alloc (.cells #[.int .i64 k, .string a, .string v0, .slice A ts.length cap, .string f] 31) = w1 at *
    have c0 := K0.out.cell 0
    have c1 := K0.out.cell 1
    have c2 := K0.out.cell 2
    have c3 := K0.out.cell 3
    have c4 := K0.out.cell 4
    go_wp2_with fail
    refine (Sp.rvalid_any_v (.mk k a v0 f ts) _ w1 (by have := HZ.out; omega) HM.out).mono ?_
    rintro e w2 ⟨rfl, hb⟩
    replace HB := Lib.hid (HB.out.trans (hb.mono HB.out.size))
    replace K0 := Lib.hid (keep hb K0.out)
    replace HK := Lib.hid (HK.out.keep hb)
    clear hb HM c0 c1 c2 c3 c4
    cases hval : validM (.mk k a v0 f ts) with
    | false =>
      clear hval
      go_wp2_with fail
      exact bodyPost_ret (v := .slice none 0 0) (by simp [results, Tryz.results18, go_sem]) rfl (⟨_, [], rfl, nml_nil _, Nat.zero_le _, (fun s h => by cases h), HB.out⟩)
    | true =>
    have HF := Lib.hid (show formM (.mk k a v0 f ts) = true by unfold validM at hval; rw [Bool.and_eq_true] at hval; exact hval.1)
    clear hval
    have c0 := K0.out.cell 0
    have c1 := K0.out.cell 1
    have c2 := K0.out.cell 2
    have HST := Lib.hid (Below.refl w2.heap.size w2)
    go_upto_if 10 with (fail)
    go_cut [3] (fun v wc => ∃ zs : List Nm, zs.length ≤ 1 ∧ (k = 5 → zs = []) ∧ Hid (∀ s ∈ zs, VarN (.mk k a v0 f ts) s) ∧ Hid (NmL wc v zs) ∧ Hid (Below w2.heap.size w2 wc))
    case first =>
      cases q2 : (k == 2) with
      | false =>
        clear q2
        go_wp2_with fail
        go_meet
        exact ⟨[], Nat.zero_le _, (fun _ => rfl), Lib.hid (fun s h => by cases h), Lib.hid (nml_nil _), HST⟩
      | true =>
        have hk2 : k = 2 := beq_iff_eq.1 q2
        subst hk2
        clear q2
        go_wp2_with fail
        refine (with_any none 0 [] a w2 (NmsAt.nil _ _) (Nat.le_refl _) (by decide) (by decide) (fun p h => by cases h) HAV.out.1).mono ?_
        rintro e w3 ⟨v', zs, rfl, hN, hl', hm', hb⟩
        have HN := Lib.hid hN
        have HMM := Lib.hid (show ∀ s ∈ zs, VarN (.mk 2 a v0 f ts) s from fun s hs => by
          rcases (hm' s).1 hs with h | h
          · cases h
          · rw [h]; exact var_two HF.out)
        have HBB := Lib.hid hb
        clear hN hm' hb
        go_wp2_with fail
        go_meet
        exact ⟨zs, hl', (fun h => absurd h (by decide)), HMM, HN, HBB⟩
    clear HST
    obtain ⟨zs, hzl, hz5, HMS, HNS, HBB⟩ := hcut
    replace HB := Lib.hid (HB.out.trans (HBB.out.mono HB.out.size))
    replace K0 := Lib.hid (keep HBB.out K0.out)
    replace HK := Lib.hid (HK.out.keep HBB.out)
    have HZ5 := Lib.hid hz5
    clear HBB hz5 c0 c1 c2
    have c0 := K0.out.cell 0
    have c1 := K0.out.cell 1
    have c2 := K0.out.cell 2
    generalize wc = w4 at *
    have HST := Lib.hid (Below.refl w4.heap.size w4)
    go_upto_if 17 with (fail)
    go_cut [3] (fun v wc => ∃ ys : List Nm, ys.length ≤ 1 ∧ Hid (∀ s ∈ ys, VarN (.mk k a v0 f ts) s) ∧ Hid (NmL wc v ys) ∧ Hid (Below w4.heap.size w4 wc))
    case first =>
      cases q2 : (k == 5) with
      | false =>
        clear q2
        go_wp2_with fail
        go_meet
        exact ⟨zs, hzl, HMS, HNS, HST⟩
      | true =>
        have hk2 : k = 5 := beq_iff_eq.1 q2
        subst hk2
        obtain rfl := HZ5.out rfl
        obtain ⟨zA, zc, rfl, hz1, hz2, hz3⟩ := HNS.out
        have HZ3 := Lib.hid (And.intro hz1 (And.intro hz2 hz3))
        clear q2 hz1 hz2 hz3
        go_wp2_with fail
        refine (with_any zA zc [] v0 w4 HZ3.out.2.2 HZ3.out.1 HZ3.out.2.1 (by decide) (fun p h => by cases h) HAV.out.2).mono ?_
        rintro e w3 ⟨v', ys, rfl, hN, hl', hm', hb⟩
        have HN := Lib.hid hN
        have HMM := Lib.hid (show ∀ s ∈ ys, VarN (.mk 5 a v0 f ts) s from fun s hs => by
          rcases (hm' s).1 hs with h | h
          · cases h
          · rw [h]; exact var_five HF.out)
        have HBB := Lib.hid hb
        clear hN hm' hb
        go_wp2_with fail
        go_meet
        exact ⟨ys, hl', HMM, HN, HBB⟩
    clear HST HMS HNS HZ5
    obtain ⟨ys, hyl, HMS, HNS, HBB⟩ := hcut
    replace HB := Lib.hid (HB.out.trans (HBB.out.mono HB.out.size))
    replace K0 := Lib.hid (keep HBB.out K0.out)
    replace HK := Lib.hid (HK.out.keep HBB.out)
    clear HBB c0 c1 c2
    generalize wc = w5 at *
    go_wp2_with fail
    go_loopw [3, 4] (fun v i wr => ∃ (j : Nat) (xs : List Nm), j ≤ ts.length ∧ i = .int .i64 j ∧ xs.length ≤ 1 + cntL (ts.take j) ∧ Hid (∀ s ∈ xs, VarN (.mk k a v0 f ts) s) ∧ Hid (NmL wr v xs) ∧ Hid (Blk wr w.heap.size 31 #[.int .i64 k, .string a, .string v0, .slice A ts.length cap, .string f]) ∧ Hid (ArgsAt wr A ts) ∧ Hid (Below w.heap.size w wr)) (fun _ i _ => ts.length - (intOf i).toNat)
    case atStart => exact ⟨0, ys, by omega, rfl, by omega, HMS, HNS, K0, HK, HB⟩
    case round =>
      clear K0 HK HB HMS HNS
      obtain ⟨j, xs, hj, rfl, hxl, HMS, HNS, K0, HK, HB⟩ := hrel
      have c3 := K0.out.cell 3
      by_cases hlt : j < ts.length
      · obtain ⟨x, hx⟩ : ∃ x, ts[j]? = some x := ⟨_, List.getElem?_eq_getElem hlt⟩
        obtain ⟨ad, A2, cap2, rfl, hadl, hp⟩ := HK.out.at_ hx
        have HX := Lib.hid hp.whole
        obtain ⟨hb1, d0, d1, d2, d3, d4, -⟩ := hp
        have HS := Lib.hid (show cntM x ≤ cntL ts from cnt_arg hx)
        have HSN := Lib.hid (show cntL (ts.take (j + 1)) = cntL (ts.take j) + cntM x ∧ cntL (ts.take (j + 1)) ≤ cntL ts from ⟨cntL_snoc_v hx, cntL_take_v ts (j + 1)⟩)
        have HXM := Lib.hid (List.mem_of_getElem? hx)
        clear hx
        go_wp2_with fail
        refine (IH.out x _ wr (by have := HS.out; have := HZ.out; omega) (by have := HS.out; have := HZ.out; omega) HX.out).mono ?_
        rintro e w6 ⟨v', us, rfl, hN, hl', hm', hb⟩
        have HN := Lib.hid hN
        have HUM := Lib.hid (show ∀ s ∈ us, VarN (.mk k a v0 f ts) s from fun s hs => var_arg HXM.out (hm' s hs))
        replace HNS := Lib.hid (HNS.out.keep hb)
        replace K0 := Lib.hid (keep hb K0.out)
        replace HK := Lib.hid (HK.out.keep hb)
        replace HB := Lib.hid (HB.out.trans (hb.mono HB.out.size))
        clear hN hm' hb hb1 d0 d1 d2 d3 d4 c3 HX
        go_wp2_with fail
        refine (union_any _ v' xs us w6 HNS.out HN.out (by have := HSN.out; have := HZ.out; omega) (fun p hp => by
          have h9 : VarN (.mk k a v0 f ts) p := by
            rcases hp with h | h
            · exact HMS.out p h
            · exact HUM.out p h
          obtain ⟨_, _, _, h8⟩ := h9
          omega)).mono ?_
        rintro e w7 ⟨v2, qs, rfl, hN, hl2, hm2, hb⟩
        have HN2 := Lib.hid hN
        have HQM := Lib.hid (show ∀ s ∈ qs, VarN (.mk k a v0 f ts) s from fun s hs => by
          rcases (hm2 s).1 hs with h | h
          · exact HMS.out s h
          · exact HUM.out s h)
        have hql : qs.length ≤ 1 + cntL (ts.take (j + 1)) := by have := HSN.out; omega
        replace K0 := Lib.hid (keep hb K0.out)
        replace HK := Lib.hid (HK.out.keep hb)
        replace HB := Lib.hid (HB.out.trans (hb.mono HB.out.size))
        clear hN hm2 hb
        go_wp2_with fail
        go_roundw
        case rel => exact ⟨j + 1, qs, by omega, by go_num, hql, HQM, HN2, K0, HK, HB⟩
        case measure => simp [intOf]; omega
      · obtain rfl : j = ts.length := by omega
        rw [List.take_length] at hxl
        have HXL := Lib.hid (show xs.length ≤ cntM (.mk k a v0 f ts) by have := HZ.out; omega)
        obtain ⟨xA, xc, rfl, hx1, hx2, hx3⟩ := HNS.out
        clear hxl
        go_wp2_with fail
        exact bodyPost_ret (v := .slice xA xs.length xc) (by simp [results, Tryz.results18, go_sem]) rfl (⟨_, xs, rfl, HNS.out, HXL.out, HMS.out, HB.out⟩)
end Go.Proofs.YthpioplpfmlgcaaGreatDoor.El
namespace Go.Proofs.YthpioplpfmlgcaaGreatDoor.El
open Go.Proofs.YthpioplpfmlgcaaGreatDoor.At
open Go.Proofs.YthpioplpfmlgcaaGreatDoor.Ch
open Go.Proofs.YthpioplpfmlgcaaGreatDoor.Sp
open Go.Proofs.YthpioplpfmlgcaaGreatDoor.Sy
open Go.RowKit
theorem count_kids (d : Tre) : countT d = countL d.kids + 1 := by
  obtain ⟨k, t, c, ks⟩ := d
  rw [countT]; rfl
theorem countL_app : ∀ (a b : List Tre), countL (a ++ b) = countL a + countL b
  | [], b => by rw [countL, Nat.zero_add]; rfl
  | t :: a, b => by rw [List.cons_append, countL, countL, countL_app a b]; omega
theorem count_take {l : List Tre} {q : Nat} {n : Tre} (h : l[q]? = some n) : countL (l.take (q + 1)) = countL (l.take q) + countT n := by
  rw [List.take_add_one, h, Option.toList_some, countL_app, countL, countL]; omega
theorem count_drop (l : List Tre) (k : Nat) : countL (l.drop k) ≤ countL l := by
  have := countL_app (l.take k) (l.drop k)
  rw [List.take_append_drop] at this
  omega
end Go.Proofs.YthpioplpfmlgcaaGreatDoor.El
namespace Go.Proofs.YthpioplpfmlgcaaGreatDoor.Ch
end Go.Proofs.YthpioplpfmlgcaaGreatDoor.Ch
namespace Go.Proofs.YthpioplpfmlgcaaGreatDoor.El
open Go.Proofs.YthpioplpfmlgcaaGreatDoor.At
open Go.Proofs.YthpioplpfmlgcaaGreatDoor.Ch
open Go.Proofs.YthpioplpfmlgcaaGreatDoor.Sp
open Go.Proofs.YthpioplpfmlgcaaGreatDoor.Sy
open Go.RowKit
mutual
theorem eq_self : ∀ t : Trm, eqM t t = true
  | .mk k a v f ts => by
    rw [eqM]
    simp only [Trm.kind, Trm.nam, Trm.vr, Trm.form, Trm.args, beq_self_eq_true, decide_true, Bool.true_and]
    exact eq_selfL ts
theorem eq_selfL : ∀ ts : List Trm, eqL ts ts = true
  | [] => by rw [eqL]; rfl
  | t :: ts => by rw [eqL, eq_self t, eq_selfL ts]; rfl
end
end Go.Proofs.YthpioplpfmlgcaaGreatDoor.El
namespace Go.Proofs.YthpioplpfmlgcaaGreatDoor.El
open Go.Proofs.YthpioplpfmlgcaaGreatDoor.At
open Go.Proofs.YthpioplpfmlgcaaGreatDoor.Ch
open Go.Proofs.YthpioplpfmlgcaaGreatDoor.Sp
open Go.Proofs.YthpioplpfmlgcaaGreatDoor.Sy
open Go.RowKit
/-- a failure of a list -/
def badE {α : Type} (m : Mea α) : Prop := ∀ e p, m = .bad e p → e = 14 ∨ e = 15
theorem badE.ok {α : Type} (a : α) : badE (Mea.ok a) := fun e p h => by cases h
theorem badE.then_ {α β : Type} {m : Mea α} {f : α → Mea β} (h : badE m) (hf : ∀ a, m = .ok a → badE (f a)) : badE (m.then_ f) := by
  intro e p he
  cases m with
  | bad e' p' =>
    have he2 : (Mea.bad e' p' : Mea β) = .bad e p := he
    injection he2 with h1 h2
    rw [← h1]
    exact h e' p' rfl
  | ok a => exact hf a rfl e p he
theorem slots_err {M : List Tre → List Int → Nat → Mea Trm} {path : List Int} : ∀ (ks : List Tre) (s b : Nat), (∀ d ∈ ks, ∀ p k, badE (M d.kids p k)) → badE (slotsF M path ks s b)
  | [], _, _, _ => by rw [slotsF]; exact badE.ok _
  | n :: ns, s, b, h => by
    rw [slotsF]
    exact (h n List.mem_cons_self _ _).then_ fun t _ => (slots_err ns _ _ fun d hd => h d (List.mem_cons_of_mem _ hd)).then_ fun ts _ => badE.ok _
theorem opnd_err {M : List Tre → List Int → Nat → Mea Trm} {n : Tre} {path : List Int} (h : ∀ d ∈ n.kids, ∀ p k, badE (M d.kids p k)) : badE (opndF M n path) := by
  unfold opndF
  split
  · exact badE.ok _
  split
  · exact badE.ok _
  split
  · exact badE.ok _
  · refine badE.then_ ?_ fun ts _ => badE.ok _
    cases hk : n.kids with
    | nil => exact badE.ok _
    | cons d ks =>
      rw [hk] at h
      dsimp only
      split
      · exact slots_err ks 1 0 fun e he => h e (List.mem_cons_of_mem _ he)
      · exact slots_err (d :: ks) 0 0 h
theorem scr_err {rs : List Rul} {M : List Tre → List Int → Nat → Mea Trm} {n : Tre} {path : List Int} {p : Bool} (h : ∀ d ∈ n.kids, ∀ p k, badE (M d.kids p k)) : badE (scrF rs M n path p) := by
  unfold scrF
  split
  · exact badE.ok _
  · exact (slots_err _ _ _ fun d hd => h d (List.mem_of_mem_tail hd)).then_ fun ts _ => badE.ok _
theorem partsF_err {rs : List Rul} {M : List Tre → List Int → Nat → Mea Trm} {path : List Int} {kd : Nat → Int} {k : Nat} : ∀ (ns : List Tre) (ts : List ByteArray) (i : Nat), (∀ n ∈ ns, ∀ d ∈ n.kids, ∀ p k, badE (M d.kids p k)) → badE (partsF rs M path kd k ns ts i)
  | [], ts, i, _ => by
    have : partsF rs M path kd k [] ts i = .ok [] := by cases ts <;> simp [partsF]
    rw [this]; exact badE.ok _
  | n :: ns, [], i, _ => by
    have : partsF rs M path kd k (n :: ns) [] i = .ok [] := by simp [partsF]
    rw [this]; exact badE.ok _
  | n :: ns, t :: ts, i, h => by
    rw [partsF]
    refine badE.then_ ?_ fun x _ => (partsF_err ns ts (i + 1) fun m hm => h m (List.mem_cons_of_mem _ hm)).then_ fun ps _ => badE.ok _
    split
    · exact opnd_err (h n List.mem_cons_self)
    · exact scr_err (h n List.mem_cons_self)
theorem mem_count {l : List Tre} {t : Tre} (h : t ∈ l) : countT t ≤ countL l := by
  obtain ⟨i, hi⟩ := List.getElem?_of_mem h
  have h6 := count_take hi
  have h7 := countL_app (l.take (i + 1)) (l.drop (i + 1))
  rw [List.take_append_drop] at h7
  omega
theorem list_err (rs : List Rul) : ∀ (f : Nat) (items : List Tre) (path : List Int) (k : Nat), countL items < f → badE (listM rs f items path k)
  | 0, _, _, _, h => absurd h (by omega)
  | f + 1, items, path, k, h => by
    rw [listM]
    unfold listF
    split
    · intro e p he; injection he with h1 h2; exact .inr h1.symm
    split
    · intro e p he; injection he with h1 h2; exact .inr h1.symm
    split
    · intro e p he; injection he with h1 h2; exact .inr h1.symm
    · refine (partsF_err _ _ _ fun n hn d hd p j => list_err rs f d.kids p j ?_).then_ fun ps _ => badE.ok _
      have h1 := mem_count hn
      have h2 := mem_count hd
      have h3 := count_drop items k
      have h4 := count_kids n
      have h5 := count_kids d
      omega
    · intro e p he; injection he with h1 h2; exact .inl h1.symm
/-- a failure whose position is not too long -/
def badN {α : Type} (N : Nat) (m : Mea α) : Prop := ∀ e p, m = .bad e p → p.length ≤ N
theorem badN.ok {α : Type} (N : Nat) (a : α) : badN N (Mea.ok a) := fun e p h => by cases h
theorem badN.then_ {α β : Type} {N : Nat} {m : Mea α} {f : α → Mea β} (h : badN N m) (hf : ∀ a, m = .ok a → badN N (f a)) : badN N (m.then_ f) := by
  intro e p he
  cases m with
  | bad e' p' =>
    have he2 : (Mea.bad e' p' : Mea β) = .bad e p := he
    injection he2 with h1 h2
    rw [← h2]
    exact h e' p' rfl
  | ok a => exact hf a rfl e p he
end Go.Proofs.YthpioplpfmlgcaaGreatDoor.El
namespace Go.Proofs.YthpioplpfmlgcaaGreatDoor.El
open Go.Proofs.YthpioplpfmlgcaaGreatDoor.At
open Go.Proofs.YthpioplpfmlgcaaGreatDoor.Ch
open Go.Proofs.YthpioplpfmlgcaaGreatDoor.Sp
open Go.Proofs.YthpioplpfmlgcaaGreatDoor.Sy
open Go.RowKit
theorem tree_err2 (rs : List Rul) (f : Nat) (t : Tre) (hf : countL t.kids < f) (e : Int) (p : List Int) (h : treeF rs f t = .bad e p) : e ≠ 0 := by
  unfold treeF at h
  split at h
  · cases hl : listM rs f t.kids [] 0 with
    | ok u =>
      rw [hl] at h
      dsimp only at h
      split at h
      · cases h
      · injection h with h1 _
        omega
    | bad e' p' =>
      rw [hl] at h
      dsimp only at h
      injection h with h1 _
      have := list_err rs f t.kids [] 0 hf e' p' hl
      omega
  · injection h with h1 _
    omega
theorem tree_vars {rs : List Rul} {f : Nat} {t : Tre} {u : Trm} (h : treeF rs f t = .ok u) : validM u = true ∧ cntM u ≤ 1000 ∧ ∀ b ∈ vrsM u, hasT b.data.toList t = true := by
  unfold treeF at h
  split at h
  · cases hl : listM rs f t.kids [] 0 with
    | bad e p => rw [hl] at h; cases h
    | ok u2 =>
      rw [hl] at h
      dsimp only at h
      split at h
      · next hv =>
        injection h with h
        subst h
        have hv2 := hv
        unfold validM at hv2
        rw [Bool.and_eq_true, decide_eq_true_eq] at hv2
        exact ⟨hv, hv2.2, fun b hb => hasT_kids (list_vars rs f t.kids [] 0 u2 hl b hb)⟩
      · cases h
  · cases h
set_option maxRecDepth 100000 in
set_option maxHeartbeats 8000000 in
theorem valid_walk (A : Option Addr) (cap : Nat) (rs : List Rul) (t : Tre) (c : Array Value) (w : World) (hR : RulsAt w A rs) (hrc : rs.length ≤ cap) (hcc : cap ≤ 9223372036854775807) (hN : NodAt w t c) : Calls Tryz.prog 4 #[.slice A rs.length cap, .agg c] w fun e w' => e = .returned (.bool true) ∧ Below w.heap.size w w' := by
  obtain ⟨A2, cap2, rfl, hsz, hl2, hc2, hk⟩ := hN.form
  have B1 := bel_alloc w (.cells #[.int .i64 t.kind, .string t.text, .int .i64 t.cols, .slice A2 t.kids.length cap2] 25)
  have HB := Lib.hid B1
  have K0 := Lib.hid (Blk.new w 25 #[.int .i64 t.kind, .string t.text, .int .i64 t.cols, .slice A2 t.kids.length cap2])
  have HR := Lib.hid hR
  have HN := Lib.hid hN
  have HLN := Lib.hid (And.intro hrc hcc)
  clear hR hN hk hsz B1 hrc hcc hl2 hc2
  go_enter Tryz.func4, Tryz.ntmps4
  go_upto_region 1 with (fail)
  generalize w.alloc (.cells #[.int .i64 t.kind, .string t.text, .int .i64 t.cols, .slice A2 t.kids.length cap2] 25) = w1 at *
  go_wp2_with fail
  refine (awake_any w1).mono ?_
  rintro e w5 ⟨rfl, hb⟩
  replace HB := Lib.hid (HB.out.trans (hb.mono HB.out.size))
  replace K0 := Lib.hid (keep hb K0.out)
  replace HR := Lib.hid (HR.out.keep HB.out)
  replace HN := Lib.hid (HN.out.keep HB.out)
  clear hb
  go_wp2_with fail
  refine (short40_any A cap rs w5 HR.out (by have := HLN.out; omega)).mono ?_
  rintro e w7 ⟨rfl, rfl⟩
  cases hs4 : short40 rs with
  | false =>
    clear hs4
    go_wp2_with fail
    exact bodyPost_ret (v := .bool true) (by simp [results, Tryz.results4, go_sem]) rfl ⟨rfl, HB.out⟩
  | true =>
  have HS40 := Lib.hid (short40_of hs4)
  clear hs4
  have n0 := K0.out.cell 0
  have n1 := K0.out.cell 1
  have n2 := K0.out.cell 2
  have n3 := K0.out.cell 3
  go_wp2_with fail
  refine (few_any t _ 200 w5 HN.out (by decide)).mono ?_
  rintro e w7 ⟨rfl, hb⟩
  replace HB := Lib.hid (HB.out.trans (hb.mono HB.out.size))
  replace K0 := Lib.hid (keep hb K0.out)
  replace HR := Lib.hid (HR.out.keep hb)
  replace HN := Lib.hid (HN.out.keep hb)
  clear hb n0 n1 n2 n3
  by_cases hs4 : countT t ≤ 200
  case neg =>
    rw [decide_eq_false hs4]
    clear hs4
    go_wp2_with fail
    exact bodyPost_ret (v := .bool true) (by simp [results, Tryz.results4, go_sem]) rfl ⟨rfl, HB.out⟩
  rw [decide_eq_true hs4]
  have HC60 := Lib.hid hs4
  clear hs4
  have n0 := K0.out.cell 0
  have n1 := K0.out.cell 1
  have n2 := K0.out.cell 2
  have n3 := K0.out.cell 3
  go_wp2_with fail
  refine (tree_any A cap rs 202 t _ w7 HR.out HLN.out.1 HLN.out.2 (by have := HS40.out; omega) HN.out (by have := HC60.out; have := kids_count t; omega)).mono ?_
  rintro e wa hm
  cases htr : treeF rs 202 t with
  | bad er p =>
    have HER := Lib.hid (tree_err2 rs 202 t (by have := HC60.out; have := kids_count t; omega) er p htr)
    rw [htr] at hm
    obtain ⟨⟨pB, pd, rfl, -, -, -⟩, hb⟩ := hm
    replace HB := Lib.hid (HB.out.trans (hb.mono HB.out.size))
    clear hb n0 n1 n2 n3 htr
    have z0 := fun i => (Blk.new wa 31 zerC).cell i
    have z1 := fun i => (Blk.new wa 31 zerC).frozen i
    go_upto_region 6 with (fail)
    have hb := bel_alloc wa (.cells zerC 31)
    have K5 := Lib.hid (Blk.new wa 31 zerC)
    replace HB := Lib.hid (HB.out.trans (hb.mono HB.out.size))
    clear hb z0 z1
    generalize wa.alloc (.cells zerC 31) = wH at *
    have qe : (er != 0) = true := by rw [bne, beq_eq_false_iff_ne.2 HER.out]; rfl
    have z0 := fun i => K5.out.cell i
    go_wp2_with fail
    refine (requal_any _ zerT zerT _ _ wH (Nat.le_refl _) (zer_at (fun _ => True) wH).mat (zer_at (fun _ => True) wH).mat).mono ?_
    rintro e wI ⟨he, hb⟩
    rw [show eqM zerT zerT = true from eq_self zerT] at he
    subst he
    replace HB := Lib.hid (HB.out.trans (hb.mono HB.out.size))
    clear hb z0
    go_wp2_with fail
    exact bodyPost_ret (v := .bool true) (by simp [results, Tryz.results4, go_sem]) rfl ⟨rfl, HB.out⟩
  | ok u =>
  have HVU := Lib.hid (tree_vars (f := 202) htr)
  rw [htr] at hm
  obtain ⟨⟨cm, rfl, hmt⟩, hb⟩ := hm
  replace HB := Lib.hid (HB.out.trans (hb.mono HB.out.size))
  replace K0 := Lib.hid (keep hb K0.out)
  replace HN := Lib.hid (HN.out.keep hb)
  have HMM := Lib.hid hmt
  obtain ⟨mA, mc, rfl, -⟩ := HMM.out.form
  clear hb n0 n1 n2 n3 htr hmt HR
  have z0 := fun i => (Blk.new wa 31 zerC).cell i
  have z1 := fun i => (Blk.new wa 31 zerC).frozen i
  go_upto_region 6 with (fail)
  have hb := bel_alloc wa (.cells #[.int .i64 u.kind, .string u.nam, .string u.vr, .slice mA u.args.length mc, .string u.form] 31)
  have K5 := Lib.hid (Blk.new wa 31 #[.int .i64 u.kind, .string u.nam, .string u.vr, .slice mA u.args.length mc, .string u.form])
  replace HB := Lib.hid (HB.out.trans (hb.mono HB.out.size))
  replace K0 := Lib.hid (keep hb K0.out)
  replace HN := Lib.hid (HN.out.keep hb)
  replace HMM := Lib.hid (HMM.out.keep hb)
  clear hb z0 z1
  generalize wa.alloc (.cells #[.int .i64 u.kind, .string u.nam, .string u.vr, .slice mA u.args.length mc, .string u.form] 31) = wb at *
  generalize wa.heap.size = g5 at *
  have z0 := fun i => K5.out.cell i
  go_wp2_with fail
  refine (names_any _ u _ wb (Nat.le_refl _) (by have := HVU.out.2.1; omega) HMM.out.mat).mono ?_
  rintro e wc ⟨nv, zs, rfl, hn, hzl, hzm, hb⟩
  replace HB := Lib.hid (HB.out.trans (hb.mono HB.out.size))
  replace K0 := Lib.hid (keep hb K0.out)
  replace K5 := Lib.hid (keep hb K5.out)
  replace HN := Lib.hid (HN.out.keep hb)
  replace HMM := Lib.hid (HMM.out.keep hb)
  obtain ⟨zA, zc, rfl, hz1, hz2, hz3⟩ := hn
  have HZS := Lib.hid hz3
  have HZM := Lib.hid (show ∀ s ∈ zs, hasT s t = true from fun s hs => by
    obtain ⟨b, h1, h2, _⟩ := hzm s hs
    rw [← h2]; exact HVU.out.2.2 b h1)
  have hzn : zs.length ≤ 1000 := by have := HVU.out.2.1; omega
  clear hb z0 hz3 hzm hzl hz1 hz2
  go_wp2_with fail
  go_loopw [9] (fun i wr => ∃ j : Nat, j ≤ zs.length ∧ i = .int .i64 j ∧ Hid (Blk wr w.heap.size 25 #[.int .i64 t.kind, .string t.text, .int .i64 t.cols, .slice A2 t.kids.length cap2]) ∧ Hid (Blk wr g5 31 #[.int .i64 u.kind, .string u.nam, .string u.vr, .slice mA u.args.length mc, .string u.form]) ∧ Hid (NodAt wr t #[.int .i64 t.kind, .string t.text, .int .i64 t.cols, .slice A2 t.kids.length cap2]) ∧ Hid (TmAt (fun b => w7.heap.size ≤ b) wr u (trmC u.kind u.nam u.vr mA u.args.length mc u.form)) ∧ Hid (NmsAt wr zA zs) ∧ Hid (Below w.heap.size w wr)) (fun i _ => zs.length - (intOf i).toNat)
  case atStart => exact ⟨0, by omega, rfl, K0, K5, HN, HMM, HZS, HB⟩
  case round =>
    clear K0 K5 HN HMM HZS HB
    obtain ⟨j, hj, rfl, K0, K5, HN, HMM, HZS, HB⟩ := hrel
    by_cases hlt : j < zs.length
    · obtain ⟨x, hx⟩ : ∃ x, zs[j]? = some x := ⟨_, List.getElem?_eq_getElem hlt⟩
      obtain ⟨ad, hzA, hadl, hcx⟩ := HZS.out j x hx
      have HXT := Lib.hid (HZM.out x (List.mem_of_getElem? hx))
      subst hzA
      clear hx
      go_wp2_with fail
      go_upto_region 12 with (fail)
      refine wp_region_ext (by kernel_rfl) (by kernel_rfl) ?_
      have C0 := fun e : Ext wr => (keep e.bel K0.out).cell 0
      have C1 := fun e : Ext wr => (keep e.bel K0.out).cell 1
      have C2 := fun e : Ext wr => (keep e.bel K0.out).cell 2
      have C3 := fun e : Ext wr => (keep e.bel K0.out).cell 3
      have D0 := fun e : Ext wr => e.cell (p := ad.add j) (by rw [Sp.add_blk]; exact hadl) hcx
      have HC := Lib.hid (fun e : Ext wr => Calls.ext (hast_any _ t _ (bys x) e.val (Nat.lt_succ_self _) (HN.out.keep e.bel)))
      clear hcx
      repeat (go_big_quiet_step (fail))
      go_big_quiet_step ((rename_i e; exact HC.out e))
      repeat (go_big_quiet_step (fail))
      refine wpQuiet_nil ?_
      intro wq hwq
      obtain ⟨⟨w9, hb⟩, e9⟩ := hwq
      dsimp only at e9
      subst e9
      replace K0 := Lib.hid (keep hb K0.out)
      replace K5 := Lib.hid (keep hb K5.out)
      replace HN := Lib.hid (HN.out.keep hb)
      replace HMM := Lib.hid (HMM.out.keep hb)
      replace HZS := Lib.hid (HZS.out.keep hb)
      replace HB := Lib.hid (HB.out.trans (hb.mono HB.out.size))
      clear C0 C1 C2 C3 D0 HC hb hadl
      rw [bys_data, HXT.out]
      go_wp2_with fail
      go_roundw
      case rel => exact ⟨j + 1, by omega, by go_num, K0, K5, HN, HMM, HZS, HB⟩
      case measure => simp [intOf]; omega
    · obtain rfl : j = zs.length := by omega
      have z0 := fun i => K5.out.cell i
      go_wp2_with fail
      refine (Sp.rvalid_any_v u _ wr (by have := HVU.out.2.1; omega) HMM.out.mat).mono ?_
      rintro e wI ⟨he, hb⟩
      rw [HVU.out.1] at he
      subst he
      replace HB := Lib.hid (HB.out.trans (hb.mono HB.out.size))
      clear hb z0
      go_wp2_with fail
      exact bodyPost_ret (v := .bool true) (by simp [results, Tryz.results4, go_sem]) rfl ⟨rfl, HB.out⟩
end Go.Proofs.YthpioplpfmlgcaaGreatDoor.El
