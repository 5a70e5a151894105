/- region_ghost where some operations read a slot that a later operation of the region assigns: these are evaluated in the frame ahead of the region. -/
import Derived.Test.YtpokelkneblafaaGreatDoorC3
namespace Go.Proofs.YtpokelkneblafaaGreatDoor
section
variable {P : Program} {ops : Array Oper} {Q : Exit → Act → World → Prop} {X : Type}
@[reducible] def evAct (es : List Bool) (a0 F : Act) (i : Nat) : Act := if es.getD i false = true then a0 else F
def earlyOk (ops : Array Oper) (i : Nat) (o : Oper) : Bool :=
  o.guard.isNone &&
  (o.op.operands.all fun | .tmp t => (List.range ops.size).all fun j => dstAt ops j != some t || ((ops[j]?).map fun oj => bound oj i).getD true
                         | _ => true)
def opE (ops : Array Oper) (es : List Bool) (i : Nat) (o : Oper) : Bool := if es.getD i false = true then earlyOk ops i o else operOk ops o
def confE (ops : Array Oper) (es : List Bool) : Bool := Region.noSelect ops && dstsOk ops && ((List.range ops.size).all fun i => match ops[i]? with
  | some o => opE ops es i o
  | none => true) && (List.range ops.size).all fun i => match ops[i]? with
  | some o => o.after.all fun e => !Region.binds .any e || decide (e.on < i)
  | none => true
theorem OnWay.early {vals : Nat → Value} {a0 F : Act} {L : Nat → Bool} {a : Act} (h : OnWay ops vals a0 L a) {i : Nat} {o : Oper} (ho : earlyOk ops i o = true) (hL : ∀ j oj, ops[j]? = some oj → bound oj i = true → L j = false) :
    (∀ x ∈ o.op.operands, a.eval x = a0.eval x) ∧ Region.wanted o (yielded ops a.tmps) = Region.wanted o (yielded ops F.tmps) := by
  unfold earlyOk at ho
  rw [Bool.and_eq_true] at ho
  obtain ⟨h1, h2⟩ := ho
  refine ⟨fun x hx => ?_, ?_⟩
  · cases x with
    | tmp t =>
      have hx' := Array.all_eq_true'.1 h2 _ hx
      have e : a.tmps[t]? = a0.tmps[t]? := h.rest t fun j hj hd => by
        have := List.all_eq_true.1 hx' j (List.mem_range.2 (dstAt_lt hd))
        rw [hd, Array.getElem?_eq_getElem (dstAt_lt hd)] at this
        have hb : bound (ops[j]'(dstAt_lt hd)) i = true := by simpa using this
        have := hL j _ (Array.getElem?_eq_getElem (dstAt_lt hd)) hb
        rw [hj] at this
        cases this
      simp only [Act.eval, Array.getD_eq_getD_getElem?, e]
    | _ => rfl
  · unfold Region.wanted
    cases hg : o.guard with
    | none => rfl
    | some gw => rw [hg] at h1; cases h1
theorem wpAny_ghostE {es : List Bool} {vals : X → Nat → Value} {a0 : Act} {Inv : (Nat → Bool) → X → World → Prop} (hok : confE ops es = true) (hcl0 : ∀ L x w, Inv L x w → Closed ops L)
    (hstep : ∀ (i : Nat) (o : Oper) (L : Nat → Bool) (x : X) (w : World), ops[i]? = some o → L i = false → (∀ e ∈ o.after, Region.binds .any e = true → L e.on = true) → Inv L x w →
      if Region.wanted o (yielded ops (fin ops (vals x) a0).tmps) = true then Gives P (execOp (evAct es a0 (fin ops (vals x) a0) i).eval o) w (fun v w' => ∃ x', v = vals x' i ∧ (∀ j, L j = true → vals x' j = vals x j) ∧ Inv (fun j => L j || j == i) x' w') else vals x i = undef ∧ Inv (fun j => L j || j == i) x w)
    (hend : ∀ (L : Nat → Bool) (x : X) (w : World), (∀ i, i < ops.size → L i = true) → Inv L x w → Q .normal (fin ops (vals x) a0) w) :
    ∀ (fuel : Nat) (listed : Array Bool) (x : X) (a : Act) (w : World), listed.size = ops.size → (listed.toList.countP (· == false)) ≤ fuel → OnWay ops (vals x) a0 (fun j => listed.getD j false) a → Inv (fun j => listed.getD j false) x w → wpAny P .any ops Q fuel listed a w := by
  simp only [confE, Bool.and_eq_true] at hok
  obtain ⟨⟨⟨hsel, hd⟩, hall⟩, hedge⟩ := hok
  have fini : ∀ (listed : Array Bool) (x : X) (a : Act) (w : World), listed.size = ops.size → OnWay ops (vals x) a0 (fun j => listed.getD j false) a → Inv (fun j => listed.getD j false) x w → Region.ready .any ops listed = [] → Q .normal a w := by
    intro listed x a w hs ho hI hr
    have hL : ∀ i, i < ops.size → listed.getD i false = true := by
      intro i
      induction i using Nat.strongRecOn with
      | _ i ih =>
        intro hi
        refine Classical.byContradiction fun hn => ?_
        have hm : i ∈ Region.ready .any ops listed := by
          rw [mem_ready]
          refine ⟨?_, ops[i], Array.getElem?_eq_getElem hi, fun e he hb => ?_⟩
          · have hil : i < listed.size := by omega
            simp only [Array.getD_eq_getD_getElem?, Array.getElem?_eq_getElem hil, Option.getD_some] at hn ⊢
            simpa using hn
          · have h1 := List.all_eq_true.1 hedge i (List.mem_range.2 hi)
            rw [Array.getElem?_eq_getElem hi] at h1
            have h2 := Array.all_eq_true'.1 h1 e he
            rw [hb] at h2
            have h3 : e.on < i := by simpa using h2
            exact ih e.on h3 (by omega)
        rw [hr] at hm
        cases hm
    rw [ho.end hL]
    exact hend _ x w hL hI
  intro fuel
  induction fuel with
  | zero =>
    intro listed x a w hs hc ho hI
    have hr : Region.ready .any ops listed = [] := by
      rw [List.eq_nil_iff_forall_not_mem]
      intro j hj
      rw [mem_ready] at hj
      obtain ⟨h0, o, hoj, _⟩ := hj
      have hjl : j < listed.size := by rw [hs]; exact (Array.getElem?_eq_some_iff.1 hoj).1
      have hf : listed[j] = false := by simpa [Array.getD_eq_getD_getElem?, Array.getElem?_eq_getElem hjl] using h0
      have : 0 < listed.toList.countP (· == false) := List.countP_pos_iff.2 ⟨false, by rw [← hf]; simp, rfl⟩
      omega
    exact ⟨hr, fini listed x a w hs ho hI hr⟩
  | succ fuel ih =>
    intro listed x a w hs hc ho hI
    refine ⟨fini listed x a w hs ho hI, fun i hi => ?_⟩
    rw [mem_ready] at hi
    obtain ⟨h0, o, hoi, hb⟩ := hi
    have hil : i < ops.size := (Array.getElem?_eq_some_iff.1 hoi).1
    have hil' : i < listed.size := by omega
    have hf : listed[i] = false := by simpa [Array.getD_eq_getD_getElem?, Array.getElem?_eq_getElem hil'] using h0
    have hLi : listed.getD i false = false := by simp [Array.getD_eq_getD_getElem?, Array.getElem?_eq_getElem hil', hf]
    have hL' : (fun j => (listed.setIfInBounds i true).getD j false) = fun j => listed.getD j false || j == i := by
      funext j
      by_cases hij : j = i
      · subst hij; simp [Array.getD_eq_getD_getElem?, hil']
      · rw [getD_set_ne false (Ne.symm hij)]; simp [hij]
    have hcount : (listed.setIfInBounds i true).toList.countP (· == false) ≤ fuel := by
      rw [Array.toList_setIfInBounds]
      have hl : i < listed.toList.length := by simpa using hil'
      have hs1 : listed.toList.countP (· == false) = (listed.toList.set i true).countP (· == false) + 1 := by
        exact count_set _ _ (by rw [List.getElem?_eq_getElem hl]; simpa using hf)
      omega
    have hcl := hcl0 _ x w hI
    have hu : opE ops es i o = true := by
      have h1 := List.all_eq_true.1 hall i (List.mem_range.2 hil)
      rw [hoi] at h1
      exact h1
    obtain ⟨hev, hwant⟩ : (∀ y ∈ o.op.operands, a.eval y = (evAct es a0 (fin ops (vals x) a0) i).eval y) ∧ Region.wanted o (yielded ops a.tmps) = Region.wanted o (yielded ops (fin ops (vals x) a0).tmps) := by
      unfold opE at hu
      unfold evAct
      by_cases hes : es.getD i false = true
      · rw [if_pos hes] at hu ⊢
        exact ho.early hu fun j oj hoj hbj => by
          cases hLj : listed.getD j false with
          | false => rfl
          | true =>
            unfold bound at hbj
            obtain ⟨e, he, hh⟩ := Array.any_eq_true'.1 hbj
            rw [Bool.and_eq_true, beq_iff_eq] at hh
            have := hcl j oj hoj hLj e he hh.2
            rw [hh.1] at this
            have h9 : listed.getD i false = true := this
            rw [hLi] at h9
            cases h9
      · rw [if_neg hes] at hu ⊢
        exact ho.eval hu hb
    have hexec : execOp a.eval o = execOp (evAct es a0 (fin ops (vals x) a0) i).eval o := execOp_congr o (fun cs b => Region.noSelect_spec hsel i o cs b hoi) hev
    have hst := hstep i o _ x w hoi hLi hb hI
    have hdst : o.dst = dstAt ops i := by unfold dstAt; rw [hoi]; rfl
    have next : ∀ x' w', (∀ j, listed.getD j false = true → vals x' j = vals x j) → Inv (fun j => listed.getD j false || j == i) x' w' → wpAny P .any ops Q fuel (listed.setIfInBounds i true) (a.put o.dst (vals x' i)) w' := by
      intro x' w' hv hI'
      refine ih _ x' _ w' (by simpa using hs) hcount ?_ (by rw [hL']; exact hI')
      rw [hL', hdst]
      exact (ho.swap hd hv).put hd i hil hLi
    unfold wpOp
    simp only [hoi]
    rw [hwant]
    by_cases hw : Region.wanted o (yielded ops (fin ops (vals x) a0).tmps) = true
    · rw [if_pos hw] at hst ⊢
      refine .inl (Gives.wp (R := fun v w' => ∃ x', v = vals x' i ∧ (∀ j, listed.getD j false = true → vals x' j = vals x j) ∧ Inv (fun j => listed.getD j false || j == i) x' w') (by rw [hexec]; exact hst) ?_)
      rintro v w' ⟨x', rfl, hv, hI'⟩
      exact next x' w' hv hI'
    · rw [if_neg hw] at hst ⊢
      rw [← hst.1]
      exact next x w (fun _ _ => rfl) hst.2
/-- one obligation for each operation: what is listed before it is done, what waits for it is not -/
def EachE (P : Program) (F : Nat → X → Act) (ops : Array Oper) (tr : List Nat) (vs : X → List Value) (Inv : List Bool → X → World → Prop) : Nat → List Oper → List Bool → Prop
  | i, o :: os, true :: bs => (∀ (L : Nat → Bool) (x : X) (w : World), L i = false → (∀ j, reach ops j ops.size i = true → L j = true) → (∀ j, reach ops i ops.size j = true → L j = false) → Inv (tr.map L) x w → Gives P (execOp (F i x).eval o) w fun u w' => ∃ x', u = (vs x').getD i undef ∧ KeepsV ops i (vs x) (vs x') ∧ Inv (tr.map fun j => j == i || L j) x' w') ∧ EachE P F ops tr vs Inv (i + 1) os bs
  | i, _ :: os, false :: bs => ((∀ x, (vs x).getD i undef = undef) ∧ ∀ (L : Nat → Bool) (x : X) (w : World), Inv (tr.map L) x w → Inv (tr.map fun j => j == i || L j) x w) ∧ EachE P F ops tr vs Inv (i + 1) os bs
  | _, [], [] => True
  | _, _, _ => False
theorem EachE.at_ {F : Nat → X → Act} {tr : List Nat} {vs : X → List Value} {Inv : List Bool → X → World → Prop} : ∀ {n : Nat} {os : List Oper} {bs : List Bool}, EachE P F ops tr vs Inv n os bs → ∀ {i : Nat} {o : Oper}, os[i]? = some o → ∃ b, bs[i]? = some b ∧
    if b = true then (∀ (L : Nat → Bool) (x : X) (w : World), L (n + i) = false → (∀ j, reach ops j ops.size (n + i) = true → L j = true) → (∀ j, reach ops (n + i) ops.size j = true → L j = false) → Inv (tr.map L) x w → Gives P (execOp (F (n + i) x).eval o) w fun u w' => ∃ x', u = (vs x').getD (n + i) undef ∧ KeepsV ops (n + i) (vs x) (vs x') ∧ Inv (tr.map fun j => j == (n + i) || L j) x' w')
    else (∀ x, (vs x).getD (n + i) undef = undef) ∧ ∀ (L : Nat → Bool) (x : X) (w : World), Inv (tr.map L) x w → Inv (tr.map fun j => j == (n + i) || L j) x w
  | n, [], [], _, i, o, h => by simp at h
  | n, o :: os, true :: bs, ⟨h1, h2⟩, 0, o', h => by
    obtain rfl : o = o' := by simpa using h
    exact ⟨true, rfl, by rw [if_pos rfl]; exact h1⟩
  | n, o :: os, false :: bs, ⟨h1, h2⟩, 0, o', h => ⟨false, rfl, by rw [if_neg (by simp)]; exact h1⟩
  | n, o :: os, true :: bs, ⟨h1, h2⟩, i + 1, o', h => by
    obtain ⟨b, hb, hh⟩ := EachE.at_ h2 (i := i) (o := o') (by simpa using h)
    rw [show n + 1 + i = n + (i + 1) by omega] at hh
    exact ⟨b, by simpa using hb, hh⟩
  | n, o :: os, false :: bs, ⟨h1, h2⟩, i + 1, o', h => by
    obtain ⟨b, hb, hh⟩ := EachE.at_ h2 (i := i) (o := o') (by simpa using h)
    rw [show n + 1 + i = n + (i + 1) by omega] at hh
    exact ⟨b, by simpa using hb, hh⟩
  | _, [], _ :: _, h, _, _, _ => h.elim
  | _, _ :: _, [], h, _, _, _ => h.elim
/-- THE LAW -/
theorem region_ghostE {id : Nat} {a0 : Act} {w0 : World} (hm : P.follows .mixedOrders = true) (es : List Bool) (F : X → Act) (vs : X → List Value) (bs : List Bool) (tr : List Nat) (Inv : List Bool → X → World → Prop) (x0 : X) (hok : confE ops es = true) (hF : ∀ x, fin ops (fun i => (vs x).getD i undef) a0 = F x)
    (hw : ∀ x, ((List.range ops.size).map fun i => ((ops[i]?).map fun o => Region.wanted o (yielded ops (F x).tmps)).getD true) = bs) (htr : (tr.all fun i => decide (i < ops.size)) = true) (h0 : Inv (tr.map fun _ => false) x0 w0.drew) (hE : EachE P (fun i x => evAct es a0 (F x) i) ops tr vs Inv 0 ops.toList bs) (hend : ∀ (x : X) (w : World), Inv (tr.map fun _ => true) x w → Q .normal (F x) w) : (Code.region id ops true).wp P Q a0 w0 := by
  refine wp_region_any hm ?_
  refine wpAny_ghostE (es := es) (vals := fun x i => (vs x).getD i undef) (a0 := a0) (Inv := fun L x w => Closed ops L ∧ Inv (tr.map L) x w) hok (fun L x w h => h.1) (fun i o L x w ho hLi hb hI => ?_) (fun L x w hL hI => ?_) ops.size (Array.replicate ops.size false) x0 a0 _ (by simp) (by
    refine Nat.le_trans (List.countP_le_length) ?_
    simp) ⟨rfl, rfl, fun i t _ h => ?_, fun _ _ => rfl⟩ ⟨fun i o _ h => ?_, ?_⟩
  · obtain ⟨hc, hI⟩ := hI
    have hi : i < ops.size := (Array.getElem?_eq_some_iff.1 ho).1
    obtain ⟨b, hb2, hh⟩ := hE.at_ (i := i) (o := o) (by rw [Array.getElem?_toList]; exact ho)
    rw [Nat.zero_add] at hh
    rw [← hw x, List.getElem?_map, List.getElem?_range hi] at hb2
    simp only [Option.map_some, ho, Option.getD_some, Option.some.injEq] at hb2
    have hca := closed_add hc ho hb
    have hFx : fin ops (fun i => (vs x).getD i undef) a0 = F x := hF x
    rw [hFx, hb2]
    have hno : ∀ j, reach ops i ops.size j = true → L j = false := fun j hj => by
      cases hLj : L j with
      | false => rfl
      | true =>
        obtain ⟨oj, hoj⟩ := reach_some hj
        have := reach_listed hc hoj (hc j oj hoj hLj) hj
        rw [hLi] at this; cases this
    split
    · rename_i hbt
      rw [if_pos hbt] at hh
      have hg : Gives P (execOp (evAct es a0 (F x) i).eval o) w _ := hh L x w hLi (fun j hj => reach_listed hc ho hb hj) hno hI
      unfold Gives at hg ⊢
      revert hg
      have key : ∀ u w', (∃ x', u = (vs x').getD i undef ∧ KeepsV ops i (vs x) (vs x') ∧ Inv (tr.map fun j => j == i || L j) x' w') → ∃ x', u = (vs x').getD i undef ∧ (∀ j, L j = true → (vs x').getD j undef = (vs x).getD j undef) ∧ Closed ops (fun j => L j || j == i) ∧ Inv (tr.map fun j => L j || j == i) x' w' := by
        rintro u w' ⟨x', h1, h2, h3⟩
        refine ⟨x', h1, fun j hj => h2 j (fun e => by subst e; rw [hLi] at hj; cases hj) ?_, hca, by rw [or_swap]; exact h3⟩
        cases hr : reach ops i ops.size j with
        | false => rfl
        | true => rw [hno j hr] at hj; cases hj
      generalize (execOp (evAct es a0 (F x) i).eval o).run P w = r
      cases r with
      | halt e w' => exact fun h => h
      | ok n w' =>
        cases n with
        | value v => exact fun h => key _ _ h
        | skip => exact fun h => key _ _ h
        | enter f args => exact fun h => Calls.mono h fun e w'' ⟨v, h1, h2⟩ => ⟨v, h1, key _ _ h2⟩
        | _ => exact fun h => h
    · rename_i hbt
      rw [if_neg hbt] at hh
      exact ⟨hh.1 x, hca, by rw [or_swap]; exact hh.2 L x w hI⟩
  · have e : tr.map L = tr.map fun _ => true := List.map_congr_left fun i hi => by
      have := List.all_eq_true.1 htr i hi
      exact hL i (by simpa using this)
    rw [← e] at hend
    have hFx : fin ops (fun i => (vs x).getD i undef) a0 = F x := hF x
    show Q .normal (fin ops (fun i => (vs x).getD i undef) a0) w
    rw [hFx]
    exact hend x w hI.2
  · rw [Array.getD_eq_getD_getElem?, Array.getElem?_replicate] at h
    split at h <;> simp at h
  · dsimp only at h
    rw [Array.getD_eq_getD_getElem?, Array.getElem?_replicate] at h
    split at h <;> simp at h
  · have e : (fun j => (Array.replicate ops.size false).getD j false) = fun _ => false := by
      funext j
      rw [Array.getD_eq_getD_getElem?, Array.getElem?_replicate]
      split <;> rfl
    rw [e]
    exact h0
end
end Go.Proofs.YtpokelkneblafaaGreatDoor
