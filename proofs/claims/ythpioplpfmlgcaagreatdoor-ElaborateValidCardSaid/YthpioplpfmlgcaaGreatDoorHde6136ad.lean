/- A region that draws its order, with values known beforehand and a world that turns in stages: the invariant is told which of some operations are done; for every program · A region that draws its order, where what some operations come to is not known beforehand: a ghost is chosen when they come; for every program · Memory of the chart: tokens, numbers, readings that others share, the finder of rules -/
import Derived.Test.YthpioplpfmlgcaaGreatDoorH64d930c9
import Derived.Test.YthpioplpfmlgcaaGreatDoorH95b2a9f9
import Derived.Laws.EntriesVeiled
import Derived.Maps.AppendAt
import Derived.Deep.AppendLies
import Derived.RegionTactic
namespace Go.Proofs.YthpioplpfmlgcaaGreatDoor
section
variable {P : Program} {ops : Array Oper} {Q : Exit → Act → World → Prop}
/-- one obligation for each operation: what is listed before it is done, what waits for it is not -/
def EachS (P : Program) (F : Act) (ops : Array Oper) (tr : List Nat) (Inv : List Bool → World → Prop) : Nat → List Oper → List Value → List Bool → Prop
  | i, o :: os, v :: vs, true :: bs => (∀ (L : Nat → Bool) (w : World), L i = false → (∀ j, reach ops j ops.size i = true → L j = true) → (∀ j, reach ops i ops.size j = true → L j = false) → Inv (tr.map L) w → Gives P (execOp F.eval o) w fun u w' => u = v ∧ Inv (tr.map fun j => j == i || L j) w') ∧ EachS P F ops tr Inv (i + 1) os vs bs
  | i, _ :: os, v :: vs, false :: bs => (v = undef ∧ ∀ (L : Nat → Bool) (w : World), Inv (tr.map L) w → Inv (tr.map fun j => j == i || L j) w) ∧ EachS P F ops tr Inv (i + 1) os vs bs
  | _, [], [], [] => True
  | _, _, _, _ => False
theorem EachS.at_ {F : Act} {tr : List Nat} {Inv : List Bool → World → Prop} : ∀ {n : Nat} {os : List Oper} {vs : List Value} {bs : List Bool}, EachS P F ops tr Inv n os vs bs → ∀ {i : Nat} {o : Oper}, os[i]? = some o → ∃ b, bs[i]? = some b ∧
    if b = true then (∀ (L : Nat → Bool) (w : World), L (n + i) = false → (∀ j, reach ops j ops.size (n + i) = true → L j = true) → (∀ j, reach ops (n + i) ops.size j = true → L j = false) → Inv (tr.map L) w → Gives P (execOp F.eval o) w fun u w' => u = vs.getD i undef ∧ Inv (tr.map fun j => j == (n + i) || L j) w')
    else vs.getD i undef = undef ∧ ∀ (L : Nat → Bool) (w : World), Inv (tr.map L) w → Inv (tr.map fun j => j == (n + i) || L j) w
  | n, [], [], [], _, i, o, h => by simp at h
  | n, o :: os, v :: vs, true :: bs, ⟨h1, h2⟩, 0, o', h => by
    obtain rfl : o = o' := by simpa using h
    exact ⟨true, rfl, by rw [if_pos rfl]; exact h1⟩
  | n, o :: os, v :: vs, false :: bs, ⟨h1, h2⟩, 0, o', h => ⟨false, rfl, by rw [if_neg (by simp)]; exact h1⟩
  | n, o :: os, v :: vs, true :: bs, ⟨h1, h2⟩, i + 1, o', h => by
    obtain ⟨b, hb, hh⟩ := EachS.at_ h2 (i := i) (o := o') (by simpa using h)
    rw [show n + 1 + i = n + (i + 1) by omega] at hh
    exact ⟨b, by simpa using hb, by simpa using hh⟩
  | n, o :: os, v :: vs, false :: bs, ⟨h1, h2⟩, i + 1, o', h => by
    obtain ⟨b, hb, hh⟩ := EachS.at_ h2 (i := i) (o := o') (by simpa using h)
    rw [show n + 1 + i = n + (i + 1) by omega] at hh
    exact ⟨b, by simpa using hb, by simpa using hh⟩
  | _, [], [], _ :: _, h, _, _, _ => h.elim
  | _, [], _ :: _, _, h, _, _, _ => h.elim
  | _, _ :: _, [], _, h, _, _, _ => h.elim
  | _, _ :: _, _ :: _, [], h, _, _, _ => h.elim
theorem or_swap (tr : List Nat) (L : Nat → Bool) (i : Nat) : (tr.map fun j => L j || j == i) = tr.map fun j => j == i || L j := by
  congr 1; funext j; rw [Bool.or_comm]
theorem reach_some {ops : Array Oper} {j : Nat} : ∀ {fuel i : Nat}, reach ops j fuel i = true → ∃ o, ops[i]? = some o
  | 0, _, h => by cases h
  | fuel + 1, i, h => by
    rw [reach] at h
    cases ho : ops[i]? with
    | none => rw [ho] at h; cases h
    | some o => exact ⟨o, rfl⟩
/-- THE LAW -/
theorem region_stage {id : Nat} {a0 : Act} {w0 : World} (hm : P.follows .mixedOrders = true) (F : Act) (vs : List Value) (bs : List Bool) (tr : List Nat) (Inv : List Bool → World → Prop) (hok : confOk ops = true) (hF : fin ops (fun i => vs.getD i undef) a0 = F)
    (hw : ((List.range ops.size).map fun i => ((ops[i]?).map fun o => Region.wanted o (yielded ops F.tmps)).getD true) = bs) (htr : (tr.all fun i => decide (i < ops.size)) = true) (h0 : Inv (tr.map fun _ => false) w0.drew) (hE : EachS P F ops tr Inv 0 ops.toList vs bs) (hend : ∀ w : World, Inv (tr.map fun _ => true) w → Q .normal F w) : (Code.region id ops true).wp P Q a0 w0 := by
  subst hF
  refine wp_region_any hm ?_
  refine wpAny_conf (vals := fun i => vs.getD i undef) (a0 := a0) (Inv := fun L w => Closed ops L ∧ Inv (tr.map L) w) hok (fun i o L w ho hLi hb hI => ?_) (fun L w hL hI => ?_) ops.size (Array.replicate ops.size false) a0 _ (by simp) (by
    refine Nat.le_trans (List.countP_le_length) ?_
    simp) ⟨rfl, rfl, fun i t _ h => ?_, fun _ _ => rfl⟩ ⟨fun i o _ h => ?_, ?_⟩
  · obtain ⟨hc, hI⟩ := hI
    have hi : i < ops.size := (Array.getElem?_eq_some_iff.1 ho).1
    obtain ⟨b, hb2, hh⟩ := hE.at_ (i := i) (o := o) (by rw [Array.getElem?_toList]; exact ho)
    rw [Nat.zero_add] at hh
    rw [← hw, List.getElem?_map, List.getElem?_range hi] at hb2
    simp only [Option.map_some, ho, Option.getD_some, Option.some.injEq] at hb2
    have hca := closed_add hc ho hb
    rw [hb2]
    split
    · rename_i hbt
      rw [if_pos hbt] at hh
      have hg := hh L w hLi (fun j hj => reach_listed hc ho hb hj) (fun j hj => by
        cases hLj : L j with
        | false => rfl
        | true =>
          obtain ⟨oj, hoj⟩ := reach_some hj
          have := reach_listed hc hoj (hc j oj hoj hLj) hj
          rw [hLi] at this; cases this) hI
      unfold Gives at hg ⊢
      revert hg
      generalize (execOp (fin ops (fun i => vs.getD i undef) a0).eval o).run P w = x
      cases x with
      | halt e w' => exact fun h => h
      | ok n w' =>
        cases n with
        | value v => exact fun h => ⟨h.1, hca, by rw [or_swap]; exact h.2⟩
        | skip => exact fun h => ⟨h.1, hca, by rw [or_swap]; exact h.2⟩
        | enter f args => exact fun h => Calls.mono h fun e w'' ⟨v, h1, h2, h3⟩ => ⟨v, h1, h2, hca, by rw [or_swap]; exact h3⟩
        | _ => exact fun h => h
    · rename_i hbt
      rw [if_neg hbt] at hh
      exact ⟨hh.1, hca, by rw [or_swap]; exact hh.2 L w hI⟩
  · have e : tr.map L = tr.map fun _ => true := List.map_congr_left fun i hi => by
      have := List.all_eq_true.1 htr i hi
      exact hL i (by simpa using this)
    rw [← e] at hend
    exact hend w hI.2
  · rw [Array.getD_eq_getD_getElem?, Array.getElem?_replicate] at h
    split at h <;> simp at h
  · dsimp only at h
    rw [Array.getD_eq_getD_getElem?, Array.getElem?_replicate] at h
    split at h <;> simp at h
  · have e : (fun j => (Array.replicate ops.size false).getD j false) = fun _ => false := by
      funext j
      rw [Array.getD_eq_getD_getElem?, Array.getElem?_replicate]
      split <;> rfl
    rw [e]
    exact h0
end
end Go.Proofs.YthpioplpfmlgcaaGreatDoor
namespace Go.Proofs.YthpioplpfmlgcaaGreatDoor
section
variable {P : Program} {ops : Array Oper} {Q : Exit → Act → World → Prop} {X : Type}
theorem OnWay.swap {v v' : Nat → Value} {a0 : Act} {L : Nat → Bool} {a : Act} (hd : dstsOk ops = true) (h : OnWay ops v a0 L a) (he : ∀ i, L i = true → v' i = v i) : OnWay ops v' a0 L a :=
  ⟨h.size, h.defers, fun i t hi hL => by
    rw [h.done i t hi hL]
    by_cases ht : t < a0.tmps.size
    · rw [fin_at hd hi ht, fin_at hd hi ht, he i hL]
    · have e1 : (fin ops v a0).tmps[t]? = none := Array.getElem?_eq_none (show (finOn ops v a0 (List.range ops.size)).tmps.size ≤ t by rw [(finOn_frame v _ a0).1]; exact Nat.le_of_not_lt ht)
      have e2 : (fin ops v' a0).tmps[t]? = none := Array.getElem?_eq_none (show (finOn ops v' a0 (List.range ops.size)).tmps.size ≤ t by rw [(finOn_frame v' _ a0).1]; exact Nat.le_of_not_lt ht)
      rw [e1, e2], h.rest⟩
theorem wpAny_ghost {vals : X → Nat → Value} {a0 : Act} {Inv : (Nat → Bool) → X → World → Prop} (hok : confOk ops = true)
    (hstep : ∀ (i : Nat) (o : Oper) (L : Nat → Bool) (x : X) (w : World), ops[i]? = some o → L i = false → (∀ e ∈ o.after, Region.binds .any e = true → L e.on = true) → Inv L x w →
      if Region.wanted o (yielded ops (fin ops (vals x) a0).tmps) = true then Gives P (execOp (fin ops (vals x) a0).eval o) w (fun v w' => ∃ x', v = vals x' i ∧ (∀ j, L j = true → vals x' j = vals x j) ∧ Inv (fun j => L j || j == i) x' w') else vals x i = undef ∧ Inv (fun j => L j || j == i) x w)
    (hend : ∀ (L : Nat → Bool) (x : X) (w : World), (∀ i, i < ops.size → L i = true) → Inv L x w → Q .normal (fin ops (vals x) a0) w) :
    ∀ (fuel : Nat) (listed : Array Bool) (x : X) (a : Act) (w : World), listed.size = ops.size → (listed.toList.countP (· == false)) ≤ fuel → OnWay ops (vals x) a0 (fun j => listed.getD j false) a → Inv (fun j => listed.getD j false) x w → wpAny P .any ops Q fuel listed a w := by
  simp only [confOk, Bool.and_eq_true] at hok
  obtain ⟨⟨⟨hsel, hd⟩, hall⟩, hedge⟩ := hok
  have fini : ∀ (listed : Array Bool) (x : X) (a : Act) (w : World), listed.size = ops.size → OnWay ops (vals x) a0 (fun j => listed.getD j false) a → Inv (fun j => listed.getD j false) x w → Region.ready .any ops listed = [] → Q .normal a w := by
    intro listed x a w hs ho hI hr
    have hL : ∀ i, i < ops.size → listed.getD i false = true := by
      intro i
      induction i using Nat.strongRecOn with
      | _ i ih =>
        intro hi
        refine Classical.byContradiction fun hn => ?_
        have hm : i ∈ Region.ready .any ops listed := by
          rw [mem_ready]
          refine ⟨?_, ops[i], Array.getElem?_eq_getElem hi, fun e he hb => ?_⟩
          · have hil : i < listed.size := by omega
            simp only [Array.getD_eq_getD_getElem?, Array.getElem?_eq_getElem hil, Option.getD_some] at hn ⊢
            simpa using hn
          · have h1 := List.all_eq_true.1 hedge i (List.mem_range.2 hi)
            rw [Array.getElem?_eq_getElem hi] at h1
            have h2 := Array.all_eq_true'.1 h1 e he
            rw [hb] at h2
            have h3 : e.on < i := by simpa using h2
            exact ih e.on h3 (by omega)
        rw [hr] at hm
        cases hm
    rw [ho.end hL]
    exact hend _ x w hL hI
  intro fuel
  induction fuel with
  | zero =>
    intro listed x a w hs hc ho hI
    have hr : Region.ready .any ops listed = [] := by
      rw [List.eq_nil_iff_forall_not_mem]
      intro j hj
      rw [mem_ready] at hj
      obtain ⟨h0, o, hoj, _⟩ := hj
      have hjl : j < listed.size := by rw [hs]; exact (Array.getElem?_eq_some_iff.1 hoj).1
      have hf : listed[j] = false := by simpa [Array.getD_eq_getD_getElem?, Array.getElem?_eq_getElem hjl] using h0
      have : 0 < listed.toList.countP (· == false) := List.countP_pos_iff.2 ⟨false, by rw [← hf]; simp, rfl⟩
      omega
    exact ⟨hr, fini listed x a w hs ho hI hr⟩
  | succ fuel ih =>
    intro listed x a w hs hc ho hI
    refine ⟨fini listed x a w hs ho hI, fun i hi => ?_⟩
    rw [mem_ready] at hi
    obtain ⟨h0, o, hoi, hb⟩ := hi
    have hil : i < ops.size := (Array.getElem?_eq_some_iff.1 hoi).1
    have hil' : i < listed.size := by omega
    have hf : listed[i] = false := by simpa [Array.getD_eq_getD_getElem?, Array.getElem?_eq_getElem hil'] using h0
    have hLi : listed.getD i false = false := by simp [Array.getD_eq_getD_getElem?, Array.getElem?_eq_getElem hil', hf]
    have hL' : (fun j => (listed.setIfInBounds i true).getD j false) = fun j => listed.getD j false || j == i := by
      funext j
      by_cases hij : j = i
      · subst hij; simp [Array.getD_eq_getD_getElem?, hil']
      · rw [getD_set_ne false (Ne.symm hij)]; simp [hij]
    have hcount : (listed.setIfInBounds i true).toList.countP (· == false) ≤ fuel := by
      rw [Array.toList_setIfInBounds]
      have hl : i < listed.toList.length := by simpa using hil'
      have hs1 : listed.toList.countP (· == false) = (listed.toList.set i true).countP (· == false) + 1 := by
        exact count_set _ _ (by rw [List.getElem?_eq_getElem hl]; simpa using hf)
      omega
    have hoOk : operOk ops o = true := by
      obtain ⟨_, hx⟩ := Array.getElem?_eq_some_iff.1 hoi
      exact Array.all_eq_true'.1 hall o (by rw [← hx]; exact Array.getElem_mem _)
    obtain ⟨hev, hwant⟩ := ho.eval hoOk hb
    have hexec : execOp a.eval o = execOp (fin ops (vals x) a0).eval o := execOp_congr o (fun cs b => Region.noSelect_spec hsel i o cs b hoi) hev
    have hst := hstep i o _ x w hoi hLi hb hI
    have hdst : o.dst = dstAt ops i := by unfold dstAt; rw [hoi]; rfl
    have next : ∀ x' w', (∀ j, listed.getD j false = true → vals x' j = vals x j) → Inv (fun j => listed.getD j false || j == i) x' w' → wpAny P .any ops Q fuel (listed.setIfInBounds i true) (a.put o.dst (vals x' i)) w' := by
      intro x' w' hv hI'
      refine ih _ x' _ w' (by simpa using hs) hcount ?_ (by rw [hL']; exact hI')
      rw [hL', hdst]
      exact (ho.swap hd hv).put hd i hil hLi
    unfold wpOp
    simp only [hoi]
    rw [hwant]
    by_cases hw : Region.wanted o (yielded ops (fin ops (vals x) a0).tmps) = true
    · rw [if_pos hw] at hst ⊢
      refine .inl (Gives.wp (R := fun v w' => ∃ x', v = vals x' i ∧ (∀ j, listed.getD j false = true → vals x' j = vals x j) ∧ Inv (fun j => listed.getD j false || j == i) x' w') (by rw [hexec]; exact hst) ?_)
      rintro v w' ⟨x', rfl, hv, hI'⟩
      exact next x' w' hv hI'
    · rw [if_neg hw] at hst ⊢
      rw [← hst.1]
      exact next x w (fun _ _ => rfl) hst.2
/-- what an operation may not turn of the values laid down -/
def KeepsV (ops : Array Oper) (i : Nat) (l l' : List Value) : Prop := ∀ j, j ≠ i → reach ops i ops.size j = false → l'.getD j undef = l.getD j undef
theorem KeepsV.same {i : Nat} {l : List Value} : KeepsV ops i l l := fun _ _ _ => rfl
/-- one obligation for each operation: what is listed before it is done, what waits for it is not -/
def EachG (P : Program) (F : X → Act) (ops : Array Oper) (tr : List Nat) (vs : X → List Value) (Inv : List Bool → X → World → Prop) : Nat → List Oper → List Bool → Prop
  | i, o :: os, true :: bs => (∀ (L : Nat → Bool) (x : X) (w : World), L i = false → (∀ j, reach ops j ops.size i = true → L j = true) → (∀ j, reach ops i ops.size j = true → L j = false) → Inv (tr.map L) x w → Gives P (execOp (F x).eval o) w fun u w' => ∃ x', u = (vs x').getD i undef ∧ KeepsV ops i (vs x) (vs x') ∧ Inv (tr.map fun j => j == i || L j) x' w') ∧ EachG P F ops tr vs Inv (i + 1) os bs
  | i, _ :: os, false :: bs => ((∀ x, (vs x).getD i undef = undef) ∧ ∀ (L : Nat → Bool) (x : X) (w : World), Inv (tr.map L) x w → Inv (tr.map fun j => j == i || L j) x w) ∧ EachG P F ops tr vs Inv (i + 1) os bs
  | _, [], [] => True
  | _, _, _ => False
theorem EachG.at_ {F : X → Act} {tr : List Nat} {vs : X → List Value} {Inv : List Bool → X → World → Prop} : ∀ {n : Nat} {os : List Oper} {bs : List Bool}, EachG P F ops tr vs Inv n os bs → ∀ {i : Nat} {o : Oper}, os[i]? = some o → ∃ b, bs[i]? = some b ∧
    if b = true then (∀ (L : Nat → Bool) (x : X) (w : World), L (n + i) = false → (∀ j, reach ops j ops.size (n + i) = true → L j = true) → (∀ j, reach ops (n + i) ops.size j = true → L j = false) → Inv (tr.map L) x w → Gives P (execOp (F x).eval o) w fun u w' => ∃ x', u = (vs x').getD (n + i) undef ∧ KeepsV ops (n + i) (vs x) (vs x') ∧ Inv (tr.map fun j => j == (n + i) || L j) x' w')
    else (∀ x, (vs x).getD (n + i) undef = undef) ∧ ∀ (L : Nat → Bool) (x : X) (w : World), Inv (tr.map L) x w → Inv (tr.map fun j => j == (n + i) || L j) x w
  | n, [], [], _, i, o, h => by simp at h
  | n, o :: os, true :: bs, ⟨h1, h2⟩, 0, o', h => by
    obtain rfl : o = o' := by simpa using h
    exact ⟨true, rfl, by rw [if_pos rfl]; exact h1⟩
  | n, o :: os, false :: bs, ⟨h1, h2⟩, 0, o', h => ⟨false, rfl, by rw [if_neg (by simp)]; exact h1⟩
  | n, o :: os, true :: bs, ⟨h1, h2⟩, i + 1, o', h => by
    obtain ⟨b, hb, hh⟩ := EachG.at_ h2 (i := i) (o := o') (by simpa using h)
    rw [show n + 1 + i = n + (i + 1) by omega] at hh
    exact ⟨b, by simpa using hb, hh⟩
  | n, o :: os, false :: bs, ⟨h1, h2⟩, i + 1, o', h => by
    obtain ⟨b, hb, hh⟩ := EachG.at_ h2 (i := i) (o := o') (by simpa using h)
    rw [show n + 1 + i = n + (i + 1) by omega] at hh
    exact ⟨b, by simpa using hb, hh⟩
  | _, [], _ :: _, h, _, _, _ => h.elim
  | _, _ :: _, [], h, _, _, _ => h.elim
/-- THE LAW -/
theorem region_ghost {id : Nat} {a0 : Act} {w0 : World} (hm : P.follows .mixedOrders = true) (F : X → Act) (vs : X → List Value) (bs : List Bool) (tr : List Nat) (Inv : List Bool → X → World → Prop) (x0 : X) (hok : confOk ops = true) (hF : ∀ x, fin ops (fun i => (vs x).getD i undef) a0 = F x)
    (hw : ∀ x, ((List.range ops.size).map fun i => ((ops[i]?).map fun o => Region.wanted o (yielded ops (F x).tmps)).getD true) = bs) (htr : (tr.all fun i => decide (i < ops.size)) = true) (h0 : Inv (tr.map fun _ => false) x0 w0.drew) (hE : EachG P F ops tr vs Inv 0 ops.toList bs) (hend : ∀ (x : X) (w : World), Inv (tr.map fun _ => true) x w → Q .normal (F x) w) : (Code.region id ops true).wp P Q a0 w0 := by
  refine wp_region_any hm ?_
  refine wpAny_ghost (vals := fun x i => (vs x).getD i undef) (a0 := a0) (Inv := fun L x w => Closed ops L ∧ Inv (tr.map L) x w) hok (fun i o L x w ho hLi hb hI => ?_) (fun L x w hL hI => ?_) ops.size (Array.replicate ops.size false) x0 a0 _ (by simp) (by
    refine Nat.le_trans (List.countP_le_length) ?_
    simp) ⟨rfl, rfl, fun i t _ h => ?_, fun _ _ => rfl⟩ ⟨fun i o _ h => ?_, ?_⟩
  · obtain ⟨hc, hI⟩ := hI
    have hi : i < ops.size := (Array.getElem?_eq_some_iff.1 ho).1
    obtain ⟨b, hb2, hh⟩ := hE.at_ (i := i) (o := o) (by rw [Array.getElem?_toList]; exact ho)
    rw [Nat.zero_add] at hh
    rw [← hw x, List.getElem?_map, List.getElem?_range hi] at hb2
    simp only [Option.map_some, ho, Option.getD_some, Option.some.injEq] at hb2
    have hca := closed_add hc ho hb
    have hFx : fin ops (fun i => (vs x).getD i undef) a0 = F x := hF x
    rw [hFx, hb2]
    have hno : ∀ j, reach ops i ops.size j = true → L j = false := fun j hj => by
      cases hLj : L j with
      | false => rfl
      | true =>
        obtain ⟨oj, hoj⟩ := reach_some hj
        have := reach_listed hc hoj (hc j oj hoj hLj) hj
        rw [hLi] at this; cases this
    split
    · rename_i hbt
      rw [if_pos hbt] at hh
      have hg := hh L x w hLi (fun j hj => reach_listed hc ho hb hj) hno hI
      unfold Gives at hg ⊢
      revert hg
      have key : ∀ u w', (∃ x', u = (vs x').getD i undef ∧ KeepsV ops i (vs x) (vs x') ∧ Inv (tr.map fun j => j == i || L j) x' w') → ∃ x', u = (vs x').getD i undef ∧ (∀ j, L j = true → (vs x').getD j undef = (vs x).getD j undef) ∧ Closed ops (fun j => L j || j == i) ∧ Inv (tr.map fun j => L j || j == i) x' w' := by
        rintro u w' ⟨x', h1, h2, h3⟩
        refine ⟨x', h1, fun j hj => h2 j (fun e => by subst e; rw [hLi] at hj; cases hj) ?_, hca, by rw [or_swap]; exact h3⟩
        cases hr : reach ops i ops.size j with
        | false => rfl
        | true => rw [hno j hr] at hj; cases hj
      generalize (execOp (F x).eval o).run P w = r
      cases r with
      | halt e w' => exact fun h => h
      | ok n w' =>
        cases n with
        | value v => exact fun h => key _ _ h
        | skip => exact fun h => key _ _ h
        | enter f args => exact fun h => Calls.mono h fun e w'' ⟨v, h1, h2⟩ => ⟨v, h1, key _ _ h2⟩
        | _ => exact fun h => h
    · rename_i hbt
      rw [if_neg hbt] at hh
      exact ⟨hh.1 x, hca, by rw [or_swap]; exact hh.2 L x w hI⟩
  · have e : tr.map L = tr.map fun _ => true := List.map_congr_left fun i hi => by
      have := List.all_eq_true.1 htr i hi
      exact hL i (by simpa using this)
    rw [← e] at hend
    have hFx : fin ops (fun i => (vs x).getD i undef) a0 = F x := hF x
    show Q .normal (fin ops (fun i => (vs x).getD i undef) a0) w
    rw [hFx]
    exact hend x w hI.2
  · rw [Array.getD_eq_getD_getElem?, Array.getElem?_replicate] at h
    split at h <;> simp at h
  · dsimp only at h
    rw [Array.getD_eq_getD_getElem?, Array.getElem?_replicate] at h
    split at h <;> simp at h
  · have e : (fun j => (Array.replicate ops.size false).getD j false) = fun _ => false := by
      funext j
      rw [Array.getD_eq_getD_getElem?, Array.getElem?_replicate]
      split <;> rfl
    rw [e]
    exact h0
/-- what the two lists of values share -/
def SameV (ops : Array Oper) (i : Nat) : Nat → List Value → List Value → Prop
  | k, v :: l, v' :: l' => (k = i ∨ reach ops i ops.size k = true ∨ v' = v) ∧ SameV ops i (k + 1) l l'
  | _, [], [] => True
  | _, _, _ => False
theorem SameV.at_ {i : Nat} : ∀ {k : Nat} {l l' : List Value}, SameV ops i k l l' → ∀ j, k + j ≠ i → reach ops i ops.size (k + j) = false → l'.getD j undef = l.getD j undef
  | k, v :: l, v' :: l', ⟨h1, h2⟩, 0, hj, hr => by
    rcases h1 with h | h | h
    · exact (hj h).elim
    · rw [Nat.add_zero, h] at hr; cases hr
    · exact h
  | k, v :: l, v' :: l', ⟨h1, h2⟩, j + 1, hj, hr => by
    rw [List.getD_cons_succ, List.getD_cons_succ]
    exact SameV.at_ h2 j (by omega) (by rw [show k + 1 + j = k + (j + 1) by omega]; exact hr)
  | _, [], [], _, _, _, _ => rfl
  | _, [], _ :: _, h, _, _, _ => h.elim
  | _, _ :: _, [], h, _, _, _ => h.elim
theorem KeepsV.of_same {i : Nat} {l l' : List Value} (h : SameV ops i 0 l l') : KeepsV ops i l l' := fun j hj hr => h.at_ j (by omega) (by rw [Nat.zero_add]; exact hr)
/-- an operation with a value known beforehand -/
theorem Gives.plain {s : Sem Next} {w w' : World} {v : Value} {i : Nat} {x : X} {vs : X → List Value} {I : X → World → Prop} (h : s.run P w = .ok (.value v) w') (hv : v = (vs x).getD i undef) (hI : I x w') : Gives P s w fun u w'' => ∃ x', u = (vs x').getD i undef ∧ KeepsV ops i (vs x) (vs x') ∧ I x' w'' :=
  Gives.value h ⟨x, hv, KeepsV.same, hI⟩
end
end Go.Proofs.YthpioplpfmlgcaaGreatDoor
namespace Go.Proofs.YthpioplpfmlgcaaGreatDoor.Ch
open Go.RowKit
theorem own_below {w w' : World} {base : Nat} {e : TypeId} {size : Nat} {v : Value} {n : Nat} {xs : List Value} (h : w.ownsRow base e size v n xs) (hb : Below w.heap.size w w') : w'.ownsRow base e size v n xs :=
  h.kept (row := none) ⟨hb.os, hb.tape, hb.output, hb.size, fun i hi _ => hb.block i hi⟩ (by cases v.ownBlock <;> simp)
theorem own_more {w : World} {base base' : Nat} {e : TypeId} {size : Nat} {v : Value} {n : Nat} {xs : List Value} (h : w.ownsRow base e size v n xs) (hB : base' ≤ base) : w.ownsRow base' e size v n xs :=
  ⟨h.1, h.2.imp id fun ⟨g, cap, cur, h1, h2, h3⟩ => ⟨g, cap, cur, h1, Nat.le_trans hB h2, h3⟩⟩
theorem cells_new (w : World) (cs : List Value) (t : TypeId) : ∀ j u, cs[j]? = some u → (w.alloc (.cells cs.toArray t)).cell? ((⟨w.heap.size, 0, none⟩ : Addr).add j) = some u := by
  intro j u hj
  rw [show (⟨w.heap.size, 0, none⟩ : Addr).add j = ⟨w.heap.size, j, none⟩ by unfold Addr.add; simp; omega, Blk.cell (Blk.new w t _)]
  simpa using hj
theorem ret_int {k : IntKind} {a b : Int} (h : a = b) : Ending.returned (.int k a) = .returned (.int k b) := by rw [h]
/-- tokens in a row -/
def ToksAt (w : World) (A : Option Addr) (ts : List ByteArray) : Prop := ∀ (j : Nat) (s : ByteArray), ts[j]? = some s → s.size ≤ 9223372036854775807 ∧ ∃ ad : Addr, A = some ad ∧ ad.block < w.heap.size ∧ w.cell? (ad.add j) = some (.string s)
theorem ToksAt.keep {w w' : World} {A : Option Addr} {ts : List ByteArray} (h : ToksAt w A ts) (hb : Below w.heap.size w w') : ToksAt w' A ts := fun j s hj => by
  obtain ⟨hf, ad, hA, hlt, hc⟩ := h j s hj
  exact ⟨hf, ad, hA, Nat.lt_of_lt_of_le hlt hb.size, (hb.cell (by rw [add_block]; exact hlt)).trans hc⟩
theorem ToksAt.drew {w : World} {A : Option Addr} {ts : List ByteArray} (h : ToksAt w A ts) : ToksAt w.drew A ts := h
theorem ToksAt.alloc {w : World} {A : Option Addr} {ts : List ByteArray} (h : ToksAt w A ts) (o : Obj) : ToksAt (w.alloc o) A ts := h.keep (bel_alloc w o)
/-- numbers that a call has made -/
def OwnI (w : World) (B : Nat) (v : Value) (xs : List Int) : Prop := w.ownsRow B 3 1 v xs.length (xs.map (Value.int .i64))
theorem OwnI.keep {w w' : World} {B : Nat} {v : Value} {xs : List Int} (h : OwnI w B v xs) (hb : Below w.heap.size w w') : OwnI w' B v xs := own_below h hb
theorem OwnI.more {w : World} {B B' : Nat} {v : Value} {xs : List Int} (h : OwnI w B v xs) (hB : B' ≤ B) : OwnI w B' v xs := own_more h hB
theorem OwnI.nil (w : World) (B : Nat) : OwnI w B (.slice none 0 0) [] := World.ownsRow_nil _ _ _ _
/-- numbers in a row that may be nil -/
def IntsO (w : World) (A : Option Addr) (xs : List Int) : Prop := ∀ (j : Nat) (x : Int), xs[j]? = some x → ∃ g : Nat, A = some ⟨g, 0, none⟩ ∧ (∃ cs, Blk w g 3 cs) ∧ w.cell? ⟨g, j, none⟩ = some (.int .i64 x)
theorem OwnI.form {w : World} {B : Nat} {v : Value} {xs : List Int} (h : OwnI w B v xs) : ∃ A cap, v = .slice A xs.length cap ∧ xs.length ≤ cap ∧ cap ≤ 9223372036854775807 ∧ IntsO w A xs := by
  obtain ⟨h1, h2⟩ := h
  rcases h2 with ⟨rfl, h0⟩ | ⟨g, cap, cur, rfl, hg, hb, hn, hc, hs, ht⟩
  · obtain rfl : xs = [] := List.length_eq_zero_iff.1 h0
    exact ⟨none, 0, rfl, by simp, by omega, fun j p hj => by simp at hj⟩
  · have hb' : Blk w g 3 cur := hb
    refine ⟨_, cap, rfl, hn, by unfold maxLen at hc; omega, fun j p hj => ⟨g, rfl, ⟨_, hb'⟩, ?_⟩⟩
    rw [hb'.cell]
    have h3 : (xs.map (Value.int .i64))[j]? = some (.int .i64 p) := by simp [hj]
    rw [← ht, List.getElem?_take] at h3
    split at h3
    · simpa using h3
    · cases h3
theorem IntsO.keep {w w' : World} {A : Option Addr} {xs : List Int} (h : IntsO w A xs) (hb : Below w.heap.size w w') : IntsO w' A xs := fun j p hj => by
  obtain ⟨g, h1, ⟨cs, h2⟩, h3⟩ := h j p hj
  exact ⟨g, h1, ⟨cs, _root_.Go.Proofs.YthpioplpfmlgcaaGreatDoor.keep hb h2⟩, (hb.cell (p := ⟨g, j, none⟩) h2.lt).trans h3⟩
theorem ints_snoc {w : World} {B n : Nat} {v : Value} {xs : List Int} {c : Int} (hn : xs.length = n) (h : w.ownsRow B 3 1 v (n + 1) ((xs.map (Value.int .i64)) ++ [.int .i64 c])) : OwnI w B v (xs ++ [c]) := by
  unfold OwnI
  rw [List.length_append, hn, List.map_append, List.map_cons, List.map_nil]
  exact h
theorem info_int : (Tryz.prog.info? 3).map (fun i => (i.zero, i.size, i.bytes)) = some (some (.int .i64 0), 1, 8) := by kernel_rfl
theorem info_ptr : (Tryz.prog.info? 137).map (fun i => (i.zero, i.size, i.bytes)) = some (some (.pointer none), 1, 8) := by kernel_rfl
abbrev ptrV (g : Nat) : Value := .pointer (some ⟨g, 0, none⟩)
abbrev shC (rs : List Rul) (r a : Int) (k0 k1 : Value) : Array Value := #[.int .i64 r, .int .i64 a, .int .i64 (precI rs r), k0, k1]
/-- a reading whose kids belong to other readings, too -/
inductive ShAt (rs : List Rul) (w : World) : Nat → Rd → Prop
  | leaf (g : Nat) (r a : Int) (hb : Blk w g 176 (shC rs r a (.pointer none) (.pointer none))) : ShAt rs w g (.mk r a [])
  | one (g : Nat) (r a : Int) (g0 : Nat) (x : Rd) (hb : Blk w g 176 (shC rs r a (ptrV g0) (.pointer none))) (hx : ShAt rs w g0 x) : ShAt rs w g (.mk r a [x])
  | two (g : Nat) (r a : Int) (g0 g1 : Nat) (x y : Rd) (hb : Blk w g 176 (shC rs r a (ptrV g0) (ptrV g1))) (hx : ShAt rs w g0 x) (hy : ShAt rs w g1 y) : ShAt rs w g (.mk r a [x, y])
theorem ShAt.map {rs : List Rul} {w w' : World} (hk : ∀ g cs, Blk w g 176 cs → Blk w' g 176 cs) {g : Nat} {x : Rd} (h : ShAt rs w g x) : ShAt rs w' g x := by
  induction h with
  | leaf g r a hb => exact .leaf g r a (hk _ _ hb)
  | one g r a g0 x hb _ ih => exact .one g r a g0 x (hk _ _ hb) ih
  | two g r a g0 g1 x y hb _ _ ih1 ih2 => exact .two g r a g0 g1 x y (hk _ _ hb) ih1 ih2
theorem ShAt.keep {rs : List Rul} {w w' : World} {g : Nat} {x : Rd} (h : ShAt rs w g x) (hb : Below w.heap.size w w') : ShAt rs w' g x := h.map fun _ _ h => _root_.Go.Proofs.YthpioplpfmlgcaaGreatDoor.keep hb h
theorem ShAt.blk {rs : List Rul} {w : World} {g : Nat} {x : Rd} (h : ShAt rs w g x) : ∃ k0 k1, Blk w g 176 (shC rs x.rule x.at_ k0 k1) := by
  cases h with
  | leaf _ r a hb => exact ⟨_, _, hb⟩
  | one _ r a g0 x hb _ => exact ⟨_, _, hb⟩
  | two _ r a g0 g1 x y hb _ _ => exact ⟨_, _, hb⟩
theorem blk_type {w : World} {g : Nat} {t t' : TypeId} {cs cs' : Array Value} (h : Blk w g t cs) (h' : Blk w g t' cs') : t = t' := by
  unfold Blk at h h'
  rw [h] at h'
  simp only [Option.some.injEq, Obj.cells.injEq] at h'
  exact h'.2.1
/-- all that turns is a block of another type, and new blocks -/
theorem ShAt.grown {rs : List Rul} {w w' : World} {row : Option Nat} {g : Nat} {x : Rd} (h : ShAt rs w g x) (hg : w.grownBy w' row) (hr : ∀ b, row = some b → ∃ t cs, Blk w b t cs ∧ t ≠ 176) : ShAt rs w' g x :=
  h.map fun b cs hb => hb.grown hg fun e => by
    obtain ⟨t, cs', h1, h2⟩ := hr b e.symm
    exact h2 (blk_type h1 hb)
/-- shared readings in a row of pointers -/
def Shs (rs : List Rul) (w : World) (bs : List Nat) (xs : List Rd) : Prop := bs.length = xs.length ∧ ∀ (j b : Nat) (x : Rd), bs[j]? = some b → xs[j]? = some x → ShAt rs w b x
theorem Shs.keep {rs : List Rul} {w w' : World} {bs : List Nat} {xs : List Rd} (h : Shs rs w bs xs) (hb : Below w.heap.size w w') : Shs rs w' bs xs := ⟨h.1, fun j b x h1 h2 => (h.2 j b x h1 h2).keep hb⟩
theorem Shs.map {rs : List Rul} {w w' : World} {bs : List Nat} {xs : List Rd} (h : Shs rs w bs xs) (hk : ∀ g cs, Blk w g 176 cs → Blk w' g 176 cs) : Shs rs w' bs xs := ⟨h.1, fun j b x h1 h2 => (h.2 j b x h1 h2).map hk⟩
theorem Shs.nil {rs : List Rul} {w : World} : Shs rs w [] [] := ⟨rfl, fun j b x h => by simp at h⟩
theorem Shs.snoc {rs : List Rul} {w : World} {bs : List Nat} {xs : List Rd} {b : Nat} {x : Rd} (h : Shs rs w bs xs) (hx : ShAt rs w b x) : Shs rs w (bs ++ [b]) (xs ++ [x]) := by
  refine ⟨by simp [h.1], fun j b' x' h1 h2 => ?_⟩
  rcases Nat.lt_or_ge j bs.length with hj | hj
  · rw [List.getElem?_append_left hj] at h1
    rw [List.getElem?_append_left (by rw [← h.1]; exact hj)] at h2
    exact h.2 j b' x' h1 h2
  · rw [List.getElem?_append_right hj] at h1
    rw [List.getElem?_append_right (by rw [← h.1]; exact hj), ← h.1] at h2
    by_cases e : j - bs.length = 0
    · rw [e] at h1 h2
      obtain rfl : b = b' := by simpa using h1
      obtain rfl : x = x' := by simpa using h2
      exact hx
    · rw [List.getElem?_eq_none (by simp; omega)] at h1; cases h1
theorem Shs.append {rs : List Rul} {w : World} {bs cs : List Nat} {xs ys : List Rd} (h : Shs rs w bs xs) (h' : Shs rs w cs ys) : Shs rs w (bs ++ cs) (xs ++ ys) := by
  refine ⟨by simp [h.1, h'.1], fun j b' x' h1 h2 => ?_⟩
  rcases Nat.lt_or_ge j bs.length with hj | hj
  · rw [List.getElem?_append_left hj] at h1
    rw [List.getElem?_append_left (by rw [← h.1]; exact hj)] at h2
    exact h.2 j b' x' h1 h2
  · rw [List.getElem?_append_right hj] at h1
    rw [List.getElem?_append_right (by rw [← h.1]; exact hj), ← h.1] at h2
    exact h'.2 _ b' x' h1 h2
theorem Shs.take {rs : List Rul} {w : World} {bs : List Nat} {xs : List Rd} (h : Shs rs w bs xs) (n : Nat) : Shs rs w (bs.take n) (xs.take n) := by
  refine ⟨by simp [h.1], fun j b x h1 h2 => ?_⟩
  rw [List.getElem?_take] at h1 h2
  split at h1
  · rw [if_pos ‹_›] at h2; exact h.2 j b x h1 h2
  · cases h1
/-- a slice of pointers that a call has made -/
def OwnP (w : World) (B : Nat) (v : Value) (bs : List Nat) : Prop := w.ownsRow B 137 1 v bs.length (bs.map ptrV)
theorem OwnP.keep {w w' : World} {B : Nat} {v : Value} {bs : List Nat} (h : OwnP w B v bs) (hb : Below w.heap.size w w') : OwnP w' B v bs := own_below h hb
theorem OwnP.more {w : World} {B B' : Nat} {v : Value} {bs : List Nat} (h : OwnP w B v bs) (hB : B' ≤ B) : OwnP w B' v bs := own_more h hB
theorem OwnP.nil (w : World) (B : Nat) : OwnP w B (.slice none 0 0) [] := World.ownsRow_nil _ _ _ _
theorem ptrs_snoc {w : World} {B n : Nat} {v : Value} {bs : List Nat} {b : Nat} (hn : bs.length = n) (h : w.ownsRow B 137 1 v (n + 1) ((bs.map ptrV) ++ [ptrV b])) : OwnP w B v (bs ++ [b]) := by
  unfold OwnP
  rw [List.length_append, hn, List.map_append, List.map_cons, List.map_nil]
  exact h
/-- a slice of pointers, to be read -/
def PtrsO (w : World) (A : Option Addr) (bs : List Nat) : Prop := ∀ (j b : Nat), bs[j]? = some b → ∃ g : Nat, A = some ⟨g, 0, none⟩ ∧ (∃ cs, Blk w g 137 cs) ∧ w.cell? ⟨g, j, none⟩ = some (ptrV b)
theorem OwnP.form {w : World} {B : Nat} {v : Value} {bs : List Nat} (h : OwnP w B v bs) : ∃ A cap, v = .slice A bs.length cap ∧ bs.length ≤ cap ∧ cap ≤ 9223372036854775807 ∧ PtrsO w A bs := by
  obtain ⟨h1, h2⟩ := h
  rcases h2 with ⟨rfl, h0⟩ | ⟨g, cap, cur, rfl, hg, hb, hn, hc, hs, ht⟩
  · obtain rfl : bs = [] := List.length_eq_zero_iff.1 h0
    exact ⟨none, 0, rfl, by simp, by omega, fun j p hj => by simp at hj⟩
  · have hb' : Blk w g 137 cur := hb
    refine ⟨_, cap, rfl, hn, by unfold maxLen at hc; omega, fun j p hj => ⟨g, rfl, ⟨_, hb'⟩, ?_⟩⟩
    rw [hb'.cell]
    have h3 : (bs.map ptrV)[j]? = some (ptrV p) := by simp [hj]
    rw [← ht, List.getElem?_take] at h3
    split at h3
    · simpa using h3
    · cases h3
theorem PtrsO.keep {w w' : World} {A : Option Addr} {bs : List Nat} (h : PtrsO w A bs) (hb : Below w.heap.size w w') : PtrsO w' A bs := fun j p hj => by
  obtain ⟨g, h1, ⟨cs, h2⟩, h3⟩ := h j p hj
  exact ⟨g, h1, ⟨cs, _root_.Go.Proofs.YthpioplpfmlgcaaGreatDoor.keep hb h2⟩, (hb.cell (p := ⟨g, j, none⟩) h2.lt).trans h3⟩
theorem PtrsO.set_ {w : World} {A : Option Addr} {bs : List Nat} (h : PtrsO w A bs) {p : Addr} {t : TypeId} {cs : Array Value} (hp : Blk w p.block t cs) (ht : t ≠ 137) (u : Value) : PtrsO (w.setCell p u) A bs := fun j b hj => by
  obtain ⟨g, h1, ⟨cs', h2⟩, h3⟩ := h j b hj
  have hne : g ≠ p.block := fun e => by rw [e] at h2; exact ht (blk_type hp h2)
  exact ⟨g, h1, ⟨cs', h2.far hne u⟩, (World.cell?_setCell_other w p ⟨g, j, none⟩ u (fun e => hne (by rw [e]))).trans h3⟩
theorem Shs.set_ {rs : List Rul} {w : World} {bs : List Nat} {xs : List Rd} (h : Shs rs w bs xs) {p : Addr} {t : TypeId} {cs : Array Value} (hp : Blk w p.block t cs) (ht : t ≠ 176) (u : Value) : Shs rs (w.setCell p u) bs xs :=
  h.map fun g cs' hb => hb.far (fun e => by rw [e] at hb; exact ht (blk_type hp hb)) u
theorem IntsO.set_ {w : World} {A : Option Addr} {xs : List Int} (h : IntsO w A xs) {p : Addr} {t : TypeId} {cs : Array Value} (hp : Blk w p.block t cs) (ht : t ≠ 3) (u : Value) : IntsO (w.setCell p u) A xs := fun j b hj => by
  obtain ⟨g, h1, ⟨cs', h2⟩, h3⟩ := h j b hj
  have hne : g ≠ p.block := fun e => by rw [e] at h2; exact ht (blk_type hp h2)
  exact ⟨g, h1, ⟨cs', h2.far hne u⟩, (World.cell?_setCell_other w p ⟨g, j, none⟩ u (fun e => hne (by rw [e]))).trans h3⟩
/-- where the finder's parts lie -/
structure Fin where
  R : Option Addr
  cR : Nat
  T : Option Addr
  cT : Nat
  I : Option Addr
  cI : Nat
  P : Option Addr
  cP : Nat
  Q : Option Addr
  cQ : Nat
abbrev Fin.c (F : Fin) (n m : Nat) (jx : Int) : Array Value := #[.slice F.R n F.cR, .slice F.T m F.cT, .slice F.I m F.cI, .slice F.P m F.cP, .slice F.Q m F.cQ, .int .i64 jx]
def findsL (rs : List Rul) (ts : List ByteArray) (kind : Int) : List Int := ts.map fun t => findI rs kind t.toList
theorem finds_len {rs : List Rul} {ts : List ByteArray} {kind : Int} : (findsL rs ts kind).length = ts.length := by unfold findsL; simp
theorem finds_at {rs : List Rul} {ts : List ByteArray} {kind : Int} {k : Nat} (hk : k < ts.length) : (findsL rs ts kind)[k]? = some (findI rs kind (tokL ts k)) := by
  unfold findsL tokL
  rw [List.getElem?_map, List.getD_eq_getElem?_getD, List.getElem?_eq_getElem hk]
  rfl
structure FinAt (w : World) (F : Fin) (rs : List Rul) (ts : List ByteArray) : Prop where
  rules : RulsAt w F.R rs
  toks : ToksAt w F.T ts
  inf : IntsO w F.I (findsL rs ts 1)
  pre : IntsO w F.P (findsL rs ts 2)
  post : IntsO w F.Q (findsL rs ts 3)
theorem FinAt.keep {w w' : World} {F : Fin} {rs : List Rul} {ts : List ByteArray} (h : FinAt w F rs ts) (hb : Below w.heap.size w w') : FinAt w' F rs ts := ⟨h.rules.keep hb, h.toks.keep hb, h.inf.keep hb, h.pre.keep hb, h.post.keep hb⟩
theorem FinAt.drew {w : World} {F : Fin} {rs : List Rul} {ts : List ByteArray} (h : FinAt w F rs ts) : FinAt w.drew F rs ts := ⟨h.rules, h.toks, h.inf, h.pre, h.post⟩
theorem IntsO.num {w : World} {A : Option Addr} {xs : List Int} (h : IntsO w A xs) {k : Nat} {x : Int} (hx : xs[k]? = some x) : ∃ g : Nat, A = some ⟨g, 0, none⟩ ∧ w.cell? ⟨g, k, none⟩ = some (.int .i64 x) := by
  obtain ⟨g, h1, _, h2⟩ := h k x hx
  exact ⟨g, h1, h2⟩
end Go.Proofs.YthpioplpfmlgcaaGreatDoor.Ch
