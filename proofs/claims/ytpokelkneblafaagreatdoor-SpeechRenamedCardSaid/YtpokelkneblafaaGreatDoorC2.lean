/- A region that draws its order, with values known beforehand and a world that turns in stages: the invariant is told which of some operations are done; for every program. -/
import Derived.Test.YtpokelkneblafaaGreatDoorC1
namespace Go.Proofs.YtpokelkneblafaaGreatDoor
section
variable {P : Program} {ops : Array Oper} {Q : Exit → Act → World → Prop}
/-- one obligation for each operation: what is listed before it is done, what waits for it is not -/
def EachS (P : Program) (F : Act) (ops : Array Oper) (tr : List Nat) (Inv : List Bool → World → Prop) : Nat → List Oper → List Value → List Bool → Prop
  | i, o :: os, v :: vs, true :: bs => (∀ (L : Nat → Bool) (w : World), L i = false → (∀ j, reach ops j ops.size i = true → L j = true) → (∀ j, reach ops i ops.size j = true → L j = false) → Inv (tr.map L) w → Gives P (execOp F.eval o) w fun u w' => u = v ∧ Inv (tr.map fun j => j == i || L j) w') ∧ EachS P F ops tr Inv (i + 1) os vs bs
  | i, _ :: os, v :: vs, false :: bs => (v = undef ∧ ∀ (L : Nat → Bool) (w : World), Inv (tr.map L) w → Inv (tr.map fun j => j == i || L j) w) ∧ EachS P F ops tr Inv (i + 1) os vs bs
  | _, [], [], [] => True
  | _, _, _, _ => False
theorem EachS.at_ {F : Act} {tr : List Nat} {Inv : List Bool → World → Prop} : ∀ {n : Nat} {os : List Oper} {vs : List Value} {bs : List Bool}, EachS P F ops tr Inv n os vs bs → ∀ {i : Nat} {o : Oper}, os[i]? = some o → ∃ b, bs[i]? = some b ∧
    if b = true then (∀ (L : Nat → Bool) (w : World), L (n + i) = false → (∀ j, reach ops j ops.size (n + i) = true → L j = true) → (∀ j, reach ops (n + i) ops.size j = true → L j = false) → Inv (tr.map L) w → Gives P (execOp F.eval o) w fun u w' => u = vs.getD i undef ∧ Inv (tr.map fun j => j == (n + i) || L j) w')
    else vs.getD i undef = undef ∧ ∀ (L : Nat → Bool) (w : World), Inv (tr.map L) w → Inv (tr.map fun j => j == (n + i) || L j) w
  | n, [], [], [], _, i, o, h => by simp at h
  | n, o :: os, v :: vs, true :: bs, ⟨h1, h2⟩, 0, o', h => by
    obtain rfl : o = o' := by simpa using h
    exact ⟨true, rfl, by rw [if_pos rfl]; exact h1⟩
  | n, o :: os, v :: vs, false :: bs, ⟨h1, h2⟩, 0, o', h => ⟨false, rfl, by rw [if_neg (by simp)]; exact h1⟩
  | n, o :: os, v :: vs, true :: bs, ⟨h1, h2⟩, i + 1, o', h => by
    obtain ⟨b, hb, hh⟩ := EachS.at_ h2 (i := i) (o := o') (by simpa using h)
    rw [show n + 1 + i = n + (i + 1) by omega] at hh
    exact ⟨b, by simpa using hb, by simpa using hh⟩
  | n, o :: os, v :: vs, false :: bs, ⟨h1, h2⟩, i + 1, o', h => by
    obtain ⟨b, hb, hh⟩ := EachS.at_ h2 (i := i) (o := o') (by simpa using h)
    rw [show n + 1 + i = n + (i + 1) by omega] at hh
    exact ⟨b, by simpa using hb, by simpa using hh⟩
  | _, [], [], _ :: _, h, _, _, _ => h.elim
  | _, [], _ :: _, _, h, _, _, _ => h.elim
  | _, _ :: _, [], _, h, _, _, _ => h.elim
  | _, _ :: _, _ :: _, [], h, _, _, _ => h.elim
theorem or_swap (tr : List Nat) (L : Nat → Bool) (i : Nat) : (tr.map fun j => L j || j == i) = tr.map fun j => j == i || L j := by
  congr 1; funext j; rw [Bool.or_comm]
theorem reach_some {ops : Array Oper} {j : Nat} : ∀ {fuel i : Nat}, reach ops j fuel i = true → ∃ o, ops[i]? = some o
  | 0, _, h => by cases h
  | fuel + 1, i, h => by
    rw [reach] at h
    cases ho : ops[i]? with
    | none => rw [ho] at h; cases h
    | some o => exact ⟨o, rfl⟩
/-- THE LAW -/
theorem region_stage {id : Nat} {a0 : Act} {w0 : World} (hm : P.follows .mixedOrders = true) (F : Act) (vs : List Value) (bs : List Bool) (tr : List Nat) (Inv : List Bool → World → Prop) (hok : confOk ops = true) (hF : fin ops (fun i => vs.getD i undef) a0 = F)
    (hw : ((List.range ops.size).map fun i => ((ops[i]?).map fun o => Region.wanted o (yielded ops F.tmps)).getD true) = bs) (htr : (tr.all fun i => decide (i < ops.size)) = true) (h0 : Inv (tr.map fun _ => false) w0.drew) (hE : EachS P F ops tr Inv 0 ops.toList vs bs) (hend : ∀ w : World, Inv (tr.map fun _ => true) w → Q .normal F w) : (Code.region id ops true).wp P Q a0 w0 := by
  subst hF
  refine wp_region_any hm ?_
  refine wpAny_conf (vals := fun i => vs.getD i undef) (a0 := a0) (Inv := fun L w => Closed ops L ∧ Inv (tr.map L) w) hok (fun i o L w ho hLi hb hI => ?_) (fun L w hL hI => ?_) ops.size (Array.replicate ops.size false) a0 _ (by simp) (by
    refine Nat.le_trans (List.countP_le_length) ?_
    simp) ⟨rfl, rfl, fun i t _ h => ?_, fun _ _ => rfl⟩ ⟨fun i o _ h => ?_, ?_⟩
  · obtain ⟨hc, hI⟩ := hI
    have hi : i < ops.size := (Array.getElem?_eq_some_iff.1 ho).1
    obtain ⟨b, hb2, hh⟩ := hE.at_ (i := i) (o := o) (by rw [Array.getElem?_toList]; exact ho)
    rw [Nat.zero_add] at hh
    rw [← hw, List.getElem?_map, List.getElem?_range hi] at hb2
    simp only [Option.map_some, ho, Option.getD_some, Option.some.injEq] at hb2
    have hca := closed_add hc ho hb
    rw [hb2]
    split
    · rename_i hbt
      rw [if_pos hbt] at hh
      have hg := hh L w hLi (fun j hj => reach_listed hc ho hb hj) (fun j hj => by
        cases hLj : L j with
        | false => rfl
        | true =>
          obtain ⟨oj, hoj⟩ := reach_some hj
          have := reach_listed hc hoj (hc j oj hoj hLj) hj
          rw [hLi] at this; cases this) hI
      unfold Gives at hg ⊢
      revert hg
      generalize (execOp (fin ops (fun i => vs.getD i undef) a0).eval o).run P w = x
      cases x with
      | halt e w' => exact fun h => h
      | ok n w' =>
        cases n with
        | value v => exact fun h => ⟨h.1, hca, by rw [or_swap]; exact h.2⟩
        | skip => exact fun h => ⟨h.1, hca, by rw [or_swap]; exact h.2⟩
        | enter f args => exact fun h => Calls.mono h fun e w'' ⟨v, h1, h2, h3⟩ => ⟨v, h1, h2, hca, by rw [or_swap]; exact h3⟩
        | _ => exact fun h => h
    · rename_i hbt
      rw [if_neg hbt] at hh
      exact ⟨hh.1, hca, by rw [or_swap]; exact hh.2 L w hI⟩
  · have e : tr.map L = tr.map fun _ => true := List.map_congr_left fun i hi => by
      have := List.all_eq_true.1 htr i hi
      exact hL i (by simpa using this)
    rw [← e] at hend
    exact hend w hI.2
  · rw [Array.getD_eq_getD_getElem?, Array.getElem?_replicate] at h
    split at h <;> simp at h
  · dsimp only at h
    rw [Array.getD_eq_getD_getElem?, Array.getElem?_replicate] at h
    split at h <;> simp at h
  · have e : (fun j => (Array.replicate ops.size false).getD j false) = fun _ => false := by
      funext j
      rw [Array.getD_eq_getD_getElem?, Array.getElem?_replicate]
      split <;> rfl
    rw [e]
    exact h0
end
end Go.Proofs.YtpokelkneblafaaGreatDoor
