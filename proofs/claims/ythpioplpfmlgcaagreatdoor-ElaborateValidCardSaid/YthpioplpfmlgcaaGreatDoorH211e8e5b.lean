/- region_ghost where some operations read a slot that a later operation of the region assigns: these are evaluated in the frame ahead of the region. -/
import Derived.Test.YthpioplpfmlgcaaGreatDoorHde6136ad
namespace Go.Proofs.YthpioplpfmlgcaaGreatDoor
section
variable {P : Program} {ops : Array Oper} {Q : Exit → Act → World → Prop} {X : Type}
@[reducible] def evAct (es : List Bool) (a0 F : Act) (i : Nat) : Act := if es.getD i false = true then a0 else F
def earlyOk (ops : Array Oper) (i : Nat) (o : Oper) : Bool :=
  o.guard.isNone &&
  (o.op.operands.all fun | .tmp t => (List.range ops.size).all fun j => dstAt ops j != some t || ((ops[j]?).map fun oj => bound oj i).getD true
                         | _ => true)
def opE (ops : Array Oper) (es : List Bool) (i : Nat) (o : Oper) : Bool := if es.getD i false = true then earlyOk ops i o else operOk ops o
def confE (ops : Array Oper) (es : List Bool) : Bool := Region.noSelect ops && dstsOk ops && ((List.range ops.size).all fun i => match ops[i]? with
  | some o => opE ops es i o
  | none => true) && (List.range ops.size).all fun i => match ops[i]? with
  | some o => o.after.all fun e => !Region.binds .any e || decide (e.on < i)
  | none => true
theorem OnWay.early {vals : Nat → Value} {a0 F : Act} {L : Nat → Bool} {a : Act} (h : OnWay ops vals a0 L a) {i : Nat} {o : Oper} (ho : earlyOk ops i o = true) (hL : ∀ j oj, ops[j]? = some oj → bound oj i = true → L j = false) :
    (∀ x ∈ o.op.operands, a.eval x = a0.eval x) ∧ Region.wanted o (yielded ops a.tmps) = Region.wanted o (yielded ops F.tmps) := by
  unfold earlyOk at ho
  rw [Bool.and_eq_true] at ho
  obtain ⟨h1, h2⟩ := ho
  refine ⟨fun x hx => ?_, ?_⟩
  · cases x with
    | tmp t =>
      have hx' := Array.all_eq_true'.1 h2 _ hx
      have e : a.tmps[t]? = a0.tmps[t]? := h.rest t fun j hj hd => by
        have := List.all_eq_true.1 hx' j (List.mem_range.2 (dstAt_lt hd))
        rw [hd, Array.getElem?_eq_getElem (dstAt_lt hd)] at this
        have hb : bound (ops[j]'(dstAt_lt hd)) i = true := by simpa using this
        have := hL j _ (Array.getElem?_eq_getElem (dstAt_lt hd)) hb
        rw [hj] at this
        cases this
      simp only [Act.eval, Array.getD_eq_getD_getElem?, e]
    | _ => rfl
  · unfold Region.wanted
    cases hg : o.guard with
    | none => rfl
    | some gw => rw [hg] at h1; cases h1
/-- one obligation for each operation: what is listed before it is done, what waits for it is not -/
def EachE (P : Program) (F : Nat → X → Act) (ops : Array Oper) (tr : List Nat) (vs : X → List Value) (Inv : List Bool → X → World → Prop) : Nat → List Oper → List Bool → Prop
  | i, o :: os, true :: bs => (∀ (L : Nat → Bool) (x : X) (w : World), L i = false → (∀ j, reach ops j ops.size i = true → L j = true) → (∀ j, reach ops i ops.size j = true → L j = false) → Inv (tr.map L) x w → Gives P (execOp (F i x).eval o) w fun u w' => ∃ x', u = (vs x').getD i undef ∧ KeepsV ops i (vs x) (vs x') ∧ Inv (tr.map fun j => j == i || L j) x' w') ∧ EachE P F ops tr vs Inv (i + 1) os bs
  | i, _ :: os, false :: bs => ((∀ x, (vs x).getD i undef = undef) ∧ ∀ (L : Nat → Bool) (x : X) (w : World), Inv (tr.map L) x w → Inv (tr.map fun j => j == i || L j) x w) ∧ EachE P F ops tr vs Inv (i + 1) os bs
  | _, [], [] => True
  | _, _, _ => False
theorem EachE.at_ {F : Nat → X → Act} {tr : List Nat} {vs : X → List Value} {Inv : List Bool → X → World → Prop} : ∀ {n : Nat} {os : List Oper} {bs : List Bool}, EachE P F ops tr vs Inv n os bs → ∀ {i : Nat} {o : Oper}, os[i]? = some o → ∃ b, bs[i]? = some b ∧
    if b = true then (∀ (L : Nat → Bool) (x : X) (w : World), L (n + i) = false → (∀ j, reach ops j ops.size (n + i) = true → L j = true) → (∀ j, reach ops (n + i) ops.size j = true → L j = false) → Inv (tr.map L) x w → Gives P (execOp (F (n + i) x).eval o) w fun u w' => ∃ x', u = (vs x').getD (n + i) undef ∧ KeepsV ops (n + i) (vs x) (vs x') ∧ Inv (tr.map fun j => j == (n + i) || L j) x' w')
    else (∀ x, (vs x).getD (n + i) undef = undef) ∧ ∀ (L : Nat → Bool) (x : X) (w : World), Inv (tr.map L) x w → Inv (tr.map fun j => j == (n + i) || L j) x w
  | n, [], [], _, i, o, h => by simp at h
  | n, o :: os, true :: bs, ⟨h1, h2⟩, 0, o', h => by
    obtain rfl : o = o' := by simpa using h
    exact ⟨true, rfl, by rw [if_pos rfl]; exact h1⟩
  | n, o :: os, false :: bs, ⟨h1, h2⟩, 0, o', h => ⟨false, rfl, by rw [if_neg (by simp)]; exact h1⟩
  | n, o :: os, true :: bs, ⟨h1, h2⟩, i + 1, o', h => by
    obtain ⟨b, hb, hh⟩ := EachE.at_ h2 (i := i) (o := o') (by simpa using h)
    rw [show n + 1 + i = n + (i + 1) by omega] at hh
    exact ⟨b, by simpa using hb, hh⟩
  | n, o :: os, false :: bs, ⟨h1, h2⟩, i + 1, o', h => by
    obtain ⟨b, hb, hh⟩ := EachE.at_ h2 (i := i) (o := o') (by simpa using h)
    rw [show n + 1 + i = n + (i + 1) by omega] at hh
    exact ⟨b, by simpa using hb, hh⟩
  | _, [], _ :: _, h, _, _, _ => h.elim
  | _, _ :: _, [], h, _, _, _ => h.elim
end
end Go.Proofs.YthpioplpfmlgcaaGreatDoor
