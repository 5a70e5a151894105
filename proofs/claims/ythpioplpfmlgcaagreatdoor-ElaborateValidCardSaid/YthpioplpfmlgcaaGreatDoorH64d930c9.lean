/- A region that draws its order, where each operation comes to one value whatever the order: one obligation for each operation, none for the orders; for every program · Valid, of the program and of the reference: whether rules are valid · A region that draws its order and ends in a tail that waits for all else: values known beforehand for all operations but those of the tail; for every program -/
import Derived.Orders
import Derived.Below
import Derived.Test.YthpioplpfmlgcaaGreatDoorH1ab7d786
import Derived.Deep.QuietTactic
import Derived.BigQuiet
import Derived.Deep.RegionWith
import Derived.Deep.RegionHeld3
import Derived.Deep.DeepCutAuto
import Derived.DataElems
namespace Go.Proofs.YthpioplpfmlgcaaGreatDoor
/-- what an operation comes to: a value and a world -/
def Gives (P : Program) (s : Sem Next) (w : World) (R : Value → World → Prop) : Prop :=
  match s.run P w with
  | .ok (.value v) w' => R v w'
  | .ok .skip w' => R undef w'
  | .ok (.enter f args) w' => Calls P f args w' fun e w'' => ∃ v, e = .returned v ∧ R v w''
  | _ => False
theorem Gives.wp {P : Program} {o : Oper} {a : Act} {w : World} {R : Value → World → Prop} {K : Act → World → Prop} {Q : Exit → Act → World → Prop} (h : Gives P (execOp a.eval o) w R) (hK : ∀ v w', R v w' → K (a.put o.dst v) w') : o.wp P a w K Q := by
  unfold Oper.wp
  unfold Gives at h
  generalize (execOp a.eval o).run P w = x at h
  cases x with
  | halt e w' => exact h.elim
  | ok n w' =>
    cases n with
    | value v => exact hK _ _ h
    | skip => exact hK _ _ h
    | enter f args =>
      refine Calls.mono h fun e w'' he => ?_
      obtain ⟨v, rfl, hr⟩ := he
      exact hK _ _ hr
    | _ => exact h.elim
theorem Gives.value {P : Program} {s : Sem Next} {w w' : World} {v : Value} {R : Value → World → Prop} (h : s.run P w = .ok (.value v) w') (hR : R v w') : Gives P s w R := by unfold Gives; rw [h]; exact hR
theorem Gives.skip {P : Program} {s : Sem Next} {w w' : World} {R : Value → World → Prop} (h : s.run P w = .ok .skip w') (hR : R undef w') : Gives P s w R := by unfold Gives; rw [h]; exact hR
theorem Gives.call {P : Program} {s : Sem Next} {w w' : World} {f : FuncId} {args : Array Value} {R : Value → World → Prop} (h : s.run P w = .ok (.enter f args) w') (hR : Calls P f args w' fun e w'' => ∃ v, e = .returned v ∧ R v w'') : Gives P s w R := by unfold Gives; rw [h]; exact hR
section
variable {P : Program} {ops : Array Oper} {Q : Exit → Act → World → Prop}
def dstAt (ops : Array Oper) (i : Nat) : Option Tmp := (ops[i]?).bind (·.dst)
/-- the frame behind the region -/
def finOn (ops : Array Oper) (vals : Nat → Value) (a : Act) (l : List Nat) : Act := l.foldl (fun a i => a.put (dstAt ops i) (vals i)) a
def fin (ops : Array Oper) (vals : Nat → Value) (a : Act) : Act := finOn ops vals a (List.range ops.size)
def dstsOk (ops : Array Oper) : Bool := (List.range ops.size).all fun i => (List.range ops.size).all fun j => i == j || dstAt ops i != dstAt ops j || (dstAt ops i).isNone
def bound (o : Oper) (j : Nat) : Bool := o.after.any fun e => e.on == j && Region.binds .any e
def operOk (ops : Array Oper) (o : Oper) : Bool :=
  (o.op.operands.all fun | .tmp t => (List.range ops.size).all fun j => dstAt ops j != some t || bound o j
                         | _ => true) &&
  (match o.guard with | none => true | some (g, _) => bound o g)
def confOk (ops : Array Oper) : Bool := Region.noSelect ops && dstsOk ops && (ops.all (operOk ops)) && (List.range ops.size).all fun i => match ops[i]? with
  | some o => o.after.all fun e => !Region.binds .any e || decide (e.on < i)
  | none => true
theorem put_tmp (a : Act) (d : Option Tmp) (v : Value) (t : Nat) : (a.put d v).tmps[t]? = if d = some t ∧ t < a.tmps.size then some v else a.tmps[t]? := by
  cases d with
  | none => simp [Act.put]
  | some d =>
    simp only [Act.put, Array.getElem?_setIfInBounds, Option.some.injEq]
    by_cases h : d = t
    · subst h
      by_cases h2 : d < a.tmps.size
      · simp [h2]
      · simp [h2]
    · simp [h]
theorem put_size (a : Act) (d : Option Tmp) (v : Value) : (a.put d v).tmps.size = a.tmps.size := by cases d <;> simp [Act.put]
theorem put_defers (a : Act) (d : Option Tmp) (v : Value) : (a.put d v).defers = a.defers := by cases d <;> simp [Act.put]
theorem finOn_frame (vals : Nat → Value) : ∀ (l : List Nat) (a : Act), (finOn ops vals a l).tmps.size = a.tmps.size ∧ (finOn ops vals a l).defers = a.defers
  | [], a => ⟨rfl, rfl⟩
  | i :: l, a => by
    obtain ⟨h1, h2⟩ := finOn_frame vals l (a.put (dstAt ops i) (vals i))
    exact ⟨h1.trans (put_size _ _ _), h2.trans (put_defers _ _ _)⟩
theorem finOn_other (vals : Nat → Value) (t : Nat) : ∀ (l : List Nat) (a : Act), (∀ i ∈ l, dstAt ops i ≠ some t) → (finOn ops vals a l).tmps[t]? = a.tmps[t]?
  | [], _, _ => rfl
  | i :: l, a, h => by
    have := finOn_other vals t l (a.put (dstAt ops i) (vals i)) (fun j hj => h j (List.mem_cons_of_mem _ hj))
    rw [show finOn ops vals a (i :: l) = finOn ops vals (a.put (dstAt ops i) (vals i)) l from rfl, this, put_tmp, if_neg (fun hc => h i List.mem_cons_self hc.1)]
theorem finOn_at (vals : Nat → Value) (hd : dstsOk ops = true) (t i : Nat) (hi : dstAt ops i = some t) : ∀ (l : List Nat) (a : Act), i ∈ l → (∀ j ∈ l, j < ops.size) → t < a.tmps.size → (finOn ops vals a l).tmps[t]? = some (vals i)
  | [], _, h, _, _ => by cases h
  | j :: l, a, h, hl, ht => by
    rw [show finOn ops vals a (j :: l) = finOn ops vals (a.put (dstAt ops j) (vals j)) l from rfl]
    by_cases hm : i ∈ l
    · exact finOn_at vals hd t i hi l _ hm (fun k hk => hl k (List.mem_cons_of_mem _ hk)) (by rw [put_size]; exact ht)
    · obtain rfl : i = j := by simpa [hm] using h
      rw [finOn_other vals t l _ ?_, put_tmp, if_pos ⟨hi, ht⟩]
      intro k hk hkt
      have h1 := List.all_eq_true.1 hd i (List.mem_range.2 (hl i List.mem_cons_self))
      have h2 := List.all_eq_true.1 h1 k (List.mem_range.2 (hl k (List.mem_cons_of_mem _ hk)))
      rw [hi, hkt] at h2
      simp at h2
      subst h2
      exact hm hk
theorem dstAt_lt {i t : Nat} (h : dstAt ops i = some t) : i < ops.size := by
  rcases Nat.lt_or_ge i ops.size with h' | h'
  · exact h'
  · unfold dstAt at h; rw [Array.getElem?_eq_none h'] at h; cases h
/-- frames on the way: what the operations done so far have laid, the rest as at the start -/
structure OnWay (ops : Array Oper) (vals : Nat → Value) (a0 : Act) (L : Nat → Bool) (a : Act) : Prop where
  size : a.tmps.size = a0.tmps.size
  defers : a.defers = a0.defers
  done : ∀ i t, dstAt ops i = some t → L i = true → a.tmps[t]? = (fin ops vals a0).tmps[t]?
  rest : ∀ t, (∀ i, L i = true → dstAt ops i ≠ some t) → a.tmps[t]? = a0.tmps[t]?
theorem fin_at {vals : Nat → Value} {a0 : Act} (hd : dstsOk ops = true) {i t : Nat} (h : dstAt ops i = some t) (ht : t < a0.tmps.size) : (fin ops vals a0).tmps[t]? = some (vals i) :=
  finOn_at vals hd t i h _ a0 (List.mem_range.2 (dstAt_lt h)) (fun _ hj => List.mem_range.1 hj) ht
theorem OnWay.put {vals : Nat → Value} {a0 : Act} {L : Nat → Bool} {a : Act} (hd : dstsOk ops = true) (h : OnWay ops vals a0 L a) (i : Nat) (hi : i < ops.size) (hL : L i = false) : OnWay ops vals a0 (fun j => L j || j == i) (a.put (dstAt ops i) (vals i)) := by
  obtain ⟨h1, h2, h3, h4⟩ := h
  refine ⟨(put_size _ _ _).trans h1, (put_defers _ _ _).trans h2, fun j t hj hjL => ?_, fun t ht => ?_⟩
  · rw [put_tmp]
    by_cases hc : dstAt ops i = some t ∧ t < a.tmps.size
    · rw [if_pos hc, fin_at hd hc.1 (by have := hc.2; rwa [h1] at this)]
    · rw [if_neg hc]
      by_cases hij : j = i
      · subst hij
        have hlt : ¬ t < a.tmps.size := fun hl => hc ⟨hj, hl⟩
        rw [Array.getElem?_eq_none (Nat.le_of_not_lt hlt)]
        exact (Array.getElem?_eq_none (show (finOn ops vals a0 (List.range ops.size)).tmps.size ≤ t by rw [(finOn_frame vals _ a0).1, ← h1]; exact Nat.le_of_not_lt hlt)).symm
      · exact h3 j t hj (by simpa [hij] using hjL)
  · rw [put_tmp, if_neg (fun hc => ht i (by simp) hc.1)]
    exact h4 t fun j hj => ht j (by simp [hj])
theorem OnWay.end {vals : Nat → Value} {a0 : Act} {L : Nat → Bool} {a : Act} (h : OnWay ops vals a0 L a) (hall : ∀ i, i < ops.size → L i = true) : a = fin ops vals a0 := by
  obtain ⟨h1, h2, h3, h4⟩ := h
  have ht : a.tmps = (fin ops vals a0).tmps := by
    refine Array.ext_getElem? fun t => ?_
    by_cases hc : ∃ i, dstAt ops i = some t
    · obtain ⟨i, hi⟩ := hc
      exact h3 i t hi (hall i (dstAt_lt hi))
    · rw [h4 t fun i _ hi => hc ⟨i, hi⟩]
      exact (finOn_other vals t _ a0 fun i _ hi => hc ⟨i, hi⟩).symm
  cases a with
  | mk tm de =>
    have e2 : de = (fin ops vals a0).defers := h2.trans (finOn_frame vals _ a0).2.symm
    cases hf : fin ops vals a0 with
    | mk tm' de' => rw [hf] at ht e2; simp only at ht e2; rw [ht, e2]
theorem bound_listed {o : Oper} {j : Nat} {L : Nat → Bool} (hb : bound o j = true) (hL : ∀ e ∈ o.after, Region.binds .any e = true → L e.on = true) : L j = true := by
  unfold bound at hb
  obtain ⟨e, he, h⟩ := Array.any_eq_true'.1 hb
  simp only [Bool.and_eq_true, beq_iff_eq] at h
  rw [← h.1]
  exact hL e he h.2
theorem OnWay.eval {vals : Nat → Value} {a0 : Act} {L : Nat → Bool} {a : Act} (h : OnWay ops vals a0 L a) {o : Oper} (ho : operOk ops o = true) (hL : ∀ e ∈ o.after, Region.binds .any e = true → L e.on = true) :
    (∀ x ∈ o.op.operands, a.eval x = (fin ops vals a0).eval x) ∧ Region.wanted o (yielded ops a.tmps) = Region.wanted o (yielded ops (fin ops vals a0).tmps) := by
  unfold operOk at ho
  rw [Bool.and_eq_true] at ho
  obtain ⟨h1, h2⟩ := ho
  refine ⟨fun x hx => ?_, ?_⟩
  · cases x with
    | tmp t =>
      have hx' := Array.all_eq_true'.1 h1 _ hx
      have e : a.tmps[t]? = (fin ops vals a0).tmps[t]? := by
        by_cases hc : ∃ i, dstAt ops i = some t
        · obtain ⟨i, hi⟩ := hc
          have := List.all_eq_true.1 hx' i (List.mem_range.2 (dstAt_lt hi))
          rw [hi] at this
          exact h.done i t hi (bound_listed (by simpa using this) hL)
        · rw [h.rest t fun i _ hi => hc ⟨i, hi⟩]
          exact (finOn_other vals t _ a0 fun i _ hi => hc ⟨i, hi⟩).symm
      simp only [Act.eval, Array.getD_eq_getD_getElem?, e]
    | _ => rfl
  · unfold Region.wanted
    cases hg : o.guard with
    | none => rfl
    | some gw =>
      obtain ⟨g, want⟩ := gw
      rw [hg] at h2
      have hLg := bound_listed h2 hL
      have : yielded ops a.tmps g = yielded ops (fin ops vals a0).tmps g := by
        unfold yielded
        cases hd : (ops[g]?).bind (·.dst) with
        | none => rfl
        | some t => simp only [Option.bind_some, h.done g t hd hLg]
      simp only [this]
theorem count_set : ∀ (l : List Bool) (i : Nat), l[i]? = some false → l.countP (· == false) = (l.set i true).countP (· == false) + 1
  | [], i, h => by simp at h
  | b :: l, 0, h => by
    obtain rfl : b = false := by simpa using h
    simp
  | b :: l, i + 1, h => by
    have ih := count_set l i (by simpa using h)
    simp only [List.set_cons_succ, List.countP_cons]
    omega
theorem wpAny_conf {vals : Nat → Value} {a0 : Act} {Inv : (Nat → Bool) → World → Prop} (hok : confOk ops = true)
    (hstep : ∀ (i : Nat) (o : Oper) (L : Nat → Bool) (w : World), ops[i]? = some o → L i = false → (∀ e ∈ o.after, Region.binds .any e = true → L e.on = true) → Inv L w →
      if Region.wanted o (yielded ops (fin ops vals a0).tmps) = true then Gives P (execOp (fin ops vals a0).eval o) w (fun v w' => v = vals i ∧ Inv (fun j => L j || j == i) w') else vals i = undef ∧ Inv (fun j => L j || j == i) w)
    (hend : ∀ (L : Nat → Bool) (w : World), (∀ i, i < ops.size → L i = true) → Inv L w → Q .normal (fin ops vals a0) w) :
    ∀ (fuel : Nat) (listed : Array Bool) (a : Act) (w : World), listed.size = ops.size → (listed.toList.countP (· == false)) ≤ fuel → OnWay ops vals a0 (fun j => listed.getD j false) a → Inv (fun j => listed.getD j false) w → wpAny P .any ops Q fuel listed a w := by
  simp only [confOk, Bool.and_eq_true] at hok
  obtain ⟨⟨⟨hsel, hd⟩, hall⟩, hedge⟩ := hok
  have fini : ∀ (listed : Array Bool) (a : Act) (w : World), listed.size = ops.size → OnWay ops vals a0 (fun j => listed.getD j false) a → Inv (fun j => listed.getD j false) w → Region.ready .any ops listed = [] → Q .normal a w := by
    intro listed a w hs ho hI hr
    have hL : ∀ i, i < ops.size → listed.getD i false = true := by
      intro i
      induction i using Nat.strongRecOn with
      | _ i ih =>
        intro hi
        refine Classical.byContradiction fun hn => ?_
        have hm : i ∈ Region.ready .any ops listed := by
          rw [mem_ready]
          refine ⟨?_, ops[i], Array.getElem?_eq_getElem hi, fun e he hb => ?_⟩
          · have hil : i < listed.size := by omega
            simp only [Array.getD_eq_getD_getElem?, Array.getElem?_eq_getElem hil, Option.getD_some] at hn ⊢
            simpa using hn
          · have h1 := List.all_eq_true.1 hedge i (List.mem_range.2 hi)
            rw [Array.getElem?_eq_getElem hi] at h1
            have h2 := Array.all_eq_true'.1 h1 e he
            rw [hb] at h2
            have h3 : e.on < i := by simpa using h2
            exact ih e.on h3 (by omega)
        rw [hr] at hm
        cases hm
    rw [ho.end hL]
    exact hend _ w hL hI
  intro fuel
  induction fuel with
  | zero =>
    intro listed a w hs hc ho hI
    have hr : Region.ready .any ops listed = [] := by
      rw [List.eq_nil_iff_forall_not_mem]
      intro j hj
      rw [mem_ready] at hj
      obtain ⟨h0, o, hoj, _⟩ := hj
      have hjl : j < listed.size := by rw [hs]; exact (Array.getElem?_eq_some_iff.1 hoj).1
      have hf : listed[j] = false := by simpa [Array.getD_eq_getD_getElem?, Array.getElem?_eq_getElem hjl] using h0
      have : 0 < listed.toList.countP (· == false) := List.countP_pos_iff.2 ⟨false, by rw [← hf]; simp, rfl⟩
      omega
    exact ⟨hr, fini listed a w hs ho hI hr⟩
  | succ fuel ih =>
    intro listed a w hs hc ho hI
    refine ⟨fini listed a w hs ho hI, fun i hi => ?_⟩
    rw [mem_ready] at hi
    obtain ⟨h0, o, hoi, hb⟩ := hi
    have hil : i < ops.size := (Array.getElem?_eq_some_iff.1 hoi).1
    have hil' : i < listed.size := by omega
    have hf : listed[i] = false := by simpa [Array.getD_eq_getD_getElem?, Array.getElem?_eq_getElem hil'] using h0
    have hLi : listed.getD i false = false := by simp [Array.getD_eq_getD_getElem?, Array.getElem?_eq_getElem hil', hf]
    have hL' : (fun j => (listed.setIfInBounds i true).getD j false) = fun j => listed.getD j false || j == i := by
      funext j
      by_cases hij : j = i
      · subst hij; simp [Array.getD_eq_getD_getElem?, hil']
      · rw [getD_set_ne false (Ne.symm hij)]; simp [hij]
    have hcount : (listed.setIfInBounds i true).toList.countP (· == false) ≤ fuel := by
      rw [Array.toList_setIfInBounds]
      have hl : i < listed.toList.length := by simpa using hil'
      have hs1 : listed.toList.countP (· == false) = (listed.toList.set i true).countP (· == false) + 1 := by
        exact count_set _ _ (by rw [List.getElem?_eq_getElem hl]; simpa using hf)
      omega
    have hoOk : operOk ops o = true := by
      obtain ⟨_, hx⟩ := Array.getElem?_eq_some_iff.1 hoi
      exact Array.all_eq_true'.1 hall o (by rw [← hx]; exact Array.getElem_mem _)
    obtain ⟨hev, hwant⟩ := ho.eval hoOk hb
    have hexec : execOp a.eval o = execOp (fin ops vals a0).eval o := execOp_congr o (fun cs b => Region.noSelect_spec hsel i o cs b hoi) hev
    have hst := hstep i o _ w hoi hLi hb hI
    have hdst : o.dst = dstAt ops i := by unfold dstAt; rw [hoi]; rfl
    have next : ∀ w', Inv (fun j => listed.getD j false || j == i) w' → wpAny P .any ops Q fuel (listed.setIfInBounds i true) (a.put o.dst (vals i)) w' := by
      intro w' hI'
      refine ih _ _ w' (by simpa using hs) hcount ?_ (by rw [hL']; exact hI')
      rw [hL', hdst]
      exact ho.put hd i hil hLi
    unfold wpOp
    simp only [hoi]
    rw [hwant]
    by_cases hw : Region.wanted o (yielded ops (fin ops vals a0).tmps) = true
    · rw [if_pos hw] at hst ⊢
      refine .inl (Gives.wp (R := fun v w' => v = vals i ∧ Inv (fun j => listed.getD j false || j == i) w') (by rw [hexec]; exact hst) ?_)
      rintro v w' ⟨rfl, hI'⟩
      exact next w' hI'
    · rw [if_neg hw] at hst ⊢
      rw [← hst.1]
      exact next w hst.2
/-- THE LAW -/
theorem region_conf {id : Nat} {a0 : Act} {w0 : World} (hm : P.follows .mixedOrders = true) (vals : Nat → Value) (Inv : World → Prop) (hok : confOk ops = true) (h0 : Inv w0.drew)
    (hstep : ∀ (i : Nat) (o : Oper) (w : World), ops[i]? = some o → Inv w →
      if Region.wanted o (yielded ops (fin ops vals a0).tmps) = true then Gives P (execOp (fin ops vals a0).eval o) w (fun v w' => v = vals i ∧ Inv w') else vals i = undef ∧ Inv w)
    (hend : ∀ w : World, Inv w → Q .normal (fin ops vals a0) w) : (Code.region id ops true).wp P Q a0 w0 := by
  refine wp_region_any hm ?_
  refine wpAny_conf (vals := vals) (a0 := a0) (Inv := fun _ w => Inv w) hok (fun i o L w ho _ _ hI => hstep i o w ho hI) (fun _ w _ hI => hend w hI) ops.size (Array.replicate ops.size false) a0 _ (by simp) (by
    refine Nat.le_trans (List.countP_le_length) ?_
    simp) ⟨rfl, rfl, fun i t _ h => ?_, fun _ _ => rfl⟩ h0
  rw [Array.getD_eq_getD_getElem?, Array.getElem?_replicate] at h
  split at h <;> simp at h
/-- one obligation for each operation that is wanted -/
def Each (P : Program) (F : Act) (Inv : World → Prop) : List Oper → List Value → List Bool → Prop
  | o :: os, v :: vs, true :: bs => (∀ w, Inv w → Gives P (execOp F.eval o) w fun u w' => u = v ∧ Inv w') ∧ Each P F Inv os vs bs
  | _ :: os, v :: vs, false :: bs => v = undef ∧ Each P F Inv os vs bs
  | [], [], [] => True
  | _, _, _ => False
theorem Each.at_ {F : Act} {Inv : World → Prop} : ∀ {os : List Oper} {vs : List Value} {bs : List Bool}, Each P F Inv os vs bs → ∀ {i : Nat} {o : Oper}, os[i]? = some o → ∃ b, bs[i]? = some b ∧ ∀ w, Inv w → if b = true then Gives P (execOp F.eval o) w (fun u w' => u = vs.getD i undef ∧ Inv w') else vs.getD i undef = undef ∧ Inv w
  | [], [], [], _, i, o, h => by simp at h
  | o :: os, v :: vs, true :: bs, ⟨h1, h2⟩, 0, o', h => by
    obtain rfl : o = o' := by simpa using h
    exact ⟨true, rfl, fun w hI => by rw [if_pos rfl]; exact h1 w hI⟩
  | o :: os, v :: vs, false :: bs, ⟨h1, h2⟩, 0, o', h => ⟨false, rfl, fun w hI => by rw [if_neg (by simp)]; exact ⟨h1, hI⟩⟩
  | o :: os, v :: vs, true :: bs, ⟨h1, h2⟩, i + 1, o', h => by
    obtain ⟨b, hb, hh⟩ := Each.at_ h2 (i := i) (o := o') (by simpa using h)
    exact ⟨b, by simpa using hb, by simpa using hh⟩
  | o :: os, v :: vs, false :: bs, ⟨h1, h2⟩, i + 1, o', h => by
    obtain ⟨b, hb, hh⟩ := Each.at_ h2 (i := i) (o := o') (by simpa using h)
    exact ⟨b, by simpa using hb, by simpa using hh⟩
  | [], [], _ :: _, h, _, _, _ => h.elim
  | [], _ :: _, _, h, _, _, _ => h.elim
  | _ :: _, [], _, h, _, _, _ => h.elim
  | _ :: _, _ :: _, [], h, _, _, _ => h.elim
/-- THE LAW, one obligation after the other -/
theorem region_list {id : Nat} {a0 : Act} {w0 : World} (hm : P.follows .mixedOrders = true) (F : Act) (vs : List Value) (bs : List Bool) (Inv : World → Prop) (hok : confOk ops = true) (hF : fin ops (fun i => vs.getD i undef) a0 = F)
    (hw : ((List.range ops.size).map fun i => ((ops[i]?).map fun o => Region.wanted o (yielded ops F.tmps)).getD true) = bs) (h0 : Inv w0.drew) (hE : Each P F Inv ops.toList vs bs) (hend : ∀ w : World, Inv w → Q .normal F w) : (Code.region id ops true).wp P Q a0 w0 := by
  subst hF
  refine region_conf hm (fun i => vs.getD i undef) Inv hok h0 (fun i o w ho hI => ?_) hend
  have hi : i < ops.size := (Array.getElem?_eq_some_iff.1 ho).1
  obtain ⟨b, hb, hh⟩ := hE.at_ (i := i) (o := o) (by rw [Array.getElem?_toList]; exact ho)
  rw [← hw, List.getElem?_map, List.getElem?_range hi] at hb
  simp only [Option.map_some, ho, Option.getD_some, Option.some.injEq] at hb
  have := hh w hI
  rw [← hb] at this
  exact this
end
end Go.Proofs.YthpioplpfmlgcaaGreatDoor
namespace Go.Proofs.YthpioplpfmlgcaaGreatDoor
open Go.RowKit
/-- rules in a row -/
def RulsAt (w : World) (A : Option Addr) (rs : List Rul) : Prop := ∀ (k : Nat) (r : Rul), rs[k]? = some r → r.fits ∧ ∃ ad : Addr, A = some ad ∧ ad.block < w.heap.size ∧ ∀ (j : Nat) (v : Value), r.c[j]? = some v → w.cell? (ad.add (k * 6 + j)) = some v
theorem add_block (a : Addr) (n : Nat) : (a.add n).block = a.block := by unfold Addr.add; split <;> rfl
theorem RulsAt.keep {w w' : World} {A : Option Addr} {rs : List Rul} (h : RulsAt w A rs) (hb : Below w.heap.size w w') : RulsAt w' A rs := fun k r hk => by
  obtain ⟨hf, ad, hA, hlt, hc⟩ := h k r hk
  exact ⟨hf, ad, hA, Nat.lt_of_lt_of_le hlt hb.size, fun j v hj => (hb.cell (by rw [add_block]; exact hlt)).trans (hc j v hj)⟩
theorem RulsAt.drew {w : World} {A : Option Addr} {rs : List Rul} (h : RulsAt w A rs) : RulsAt w.drew A rs := h
theorem RulsAt.alloc {w : World} {A : Option Addr} {rs : List Rul} (h : RulsAt w A rs) (o : Obj) : RulsAt (w.alloc o) A rs := h.keep (bel_alloc w o)
theorem RulsAt.take {w : World} {A : Option Addr} {rs : List Rul} (h : RulsAt w A rs) (n : Nat) : RulsAt w A (rs.take n) := fun k r hk => h k r (by
  rw [List.getElem?_take] at hk
  split at hk
  · exact hk
  · cases hk)
theorem add_cell {w : World} {a : Addr} {n j : Nat} {v : Value} (h : w.cell? (a.add (n + (j + 1))) = some v) : w.cell? ⟨(a.add n).block, (a.add n).off + (j + 1), none⟩ = some v := by
  rw [← Addr.add_add] at h
  unfold Addr.add at h ⊢
  simpa using h
/-- the six cells of a rule, as a walk spells them -/
theorem RulsAt.at_ {w : World} {A : Option Addr} {rs : List Rul} (h : RulsAt w A rs) {k : Nat} {r : Rul} (hk : rs[k]? = some r) :
    r.fits ∧ ∃ ad : Addr, A = some ad ∧ ad.block < w.heap.size ∧ w.cell? (ad.add (k * 6)) = some (.int .i64 r.kind) ∧ w.cell? ⟨(ad.add (k * 6)).block, (ad.add (k * 6)).off + 1, none⟩ = some (.string r.sym) ∧ w.cell? ⟨(ad.add (k * 6)).block, (ad.add (k * 6)).off + 2, none⟩ = some (.string r.nam) ∧ w.cell? ⟨(ad.add (k * 6)).block, (ad.add (k * 6)).off + 3, none⟩ = some (.int .i64 r.prec) ∧ w.cell? ⟨(ad.add (k * 6)).block, (ad.add (k * 6)).off + 4, none⟩ = some (.int .i64 r.left) ∧ w.cell? ⟨(ad.add (k * 6)).block, (ad.add (k * 6)).off + 5, none⟩ = some (.int .i64 r.right) := by
  obtain ⟨hf, ad, hA, hlt, hc⟩ := h k r hk
  exact ⟨hf, ad, hA, hlt, hc 0 _ rfl, add_cell (j := 0) (hc 1 _ rfl), add_cell (j := 1) (hc 2 _ rfl), add_cell (j := 2) (hc 3 _ rfl), add_cell (j := 3) (hc 4 _ rfl), add_cell (j := 4) (hc 5 _ rfl)⟩
def IdxPost (os : List Rul) (r : Rul) (w : World) (e : Ending) (w' : World) : Prop := ∃ n : Int, e = .returned (.int .i64 n) ∧ decide (0 ≤ n) = (os.any fun o => clashB o r) ∧ Below w.heap.size w w'
abbrev clo (g : Nat) : Value := .func (.func 95) #[] #[.pointer (some ⟨g, 0, none⟩)]
set_option maxRecDepth 100000 in
set_option maxHeartbeats 800000 in
theorem index_any (A : Option Addr) (cap g : Nat) (os : List Rul) (r : Rul) (w : World) (hR : RulsAt w A os) (hK : Blk w g 50 r.c) (hn : os.length ≤ 1000000) : Calls Tryz.prog 131 #[.slice A os.length cap, clo g] w (IdxPost os r w) := by
  have HR := Lib.hid hR
  have HK := Lib.hid hK
  clear hR hK
  go_enter Tryz.func131, Tryz.ntmps131
  go_wp2_with fail
  go_loopw [8] (fun i wr => ∃ k : Nat, k ≤ os.length ∧ i = .int .i64 k ∧ Hid (∀ (j : Nat) x, os[j]? = some x → j < k → clashB x r = false) ∧ Hid (RulsAt wr A os) ∧ Hid (Blk wr g 50 r.c) ∧ Hid (Below w.heap.size w wr)) (fun i _ => os.length - (intOf i).toNat)
  case atStart => exact ⟨0, by omega, rfl, (fun j _ _ h => by omega), HR, HK, Below.refl _ _⟩
  case round =>
    clear HR HK
    obtain ⟨k, hk, rfl, HJ, HR, HK, H0⟩ := hrel
    by_cases hlt : k < os.length
    · obtain ⟨x, hx⟩ : ∃ x, os[k]? = some x := ⟨_, List.getElem?_eq_getElem hlt⟩
      obtain ⟨hf, ad, rfl, hadl, c0, c1, c2, c3, c4, c5⟩ := HR.out.at_ hx
      have HX := Lib.hid hx
      clear hx hf
      go_wp2_with fail
      refine (rep1_any x r g _ HK.out).mono ?_
      rintro e w1 ⟨rfl, hb⟩
      have NR := Lib.hid (HR.out.keep hb)
      have NK := Lib.hid (keep hb HK.out)
      have NB := Lib.hid (H0.out.trans (hb.mono H0.out.size))
      clear hb HR HK H0 c0 c1 c2 c3 c4 c5
      cases hq : clashB x r
      · have HQ := Lib.hid hq
        clear hq
        go_wp2_with fail
        go_roundw
        case rel => exact ⟨k + 1, by omega, by go_num, (fun j y hj h => by
          rcases Nat.lt_or_ge j k with h' | h'
          · exact HJ.out j y hj h'
          · obtain rfl : j = k := by omega
            rw [HX.out] at hj
            obtain rfl := Option.some.inj hj
            exact HQ.out), NR, NK, NB⟩
        case measure => simp [intOf]; omega
      · have HQ := Lib.hid (show (os.any fun o => clashB o r) = true from List.any_eq_true.2 ⟨x, List.mem_of_getElem? HX.out, hq⟩)
        clear hq
        go_wp2_with fail
        go_ret
        exact ⟨_, rfl, by rw [HQ.out]; simp, NB.out⟩
    · have HQ := Lib.hid (show (os.any fun o => clashB o r) = false by
        rw [List.any_eq_false]
        intro x hx
        obtain ⟨j, hj⟩ := List.mem_iff_getElem?.1 hx
        have hjl : j < os.length := (List.getElem?_eq_some_iff.1 hj).1
        rw [HJ.out j x hj (by omega)]
        simp)
      go_wp2_with fail
      go_ret
      exact ⟨_, rfl, by rw [HQ.out]; rfl, H0.out⟩
set_option maxRecDepth 100000 in
set_option maxHeartbeats 400000 in
theorem contains_any (A : Option Addr) (cap g : Nat) (os : List Rul) (r : Rul) (w : World) (hR : RulsAt w A os) (hK : Blk w g 50 r.c) (hn : os.length ≤ 1000000) : Calls Tryz.prog 94 #[.slice A os.length cap, clo g] w fun e w' => e = .returned (.bool (os.any fun o => clashB o r)) ∧ Below w.heap.size w w' := by
  have HR := Lib.hid hR
  have HK := Lib.hid hK
  clear hR hK
  go_enter Tryz.func94, Tryz.ntmps94
  go_wp2_with fail
  refine (index_any A cap g os r _ HR.out HK.out hn).mono ?_
  rintro e w1 ⟨n, rfl, hq, hb⟩
  have HQ := Lib.hid hq
  have HB := Lib.hid hb
  clear hq hb
  go_wp2_with fail
  go_ret
  exact ⟨ret_bool HQ.out, HB.out⟩
set_option maxRecDepth 100000 in
set_option maxHeartbeats 400000 in
theorem repeated_any (A : Option Addr) (cap : Nat) (os : List Rul) (r : Rul) (w : World) (hR : RulsAt w A os) (hn : os.length ≤ 1000000) : Calls Tryz.prog 59 #[.slice A os.length cap, r.v] w fun e w' => e = .returned (.bool (!freshB os r)) ∧ Below w.heap.size w w' := by
  have HR := Lib.hid hR
  have HN := Lib.hid (show (!freshB os r) = (os.any fun o => clashB o r) by unfold freshB; rw [Bool.not_not])
  clear hR
  go_enter Tryz.func59, Tryz.ntmps59
  go_wp2_with fail
  refine (contains_any A cap w.heap.size os r _ (HR.out.alloc _) (Blk.new w 50 r.c) hn).mono ?_
  rintro e w1 ⟨rfl, hb⟩
  have HB := Lib.hid ((bel_alloc w _).trans (hb.mono (by simp)))
  clear hb
  rw [← HN.out]
  generalize hbe : (!freshB os r) = b
  have HBE := Lib.hid hbe
  clear hbe
  go_wp2_with fail
  go_ret
  exact ⟨ret_bool HBE.out.symm, HB.out⟩
theorem repeated_n (A : Option Addr) (n cap : Nat) (os : List Rul) (r : Rul) (w : World) (hR : RulsAt w A os) (hl : os.length = n) (hn : n ≤ 1000000) : Calls Tryz.prog 59 #[.slice A n cap, r.v] w fun e w' => e = .returned (.bool (!freshB os r)) ∧ Below w.heap.size w w' := by
  subst hl
  exact repeated_any A cap os r w hR hn
theorem valid_big (rs : List Rul) (h : 64 < rs.length) : validB rs = false := by unfold validB; rw [decide_eq_false (by omega)]; rfl
theorem valid_small (rs : List Rul) (h : rs.length ≤ 64) : validB rs = firstsB rs rs.length := by unfold validB; rw [decide_eq_true h]; rfl
set_option maxRecDepth 100000 in
set_option maxHeartbeats 2000000 in
theorem valid_any (A : Option Addr) (cap : Nat) (rs : List Rul) (w : World) (hR : RulsAt w A rs) (hc : rs.length ≤ cap) (_hcap : cap ≤ 9223372036854775807) : Calls Tryz.prog 34 #[.slice A rs.length cap] w fun e w' => e = .returned (.bool (validB rs)) ∧ Below w.heap.size w w' := by
  have HR := Lib.hid hR
  clear hR
  by_cases h64 : 64 < rs.length
  · rw [valid_big rs h64]
    go_enter Tryz.func34, Tryz.ntmps34
    go_wp2_with fail
    go_ret
    exact ⟨rfl, Below.refl _ _⟩
  · rw [valid_small rs (by omega)]
    go_enter Tryz.func34, Tryz.ntmps34
    go_wp2_with fail
    go_loopw [10] (fun i wr => ∃ k : Nat, k ≤ rs.length ∧ i = .int .i64 k ∧ Hid (firstsB rs k = true) ∧ Hid (RulsAt wr A rs) ∧ Hid (Below w.heap.size w wr)) (fun i _ => rs.length - (intOf i).toNat)
    case atStart => exact ⟨0, by omega, rfl, rfl, HR, Below.refl _ _⟩
    case round =>
      clear HR
      obtain ⟨k, hk, rfl, HV, HR, H0⟩ := hrel
      by_cases hlt : k < rs.length
      · obtain ⟨x, hx⟩ : ∃ x, rs[k]? = some x := ⟨_, List.getElem?_eq_getElem hlt⟩
        obtain ⟨hf, ad, rfl, hadl, c0, c1, c2, c3, c4, c5⟩ := HR.out.at_ hx
        have HX := Lib.hid (firsts_succ hx)
        have HF := Lib.hid hf
        have HZ := Lib.hid (@firsts_false rs (k + 1) rs.length)
        have HT := Lib.hid (HR.out.take k)
        have HTL := Lib.hid (show (rs.take k).length = k by rw [List.length_take]; omega)
        rw [HV.out, Bool.true_and] at HX
        clear hx hf
        go_upto_region 6 with (fail)
        have K0 := Lib.hid (Blk.new wr 50 x.c)
        have N0 := Lib.hid (HR.out.alloc (.cells x.c 50))
        have NT := Lib.hid (HT.out.alloc (.cells x.c 50))
        have NB := Lib.hid (H0.out.alloc H0.out.size (.cells x.c 50))
        clear HR HT H0 c0 c1 c2 c3 c4 c5
        generalize wr.alloc (.cells #[.int .i64 x.kind, .string x.sym, .string x.nam, .int .i64 x.prec, .int .i64 x.left, .int .i64 x.right] 50) = w2 at *
        generalize wr.heap.size = g at *
        have c0 := fun i => K0.out.cell i
        have l0 := K0.out.lt
        cases ho : ownB x
        · have HOW := Lib.hid ho
          rw [ho, Bool.false_and] at HX
          clear ho
          go_cut [24] (fun b wc => b = .bool true ∧ Hid (RulsAt wc (some ad) rs) ∧ Hid (Below w.heap.size w wc))
          case first =>
            refine region_list (by kernel_rfl) ⟨#[.slice (some ad) rs.length cap, undef, u2, .int .i64 k, .pointer (some ⟨g, 0, none⟩), .slice (some ad) rs.length cap, .int .i64 rs.length, .bool (decide (64 < (rs.length : Int))), .slice (some ad) rs.length cap, .int .i64 rs.length, .int .i64 k, .bool true, .int .i64 k, .pointer (some (ad.add (k * 6))), x.v, x.v, .bool false, .bool true, .bool true, undef, undef, undef, undef, undef, .bool true, u25], []⟩ [x.v, .bool false, .bool true, .bool true, undef, undef, undef, undef, undef, .bool true] [true, true, true, true, false, false, false, false, false, true] (fun wq => Hid (Blk wq g 50 x.c) ∧ Hid (RulsAt wq (some ad) rs) ∧ Hid (Below w.heap.size w wq)) (by kernel_rfl) (by kernel_rfl) (by kernel_rfl) ⟨K0.out.drew, N0.out.drew, below_drew NB.out⟩ ?_ ?_
            · refine ⟨fun wq hI => ?_, fun wq hI => ?_, fun wq hI => ?_, fun wq hI => ?_, rfl, rfl, rfl, rfl, rfl, fun wq hI => ?_, trivial⟩
              · obtain ⟨J0, J1, J2⟩ := hI
                have cJ := fun i => J0.out.cell i
                exact Gives.value (v := x.v) (w' := wq) (by simp [execOp, Act.eval, go_sem, cJ]) ⟨rfl, J0, J1, J2⟩
              · obtain ⟨J0, J1, J2⟩ := hI
                refine Gives.call (f := 58) (args := #[x.v]) (w' := wq) (by kernel_rfl) ((own_any x _ HF.out).mono ?_)
                rintro e wa ⟨rfl, hb⟩
                exact ⟨_, rfl, by rw [HOW.out], keep hb J0.out, J1.out.keep hb, J2.out.trans (hb.mono J2.out.size)⟩
              · exact Gives.value (v := .bool true) (w' := wq) (by kernel_rfl) ⟨rfl, hI⟩
              · exact Gives.value (v := .bool true) (w' := wq) (by kernel_rfl) ⟨rfl, hI⟩
              · exact Gives.value (v := .bool true) (w' := wq) (by kernel_rfl) ⟨rfl, hI⟩
            · intro wq hI
              go_wp2_with fail
              go_meet
              exact ⟨rfl, hI.2.1, hI.2.2⟩
          case rest =>
            clear K0 NT N0 NB c0 l0
            obtain ⟨rfl, N0, NB⟩ := hcut
            go_wp2_with fail
            go_ret
            exact ⟨ret_bool (HZ.out HX.out (by omega)).symm, NB.out⟩
        · have HOW := Lib.hid ho
          rw [ho, Bool.true_and] at HX
          clear ho
          cases hfr : freshB (rs.take k) x
          · rw [hfr] at HX
            have HFR := Lib.hid hfr
            clear hfr
            go_cut [24] (fun b wc => b = .bool true ∧ Hid (RulsAt wc (some ad) rs) ∧ Hid (Below w.heap.size w wc))
            case first =>
              go_region_with (first | (go_at_call 58; refine (own_any x _ HF.out).mono ?_; rintro e wa ⟨rfl, hb5⟩; have MK := Lib.hid (keep hb5 K0.out.drew); have MR := Lib.hid (N0.out.drew.keep hb5); have MT := Lib.hid (NT.out.drew.keep hb5); have MB := Lib.hid ((below_drew NB.out).trans (hb5.mono NB.out.size)); clear hb5; have cM := fun i => MK.out.cell i; have lM := MK.out.lt; rw [HOW.out]) | (go_at_call 59; refine (repeated_n (some ad) k cap (rs.take k) x _ MT.out HTL.out (by omega)).mono ?_; rintro e wb ⟨rfl, hb6⟩; have LR := Lib.hid (MR.out.keep hb6); have LB := Lib.hid (MB.out.trans (hb6.mono MB.out.size)); clear hb6; rw [HFR.out]))
              all_goals (go_wp2_with fail; go_meet; exact ⟨rfl, LR, LB⟩)
            case rest =>
              clear K0 NT N0 NB c0 l0
              obtain ⟨rfl, N0, NB⟩ := hcut
              go_wp2_with fail
              go_ret
              exact ⟨ret_bool (HZ.out HX.out (by omega)).symm, NB.out⟩
          · rw [hfr] at HX
            have HFR := Lib.hid hfr
            clear hfr
            go_cut [24] (fun b wc => b = .bool false ∧ Hid (RulsAt wc (some ad) rs) ∧ Hid (Below w.heap.size w wc))
            case first =>
              go_region_with (first | (go_at_call 58; refine (own_any x _ HF.out).mono ?_; rintro e wa ⟨rfl, hb5⟩; have MK := Lib.hid (keep hb5 K0.out.drew); have MR := Lib.hid (N0.out.drew.keep hb5); have MT := Lib.hid (NT.out.drew.keep hb5); have MB := Lib.hid ((below_drew NB.out).trans (hb5.mono NB.out.size)); clear hb5; have cM := fun i => MK.out.cell i; have lM := MK.out.lt; rw [HOW.out]) | (go_at_call 59; refine (repeated_n (some ad) k cap (rs.take k) x _ MT.out HTL.out (by omega)).mono ?_; rintro e wb ⟨rfl, hb6⟩; have LR := Lib.hid (MR.out.keep hb6); have LB := Lib.hid (MB.out.trans (hb6.mono MB.out.size)); clear hb6; rw [HFR.out]))
              all_goals (go_wp2_with fail; go_meet; exact ⟨rfl, LR, LB⟩)
            case rest =>
              clear K0 NT N0 NB c0 l0
              obtain ⟨rfl, N0, NB⟩ := hcut
              go_wp2_with fail
              go_roundw
              case rel => exact ⟨k + 1, by omega, by go_num, HX.out, N0, NB⟩
              case measure => simp [intOf]; omega
      · obtain rfl : k = rs.length := by omega
        go_wp2_with fail
        go_ret
        exact ⟨ret_bool HV.out.symm, H0.out⟩
theorem clash_comm (o r : Rul) : clashB o r = clashB r o := by
  unfold clashB
  rw [show decide (o.kind = r.kind) = decide (r.kind = o.kind) from decide_eq_decide.2 ⟨Eq.symm, Eq.symm⟩, Bool.beq_comm (a := o.sym.toList), Bool.beq_comm (a := o.nam.toList)]
theorem fresh_false {os : List Rul} {r x : Rul} {j : Nat} (hj : os[j]? = some x) (h : clashB r x = true) : freshB os r = false := by
  unfold freshB
  rw [Bool.not_eq_false', List.any_eq_true]
  exact ⟨x, List.mem_of_getElem? hj, by rw [clash_comm]; exact h⟩
theorem fresh_true {os : List Rul} {r : Rul} (h : ∀ (j : Nat) x, os[j]? = some x → clashB r x = false) : freshB os r = true := by
  unfold freshB
  rw [Bool.not_eq_true', List.any_eq_false]
  intro x hx
  obtain ⟨j, hj⟩ := List.mem_iff_getElem?.1 hx
  rw [clash_comm, h j x hj]
  simp
theorem valid_def (rs : List Rul) : validB rs = (firstsB rs rs.length && decide (rs.length ≤ 64)) := by unfold validB; rw [Bool.and_comm]
set_option maxRecDepth 100000 in
set_option maxHeartbeats 2000000 in
theorem rvalid_any (A : Option Addr) (cap : Nat) (rs : List Rul) (w : World) (hR : RulsAt w A rs) (hn : rs.length ≤ 1000000) : Calls Tryz.prog 23 #[.slice A rs.length cap] w fun e w' => e = .returned (.bool (validB rs)) ∧ Below w.heap.size w w' := by
  have HR := Lib.hid hR
  have HVD := Lib.hid (valid_def rs)
  clear hR
  go_enter Tryz.func23, Tryz.ntmps23
  go_wp2_with fail
  go_loopw [3] (fun i wr => ∃ k : Nat, k ≤ rs.length ∧ i = .int .i64 k ∧ Hid (firstsB rs k = true) ∧ Hid (RulsAt wr A rs) ∧ Hid (Below w.heap.size w wr)) (fun i _ => rs.length - (intOf i).toNat)
  case atStart => exact ⟨0, by omega, rfl, rfl, HR, Below.refl _ _⟩
  case round =>
    clear HR
    obtain ⟨k, hk, rfl, HV, HR, H0⟩ := hrel
    by_cases hlt : k < rs.length
    · obtain ⟨x, hx⟩ : ∃ x, rs[k]? = some x := ⟨_, List.getElem?_eq_getElem hlt⟩
      obtain ⟨hf, ad, rfl, hadl, c0, c1, c2, c3, c4, c5⟩ := HR.out.at_ hx
      have HX := Lib.hid (firsts_succ hx)
      have HXK := Lib.hid hx
      have HZ := Lib.hid (@firsts_false rs (k + 1) rs.length)
      rw [HV.out, Bool.true_and] at HX
      clear hx
      go_wp2_with fail
      refine (rown_any x _ hf).mono ?_
      rintro e w1 ⟨rfl, hb⟩
      have NR := Lib.hid (HR.out.keep hb)
      have NB := Lib.hid (H0.out.trans (hb.mono H0.out.size))
      clear HR H0 hb c0 c1 c2 c3 c4 c5 hf
      cases ho : ownB x
      · rw [ho, Bool.false_and] at HX
        clear ho
        go_wp2_with fail
        go_ret
        exact ⟨ret_bool (by rw [HVD.out, HZ.out HX.out (by omega)]; rfl), NB.out⟩
      · rw [ho, Bool.true_and] at HX
        clear ho
        go_wp2_with fail
        go_loopw [4] (fun i wr => ∃ j : Nat, j ≤ k ∧ i = .int .i64 j ∧ Hid (∀ (m : Nat) y, rs[m]? = some y → m < j → clashB x y = false) ∧ Hid (RulsAt wr (some ad) rs) ∧ Hid (Below w.heap.size w wr)) (fun i _ => k - (intOf i).toNat)
        case atStart => exact ⟨0, by omega, rfl, (fun _ _ _ h => by omega), NR, NB⟩
        case round =>
          clear NR NB
          obtain ⟨j, hj, rfl, HJ, HR, H0⟩ := hrel
          by_cases hlj : j < k
          · obtain ⟨y, hy⟩ : ∃ y, rs[j]? = some y := ⟨_, List.getElem?_eq_getElem (by omega)⟩
            obtain ⟨_, ad1, he1, _, c0, c1, c2, c3, c4, c5⟩ := HR.out.at_ HXK.out
            obtain rfl := Option.some.inj he1
            obtain ⟨_, ad2, he2, _, d0, d1, d2, d3, d4, d5⟩ := HR.out.at_ hy
            obtain rfl := Option.some.inj he2
            have HY := Lib.hid hy
            clear hy he1 he2
            cases hq : clashB x y
            · have HQ := Lib.hid hq
              clear hq
              go_upto_region 9 with (fail)
              go_cut [30] (fun b wc => b = .bool false ∧ Hid (RulsAt wc (some ad) rs) ∧ Hid (Below w.heap.size w wc))
              case first =>
                go_region_with (go_at_call 48; refine (rclash_any x y _).mono ?_; rintro e w2 ⟨rfl, hb5⟩; have MR := Lib.hid (HR.out.drew.keep hb5); have MB := Lib.hid ((below_drew H0.out).trans (hb5.mono H0.out.size)); clear hb5; rw [HQ.out])
                all_goals (go_wp2_with fail; go_meet; exact ⟨rfl, MR, MB⟩)
              case rest =>
                clear HR H0 c0 c1 c2 c3 c4 c5 d0 d1 d2 d3 d4 d5
                obtain ⟨rfl, HR, H0⟩ := hcut
                go_wp2_with fail
                go_roundw
                case rel => exact ⟨j + 1, by omega, by go_num, (fun m z hm h => by
                  rcases Nat.lt_or_ge m j with h' | h'
                  · exact HJ.out m z hm h'
                  · obtain rfl : m = j := by omega
                    rw [HY.out] at hm
                    obtain rfl := Option.some.inj hm
                    exact HQ.out), HR, H0⟩
                case measure => simp [intOf]; omega
            · have HQ := Lib.hid hq
              have HFF := Lib.hid (fresh_false (os := rs.take k) (r := x) (j := j) (x := y) (by rw [List.getElem?_take, if_pos hlj]; exact HY.out) hq)
              rw [HFF.out] at HX
              clear hq
              go_upto_region 9 with (fail)
              go_cut [30] (fun b wc => b = .bool true ∧ Hid (RulsAt wc (some ad) rs) ∧ Hid (Below w.heap.size w wc))
              case first =>
                go_region_with (go_at_call 48; refine (rclash_any x y _).mono ?_; rintro e w2 ⟨rfl, hb5⟩; have MR := Lib.hid (HR.out.drew.keep hb5); have MB := Lib.hid ((below_drew H0.out).trans (hb5.mono H0.out.size)); clear hb5; rw [HQ.out])
                all_goals (go_wp2_with fail; go_meet; exact ⟨rfl, MR, MB⟩)
              case rest =>
                clear HR H0 c0 c1 c2 c3 c4 c5 d0 d1 d2 d3 d4 d5
                obtain ⟨rfl, HR, H0⟩ := hcut
                go_wp2_with fail
                go_ret
                exact ⟨ret_bool (by rw [HVD.out, HZ.out HX.out (by omega)]; rfl), H0.out⟩
          · have HFT := Lib.hid (fresh_true (os := rs.take k) (r := x) fun m y hm => by
              rw [List.getElem?_take] at hm
              split at hm
              · exact HJ.out m y hm (by omega)
              · cases hm)
            rw [HFT.out] at HX
            go_wp2_with fail
            go_roundw
            case rel => exact ⟨k + 1, by omega, by go_num, HX.out, HR, H0⟩
            case measure => simp [intOf]; omega
    · obtain rfl : k = rs.length := by omega
      rw [HV.out, Bool.true_and] at HVD
      go_wp2_with fail
      go_ret
      exact ⟨ret_bool (by rw [HVD.out]; exact decide_eq_decide.2 (by omega)), H0.out⟩
end Go.Proofs.YthpioplpfmlgcaaGreatDoor
namespace Go.Proofs.YthpioplpfmlgcaaGreatDoor
section
variable {P : Program} {ops : Array Oper} {Q : Exit → Act → World → Prop}
/-- is there a road of binding edges from i down to j? -/
def reach (ops : Array Oper) (j : Nat) : Nat → Nat → Bool
  | 0, _ => false
  | fuel + 1, i => match ops[i]? with
    | some o => o.after.any fun e => Region.binds .any e && (e.on == j || reach ops j fuel e.on)
    | none => false
def Closed (ops : Array Oper) (L : Nat → Bool) : Prop := ∀ i o, ops[i]? = some o → L i = true → ∀ e ∈ o.after, Region.binds .any e = true → L e.on = true
theorem reach_listed {L : Nat → Bool} (hc : Closed ops L) {j : Nat} : ∀ {fuel i : Nat} {o : Oper}, ops[i]? = some o → (∀ e ∈ o.after, Region.binds .any e = true → L e.on = true) → reach ops j fuel i = true → L j = true
  | 0, _, _, _, _, h => by cases h
  | fuel + 1, i, o, ho, hL, h => by
    rw [reach, ho] at h
    obtain ⟨e, he, h2⟩ := Array.any_eq_true'.1 h
    rw [Bool.and_eq_true, Bool.or_eq_true, beq_iff_eq] at h2
    have h3 := hL e he h2.1
    rcases h2.2 with h4 | h4
    · rw [← h4]; exact h3
    · cases ho2 : ops[e.on]? with
      | none =>
        cases fuel with
        | zero => cases h4
        | succ f => rw [reach, ho2] at h4; cases h4
      | some o2 => exact reach_listed hc ho2 (hc e.on o2 ho2 h3) h4
def edgesOk (ops : Array Oper) : Bool := (List.range ops.size).all fun i => match ops[i]? with
  | some o => o.after.all fun e => !Region.binds .any e || decide (e.on < i)
  | none => true
theorem all_listed {L : Nat → Bool} {listed : Array Bool} (hL : L = fun j => listed.getD j false) (hs : listed.size = ops.size) (hedge : edgesOk ops = true) (hr : ∀ i, i ∉ Region.ready .any ops listed) : ∀ i, i < ops.size → L i = true := by
  intro i
  subst hL
  induction i using Nat.strongRecOn with
  | _ i ih =>
    intro hi
    refine Classical.byContradiction fun hn => hr i ?_
    rw [mem_ready]
    refine ⟨?_, ops[i], Array.getElem?_eq_getElem hi, fun e he hb => ?_⟩
    · have hil : i < listed.size := by omega
      simp only [Array.getD_eq_getD_getElem?, Array.getElem?_eq_getElem hil, Option.getD_some] at hn ⊢
      simpa using hn
    · have h1 := List.all_eq_true.1 hedge i (List.mem_range.2 hi)
      rw [Array.getElem?_eq_getElem hi] at h1
      have h2 := Array.all_eq_true'.1 h1 e he
      rw [hb] at h2
      have h3 : e.on < i := by simpa using h2
      exact ih e.on h3 (by omega)
theorem closed_add {L : Nat → Bool} {i : Nat} {o : Oper} (hc : Closed ops L) (ho : ops[i]? = some o) (hb : ∀ e ∈ o.after, Region.binds .any e = true → L e.on = true) : Closed ops fun j => L j || j == i := by
  intro k o' hk hL e he hbe
  by_cases hki : k = i
  · subst hki
    obtain rfl := Option.some.inj (ho.symm.trans hk)
    show (L e.on || e.on == k) = true
    rw [hb e he hbe]; rfl
  · show (L e.on || e.on == i) = true
    rw [hc k o' hk (by simpa [hki] using hL) e he hbe]; rfl
theorem wpOps_step {i : Nat} {l : List Nat} {o : Oper} {a : Act} {w : World} (ho : ops[i]? = some o) (hg : o.guard = none) (h : o.wp P a w (wpOps P ops Q l) Q) : wpOps P ops Q (i :: l) a w := by
  rw [wpOps_cons]
  unfold wpOp
  simp only [ho]
  rw [if_pos (by simp [Region.wanted, hg])]
  exact .inl h
end
end Go.Proofs.YthpioplpfmlgcaaGreatDoor
