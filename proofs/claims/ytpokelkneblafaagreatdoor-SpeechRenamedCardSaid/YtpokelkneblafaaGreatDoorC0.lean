/- A region that draws its order, where each operation comes to one value whatever the order: one obligation for each operation, none for the orders; for every program. -/
import Derived.Orders
import Derived.Below
namespace Go.Proofs.YtpokelkneblafaaGreatDoor
/-- what an operation comes to: a value and a world -/
def Gives (P : Program) (s : Sem Next) (w : World) (R : Value → World → Prop) : Prop :=
  match s.run P w with
  | .ok (.value v) w' => R v w'
  | .ok .skip w' => R undef w'
  | .ok (.enter f args) w' => Calls P f args w' fun e w'' => ∃ v, e = .returned v ∧ R v w''
  | _ => False
theorem Gives.wp {P : Program} {o : Oper} {a : Act} {w : World} {R : Value → World → Prop} {K : Act → World → Prop} {Q : Exit → Act → World → Prop} (h : Gives P (execOp a.eval o) w R) (hK : ∀ v w', R v w' → K (a.put o.dst v) w') : o.wp P a w K Q := by
  unfold Oper.wp
  unfold Gives at h
  generalize (execOp a.eval o).run P w = x at h
  cases x with
  | halt e w' => exact h.elim
  | ok n w' =>
    cases n with
    | value v => exact hK _ _ h
    | skip => exact hK _ _ h
    | enter f args =>
      refine Calls.mono h fun e w'' he => ?_
      obtain ⟨v, rfl, hr⟩ := he
      exact hK _ _ hr
    | _ => exact h.elim
theorem Gives.value {P : Program} {s : Sem Next} {w w' : World} {v : Value} {R : Value → World → Prop} (h : s.run P w = .ok (.value v) w') (hR : R v w') : Gives P s w R := by unfold Gives; rw [h]; exact hR
theorem Gives.skip {P : Program} {s : Sem Next} {w w' : World} {R : Value → World → Prop} (h : s.run P w = .ok .skip w') (hR : R undef w') : Gives P s w R := by unfold Gives; rw [h]; exact hR
theorem Gives.call {P : Program} {s : Sem Next} {w w' : World} {f : FuncId} {args : Array Value} {R : Value → World → Prop} (h : s.run P w = .ok (.enter f args) w') (hR : Calls P f args w' fun e w'' => ∃ v, e = .returned v ∧ R v w'') : Gives P s w R := by unfold Gives; rw [h]; exact hR
section
variable {P : Program} {ops : Array Oper} {Q : Exit → Act → World → Prop}
def dstAt (ops : Array Oper) (i : Nat) : Option Tmp := (ops[i]?).bind (·.dst)
/-- the frame behind the region -/
def finOn (ops : Array Oper) (vals : Nat → Value) (a : Act) (l : List Nat) : Act := l.foldl (fun a i => a.put (dstAt ops i) (vals i)) a
def fin (ops : Array Oper) (vals : Nat → Value) (a : Act) : Act := finOn ops vals a (List.range ops.size)
def dstsOk (ops : Array Oper) : Bool := (List.range ops.size).all fun i => (List.range ops.size).all fun j => i == j || dstAt ops i != dstAt ops j || (dstAt ops i).isNone
def bound (o : Oper) (j : Nat) : Bool := o.after.any fun e => e.on == j && Region.binds .any e
def operOk (ops : Array Oper) (o : Oper) : Bool :=
  (o.op.operands.all fun | .tmp t => (List.range ops.size).all fun j => dstAt ops j != some t || bound o j
                         | _ => true) &&
  (match o.guard with | none => true | some (g, _) => bound o g)
def confOk (ops : Array Oper) : Bool := Region.noSelect ops && dstsOk ops && (ops.all (operOk ops)) && (List.range ops.size).all fun i => match ops[i]? with
  | some o => o.after.all fun e => !Region.binds .any e || decide (e.on < i)
  | none => true
theorem put_tmp (a : Act) (d : Option Tmp) (v : Value) (t : Nat) : (a.put d v).tmps[t]? = if d = some t ∧ t < a.tmps.size then some v else a.tmps[t]? := by
  cases d with
  | none => simp [Act.put]
  | some d =>
    simp only [Act.put, Array.getElem?_setIfInBounds, Option.some.injEq]
    by_cases h : d = t
    · subst h
      by_cases h2 : d < a.tmps.size
      · simp [h2]
      · simp [h2]
    · simp [h]
theorem put_size (a : Act) (d : Option Tmp) (v : Value) : (a.put d v).tmps.size = a.tmps.size := by cases d <;> simp [Act.put]
theorem put_defers (a : Act) (d : Option Tmp) (v : Value) : (a.put d v).defers = a.defers := by cases d <;> simp [Act.put]
theorem finOn_frame (vals : Nat → Value) : ∀ (l : List Nat) (a : Act), (finOn ops vals a l).tmps.size = a.tmps.size ∧ (finOn ops vals a l).defers = a.defers
  | [], a => ⟨rfl, rfl⟩
  | i :: l, a => by
    obtain ⟨h1, h2⟩ := finOn_frame vals l (a.put (dstAt ops i) (vals i))
    exact ⟨h1.trans (put_size _ _ _), h2.trans (put_defers _ _ _)⟩
theorem finOn_other (vals : Nat → Value) (t : Nat) : ∀ (l : List Nat) (a : Act), (∀ i ∈ l, dstAt ops i ≠ some t) → (finOn ops vals a l).tmps[t]? = a.tmps[t]?
  | [], _, _ => rfl
  | i :: l, a, h => by
    have := finOn_other vals t l (a.put (dstAt ops i) (vals i)) (fun j hj => h j (List.mem_cons_of_mem _ hj))
    rw [show finOn ops vals a (i :: l) = finOn ops vals (a.put (dstAt ops i) (vals i)) l from rfl, this, put_tmp, if_neg (fun hc => h i List.mem_cons_self hc.1)]
theorem finOn_at (vals : Nat → Value) (hd : dstsOk ops = true) (t i : Nat) (hi : dstAt ops i = some t) : ∀ (l : List Nat) (a : Act), i ∈ l → (∀ j ∈ l, j < ops.size) → t < a.tmps.size → (finOn ops vals a l).tmps[t]? = some (vals i)
  | [], _, h, _, _ => by cases h
  | j :: l, a, h, hl, ht => by
    rw [show finOn ops vals a (j :: l) = finOn ops vals (a.put (dstAt ops j) (vals j)) l from rfl]
    by_cases hm : i ∈ l
    · exact finOn_at vals hd t i hi l _ hm (fun k hk => hl k (List.mem_cons_of_mem _ hk)) (by rw [put_size]; exact ht)
    · obtain rfl : i = j := by simpa [hm] using h
      rw [finOn_other vals t l _ ?_, put_tmp, if_pos ⟨hi, ht⟩]
      intro k hk hkt
      have h1 := List.all_eq_true.1 hd i (List.mem_range.2 (hl i List.mem_cons_self))
      have h2 := List.all_eq_true.1 h1 k (List.mem_range.2 (hl k (List.mem_cons_of_mem _ hk)))
      rw [hi, hkt] at h2
      simp at h2
      subst h2
      exact hm hk
theorem dstAt_lt {i t : Nat} (h : dstAt ops i = some t) : i < ops.size := by
  rcases Nat.lt_or_ge i ops.size with h' | h'
  · exact h'
  · unfold dstAt at h; rw [Array.getElem?_eq_none h'] at h; cases h
/-- frames on the way: what the operations done so far have laid, the rest as at the start -/
structure OnWay (ops : Array Oper) (vals : Nat → Value) (a0 : Act) (L : Nat → Bool) (a : Act) : Prop where
  size : a.tmps.size = a0.tmps.size
  defers : a.defers = a0.defers
  done : ∀ i t, dstAt ops i = some t → L i = true → a.tmps[t]? = (fin ops vals a0).tmps[t]?
  rest : ∀ t, (∀ i, L i = true → dstAt ops i ≠ some t) → a.tmps[t]? = a0.tmps[t]?
theorem fin_at {vals : Nat → Value} {a0 : Act} (hd : dstsOk ops = true) {i t : Nat} (h : dstAt ops i = some t) (ht : t < a0.tmps.size) : (fin ops vals a0).tmps[t]? = some (vals i) :=
  finOn_at vals hd t i h _ a0 (List.mem_range.2 (dstAt_lt h)) (fun _ hj => List.mem_range.1 hj) ht
theorem OnWay.put {vals : Nat → Value} {a0 : Act} {L : Nat → Bool} {a : Act} (hd : dstsOk ops = true) (h : OnWay ops vals a0 L a) (i : Nat) (hi : i < ops.size) (hL : L i = false) : OnWay ops vals a0 (fun j => L j || j == i) (a.put (dstAt ops i) (vals i)) := by
  obtain ⟨h1, h2, h3, h4⟩ := h
  refine ⟨(put_size _ _ _).trans h1, (put_defers _ _ _).trans h2, fun j t hj hjL => ?_, fun t ht => ?_⟩
  · rw [put_tmp]
    by_cases hc : dstAt ops i = some t ∧ t < a.tmps.size
    · rw [if_pos hc, fin_at hd hc.1 (by have := hc.2; rwa [h1] at this)]
    · rw [if_neg hc]
      by_cases hij : j = i
      · subst hij
        have hlt : ¬ t < a.tmps.size := fun hl => hc ⟨hj, hl⟩
        rw [Array.getElem?_eq_none (Nat.le_of_not_lt hlt)]
        exact (Array.getElem?_eq_none (show (finOn ops vals a0 (List.range ops.size)).tmps.size ≤ t by rw [(finOn_frame vals _ a0).1, ← h1]; exact Nat.le_of_not_lt hlt)).symm
      · exact h3 j t hj (by simpa [hij] using hjL)
  · rw [put_tmp, if_neg (fun hc => ht i (by simp) hc.1)]
    exact h4 t fun j hj => ht j (by simp [hj])
theorem OnWay.end {vals : Nat → Value} {a0 : Act} {L : Nat → Bool} {a : Act} (h : OnWay ops vals a0 L a) (hall : ∀ i, i < ops.size → L i = true) : a = fin ops vals a0 := by
  obtain ⟨h1, h2, h3, h4⟩ := h
  have ht : a.tmps = (fin ops vals a0).tmps := by
    refine Array.ext_getElem? fun t => ?_
    by_cases hc : ∃ i, dstAt ops i = some t
    · obtain ⟨i, hi⟩ := hc
      exact h3 i t hi (hall i (dstAt_lt hi))
    · rw [h4 t fun i _ hi => hc ⟨i, hi⟩]
      exact (finOn_other vals t _ a0 fun i _ hi => hc ⟨i, hi⟩).symm
  cases a with
  | mk tm de =>
    have e2 : de = (fin ops vals a0).defers := h2.trans (finOn_frame vals _ a0).2.symm
    cases hf : fin ops vals a0 with
    | mk tm' de' => rw [hf] at ht e2; simp only at ht e2; rw [ht, e2]
theorem bound_listed {o : Oper} {j : Nat} {L : Nat → Bool} (hb : bound o j = true) (hL : ∀ e ∈ o.after, Region.binds .any e = true → L e.on = true) : L j = true := by
  unfold bound at hb
  obtain ⟨e, he, h⟩ := Array.any_eq_true'.1 hb
  simp only [Bool.and_eq_true, beq_iff_eq] at h
  rw [← h.1]
  exact hL e he h.2
theorem OnWay.eval {vals : Nat → Value} {a0 : Act} {L : Nat → Bool} {a : Act} (h : OnWay ops vals a0 L a) {o : Oper} (ho : operOk ops o = true) (hL : ∀ e ∈ o.after, Region.binds .any e = true → L e.on = true) :
    (∀ x ∈ o.op.operands, a.eval x = (fin ops vals a0).eval x) ∧ Region.wanted o (yielded ops a.tmps) = Region.wanted o (yielded ops (fin ops vals a0).tmps) := by
  unfold operOk at ho
  rw [Bool.and_eq_true] at ho
  obtain ⟨h1, h2⟩ := ho
  refine ⟨fun x hx => ?_, ?_⟩
  · cases x with
    | tmp t =>
      have hx' := Array.all_eq_true'.1 h1 _ hx
      have e : a.tmps[t]? = (fin ops vals a0).tmps[t]? := by
        by_cases hc : ∃ i, dstAt ops i = some t
        · obtain ⟨i, hi⟩ := hc
          have := List.all_eq_true.1 hx' i (List.mem_range.2 (dstAt_lt hi))
          rw [hi] at this
          exact h.done i t hi (bound_listed (by simpa using this) hL)
        · rw [h.rest t fun i _ hi => hc ⟨i, hi⟩]
          exact (finOn_other vals t _ a0 fun i _ hi => hc ⟨i, hi⟩).symm
      simp only [Act.eval, Array.getD_eq_getD_getElem?, e]
    | _ => rfl
  · unfold Region.wanted
    cases hg : o.guard with
    | none => rfl
    | some gw =>
      obtain ⟨g, want⟩ := gw
      rw [hg] at h2
      have hLg := bound_listed h2 hL
      have : yielded ops a.tmps g = yielded ops (fin ops vals a0).tmps g := by
        unfold yielded
        cases hd : (ops[g]?).bind (·.dst) with
        | none => rfl
        | some t => simp only [Option.bind_some, h.done g t hd hLg]
      simp only [this]
theorem count_set : ∀ (l : List Bool) (i : Nat), l[i]? = some false → l.countP (· == false) = (l.set i true).countP (· == false) + 1
  | [], i, h => by simp at h
  | b :: l, 0, h => by
    obtain rfl : b = false := by simpa using h
    simp
  | b :: l, i + 1, h => by
    have ih := count_set l i (by simpa using h)
    simp only [List.set_cons_succ, List.countP_cons]
    omega
theorem wpAny_conf {vals : Nat → Value} {a0 : Act} {Inv : (Nat → Bool) → World → Prop} (hok : confOk ops = true)
    (hstep : ∀ (i : Nat) (o : Oper) (L : Nat → Bool) (w : World), ops[i]? = some o → L i = false → (∀ e ∈ o.after, Region.binds .any e = true → L e.on = true) → Inv L w →
      if Region.wanted o (yielded ops (fin ops vals a0).tmps) = true then Gives P (execOp (fin ops vals a0).eval o) w (fun v w' => v = vals i ∧ Inv (fun j => L j || j == i) w') else vals i = undef ∧ Inv (fun j => L j || j == i) w)
    (hend : ∀ (L : Nat → Bool) (w : World), (∀ i, i < ops.size → L i = true) → Inv L w → Q .normal (fin ops vals a0) w) :
    ∀ (fuel : Nat) (listed : Array Bool) (a : Act) (w : World), listed.size = ops.size → (listed.toList.countP (· == false)) ≤ fuel → OnWay ops vals a0 (fun j => listed.getD j false) a → Inv (fun j => listed.getD j false) w → wpAny P .any ops Q fuel listed a w := by
  simp only [confOk, Bool.and_eq_true] at hok
  obtain ⟨⟨⟨hsel, hd⟩, hall⟩, hedge⟩ := hok
  have fini : ∀ (listed : Array Bool) (a : Act) (w : World), listed.size = ops.size → OnWay ops vals a0 (fun j => listed.getD j false) a → Inv (fun j => listed.getD j false) w → Region.ready .any ops listed = [] → Q .normal a w := by
    intro listed a w hs ho hI hr
    have hL : ∀ i, i < ops.size → listed.getD i false = true := by
      intro i
      induction i using Nat.strongRecOn with
      | _ i ih =>
        intro hi
        refine Classical.byContradiction fun hn => ?_
        have hm : i ∈ Region.ready .any ops listed := by
          rw [mem_ready]
          refine ⟨?_, ops[i], Array.getElem?_eq_getElem hi, fun e he hb => ?_⟩
          · have hil : i < listed.size := by omega
            simp only [Array.getD_eq_getD_getElem?, Array.getElem?_eq_getElem hil, Option.getD_some] at hn ⊢
            simpa using hn
          · have h1 := List.all_eq_true.1 hedge i (List.mem_range.2 hi)
            rw [Array.getElem?_eq_getElem hi] at h1
            have h2 := Array.all_eq_true'.1 h1 e he
            rw [hb] at h2
            have h3 : e.on < i := by simpa using h2
            exact ih e.on h3 (by omega)
        rw [hr] at hm
        cases hm
    rw [ho.end hL]
    exact hend _ w hL hI
  intro fuel
  induction fuel with
  | zero =>
    intro listed a w hs hc ho hI
    have hr : Region.ready .any ops listed = [] := by
      rw [List.eq_nil_iff_forall_not_mem]
      intro j hj
      rw [mem_ready] at hj
      obtain ⟨h0, o, hoj, _⟩ := hj
      have hjl : j < listed.size := by rw [hs]; exact (Array.getElem?_eq_some_iff.1 hoj).1
      have hf : listed[j] = false := by simpa [Array.getD_eq_getD_getElem?, Array.getElem?_eq_getElem hjl] using h0
      have : 0 < listed.toList.countP (· == false) := List.countP_pos_iff.2 ⟨false, by rw [← hf]; simp, rfl⟩
      omega
    exact ⟨hr, fini listed a w hs ho hI hr⟩
  | succ fuel ih =>
    intro listed a w hs hc ho hI
    refine ⟨fini listed a w hs ho hI, fun i hi => ?_⟩
    rw [mem_ready] at hi
    obtain ⟨h0, o, hoi, hb⟩ := hi
    have hil : i < ops.size := (Array.getElem?_eq_some_iff.1 hoi).1
    have hil' : i < listed.size := by omega
    have hf : listed[i] = false := by simpa [Array.getD_eq_getD_getElem?, Array.getElem?_eq_getElem hil'] using h0
    have hLi : listed.getD i false = false := by simp [Array.getD_eq_getD_getElem?, Array.getElem?_eq_getElem hil', hf]
    have hL' : (fun j => (listed.setIfInBounds i true).getD j false) = fun j => listed.getD j false || j == i := by
      funext j
      by_cases hij : j = i
      · subst hij; simp [Array.getD_eq_getD_getElem?, hil']
      · rw [getD_set_ne false (Ne.symm hij)]; simp [hij]
    have hcount : (listed.setIfInBounds i true).toList.countP (· == false) ≤ fuel := by
      rw [Array.toList_setIfInBounds]
      have hl : i < listed.toList.length := by simpa using hil'
      have hs1 : listed.toList.countP (· == false) = (listed.toList.set i true).countP (· == false) + 1 := by
        exact count_set _ _ (by rw [List.getElem?_eq_getElem hl]; simpa using hf)
      omega
    have hoOk : operOk ops o = true := by
      obtain ⟨_, hx⟩ := Array.getElem?_eq_some_iff.1 hoi
      exact Array.all_eq_true'.1 hall o (by rw [← hx]; exact Array.getElem_mem _)
    obtain ⟨hev, hwant⟩ := ho.eval hoOk hb
    have hexec : execOp a.eval o = execOp (fin ops vals a0).eval o := execOp_congr o (fun cs b => Region.noSelect_spec hsel i o cs b hoi) hev
    have hst := hstep i o _ w hoi hLi hb hI
    have hdst : o.dst = dstAt ops i := by unfold dstAt; rw [hoi]; rfl
    have next : ∀ w', Inv (fun j => listed.getD j false || j == i) w' → wpAny P .any ops Q fuel (listed.setIfInBounds i true) (a.put o.dst (vals i)) w' := by
      intro w' hI'
      refine ih _ _ w' (by simpa using hs) hcount ?_ (by rw [hL']; exact hI')
      rw [hL', hdst]
      exact ho.put hd i hil hLi
    unfold wpOp
    simp only [hoi]
    rw [hwant]
    by_cases hw : Region.wanted o (yielded ops (fin ops vals a0).tmps) = true
    · rw [if_pos hw] at hst ⊢
      refine .inl (Gives.wp (R := fun v w' => v = vals i ∧ Inv (fun j => listed.getD j false || j == i) w') (by rw [hexec]; exact hst) ?_)
      rintro v w' ⟨rfl, hI'⟩
      exact next w' hI'
    · rw [if_neg hw] at hst ⊢
      rw [← hst.1]
      exact next w hst.2
/-- THE LAW -/
theorem region_conf {id : Nat} {a0 : Act} {w0 : World} (hm : P.follows .mixedOrders = true) (vals : Nat → Value) (Inv : World → Prop) (hok : confOk ops = true) (h0 : Inv w0.drew)
    (hstep : ∀ (i : Nat) (o : Oper) (w : World), ops[i]? = some o → Inv w →
      if Region.wanted o (yielded ops (fin ops vals a0).tmps) = true then Gives P (execOp (fin ops vals a0).eval o) w (fun v w' => v = vals i ∧ Inv w') else vals i = undef ∧ Inv w)
    (hend : ∀ w : World, Inv w → Q .normal (fin ops vals a0) w) : (Code.region id ops true).wp P Q a0 w0 := by
  refine wp_region_any hm ?_
  refine wpAny_conf (vals := vals) (a0 := a0) (Inv := fun _ w => Inv w) hok (fun i o L w ho _ _ hI => hstep i o w ho hI) (fun _ w _ hI => hend w hI) ops.size (Array.replicate ops.size false) a0 _ (by simp) (by
    refine Nat.le_trans (List.countP_le_length) ?_
    simp) ⟨rfl, rfl, fun i t _ h => ?_, fun _ _ => rfl⟩ h0
  rw [Array.getD_eq_getD_getElem?, Array.getElem?_replicate] at h
  split at h <;> simp at h
/-- one obligation for each operation that is wanted -/
def Each (P : Program) (F : Act) (Inv : World → Prop) : List Oper → List Value → List Bool → Prop
  | o :: os, v :: vs, true :: bs => (∀ w, Inv w → Gives P (execOp F.eval o) w fun u w' => u = v ∧ Inv w') ∧ Each P F Inv os vs bs
  | _ :: os, v :: vs, false :: bs => v = undef ∧ Each P F Inv os vs bs
  | [], [], [] => True
  | _, _, _ => False
theorem Each.at_ {F : Act} {Inv : World → Prop} : ∀ {os : List Oper} {vs : List Value} {bs : List Bool}, Each P F Inv os vs bs → ∀ {i : Nat} {o : Oper}, os[i]? = some o → ∃ b, bs[i]? = some b ∧ ∀ w, Inv w → if b = true then Gives P (execOp F.eval o) w (fun u w' => u = vs.getD i undef ∧ Inv w') else vs.getD i undef = undef ∧ Inv w
  | [], [], [], _, i, o, h => by simp at h
  | o :: os, v :: vs, true :: bs, ⟨h1, h2⟩, 0, o', h => by
    obtain rfl : o = o' := by simpa using h
    exact ⟨true, rfl, fun w hI => by rw [if_pos rfl]; exact h1 w hI⟩
  | o :: os, v :: vs, false :: bs, ⟨h1, h2⟩, 0, o', h => ⟨false, rfl, fun w hI => by rw [if_neg (by simp)]; exact ⟨h1, hI⟩⟩
  | o :: os, v :: vs, true :: bs, ⟨h1, h2⟩, i + 1, o', h => by
    obtain ⟨b, hb, hh⟩ := Each.at_ h2 (i := i) (o := o') (by simpa using h)
    exact ⟨b, by simpa using hb, by simpa using hh⟩
  | o :: os, v :: vs, false :: bs, ⟨h1, h2⟩, i + 1, o', h => by
    obtain ⟨b, hb, hh⟩ := Each.at_ h2 (i := i) (o := o') (by simpa using h)
    exact ⟨b, by simpa using hb, by simpa using hh⟩
  | [], [], _ :: _, h, _, _, _ => h.elim
  | [], _ :: _, _, h, _, _, _ => h.elim
  | _ :: _, [], _, h, _, _, _ => h.elim
  | _ :: _, _ :: _, [], h, _, _, _ => h.elim
/-- THE LAW, one obligation after the other -/
theorem region_list {id : Nat} {a0 : Act} {w0 : World} (hm : P.follows .mixedOrders = true) (F : Act) (vs : List Value) (bs : List Bool) (Inv : World → Prop) (hok : confOk ops = true) (hF : fin ops (fun i => vs.getD i undef) a0 = F)
    (hw : ((List.range ops.size).map fun i => ((ops[i]?).map fun o => Region.wanted o (yielded ops F.tmps)).getD true) = bs) (h0 : Inv w0.drew) (hE : Each P F Inv ops.toList vs bs) (hend : ∀ w : World, Inv w → Q .normal F w) : (Code.region id ops true).wp P Q a0 w0 := by
  subst hF
  refine region_conf hm (fun i => vs.getD i undef) Inv hok h0 (fun i o w ho hI => ?_) hend
  have hi : i < ops.size := (Array.getElem?_eq_some_iff.1 ho).1
  obtain ⟨b, hb, hh⟩ := hE.at_ (i := i) (o := o) (by rw [Array.getElem?_toList]; exact ho)
  rw [← hw, List.getElem?_map, List.getElem?_range hi] at hb
  simp only [Option.map_some, ho, Option.getD_some, Option.some.injEq] at hb
  have := hh w hI
  rw [← hb] at this
  exact this
end
end Go.Proofs.YtpokelkneblafaaGreatDoor
