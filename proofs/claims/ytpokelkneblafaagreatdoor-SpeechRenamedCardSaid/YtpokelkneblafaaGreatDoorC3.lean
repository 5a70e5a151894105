/- A region that draws its order, where what some operations come to is not known beforehand: a ghost is chosen when they come; for every program. -/
import Derived.Test.YtpokelkneblafaaGreatDoorC2
namespace Go.Proofs.YtpokelkneblafaaGreatDoor
section
variable {P : Program} {ops : Array Oper} {Q : Exit → Act → World → Prop} {X : Type}
theorem OnWay.swap {v v' : Nat → Value} {a0 : Act} {L : Nat → Bool} {a : Act} (hd : dstsOk ops = true) (h : OnWay ops v a0 L a) (he : ∀ i, L i = true → v' i = v i) : OnWay ops v' a0 L a :=
  ⟨h.size, h.defers, fun i t hi hL => by
    rw [h.done i t hi hL]
    by_cases ht : t < a0.tmps.size
    · rw [fin_at hd hi ht, fin_at hd hi ht, he i hL]
    · have e1 : (fin ops v a0).tmps[t]? = none := Array.getElem?_eq_none (show (finOn ops v a0 (List.range ops.size)).tmps.size ≤ t by rw [(finOn_frame v _ a0).1]; exact Nat.le_of_not_lt ht)
      have e2 : (fin ops v' a0).tmps[t]? = none := Array.getElem?_eq_none (show (finOn ops v' a0 (List.range ops.size)).tmps.size ≤ t by rw [(finOn_frame v' _ a0).1]; exact Nat.le_of_not_lt ht)
      rw [e1, e2], h.rest⟩
theorem wpAny_ghost {vals : X → Nat → Value} {a0 : Act} {Inv : (Nat → Bool) → X → World → Prop} (hok : confOk ops = true)
    (hstep : ∀ (i : Nat) (o : Oper) (L : Nat → Bool) (x : X) (w : World), ops[i]? = some o → L i = false → (∀ e ∈ o.after, Region.binds .any e = true → L e.on = true) → Inv L x w →
      if Region.wanted o (yielded ops (fin ops (vals x) a0).tmps) = true then Gives P (execOp (fin ops (vals x) a0).eval o) w (fun v w' => ∃ x', v = vals x' i ∧ (∀ j, L j = true → vals x' j = vals x j) ∧ Inv (fun j => L j || j == i) x' w') else vals x i = undef ∧ Inv (fun j => L j || j == i) x w)
    (hend : ∀ (L : Nat → Bool) (x : X) (w : World), (∀ i, i < ops.size → L i = true) → Inv L x w → Q .normal (fin ops (vals x) a0) w) :
    ∀ (fuel : Nat) (listed : Array Bool) (x : X) (a : Act) (w : World), listed.size = ops.size → (listed.toList.countP (· == false)) ≤ fuel → OnWay ops (vals x) a0 (fun j => listed.getD j false) a → Inv (fun j => listed.getD j false) x w → wpAny P .any ops Q fuel listed a w := by
  simp only [confOk, Bool.and_eq_true] at hok
  obtain ⟨⟨⟨hsel, hd⟩, hall⟩, hedge⟩ := hok
  have fini : ∀ (listed : Array Bool) (x : X) (a : Act) (w : World), listed.size = ops.size → OnWay ops (vals x) a0 (fun j => listed.getD j false) a → Inv (fun j => listed.getD j false) x w → Region.ready .any ops listed = [] → Q .normal a w := by
    intro listed x a w hs ho hI hr
    have hL : ∀ i, i < ops.size → listed.getD i false = true := by
      intro i
      induction i using Nat.strongRecOn with
      | _ i ih =>
        intro hi
        refine Classical.byContradiction fun hn => ?_
        have hm : i ∈ Region.ready .any ops listed := by
          rw [mem_ready]
          refine ⟨?_, ops[i], Array.getElem?_eq_getElem hi, fun e he hb => ?_⟩
          · have hil : i < listed.size := by omega
            simp only [Array.getD_eq_getD_getElem?, Array.getElem?_eq_getElem hil, Option.getD_some] at hn ⊢
            simpa using hn
          · have h1 := List.all_eq_true.1 hedge i (List.mem_range.2 hi)
            rw [Array.getElem?_eq_getElem hi] at h1
            have h2 := Array.all_eq_true'.1 h1 e he
            rw [hb] at h2
            have h3 : e.on < i := by simpa using h2
            exact ih e.on h3 (by omega)
        rw [hr] at hm
        cases hm
    rw [ho.end hL]
    exact hend _ x w hL hI
  intro fuel
  induction fuel with
  | zero =>
    intro listed x a w hs hc ho hI
    have hr : Region.ready .any ops listed = [] := by
      rw [List.eq_nil_iff_forall_not_mem]
      intro j hj
      rw [mem_ready] at hj
      obtain ⟨h0, o, hoj, _⟩ := hj
      have hjl : j < listed.size := by rw [hs]; exact (Array.getElem?_eq_some_iff.1 hoj).1
      have hf : listed[j] = false := by simpa [Array.getD_eq_getD_getElem?, Array.getElem?_eq_getElem hjl] using h0
      have : 0 < listed.toList.countP (· == false) := List.countP_pos_iff.2 ⟨false, by rw [← hf]; simp, rfl⟩
      omega
    exact ⟨hr, fini listed x a w hs ho hI hr⟩
  | succ fuel ih =>
    intro listed x a w hs hc ho hI
    refine ⟨fini listed x a w hs ho hI, fun i hi => ?_⟩
    rw [mem_ready] at hi
    obtain ⟨h0, o, hoi, hb⟩ := hi
    have hil : i < ops.size := (Array.getElem?_eq_some_iff.1 hoi).1
    have hil' : i < listed.size := by omega
    have hf : listed[i] = false := by simpa [Array.getD_eq_getD_getElem?, Array.getElem?_eq_getElem hil'] using h0
    have hLi : listed.getD i false = false := by simp [Array.getD_eq_getD_getElem?, Array.getElem?_eq_getElem hil', hf]
    have hL' : (fun j => (listed.setIfInBounds i true).getD j false) = fun j => listed.getD j false || j == i := by
      funext j
      by_cases hij : j = i
      · subst hij; simp [Array.getD_eq_getD_getElem?, hil']
      · rw [getD_set_ne false (Ne.symm hij)]; simp [hij]
    have hcount : (listed.setIfInBounds i true).toList.countP (· == false) ≤ fuel := by
      rw [Array.toList_setIfInBounds]
      have hl : i < listed.toList.length := by simpa using hil'
      have hs1 : listed.toList.countP (· == false) = (listed.toList.set i true).countP (· == false) + 1 := by
        exact count_set _ _ (by rw [List.getElem?_eq_getElem hl]; simpa using hf)
      omega
    have hoOk : operOk ops o = true := by
      obtain ⟨_, hx⟩ := Array.getElem?_eq_some_iff.1 hoi
      exact Array.all_eq_true'.1 hall o (by rw [← hx]; exact Array.getElem_mem _)
    obtain ⟨hev, hwant⟩ := ho.eval hoOk hb
    have hexec : execOp a.eval o = execOp (fin ops (vals x) a0).eval o := execOp_congr o (fun cs b => Region.noSelect_spec hsel i o cs b hoi) hev
    have hst := hstep i o _ x w hoi hLi hb hI
    have hdst : o.dst = dstAt ops i := by unfold dstAt; rw [hoi]; rfl
    have next : ∀ x' w', (∀ j, listed.getD j false = true → vals x' j = vals x j) → Inv (fun j => listed.getD j false || j == i) x' w' → wpAny P .any ops Q fuel (listed.setIfInBounds i true) (a.put o.dst (vals x' i)) w' := by
      intro x' w' hv hI'
      refine ih _ x' _ w' (by simpa using hs) hcount ?_ (by rw [hL']; exact hI')
      rw [hL', hdst]
      exact (ho.swap hd hv).put hd i hil hLi
    unfold wpOp
    simp only [hoi]
    rw [hwant]
    by_cases hw : Region.wanted o (yielded ops (fin ops (vals x) a0).tmps) = true
    · rw [if_pos hw] at hst ⊢
      refine .inl (Gives.wp (R := fun v w' => ∃ x', v = vals x' i ∧ (∀ j, listed.getD j false = true → vals x' j = vals x j) ∧ Inv (fun j => listed.getD j false || j == i) x' w') (by rw [hexec]; exact hst) ?_)
      rintro v w' ⟨x', rfl, hv, hI'⟩
      exact next x' w' hv hI'
    · rw [if_neg hw] at hst ⊢
      rw [← hst.1]
      exact next x w (fun _ _ => rfl) hst.2
/-- what an operation may not turn of the values laid down -/
def KeepsV (ops : Array Oper) (i : Nat) (l l' : List Value) : Prop := ∀ j, j ≠ i → reach ops i ops.size j = false → l'.getD j undef = l.getD j undef
theorem KeepsV.same {i : Nat} {l : List Value} : KeepsV ops i l l := fun _ _ _ => rfl
/-- one obligation for each operation: what is listed before it is done, what waits for it is not -/
def EachG (P : Program) (F : X → Act) (ops : Array Oper) (tr : List Nat) (vs : X → List Value) (Inv : List Bool → X → World → Prop) : Nat → List Oper → List Bool → Prop
  | i, o :: os, true :: bs => (∀ (L : Nat → Bool) (x : X) (w : World), L i = false → (∀ j, reach ops j ops.size i = true → L j = true) → (∀ j, reach ops i ops.size j = true → L j = false) → Inv (tr.map L) x w → Gives P (execOp (F x).eval o) w fun u w' => ∃ x', u = (vs x').getD i undef ∧ KeepsV ops i (vs x) (vs x') ∧ Inv (tr.map fun j => j == i || L j) x' w') ∧ EachG P F ops tr vs Inv (i + 1) os bs
  | i, _ :: os, false :: bs => ((∀ x, (vs x).getD i undef = undef) ∧ ∀ (L : Nat → Bool) (x : X) (w : World), Inv (tr.map L) x w → Inv (tr.map fun j => j == i || L j) x w) ∧ EachG P F ops tr vs Inv (i + 1) os bs
  | _, [], [] => True
  | _, _, _ => False
theorem EachG.at_ {F : X → Act} {tr : List Nat} {vs : X → List Value} {Inv : List Bool → X → World → Prop} : ∀ {n : Nat} {os : List Oper} {bs : List Bool}, EachG P F ops tr vs Inv n os bs → ∀ {i : Nat} {o : Oper}, os[i]? = some o → ∃ b, bs[i]? = some b ∧
    if b = true then (∀ (L : Nat → Bool) (x : X) (w : World), L (n + i) = false → (∀ j, reach ops j ops.size (n + i) = true → L j = true) → (∀ j, reach ops (n + i) ops.size j = true → L j = false) → Inv (tr.map L) x w → Gives P (execOp (F x).eval o) w fun u w' => ∃ x', u = (vs x').getD (n + i) undef ∧ KeepsV ops (n + i) (vs x) (vs x') ∧ Inv (tr.map fun j => j == (n + i) || L j) x' w')
    else (∀ x, (vs x).getD (n + i) undef = undef) ∧ ∀ (L : Nat → Bool) (x : X) (w : World), Inv (tr.map L) x w → Inv (tr.map fun j => j == (n + i) || L j) x w
  | n, [], [], _, i, o, h => by simp at h
  | n, o :: os, true :: bs, ⟨h1, h2⟩, 0, o', h => by
    obtain rfl : o = o' := by simpa using h
    exact ⟨true, rfl, by rw [if_pos rfl]; exact h1⟩
  | n, o :: os, false :: bs, ⟨h1, h2⟩, 0, o', h => ⟨false, rfl, by rw [if_neg (by simp)]; exact h1⟩
  | n, o :: os, true :: bs, ⟨h1, h2⟩, i + 1, o', h => by
    obtain ⟨b, hb, hh⟩ := EachG.at_ h2 (i := i) (o := o') (by simpa using h)
    rw [show n + 1 + i = n + (i + 1) by omega] at hh
    exact ⟨b, by simpa using hb, hh⟩
  | n, o :: os, false :: bs, ⟨h1, h2⟩, i + 1, o', h => by
    obtain ⟨b, hb, hh⟩ := EachG.at_ h2 (i := i) (o := o') (by simpa using h)
    rw [show n + 1 + i = n + (i + 1) by omega] at hh
    exact ⟨b, by simpa using hb, hh⟩
  | _, [], _ :: _, h, _, _, _ => h.elim
  | _, _ :: _, [], h, _, _, _ => h.elim
/-- THE LAW -/
theorem region_ghost {id : Nat} {a0 : Act} {w0 : World} (hm : P.follows .mixedOrders = true) (F : X → Act) (vs : X → List Value) (bs : List Bool) (tr : List Nat) (Inv : List Bool → X → World → Prop) (x0 : X) (hok : confOk ops = true) (hF : ∀ x, fin ops (fun i => (vs x).getD i undef) a0 = F x)
    (hw : ∀ x, ((List.range ops.size).map fun i => ((ops[i]?).map fun o => Region.wanted o (yielded ops (F x).tmps)).getD true) = bs) (htr : (tr.all fun i => decide (i < ops.size)) = true) (h0 : Inv (tr.map fun _ => false) x0 w0.drew) (hE : EachG P F ops tr vs Inv 0 ops.toList bs) (hend : ∀ (x : X) (w : World), Inv (tr.map fun _ => true) x w → Q .normal (F x) w) : (Code.region id ops true).wp P Q a0 w0 := by
  refine wp_region_any hm ?_
  refine wpAny_ghost (vals := fun x i => (vs x).getD i undef) (a0 := a0) (Inv := fun L x w => Closed ops L ∧ Inv (tr.map L) x w) hok (fun i o L x w ho hLi hb hI => ?_) (fun L x w hL hI => ?_) ops.size (Array.replicate ops.size false) x0 a0 _ (by simp) (by
    refine Nat.le_trans (List.countP_le_length) ?_
    simp) ⟨rfl, rfl, fun i t _ h => ?_, fun _ _ => rfl⟩ ⟨fun i o _ h => ?_, ?_⟩
  · obtain ⟨hc, hI⟩ := hI
    have hi : i < ops.size := (Array.getElem?_eq_some_iff.1 ho).1
    obtain ⟨b, hb2, hh⟩ := hE.at_ (i := i) (o := o) (by rw [Array.getElem?_toList]; exact ho)
    rw [Nat.zero_add] at hh
    rw [← hw x, List.getElem?_map, List.getElem?_range hi] at hb2
    simp only [Option.map_some, ho, Option.getD_some, Option.some.injEq] at hb2
    have hca := closed_add hc ho hb
    have hFx : fin ops (fun i => (vs x).getD i undef) a0 = F x := hF x
    rw [hFx, hb2]
    have hno : ∀ j, reach ops i ops.size j = true → L j = false := fun j hj => by
      cases hLj : L j with
      | false => rfl
      | true =>
        obtain ⟨oj, hoj⟩ := reach_some hj
        have := reach_listed hc hoj (hc j oj hoj hLj) hj
        rw [hLi] at this; cases this
    split
    · rename_i hbt
      rw [if_pos hbt] at hh
      have hg := hh L x w hLi (fun j hj => reach_listed hc ho hb hj) hno hI
      unfold Gives at hg ⊢
      revert hg
      have key : ∀ u w', (∃ x', u = (vs x').getD i undef ∧ KeepsV ops i (vs x) (vs x') ∧ Inv (tr.map fun j => j == i || L j) x' w') → ∃ x', u = (vs x').getD i undef ∧ (∀ j, L j = true → (vs x').getD j undef = (vs x).getD j undef) ∧ Closed ops (fun j => L j || j == i) ∧ Inv (tr.map fun j => L j || j == i) x' w' := by
        rintro u w' ⟨x', h1, h2, h3⟩
        refine ⟨x', h1, fun j hj => h2 j (fun e => by subst e; rw [hLi] at hj; cases hj) ?_, hca, by rw [or_swap]; exact h3⟩
        cases hr : reach ops i ops.size j with
        | false => rfl
        | true => rw [hno j hr] at hj; cases hj
      generalize (execOp (F x).eval o).run P w = r
      cases r with
      | halt e w' => exact fun h => h
      | ok n w' =>
        cases n with
        | value v => exact fun h => key _ _ h
        | skip => exact fun h => key _ _ h
        | enter f args => exact fun h => Calls.mono h fun e w'' ⟨v, h1, h2⟩ => ⟨v, h1, key _ _ h2⟩
        | _ => exact fun h => h
    · rename_i hbt
      rw [if_neg hbt] at hh
      exact ⟨hh.1 x, hca, by rw [or_swap]; exact hh.2 L x w hI⟩
  · have e : tr.map L = tr.map fun _ => true := List.map_congr_left fun i hi => by
      have := List.all_eq_true.1 htr i hi
      exact hL i (by simpa using this)
    rw [← e] at hend
    have hFx : fin ops (fun i => (vs x).getD i undef) a0 = F x := hF x
    show Q .normal (fin ops (fun i => (vs x).getD i undef) a0) w
    rw [hFx]
    exact hend x w hI.2
  · rw [Array.getD_eq_getD_getElem?, Array.getElem?_replicate] at h
    split at h <;> simp at h
  · dsimp only at h
    rw [Array.getD_eq_getD_getElem?, Array.getElem?_replicate] at h
    split at h <;> simp at h
  · have e : (fun j => (Array.replicate ops.size false).getD j false) = fun _ => false := by
      funext j
      rw [Array.getD_eq_getD_getElem?, Array.getElem?_replicate]
      split <;> rfl
    rw [e]
    exact h0
/-- what the two lists of values share -/
def SameV (ops : Array Oper) (i : Nat) : Nat → List Value → List Value → Prop
  | k, v :: l, v' :: l' => (k = i ∨ reach ops i ops.size k = true ∨ v' = v) ∧ SameV ops i (k + 1) l l'
  | _, [], [] => True
  | _, _, _ => False
theorem SameV.at_ {i : Nat} : ∀ {k : Nat} {l l' : List Value}, SameV ops i k l l' → ∀ j, k + j ≠ i → reach ops i ops.size (k + j) = false → l'.getD j undef = l.getD j undef
  | k, v :: l, v' :: l', ⟨h1, h2⟩, 0, hj, hr => by
    rcases h1 with h | h | h
    · exact (hj h).elim
    · rw [Nat.add_zero, h] at hr; cases hr
    · exact h
  | k, v :: l, v' :: l', ⟨h1, h2⟩, j + 1, hj, hr => by
    rw [List.getD_cons_succ, List.getD_cons_succ]
    exact SameV.at_ h2 j (by omega) (by rw [show k + 1 + j = k + (j + 1) by omega]; exact hr)
  | _, [], [], _, _, _, _ => rfl
  | _, [], _ :: _, h, _, _, _ => h.elim
  | _, _ :: _, [], h, _, _, _ => h.elim
theorem KeepsV.of_same {i : Nat} {l l' : List Value} (h : SameV ops i 0 l l') : KeepsV ops i l l' := fun j hj hr => h.at_ j (by omega) (by rw [Nat.zero_add]; exact hr)
/-- an operation with a value known beforehand -/
theorem Gives.plain {s : Sem Next} {w w' : World} {v : Value} {i : Nat} {x : X} {vs : X → List Value} {I : X → World → Prop} (h : s.run P w = .ok (.value v) w') (hv : v = (vs x).getD i undef) (hI : I x w') : Gives P s w fun u w'' => ∃ x', u = (vs x').getD i undef ∧ KeepsV ops i (vs x) (vs x') ∧ I x' w'' :=
  Gives.value h ⟨x, hv, KeepsV.same, hI⟩
end
end Go.Proofs.YtpokelkneblafaaGreatDoor
