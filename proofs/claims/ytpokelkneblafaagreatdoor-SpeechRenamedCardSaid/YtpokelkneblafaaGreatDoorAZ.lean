/- Alpha-equivalence, plain: terms with the same shape whose names are tied by a relation; substitution of a variable; renaming. -/
import Derived.Test.YtpokelkneblafaaGreatDoorSM
namespace Go.Proofs.YtpokelkneblafaaGreatDoor
abbrev Nm := List UInt8
/-- the relation inside of a binder -/
def pushR (R : Nm → Nm → Prop) (v u : Nm) : Nm → Nm → Prop := fun a b => (a = v ∧ b = u) ∨ (a ≠ v ∧ b ≠ u ∧ R a b)
def scpR (bnd : Bool) (R : Nm → Nm → Prop) (v u : Nm) : Nm → Nm → Prop := if bnd then pushR R v u else R
mutual
/-- whether a name is free in a term -/
def frM (s : Nm) : Trm → Bool
  | .mk k a v _ ts => if k = 2 then decide (a.data.toList = s) else frML s (decide (k = 5)) v.data.toList ts
def frML (s : Nm) (bnd : Bool) (v : Nm) : List Trm → Bool
  | [] => false
  | t :: ts => (frM s t && !(bnd && (ts.isEmpty && decide (v = s)))) || frML s bnd v ts
end
mutual
/-- terms with the same shape whose free names are tied by a relation -/
def Alk (R : Nm → Nm → Prop) : Trm → Trm → Prop
  | .mk k a v f ts, .mk k' a' v' f' ts' => k = k' ∧ f.data.toList = f'.data.toList ∧ ts.length = ts'.length ∧ (if k = 2 then R a.data.toList a'.data.toList else a.data.toList = a'.data.toList ∧ AlkL R (decide (k = 5)) v.data.toList v'.data.toList ts ts')
def AlkL (R : Nm → Nm → Prop) (bnd : Bool) (v u : Nm) : List Trm → List Trm → Prop
  | [], [] => True
  | t :: ts, t' :: ts' => Alk (scpR (bnd && ts.isEmpty) R v u) t t' ∧ AlkL R bnd v u ts ts'
  | _, _ => False
end
theorem push_mono {R S : Nm → Nm → Prop} {v u a b : Nm} (h : a ≠ v → R a b → S a b) (hp : pushR R v u a b) : pushR S v u a b := by
  rcases hp with hp | ⟨h1, h2, h3⟩
  · exact .inl hp
  · exact .inr ⟨h1, h2, h h1 h3⟩
theorem alkL_len {R : Nm → Nm → Prop} {bnd : Bool} {v u : Nm} : ∀ {ts ts' : List Trm}, AlkL R bnd v u ts ts' → ts.length = ts'.length
  | [], [], _ => rfl
  | t :: ts, t' :: ts', h => by rw [AlkL] at h; rw [List.length_cons, List.length_cons, alkL_len h.2]
  | [], _ :: _, h => by rw [AlkL] at h; exact h.elim; all_goals simp
  | _ :: _, [], h => by rw [AlkL] at h; exact h.elim; all_goals simp
mutual
/-- only the free names of the first term count -/
theorem Alk.mono : ∀ {R S : Nm → Nm → Prop} (t t' : Trm), (∀ a b, frM a t = true → R a b → S a b) → Alk R t t' → Alk S t t'
  | R, S, .mk k a v f ts, .mk k' a' v' f' ts', h, hA => by
    rw [Alk] at hA ⊢
    obtain ⟨h1, h2, h3, h4⟩ := hA
    refine ⟨h1, h2, h3, ?_⟩
    by_cases hk : k = 2
    · rw [if_pos hk] at h4 ⊢
      exact h _ _ (by rw [frM, if_pos hk]; simp) h4
    · rw [if_neg hk] at h4 ⊢
      exact ⟨h4.1, AlkL.mono ts ts' (fun x y hx => h x y (by rw [frM, if_neg hk]; exact hx)) h4.2⟩
theorem AlkL.mono : ∀ {R S : Nm → Nm → Prop} {bnd : Bool} {v u : Nm} (ts ts' : List Trm), (∀ a b, frML a bnd v ts = true → R a b → S a b) → AlkL R bnd v u ts ts' → AlkL S bnd v u ts ts'
  | R, S, bnd, v, u, [], [], h, hA => by rw [AlkL]; trivial
  | R, S, bnd, v, u, t :: ts, t' :: ts', h, hA => by
    rw [AlkL] at hA ⊢
    refine ⟨Alk.mono t t' (fun a b hf hR => ?_) hA.1, AlkL.mono ts ts' (fun a b hf hR => h a b (by rw [frML, hf, Bool.or_true]) hR) hA.2⟩
    unfold scpR at hR ⊢
    cases hb : bnd && ts.isEmpty
    · rw [hb] at hR
      simp only [Bool.false_eq_true, if_false] at hR ⊢
      refine h a b ?_ hR
      rw [frML, hf, ← Bool.and_assoc, hb]
      simp
    · rw [hb] at hR
      simp only [if_true] at hR ⊢
      refine push_mono (fun hav hr => h a b ?_ hr) hR
      rw [frML, hf, ← Bool.and_assoc, hb, decide_eq_false (fun e => hav e.symm)]
      simp
  | R, S, bnd, v, u, [], _ :: _, h, hA => by rw [AlkL] at hA; exact hA.elim; all_goals simp
  | R, S, bnd, v, u, _ :: _, [], h, hA => by rw [AlkL] at hA; exact hA.elim; all_goals simp
end
mutual
theorem Alk.refl : ∀ {R : Nm → Nm → Prop} (t : Trm), (∀ a, frM a t = true → R a a) → Alk R t t
  | R, .mk k a v f ts, h => by
    rw [Alk]
    refine ⟨rfl, rfl, rfl, ?_⟩
    by_cases hk : k = 2
    · rw [if_pos hk]
      exact h _ (by rw [frM, if_pos hk]; simp)
    · rw [if_neg hk]
      exact ⟨rfl, AlkL.refl ts fun a ha => h a (by rw [frM, if_neg hk]; exact ha)⟩
theorem AlkL.refl : ∀ {R : Nm → Nm → Prop} {bnd : Bool} {v : Nm} (ts : List Trm), (∀ a, frML a bnd v ts = true → R a a) → AlkL R bnd v v ts ts
  | R, bnd, v, [], h => by rw [AlkL]; trivial
  | R, bnd, v, t :: ts, h => by
    rw [AlkL]
    refine ⟨Alk.refl t fun a hf => ?_, AlkL.refl ts fun a hf => h a (by rw [frML, hf, Bool.or_true])⟩
    unfold scpR
    cases hb : bnd && ts.isEmpty
    · simp only [Bool.false_eq_true, if_false]
      refine h a ?_
      rw [frML, hf, ← Bool.and_assoc, hb]
      simp
    · simp only [if_true]
      by_cases hav : a = v
      · exact .inl ⟨hav, hav⟩
      · refine .inr ⟨hav, hav, h a ?_⟩
        rw [frML, hf, ← Bool.and_assoc, hb, decide_eq_false (fun e => hav e.symm)]
        simp
end
def compR (R S : Nm → Nm → Prop) : Nm → Nm → Prop := fun a c => ∃ b, R a b ∧ S b c
mutual
theorem Alk.trans : ∀ {R S : Nm → Nm → Prop} (t t' t'' : Trm), Alk R t t' → Alk S t' t'' → Alk (compR R S) t t''
  | R, S, .mk k a v f ts, .mk k' a' v' f' ts', .mk k'' a'' v'' f'' ts'', h, g => by
    rw [Alk] at h g ⊢
    obtain ⟨rfl, h2, h3, h4⟩ := h
    obtain ⟨rfl, g2, g3, g4⟩ := g
    refine ⟨rfl, h2.trans g2, h3.trans g3, ?_⟩
    by_cases hk : k = 2
    · rw [if_pos hk] at h4 g4 ⊢
      exact ⟨_, h4, g4⟩
    · rw [if_neg hk] at h4 g4 ⊢
      exact ⟨h4.1.trans g4.1, AlkL.trans ts ts' ts'' h4.2 g4.2⟩
theorem AlkL.trans : ∀ {R S : Nm → Nm → Prop} {bnd : Bool} {v u x : Nm} (ts ts' ts'' : List Trm), AlkL R bnd v u ts ts' → AlkL S bnd u x ts' ts'' → AlkL (compR R S) bnd v x ts ts''
  | R, S, bnd, v, u, x, [], [], [], h, g => by rw [AlkL]; trivial
  | R, S, bnd, v, u, x, t :: ts, t' :: ts', t'' :: ts'', h, g => by
    have hl := alkL_len h
    rw [AlkL] at h g ⊢
    refine ⟨?_, AlkL.trans ts ts' ts'' h.2 g.2⟩
    have he : ts'.isEmpty = ts.isEmpty := by
      rw [List.length_cons, List.length_cons] at hl
      cases ts <;> cases ts' <;> simp_all
    have g1 := g.1
    rw [he] at g1
    refine Alk.mono t t'' (fun a c _ hr => ?_) (Alk.trans t t' t'' h.1 g1)
    unfold scpR at hr ⊢
    cases hb : bnd && ts.isEmpty
    · rw [hb] at hr
      simpa using hr
    · rw [hb] at hr
      simp only [if_true] at hr ⊢
      obtain ⟨b, h1, h2⟩ := hr
      rcases h1 with ⟨e1, e2⟩ | ⟨n1, n2, r1⟩
      · rcases h2 with ⟨e3, e4⟩ | ⟨n3, _, _⟩
        · exact .inl ⟨e1, e4⟩
        · exact absurd e2 n3
      · rcases h2 with ⟨e3, e4⟩ | ⟨_, n4, r2⟩
        · exact absurd e3 n2
        · exact .inr ⟨n1, n4, b, r1, r2⟩
  | R, S, bnd, v, u, x, [], _ :: _, _, h, g => by rw [AlkL] at h; exact h.elim; all_goals simp
  | R, S, bnd, v, u, x, _ :: _, [], _, h, g => by rw [AlkL] at h; exact h.elim; all_goals simp
  | R, S, bnd, v, u, x, [], [], _ :: _, h, g => by rw [AlkL] at g; exact g.elim; all_goals simp
  | R, S, bnd, v, u, x, _ :: _, _ :: _, [], h, g => by rw [AlkL] at g; exact g.elim; all_goals simp
end
mutual
theorem Alk.cnt : ∀ {R : Nm → Nm → Prop} (t t' : Trm), formM t = true → formM t' = true → Alk R t t' → cntM t' = cntM t
  | R, .mk k a v f ts, .mk k' a' v' f' ts', hm, hm', h => by
    rw [Alk] at h
    obtain ⟨rfl, h2, h3, h4⟩ := h
    rw [formM, Bool.and_eq_true] at hm hm'
    rw [cntM, cntM]
    by_cases hk : k = 2
    · have h1 := hm.1
      have h2 := hm'.1
      unfold ownM at h1 h2
      rw [if_neg (by omega), if_pos hk] at h1 h2
      simp only [Bool.and_eq_true, decide_eq_true_eq] at h1 h2
      rw [List.length_eq_zero_iff.1 h1.1.2.2, List.length_eq_zero_iff.1 h2.1.2.2]
    · rw [if_neg hk] at h4
      rw [AlkL.cnt ts ts' hm.2 hm'.2 h4.2]
theorem AlkL.cnt : ∀ {R : Nm → Nm → Prop} {bnd : Bool} {v u : Nm} (ts ts' : List Trm), formML ts = true → formML ts' = true → AlkL R bnd v u ts ts' → cntL ts' = cntL ts
  | R, bnd, v, u, [], [], _, _, h => rfl
  | R, bnd, v, u, t :: ts, t' :: ts', hm, hm', h => by
    rw [AlkL] at h
    rw [formML, Bool.and_eq_true] at hm hm'
    rw [cntL, cntL, Alk.cnt t t' hm.1 hm'.1 h.1, AlkL.cnt ts ts' hm.2 hm'.2 h.2]
  | R, bnd, v, u, [], _ :: _, _, _, h => by rw [AlkL] at h; exact h.elim; all_goals simp
  | R, bnd, v, u, _ :: _, [], _, _, h => by rw [AlkL] at h; exact h.elim; all_goals simp
end
/-- words of a spoken text but for the words "capital" and "name" -/
def oneX (l : Nm) : Nat := if 1 < l.length ∨ (l.headD 0).toNat ≤ 90 then 1 else 0
mutual
def bwM : Trm → Nat
  | .mk k _ _ f ts => if k = 1 then 1 else if k = 2 then 1 else if k = 3 then 3 else 3 + ((if k = 5 then 2 else 0) + ((if f.data.toList.isEmpty then 0 else 2) + bwL ts))
def bwL : List Trm → Nat
  | [] => 0
  | t :: ts => 1 + bwM t + bwL ts
end
mutual
/-- the number of words "capital" and "name" -/
def exM : Trm → Nat
  | .mk k a v _ ts => (if k = 2 then oneX a.data.toList else 0) + (if k = 5 then oneX v.data.toList else 0) + exL ts
def exL : List Trm → Nat
  | [] => 0
  | t :: ts => exM t + exL ts
end
theorem spoken_len {l : Nm} (h : idB l = true) : (spokenL l).length = 1 + oneX l := by
  unfold spokenL oneX
  rw [if_pos h]
  by_cases h1 : 1 < l.length
  · rw [if_pos h1, if_pos (.inl h1)]; rfl
  · rw [if_neg h1]
    by_cases h2 : (l.headD 0).toNat ≤ 90
    · rw [if_pos h2, if_pos (.inr h2)]; rfl
    · rw [if_neg h2, if_neg (by rintro (h | h) <;> contradiction)]; rfl
mutual
theorem words_len : ∀ (t : Trm), formM t = true → (prtM t).length = bwM t + exM t
  | .mk k a v f ts, hm => by
    rw [formM, Bool.and_eq_true] at hm
    obtain ⟨ho, hl⟩ := hm
    unfold ownM at ho
    rw [prtM, bwM, exM]
    by_cases k1 : k = 1
    · subst k1
      simp only [if_true, Bool.and_eq_true, decide_eq_true_eq] at ho
      rw [List.length_eq_zero_iff.1 ho.1.2.2]
      simp [exL]
    rw [if_neg k1] at ho ⊢
    rw [if_neg k1]
    by_cases k2 : k = 2
    · subst k2
      simp only [if_true, Bool.and_eq_true, decide_eq_true_eq] at ho
      rw [List.length_eq_zero_iff.1 ho.1.2.2]
      simp [exL, spoken_len ho.2]
    rw [if_neg k2] at ho ⊢
    rw [if_neg k2, if_neg k2]
    by_cases k3 : k = 3
    · subst k3
      simp only [if_true, Bool.and_eq_true, decide_eq_true_eq] at ho
      rw [List.length_eq_zero_iff.1 ho.1.2.2]
      simp [exL]
    rw [if_neg k3] at ho ⊢
    rw [if_neg k3]
    have hL := words_lenL ts true hl
    have hv : (if k = 5 then wOver :: spokenL v.data.toList else []).length = (if k = 5 then 2 else 0) + (if k = 5 then oneX v.data.toList else 0) := by
      by_cases k5 : k = 5
      · subst k5
        rw [if_neg (by decide), if_pos rfl] at ho
        simp only [Bool.and_eq_true, decide_eq_true_eq] at ho
        rw [if_pos rfl, if_pos rfl, if_pos rfl, List.length_cons, spoken_len ho.2.2.1]
        omega
      · rw [if_neg k5, if_neg k5, if_neg k5]; rfl
    have hf : (if f.data.toList.isEmpty then [] else [wAs, f.data.toList]).length = (if f.data.toList.isEmpty then 0 else 2) := by split <;> rfl
    simp only [List.length_append, hv, hf, hL, List.length_cons, List.length_nil]
    omega
theorem words_lenL : ∀ (ts : List Trm) (b : Bool), formML ts = true → (prtL b ts).length = bwL ts + exL ts
  | [], b, _ => rfl
  | t :: ts, b, hm => by
    rw [formML, Bool.and_eq_true] at hm
    rw [prtL, bwL, exL, List.length_cons, List.length_append, words_len t hm.1, words_lenL ts false hm.2]
    omega
end
mutual
theorem Alk.words : ∀ {R : Nm → Nm → Prop} (t t' : Trm), Alk R t t' → bwM t' = bwM t
  | R, .mk k a v f ts, .mk k' a' v' f' ts', h => by
    rw [Alk] at h
    obtain ⟨rfl, h2, h3, h4⟩ := h
    rw [bwM, bwM, h2]
    by_cases hk : k = 2
    · subst hk; rfl
    · rw [if_neg hk] at h4
      rw [AlkL.words ts ts' h4.2]
theorem AlkL.words : ∀ {R : Nm → Nm → Prop} {bnd : Bool} {v u : Nm} (ts ts' : List Trm), AlkL R bnd v u ts ts' → bwL ts' = bwL ts
  | R, bnd, v, u, [], [], h => rfl
  | R, bnd, v, u, t :: ts, t' :: ts', h => by
    rw [AlkL] at h
    rw [bwL, bwL, Alk.words t t' h.1, AlkL.words ts ts' h.2]
  | R, bnd, v, u, [], _ :: _, h => by rw [AlkL] at h; exact h.elim; all_goals simp
  | R, bnd, v, u, _ :: _, [], h => by rw [AlkL] at h; exact h.elim; all_goals simp
end
/-- a name for another one -/
def subR (x y : Nm) : Nm → Nm → Prop := fun a b => b = if a = x then y else a
/-- case A: nothing to do under the binder -/
theorem sub_skip {x y v : Nm} {s : Trm} (h : v = x ∨ frM x s = false) : Alk (pushR (subR x y) v v) s s := Alk.refl s fun a ha => by
  by_cases hv : a = v
  · exact .inl ⟨hv, hv⟩
  · refine .inr ⟨hv, hv, ?_⟩
    unfold subR
    rw [if_neg]
    rintro rfl
    rcases h with h | h
    · exact hv h.symm
    · rw [h] at ha; cases ha
/-- case B: the binder does not catch -/
theorem sub_in {x y v : Nm} {s s' : Trm} (h1 : v ≠ x) (h2 : v ≠ y) (h : Alk (subR x y) s s') : Alk (pushR (subR x y) v v) s s' := Alk.mono s s' (fun a b _ hr => by
  unfold subR at hr
  by_cases hv : a = v
  · refine .inl ⟨hv, ?_⟩
    rw [hr, if_neg (fun e => h1 (hv.symm.trans e)), hv]
  · refine .inr ⟨hv, ?_, hr⟩
    rw [hr]
    split
    · exact fun e => h2 e.symm
    · exact hv) h
/-- case C: the binder takes another name -/
theorem sub_new {x y v z : Nm} {s s1 s2 : Trm} (hz : frM z s = false) (hzx : z ≠ x) (hzy : z ≠ y) (h : Alk (subR v z) s s1) (g : Alk (subR x y) s1 s2) : Alk (pushR (subR x y) v z) s s2 := Alk.mono s s2 (fun a b ha hr => by
  obtain ⟨m, r1, r2⟩ := hr
  unfold subR at r1 r2
  by_cases hv : a = v
  · refine .inl ⟨hv, ?_⟩
    rw [r2, r1, if_pos hv, if_neg hzx]
  · rw [if_neg hv] at r1
    subst r1
    refine .inr ⟨hv, ?_, r2⟩
    rw [r2]
    split
    · exact fun e => hzy e.symm
    · rintro rfl
      rw [hz] at ha; cases ha) (Alk.trans s s1 s2 h g)
/-- a renamed binder -/
theorem sub_eq {v z : Nm} {s s' : Trm} (hz : frM z s = false) (h : Alk (subR v z) s s') : Alk (pushR Eq v z) s s' := Alk.mono s s' (fun a b ha hr => by
  unfold subR at hr
  by_cases hv : a = v
  · rw [if_pos hv] at hr
    exact .inl ⟨hv, hr⟩
  · rw [if_neg hv] at hr
    subst hr
    refine .inr ⟨hv, ?_, rfl⟩
    rintro rfl
    rw [hz] at ha; cases ha) h
theorem eq_scp {bnd : Bool} {v : Nm} {t t' : Trm} (h : Alk Eq t t') : Alk (scpR bnd Eq v v) t t' := Alk.mono t t' (fun a b _ hr => by
  subst hr
  unfold scpR
  split
  · by_cases hv : a = v
    · exact .inl ⟨hv, hv⟩
    · exact .inr ⟨hv, hv, rfl⟩
  · rfl) h
/-- arguments one by one -/
theorem AlkL.of {R : Nm → Nm → Prop} {bnd : Bool} {v u : Nm} : ∀ {ts ts' : List Trm}, ts.length = ts'.length → (∀ (i : Nat) t t', ts[i]? = some t → ts'[i]? = some t' → Alk (scpR (bnd && decide (i + 1 = ts.length)) R v u) t t') → AlkL R bnd v u ts ts'
  | [], [], _, _ => by rw [AlkL]; trivial
  | t :: ts, t' :: ts', hl, h => by
    rw [AlkL]
    refine ⟨?_, AlkL.of (by simpa using hl) fun i x x' hx hx' => ?_⟩
    · have := h 0 t t' rfl rfl
      rw [show decide (0 + 1 = (t :: ts).length) = ts.isEmpty by cases ts <;> simp] at this
      exact this
    · have := h (i + 1) x x' (by simpa using hx) (by simpa using hx')
      rw [show decide (i + 1 + 1 = (t :: ts).length) = decide (i + 1 = ts.length) by simp] at this
      exact this
  | [], _ :: _, hl, _ => by simp at hl
  | _ :: _, [], hl, _ => by simp at hl
/-- the place of a name in a stack of names, the newest first -/
def lkS : List Nm → Nm → Option Nat
  | [], _ => none
  | x :: r, s => if x = s then some 0 else (lkS r s).map (· + 1)
/-- names that stacks tie -/
def stkR (X Y : List Nm) : Nm → Nm → Prop := fun a b => lkS X a = lkS Y b ∧ (lkS X a = none → a = b)
theorem stk_nil {a b : Nm} (h : a = b) : stkR [] [] a b := ⟨rfl, fun _ => h⟩
theorem stk_push {X Y : List Nm} {v u a b : Nm} (h : pushR (stkR X Y) v u a b) : stkR (v :: X) (u :: Y) a b := by
  unfold stkR lkS
  rcases h with ⟨rfl, rfl⟩ | ⟨h1, h2, h3, h4⟩
  · rw [if_pos rfl, if_pos rfl]
    exact ⟨rfl, fun h => by cases h⟩
  · rw [if_neg (fun e => h1 e.symm), if_neg (fun e => h2 e.symm), h3]
    refine ⟨rfl, fun h => h4 ?_⟩
    rw [h3]
    cases hq : lkS Y b with
    | none => rfl
    | some n => rw [hq] at h; cases h
mutual
/-- the reference's check -/
def alkB (X Y : List Nm) : Trm → Trm → Bool
  | .mk k a v f ts, .mk k' a' v' f' ts' => decide (k = k') && (decide (f.data.toList = f'.data.toList) && (decide (ts.length = ts'.length) && (if k = 2 then decide (lkS X a.data.toList = lkS Y a'.data.toList) && (decide (lkS X a.data.toList ≠ none) || decide (a.data.toList = a'.data.toList)) else decide (a.data.toList = a'.data.toList) && alkBL X Y (decide (k = 5)) v.data.toList v'.data.toList ts ts')))
def alkBL (X Y : List Nm) (bnd : Bool) (v u : Nm) : List Trm → List Trm → Bool
  | t :: ts, t' :: ts' => (if bnd && ts.isEmpty then alkB (v :: X) (u :: Y) t t' else alkB X Y t t') && alkBL X Y bnd v u ts ts'
  | _, _ => true
end
mutual
theorem alk_ok : ∀ {X Y : List Nm} (t t' : Trm), Alk (stkR X Y) t t' → alkB X Y t t' = true
  | X, Y, .mk k a v f ts, .mk k' a' v' f' ts', h => by
    rw [Alk] at h
    obtain ⟨h1, h2, h3, h4⟩ := h
    rw [alkB, decide_eq_true h1, decide_eq_true h2, decide_eq_true h3, Bool.true_and, Bool.true_and, Bool.true_and]
    by_cases hk : k = 2
    · rw [if_pos hk] at h4 ⊢
      obtain ⟨g1, g2⟩ := h4
      rw [decide_eq_true g1, Bool.true_and]
      by_cases hn : lkS X a.data.toList = none
      · rw [decide_eq_true (g2 hn), Bool.or_true]
      · rw [decide_eq_true hn, Bool.true_or]
    · rw [if_neg hk] at h4 ⊢
      rw [decide_eq_true h4.1, Bool.true_and]
      exact alk_okL ts ts' h4.2
theorem alk_okL : ∀ {X Y : List Nm} {bnd : Bool} {v u : Nm} (ts ts' : List Trm), AlkL (stkR X Y) bnd v u ts ts' → alkBL X Y bnd v u ts ts' = true
  | X, Y, bnd, v, u, [], _, h => by cases ‹List Trm› <;> rfl
  | X, Y, bnd, v, u, _ :: _, [], h => rfl
  | X, Y, bnd, v, u, t :: ts, t' :: ts', h => by
    rw [AlkL] at h
    rw [alkBL, alk_okL ts ts' h.2, Bool.and_true]
    obtain ⟨h1, _⟩ := h
    unfold scpR at h1
    cases hb : bnd && ts.isEmpty
    · rw [hb] at h1
      simp only [Bool.false_eq_true, if_false] at h1 ⊢
      exact alk_ok t t' h1
    · rw [hb] at h1
      simp only [if_true] at h1 ⊢
      exact alk_ok t t' (Alk.mono t t' (fun a b _ => stk_push) h1)
end
/-- the arguments that substitution has made so far -/
def SubsQ (x y : Nm) (bnd : Bool) (v u : Nm) (ts us : List Trm) : Prop := ∀ (i : Nat) t t', ts[i]? = some t → us[i]? = some t' → Alk (scpR (bnd && decide (i + 1 = ts.length)) (subR x y) v u) t t' ∧ formM t' = true
theorem SubsQ.nil (x y : Nm) (bnd : Bool) (v u : Nm) (ts : List Trm) : SubsQ x y bnd v u ts [] := fun i t t' _ h => by simp at h
theorem SubsQ.snoc {x y : Nm} {bnd : Bool} {v u : Nm} {ts us : List Trm} {t t' : Trm} (h : SubsQ x y bnd v u ts us) (ht : ts[us.length]? = some t) (hA : Alk (scpR (bnd && decide (us.length + 1 = ts.length)) (subR x y) v u) t t') (hm : formM t' = true) : SubsQ x y bnd v u ts (us ++ [t']) := fun i p p' hp hp' => by
  rcases Nat.lt_trichotomy i us.length with hi | hi | hi
  · rw [List.getElem?_append_left hi] at hp'
    exact h i p p' hp hp'
  · subst hi
    rw [List.getElem?_append_right (Nat.le_refl _), Nat.sub_self] at hp'
    obtain rfl : t' = p' := by simpa using hp'
    obtain rfl : t = p := by rw [ht] at hp; exact Option.some.inj hp
    exact ⟨hA, hm⟩
  · rw [List.getElem?_eq_none (by rw [List.length_append]; simp; omega)] at hp'
    cases hp'
/-- the binder's name turns no argument but the last one -/
theorem SubsQ.turn {x y : Nm} {bnd : Bool} {v u u' : Nm} {ts us : List Trm} (h : SubsQ x y bnd v u ts us) (hl : us.length < ts.length) : SubsQ x y bnd v u' ts us := fun i p p' hp hp' => by
  have hi := (List.getElem?_eq_some_iff.1 hp').1
  have := h i p p' hp hp'
  rw [decide_eq_false (by omega), Bool.and_false] at this ⊢
  exact this
theorem formML_of : ∀ {ts : List Trm}, (∀ (i : Nat) t, ts[i]? = some t → formM t = true) → formML ts = true
  | [], _ => rfl
  | t :: ts, h => by
    rw [formML, h 0 t rfl, Bool.true_and]
    exact formML_of fun i x hx => h (i + 1) x (by simpa using hx)
/-- a substituted term -/
def SubC (x y : Nm) (t t' : Trm) : Prop := Alk (subR x y) t t' ∧ formM t' = true
theorem sub_node {x y : Nm} {k : Int} {a v u f : ByteArray} {ts us : List Trm} (hm : formM (.mk k a v f ts) = true) (hk : ¬ (k = 2 ∧ a.data.toList = x)) (hl : us.length = ts.length) (hu : u = v ∨ (k = 5 ∧ idB u.data.toList = true)) (h : SubsQ x y (decide (k = 5)) v.data.toList u.data.toList ts us) : SubC x y (.mk k a v f ts) (.mk k a u f us) := by
  rw [formM, Bool.and_eq_true] at hm
  obtain ⟨ho, hm⟩ := hm
  refine ⟨?_, ?_⟩
  · rw [Alk]
    refine ⟨rfl, rfl, hl.symm, ?_⟩
    by_cases h2 : k = 2
    · rw [if_pos h2]
      unfold subR
      rw [if_neg fun e => hk ⟨h2, e⟩]
    · rw [if_neg h2]
      exact ⟨rfl, AlkL.of hl.symm fun i t t' ht ht' => (h i t t' ht ht').1⟩
  · rw [formM, Bool.and_eq_true, hl]
    refine ⟨?_, formML_of fun i t' ht' => ?_⟩
    · rcases hu with rfl | ⟨rfl, hu⟩
      · exact ho
      · unfold ownM at ho ⊢
        rw [if_neg (by decide), if_neg (by decide), if_neg (by decide), if_neg (by decide), if_pos rfl] at ho ⊢
        simp only [Bool.and_eq_true] at ho ⊢
        exact ⟨ho.1, ho.2.1, hu, ho.2.2.2⟩
    · have hi := (List.getElem?_eq_some_iff.1 ht').1
      exact (h i ts[i] t' (List.getElem?_eq_getElem (by omega)) ht').2
theorem var_form {a v f : ByteArray} {ts : List Trm} (hm : formM (.mk 2 a v f ts) = true) : ts = [] ∧ v.data.toList = [] ∧ f.data.toList = [] ∧ idB a.data.toList = true := by
  rw [formM, Bool.and_eq_true] at hm
  have ho := hm.1
  unfold ownM at ho
  rw [if_neg (by decide), if_pos rfl] at ho
  simp only [Bool.and_eq_true, decide_eq_true_eq, List.isEmpty_iff] at ho
  exact ⟨List.length_eq_zero_iff.1 ho.1.2.2, ho.1.1, ho.1.2.1, ho.2⟩
theorem form_var {y : ByteArray} (h : idB y.data.toList = true) : formM (.mk 2 y ⟨#[]⟩ ⟨#[]⟩ []) = true := by
  rw [formM, formML]
  unfold ownM
  rw [if_neg (by decide), if_pos rfl, h]
  rfl
theorem sub_var {a v f y : ByteArray} {ts : List Trm} (hm : formM (.mk 2 a v f ts) = true) (hy : idB y.data.toList = true) : SubC a.data.toList y.data.toList (.mk 2 a v f ts) (.mk 2 y ⟨#[]⟩ ⟨#[]⟩ []) := by
  obtain ⟨rfl, h1, h2, h3⟩ := var_form hm
  refine ⟨?_, form_var hy⟩
  rw [Alk]
  refine ⟨rfl, h2, rfl, ?_⟩
  rw [if_pos rfl]
  unfold subR
  rw [if_pos rfl]
theorem SubC.cnt {x y : Nm} {t t' : Trm} (h : SubC x y t t') (hm : formM t = true) : cntM t' = cntM t := Alk.cnt t t' hm h.2 h.1
/-- a renamed term -/
def RenC (t t' : Trm) : Prop := Alk Eq t t' ∧ formM t' = true
theorem RenC.refl {t : Trm} (h : formM t = true) : RenC t t := ⟨Alk.refl t fun _ _ => rfl, h⟩
theorem alkL_set {bnd : Bool} {v u : Nm} {ts : List Trm} {i : Nat} {t t' : Trm} (ht : ts[i]? = some t) (hA : Alk (scpR (bnd && decide (i + 1 = ts.length)) Eq v u) t t') (hv : i + 1 < ts.length → v = u) : AlkL Eq bnd v u ts (ts.set i t') := AlkL.of (by simp) fun j p p' hp hp' => by
  by_cases hj : i = j
  · subst hj
    obtain rfl : t = p := by rw [ht] at hp; exact Option.some.inj hp
    rw [List.getElem?_set_self (List.getElem?_eq_some_iff.1 ht).1] at hp'
    obtain rfl : t' = p' := Option.some.inj hp'
    exact hA
  · rw [List.getElem?_set_ne hj, hp] at hp'
    obtain rfl : p = p' := Option.some.inj hp'
    by_cases hl : i + 1 < ts.length
    · rw [hv hl]
      exact eq_scp (Alk.refl p fun _ _ => rfl)
    · have hi := (List.getElem?_eq_some_iff.1 ht).1
      have hj2 := (List.getElem?_eq_some_iff.1 hp).1
      rw [decide_eq_false (show ¬ (j + 1 = ts.length) by omega), Bool.and_false]
      exact Alk.refl p fun _ _ => rfl
theorem formML_set {ts : List Trm} {i : Nat} {t' : Trm} (h : formML ts = true) (h' : formM t' = true) : formML (ts.set i t') = true := formML_of fun j p hp => by
  by_cases hj : i = j
  · subst hj
    have hi := (List.getElem?_eq_some_iff.1 hp).1
    rw [List.getElem?_set_self (by simpa using hi)] at hp
    rw [← Option.some.inj hp]; exact h'
  · rw [List.getElem?_set_ne hj] at hp
    exact formML_at h hp
/-- a term one of whose arguments is renamed -/
theorem ren_arg {k : Int} {a v f : ByteArray} {ts : List Trm} {i : Nat} {t t' : Trm} (hm : formM (.mk k a v f ts) = true) (ht : ts[i]? = some t) (h : RenC t t') : RenC (.mk k a v f ts) (.mk k a v f (ts.set i t')) := by
  have h2 : k ≠ 2 := by
    rintro rfl
    obtain ⟨rfl, _⟩ := var_form hm
    simp at ht
  refine ⟨?_, ?_⟩
  · rw [Alk]
    refine ⟨rfl, rfl, by simp, ?_⟩
    rw [if_neg h2]
    exact ⟨rfl, alkL_set ht (eq_scp h.1) fun _ => rfl⟩
  · rw [formM, Bool.and_eq_true] at hm ⊢
    rw [List.length_set]
    exact ⟨hm.1, formML_set hm.2 h.2⟩
/-- a term whose bound variable is renamed -/
theorem ren_bind {a v z f : ByteArray} {ts : List Trm} {s s' : Trm} (hm : formM (.mk 5 a v f ts) = true) (hs : ts[ts.length - 1]? = some s) (hz : frM z.data.toList s = false) (hi : idB z.data.toList = true) (h : SubC v.data.toList z.data.toList s s') : RenC (.mk 5 a v f ts) (.mk 5 a z f (ts.set (ts.length - 1) s')) := by
  have hl := (List.getElem?_eq_some_iff.1 hs).1
  refine ⟨?_, ?_⟩
  · rw [Alk]
    refine ⟨rfl, rfl, by simp, ?_⟩
    rw [if_neg (by decide)]
    refine ⟨rfl, alkL_set hs ?_ fun h => by omega⟩
    rw [decide_eq_true (show ts.length - 1 + 1 = ts.length by omega)]
    exact sub_eq hz h.1
  · rw [formM, Bool.and_eq_true] at hm ⊢
    rw [List.length_set]
    refine ⟨?_, formML_set hm.2 h.2⟩
    have ho := hm.1
    unfold ownM at ho ⊢
    rw [if_neg (by decide), if_neg (by decide), if_neg (by decide), if_neg (by decide), if_pos rfl] at ho ⊢
    simp only [Bool.and_eq_true] at ho ⊢
    exact ⟨ho.1, ho.2.1, hi, ho.2.2.2⟩
theorem RenC.alpha {t t' : Trm} (h : RenC t t') : alkB [] [] t t' = true := alk_ok t t' (Alk.mono t t' (fun _ _ _ e => stk_nil e) h.1)
theorem RenC.cnt {t t' : Trm} (h : RenC t t') (hm : formM t = true) : cntM t' = cntM t := Alk.cnt t t' hm h.2 h.1
theorem RenC.words {t t' : Trm} (h : RenC t t') (hm : formM t = true) : ((prtM t).length : Int) - (exM t : Int) = ((prtM t').length : Int) - (exM t' : Int) := by
  have h1 := Alk.words t t' h.1
  rw [words_len t hm, words_len t' h.2]
  omega
theorem nodup_le : ∀ {a l : List Nm}, a.Nodup → (∀ x ∈ a, x ∈ l) → a.length ≤ l.length
  | [], l, _, _ => Nat.zero_le _
  | x :: a, l, hn, h => by
    rw [List.nodup_cons] at hn
    have hx : x ∈ l := h x List.mem_cons_self
    have h2 := nodup_le (a := a) (l := l.erase x) hn.2 fun y hy => by
      have hne : y ≠ x := fun e => hn.1 (e ▸ hy)
      exact (List.mem_erase_of_ne hne).2 (h y (List.mem_cons_of_mem _ hy))
    rw [List.length_erase_of_mem hx] at h2
    have hp : 0 < l.length := List.length_pos_of_mem hx
    rw [List.length_cons]
    omega
/-- the letters, the small ones first -/
def letsL : List UInt8 := [97, 98, 99, 100, 101, 102, 103, 104, 105, 106, 107, 108, 109, 110, 111, 112, 113, 114, 115, 116, 117, 118, 119, 120, 121, 122, 65, 66, 67, 68, 69, 70, 71, 72, 73, 74, 75, 76, 77, 78, 79, 80, 81, 82, 83, 84, 85, 86, 87, 88, 89, 90]
def extL (p : Nm) : List Nm := letsL.map fun c => p ++ [c]
def nextL (ps : List Nm) : List Nm := ps.flatMap extL
def oneL : List Nm := letsL.map fun c => [c]
theorem next_one : nextL [[]] = oneL := by decide +kernel
theorem ext_len (p : Nm) : (extL p).length = 52 := by simp [extL, letsL]
theorem next_len (ps : List Nm) : (nextL ps).length = 52 * ps.length := by
  unfold nextL
  induction ps with
  | nil => rfl
  | cons p ps ih => rw [List.flatMap_cons, List.length_append, ih, ext_len, List.length_cons]; omega
theorem next_snoc {ps : List Nm} {i : Nat} {p : Nm} (h : ps[i]? = some p) : nextL (ps.take (i + 1)) = nextL (ps.take i) ++ extL p := by
  rw [List.take_add_one, h, Option.toList]
  unfold nextL
  rw [List.flatMap_append]
  simp
theorem ext_snoc {p : Nm} {k : Nat} {c : UInt8} (h : letsL[k]? = some c) : (extL p).take (k + 1) = (extL p).take k ++ [p ++ [c]] := by
  rw [List.take_add_one]
  unfold extL
  rw [List.getElem?_map, h]
  rfl
/-- 364 names of two letters -/
def manyL : List Nm := ([65, 66, 67, 68, 69, 70, 71] : List UInt8).flatMap fun c => extL [c]
theorem many_nodup : manyL.Nodup := by decide +kernel
theorem many_id : manyL.all idB = true := by decide +kernel
theorem many_len : manyL.length = 364 := by decide +kernel
theorem many_in : ∀ p ∈ manyL, p ∈ nextL oneL := fun p hp => by
  obtain ⟨c, hc, h⟩ := List.mem_flatMap.1 hp
  refine List.mem_flatMap.2 ⟨[c], ?_, h⟩
  have : ∀ c ∈ ([65, 66, 67, 68, 69, 70, 71] : List UInt8), [c] ∈ oneL := by decide +kernel
  exact this c hc
/-- not all names of two letters are in a short list -/
theorem fresh_two {l : List Nm} (hl : l.length ≤ 300) (h : ∀ p ∈ nextL oneL, idB p = true → p ∈ l) : False := by
  have h1 := nodup_le many_nodup (l := l) fun p hp => h p (many_in p hp) (List.all_eq_true.1 many_id p hp)
  rw [many_len] at h1
  omega
end Go.Proofs.YtpokelkneblafaaGreatDoor
