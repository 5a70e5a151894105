/- Classes of a row, plain: what binary operators stand between, what a class may become, beginnings of rows. -/
import Derived.Test.YtgoafobhhmeppaaGreatAR
namespace Go.Proofs.YtgoafobhhmeppaaGreat
def newC (acc : List Int) (c : Int) : Int := if c = 2 ∧ (acc = [] ∨ opensB (acc.getLast?.getD 0) = true) then 0 else c
theorem step_far {acc : List Int} {c : Int} {i : Nat} (h : i + 1 < acc.length) : (rowStep acc c)[i]? = acc[i]? := by
  unfold rowStep
  split
  · rw [List.getElem?_append_left (by omega)]
  · split
    · rw [List.getElem?_append_left (by simp; omega), List.getElem?_dropLast, if_pos (by omega)]
    · rw [List.getElem?_append_left (by omega)]
theorem step_new (acc : List Int) (c : Int) : (rowStep acc c)[acc.length]? = some (newC acc c) := by
  unfold rowStep newC
  split
  · rename_i h; rw [List.getElem?_append_right (by omega)]; simp
  · rename_i h
    split
    · rename_i h2
      have h3 : acc ≠ [] := fun e => by rw [e] at h2; simp at h2
      have h4 := List.length_pos_iff.2 h3
      rw [List.getElem?_append_right (by simp)]
      simp
      rw [show acc.length - (acc.length - 1) = 1 by omega]
      rfl
    · rw [List.getElem?_append_right (by omega)]; simp
theorem closes_two : closesB 2 = false := by decide
theorem step_prev {acc : List Int} {c : Int} {m : Nat} (h : acc.length = m + 1) : (rowStep acc c)[m]? = if closesB c = true ∧ acc[m]? = some 2 then some 0 else acc[m]? := by
  have hl : acc.getLast? = acc[m]? := by rw [List.getLast?_eq_getElem?, h]; rfl
  unfold rowStep
  split
  · rename_i h1
    rw [List.getElem?_append_left (by omega), if_neg]
    rintro ⟨h2, _⟩
    rw [h1.1, closes_two] at h2
    cases h2
  · split
    · rename_i h2
      rw [if_pos ⟨h2.1, by rw [← hl]; exact h2.2⟩, List.getElem?_append_right (by simp; omega)]
      simp [h]
    · rename_i h2
      rw [List.getElem?_append_left (by omega), if_neg]
      rw [hl] at h2
      exact h2
theorem snoc_ind {α : Type} {p : List α → Prop} (h0 : p []) (h1 : ∀ l a, p l → p (l ++ [a])) : ∀ l, p l := by
  intro l
  rw [← List.reverse_reverse l]
  induction l.reverse with
  | nil => exact h0
  | cons a r ih => rw [List.reverse_cons]; exact h1 _ _ ih
/-- what a class may become -/
def Becomes (own l : List Int) : Prop := ∀ (i : Nat) (x : Int), own[i]? = some x → l[i]? = some x ∨ (x = 2 ∧ l[i]? = some 0)
theorem rows_become : ∀ own, Becomes own (rowsOf own) := by
  apply snoc_ind
  · intro i x h; simp at h
  · intro own c ih i x h
    rw [rowsOf_snoc]
    have hl := rowsOf_len own
    rcases Nat.lt_trichotomy i own.length with hi | hi | hi
    · rw [List.getElem?_append_left hi] at h
      have ih' := ih i x h
      by_cases he : i + 1 < own.length
      · rw [step_far (by omega)]; exact ih'
      · rw [step_prev (m := i) (by omega)]
        split
        · rename_i hc
          rcases ih' with h1 | h1
          · rw [hc.2] at h1
            obtain rfl := Option.some.inj h1
            exact .inr ⟨rfl, rfl⟩
          · exact .inr ⟨h1.1, rfl⟩
        · exact ih'
    · subst hi
      simp at h
      subst h
      rw [← hl, step_new]
      unfold newC
      split
      · rename_i hc; exact .inr ⟨hc.1, rfl⟩
      · exact .inl rfl
    · rw [List.getElem?_eq_none (by simp; omega)] at h
      cases h
theorem last_at {l : List Int} {i : Nat} : (lastStep l)[i]? = if i + 1 = l.length ∧ l[i]? = some 2 then some 0 else l[i]? := by
  unfold lastStep
  split
  · rename_i h
    have h3 : l ≠ [] := fun e => by rw [e] at h; simp at h
    have h4 := List.length_pos_iff.2 h3
    rw [List.getLast?_eq_getElem?] at h
    rcases Nat.lt_trichotomy (i + 1) l.length with hi | hi | hi
    · rw [List.getElem?_append_left (by simp; omega), List.getElem?_dropLast, if_pos (by omega), if_neg (by omega)]
    · rw [show l.length - 1 = i by omega] at h
      rw [if_pos ⟨hi, h⟩, List.getElem?_append_right (by simp; omega)]
      simp
      rw [show i - (l.length - 1) = 0 by omega]
      rfl
    · rw [List.getElem?_eq_none (by simp; omega), if_neg (by omega), List.getElem?_eq_none (by omega)]
  · rename_i h
    rw [if_neg]
    rintro ⟨h1, h2⟩
    apply h
    rw [List.getLast?_eq_getElem?, show l.length - 1 = i by omega]
    exact h2
/-- AtomOwn -/
theorem row_become (own : List Int) : Becomes own (rowL own) := by
  intro i x h
  unfold rowL
  rw [last_at]
  have := rows_become own i x h
  split
  · rename_i hc
    rcases this with h1 | h1
    · rw [hc.2] at h1
      obtain rfl := Option.some.inj h1
      exact .inr ⟨rfl, rfl⟩
    · exact .inr ⟨h1.1, rfl⟩
  · exact this
theorem rows_far (own : List Int) : ∀ (more : List Int) (i : Nat), i + 1 < own.length → (rowsOf (own ++ more))[i]? = (rowsOf own)[i]? := by
  intro more
  revert more
  apply snoc_ind
  · intro i _; rw [List.append_nil]
  · intro m c ih i hi
    rw [← List.append_assoc, rowsOf_snoc, step_far (by rw [rowsOf_len]; simp; omega)]
    exact ih i hi
/-- AtomPrefix -/
theorem row_begin (own : List Int) (n i : Nat) (hn : n ≤ own.length) (hi : i + 1 < n) : (rowL own)[i]? = (rowL (own.take n))[i]? := by
  have hl : (own.take n).length = n := by rw [List.length_take]; omega
  unfold rowL
  rw [last_at, last_at, rowsOf_len, rowsOf_len, hl, if_neg (by omega), if_neg (by omega)]
  have := rows_far (own.take n) (own.drop n) i (by omega)
  rw [List.take_append_drop] at this
  exact this
/-- where a binary operator stands -/
def Between (l : List Int) : Prop := ∀ i : Nat, l[i]? = some 2 → (∃ j x, i = j + 1 ∧ l[j]? = some x ∧ opensB x = false) ∧ ∀ y, l[i + 1]? = some y → closesB y = false ∧ y ≠ 2
theorem opens_zero : opensB 0 = false := by decide
theorem opens_two : opensB 2 = true := by decide
theorem rows_between : ∀ own, Between (rowsOf own) := by
  apply snoc_ind
  · intro i h; simp [rowsOf] at h
  · intro own c ih i h
    rw [rowsOf_snoc] at h ⊢
    generalize rowsOf own = acc at ih h
    -- a place in the new row
    have hlen := rowStep_len acc c
    have hi : i < acc.length + 1 := by
      have := (List.getElem?_eq_some_iff.1 h).1
      omega
    -- the left neighbour: j + 1 = i
    have left : ∀ j x, i = j + 1 → acc[j]? = some x → opensB x = false → ∃ j' x', i = j' + 1 ∧ (rowStep acc c)[j']? = some x' ∧ opensB x' = false := by
      intro j x hj hx ho
      have hjl := (List.getElem?_eq_some_iff.1 hx).1
      by_cases hf : j + 1 < acc.length
      · exact ⟨j, x, hj, by rw [step_far hf]; exact hx, ho⟩
      · refine ⟨j, ?_⟩
        rw [step_prev (m := j) (by omega)]
        split
        · exact ⟨0, hj, rfl, opens_zero⟩
        · exact ⟨x, hj, hx, ho⟩
    rcases Nat.lt_or_ge i acc.length with hlt | hge
    · -- an old place
      have hold : acc[i]? = some 2 := by
        by_cases hf : i + 1 < acc.length
        · rw [step_far hf] at h; exact h
        · rw [step_prev (m := i) (by omega)] at h
          split at h
          · cases h
          · exact h
      obtain ⟨⟨j, x, hj, hx, ho⟩, hr⟩ := ih i hold
      refine ⟨left j x hj hx ho, fun y hy => ?_⟩
      by_cases hf : i + 1 < acc.length
      · by_cases hf2 : i + 1 + 1 < acc.length
        · rw [step_far hf2] at hy; exact hr y hy
        · rw [step_prev (m := i + 1) (by omega)] at hy
          split at hy
          · obtain rfl := Option.some.inj hy
            exact ⟨by decide, by decide⟩
          · exact hr y hy
      · have e1 : i + 1 = acc.length := by omega
        rw [e1, step_new] at hy
        obtain rfl := Option.some.inj hy
        rw [step_prev (m := i) (by omega)] at h
        split at h
        · cases h
        · rename_i hc
          have hl : acc.getLast? = some 2 := by rw [List.getLast?_eq_getElem?, show acc.length - 1 = i by omega]; exact hold
          have hcl : closesB c = false := by
            cases hcc : closesB c with
            | false => rfl
            | true => exact absurd ⟨hcc, hold⟩ hc
          unfold newC
          split
          · exact ⟨by decide, by decide⟩
          · rename_i hn
            refine ⟨hcl, fun e => hn ⟨e, .inr ?_⟩⟩
            rw [hl]
            exact opens_two
    · -- the new place
      obtain rfl : i = acc.length := by omega
      rw [step_new] at h
      have hc : newC acc c = 2 := Option.some.inj h
      unfold newC at hc
      split at hc
      · cases hc
      · rename_i hn
        simp only [not_and, not_or, Bool.not_eq_true] at hn
        obtain ⟨h1, h2⟩ := hn hc
        have hp := List.length_pos_iff.2 h1
        obtain ⟨x, hx⟩ : ∃ x, acc[acc.length - 1]? = some x := ⟨_, List.getElem?_eq_getElem (by omega)⟩
        rw [List.getLast?_eq_getElem?, hx] at h2
        refine ⟨left (acc.length - 1) x (by omega) hx h2, fun y hy => ?_⟩
        rw [List.getElem?_eq_none (by omega)] at hy
        cases hy
/-- AtomBinary -/
theorem row_between (own : List Int) (i : Nat) (h : (rowL own)[i]? = some 2) : i + 1 ≠ own.length ∧ (∃ j x, i = j + 1 ∧ (rowL own)[j]? = some x ∧ opensB x = false) ∧ ∀ y, (rowL own)[i + 1]? = some y → closesB y = false ∧ y ≠ 2 := by
  unfold rowL at h ⊢
  have hl := rowsOf_len own
  rw [last_at] at h
  split at h
  · cases h
  · rename_i hc
    have hne : i + 1 ≠ own.length := fun e => hc ⟨by omega, h⟩
    obtain ⟨⟨j, x, hj, hx, ho⟩, hr⟩ := rows_between own i h
    have hil := (List.getElem?_eq_some_iff.1 h).1
    refine ⟨hne, ⟨j, x, hj, ?_, ho⟩, fun y hy => ?_⟩
    · rw [last_at, if_neg (by omega)]; exact hx
    · rw [last_at] at hy
      split at hy
      · obtain rfl := Option.some.inj hy
        exact ⟨by decide, by decide⟩
      · exact hr y hy
end Go.Proofs.YtgoafobhhmeppaaGreat
