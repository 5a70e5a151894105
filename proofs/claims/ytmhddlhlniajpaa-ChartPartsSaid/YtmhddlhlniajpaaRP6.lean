/- An operand replaced by tokens with a reading: plain. -/
import Derived.Test.YtmhddlhlniajpaaRP4
namespace Go.Proofs.Ytmhddlhlniajpaa
theorem tokB_same {ts ts' : List ByteArray} {k k' : Nat} (h : ts'[k']? = ts[k]?) (s : List UInt8) : tokB ts' k' s = tokB ts k s := by unfold tokB; rw [h]
/-- readings hang on the tokens alone -/
theorem moved {rs : List Rul} {ts ts' : List ByteArray} (d : Nat) : ∀ (m i j : Nat), j - i ≤ m → (∀ t, i ≤ t → t < j → ts'[t + d]? = ts[t]?) → ∀ x ∈ allR rs ts i j, ∃ y ∈ allR rs ts' (i + d) (j + d), y.rule = x.rule := by
  intro m
  induction m with
  | zero => intro i j h _ x hx; have := mem_lt hx; omega
  | succ m ih =>
    intro i j hm ht x hx
    have hij := mem_lt hx
    have low : ∀ {a b : Nat} {p : Int} {z : Rd}, b - a ≤ m → i ≤ a → b ≤ j → z ∈ leastR rs (allR rs ts a b) p → ∃ y, y ∈ leastR rs (allR rs ts' (a + d) (b + d)) p := by
      intro a b p z h1 h2 h3 hz
      rw [mem_least] at hz
      obtain ⟨y, hy, he⟩ := ih a b h1 (fun t h4 h5 => ht t (by omega) (by omega)) z hz.1
      exact ⟨y, mem_least.2 ⟨hy, by rw [he]; exact hz.2⟩⟩
    rcases (mem_all hij).1 hx with ⟨h1, h2, rfl⟩ | ⟨n, u, hu, h⟩
    · exact ⟨.mk (-1) ((i + d : Nat) : Int) [], (mem_all (by omega)).2 (.inl ⟨by omega, by rw [tokB_same (ht i (by omega) hij)]; exact h2, rfl⟩), rfl⟩
    · rw [(rule_at h).2]
      rcases h with ⟨hk, k, y, z, h3, h4, h5, hy, hz, rfl⟩ | ⟨hk, y, h5, hy, rfl⟩ | ⟨hk, y, h5, hy, rfl⟩ | ⟨hk, k, y, z, h3, h4, hy, hz, rfl⟩
      · obtain ⟨y', hy'⟩ := low (by omega) (by omega) (by omega) hy
        obtain ⟨z', hz'⟩ := low (by omega) (by omega) (by omega) hz
        exact ⟨.mk n ((i + d : Nat) : Int) [y', z'], (mem_all (by omega)).2 (.inr ⟨n, u, hu, .inl ⟨hk, k + d, y', z', by omega, by omega, by rw [tokB_same (ht k (by omega) (by omega))]; exact h5, hy', by rw [show k + d + 1 = k + 1 + d by omega]; exact hz', rfl⟩⟩), rfl⟩
      · obtain ⟨y', hy'⟩ := low (by omega) (by omega) (by omega) hy
        exact ⟨.mk n ((i + d : Nat) : Int) [y'], (mem_all (by omega)).2 (.inr ⟨n, u, hu, .inr (.inl ⟨hk, y', by rw [tokB_same (ht i (by omega) hij)]; exact h5, by rw [show i + d + 1 = i + 1 + d by omega]; exact hy', rfl⟩)⟩), rfl⟩
      · have := (mem_least_at hy).2
        obtain ⟨y', hy'⟩ := low (by omega) (by omega) (by omega) hy
        exact ⟨.mk n ((i + d : Nat) : Int) [y'], (mem_all (by omega)).2 (.inr ⟨n, u, hu, .inr (.inr (.inl ⟨hk, y', by rw [show j + d - 1 = j - 1 + d by omega, tokB_same (ht (j - 1) (by omega) (by omega))]; exact h5, by rw [show j + d - 1 = j - 1 + d by omega]; exact hy', rfl⟩))⟩), rfl⟩
      · obtain ⟨y', hy'⟩ := low (by omega) (by omega) (by omega) hy
        obtain ⟨z', hz'⟩ := low (by omega) (by omega) (by omega) hz
        exact ⟨.mk n ((i + d : Nat) : Int) [y', z'], (mem_all (by omega)).2 (.inr ⟨n, u, hu, .inr (.inr (.inr ⟨hk, k + d, y', z', by omega, by omega, hy', hz', rfl⟩))⟩), rfl⟩
theorem sym_no_opnd {r : Rul} (h : ownB r = true) : r.sym.toList ≠ opndL := by
  intro e
  unfold ownB at h
  simp only [Bool.and_eq_true] at h
  obtain ⟨_, _, _, _, h⟩ := h
  rw [e] at h
  have hs : symB opndL = false := by decide
  rw [hs] at h
  split at h
  · cases h
  · split at h
    · cases h
    · split at h
      · cases h
      · simp [opndL] at h
/-- THE LAW -/
theorem replaced {rs : List Rul} (hv : validB rs = true) {ts ts' : List ByteArray} {k d : Nat} (hk : tokB ts k opndL = true) (hkl : k < ts.length)
    (hl : ∀ t, t < k → ts'[t]? = ts[t]?) (hr : ∀ t, k < t → ts'[t + d]? = ts[t]?)
    {m0 : Rd} (h0 : m0 ∈ allR rs ts' k (k + 1 + d)) (hm : ∀ (n : Nat) u, rs[n]? = some u → u.left ≤ precI rs m0.rule ∧ u.right ≤ precI rs m0.rule) :
    ∀ (m i j : Nat), j - i ≤ m → i ≤ k → k < j → j ≤ ts.length → ∀ x ∈ allR rs ts i j, ∃ y ∈ allR rs ts' i (j + d), ∀ p, (∃ (n : Nat) (u : Rul), rs[n]? = some u ∧ (p = u.left ∨ p = u.right)) → p ≤ precI rs x.rule → p ≤ precI rs y.rule := by
  intro m
  induction m with
  | zero => intro i j h h1 h2; omega
  | succ m ih =>
    intro i j hm' hik hkj hj x hx
    have hij := mem_lt hx
    have hko : ∀ s, tokB ts k s = true → s = opndL := fun s hs => ((tokB_iff hkl s).1 hs).trans ((tokB_iff hkl _).1 hk).symm
    rcases (mem_all hij).1 hx with ⟨h1, h2, rfl⟩ | ⟨n, u, hu, h⟩
    · obtain rfl : i = k := by omega
      refine ⟨m0, by rw [h1]; exact h0, fun p hp _ => ?_⟩
      obtain ⟨n, u, hu, rfl | rfl⟩ := hp
      · exact (hm n u hu).1
      · exact (hm n u hu).2
    · have hno := sym_no_opnd (valid_own hv hu)
      have whole : ∀ ks, RuleP rs ts' i (j + d) n u (.mk n i ks) → ∃ y ∈ allR rs ts' i (j + d), ∀ p, (∃ (n : Nat) (u : Rul), rs[n]? = some u ∧ (p = u.left ∨ p = u.right)) → p ≤ precI rs x.rule → p ≤ precI rs y.rule := by
        intro ks hks
        refine ⟨.mk n i ks, (mem_all (by omega)).2 (.inr ⟨n, u, hu, hks⟩), fun p _ hp => ?_⟩
        rw [(rule_at h).2] at hp
        exact hp
      have in_ : ∀ {a b : Nat} {p : Int} {z : Rd}, b - a ≤ m → a ≤ k → k < b → b ≤ j → (∃ (n : Nat) (u : Rul), rs[n]? = some u ∧ (p = u.left ∨ p = u.right)) → z ∈ leastR rs (allR rs ts a b) p → ∃ y, y ∈ leastR rs (allR rs ts' a (b + d)) p := by
        intro a b p z h1 h2 h3 h4 hp hz
        rw [mem_least] at hz
        obtain ⟨y, hy, he⟩ := ih a b h1 h2 h3 (by omega) z hz.1
        exact ⟨y, mem_least.2 ⟨hy, he p hp hz.2⟩⟩
      have le_ : ∀ {a b : Nat} {p : Int} {z : Rd}, b ≤ k → z ∈ leastR rs (allR rs ts a b) p → ∃ y, y ∈ leastR rs (allR rs ts' a b) p := by
        intro a b p z h1 hz
        rw [mem_least] at hz
        obtain ⟨y, hy, he⟩ := moved (rs := rs) (ts := ts) (ts' := ts') 0 (b - a) a b (Nat.le_refl _) (fun t _ h3 => hl t (by omega)) z hz.1
        exact ⟨y, mem_least.2 ⟨hy, by rw [he]; exact hz.2⟩⟩
      have ri_ : ∀ {a b : Nat} {p : Int} {z : Rd}, k < a → z ∈ leastR rs (allR rs ts a b) p → ∃ y, y ∈ leastR rs (allR rs ts' (a + d) (b + d)) p := by
        intro a b p z h1 hz
        rw [mem_least] at hz
        obtain ⟨y, hy, he⟩ := moved (rs := rs) (ts := ts) (ts' := ts') d (b - a) a b (Nat.le_refl _) (fun t h2 _ => hr t (by omega)) z hz.1
        exact ⟨y, mem_least.2 ⟨hy, by rw [he]; exact hz.2⟩⟩
      rcases h with ⟨hkd, c, y, z, h3, h4, h5, hy, hz, rfl⟩ | ⟨hkd, y, h5, hy, rfl⟩ | ⟨hkd, y, h5, hy, rfl⟩ | ⟨hkd, c, y, z, h3, h4, hy, hz, rfl⟩
      · rcases Nat.lt_trichotomy k c with hc | hc | hc
        · obtain ⟨y', hy'⟩ := in_ (by omega) hik hc (by omega) ⟨n, u, hu, .inl rfl⟩ hy
          obtain ⟨z', hz'⟩ := ri_ (by omega) hz
          exact whole [y', z'] (.inl ⟨hkd, c + d, y', z', by omega, by omega, by rw [tokB_same (hr c hc)]; exact h5, hy', by rw [show c + d + 1 = c + 1 + d by omega]; exact hz', rfl⟩)
        · subst hc
          exact (hno (hko _ h5)).elim
        · obtain ⟨y', hy'⟩ := le_ (by omega) hy
          obtain ⟨z', hz'⟩ := in_ (by omega) (by omega) hkj (by omega) ⟨n, u, hu, .inr rfl⟩ hz
          exact whole [y', z'] (.inl ⟨hkd, c, y', z', by omega, by omega, by rw [tokB_same (hl c hc)]; exact h5, hy', hz', rfl⟩)
      · have : i ≠ k := by
          rintro rfl
          exact hno (hko _ h5)
        have hlt := (mem_least_at hy).2
        obtain ⟨y', hy'⟩ := in_ (by omega) (by omega) hkj (by omega) ⟨n, u, hu, .inr rfl⟩ hy
        exact whole [y'] (.inr (.inl ⟨hkd, y', by rw [tokB_same (hl i (by omega))]; exact h5, hy', rfl⟩))
      · have : j - 1 ≠ k := by
          intro e
          rw [e] at h5
          exact hno (hko _ h5)
        obtain ⟨y', hy'⟩ := in_ (by omega) hik (by omega) (by omega) ⟨n, u, hu, .inl rfl⟩ hy
        exact whole [y'] (.inr (.inr (.inl ⟨hkd, y', by rw [show j + d - 1 = j - 1 + d by omega, tokB_same (hr (j - 1) (by omega))]; exact h5, by rw [show j + d - 1 = j - 1 + d by omega]; exact hy', rfl⟩)))
      · rcases Nat.lt_or_ge k c with hc | hc
        · obtain ⟨y', hy'⟩ := in_ (by omega) hik hc (by omega) ⟨n, u, hu, .inl rfl⟩ hy
          obtain ⟨z', hz'⟩ := ri_ (by omega) hz
          exact whole [y', z'] (.inr (.inr (.inr ⟨hkd, c + d, y', z', by omega, by omega, hy', hz', rfl⟩)))
        · obtain ⟨y', hy'⟩ := le_ hc hy
          obtain ⟨z', hz'⟩ := in_ (by omega) hc hkj (by omega) ⟨n, u, hu, .inr rfl⟩ hz
          exact whole [y', z'] (.inr (.inr (.inr ⟨hkd, c, y', z', by omega, by omega, hy', hz', rfl⟩)))
end Go.Proofs.Ytmhddlhlniajpaa
