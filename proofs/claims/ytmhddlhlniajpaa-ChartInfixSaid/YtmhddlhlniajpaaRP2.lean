/- Which readings there are; the two checks: plain. -/
import Derived.Test.YtmhddlhlniajpaaRP1
namespace Go.Proofs.Ytmhddlhlniajpaa
theorem mem_least {rs : List Rul} {l : List Rd} {p : Int} {x : Rd} : x ∈ leastR rs l p ↔ x ∈ l ∧ p ≤ precI rs x.rule := by
  unfold leastR; rw [List.mem_filter, decide_eq_true_iff]
theorem mem_pairs {r a : Int} {l m : List Rd} {x : Rd} : x ∈ pairsR r a l m ↔ ∃ y z, y ∈ l ∧ z ∈ m ∧ x = .mk r a [y, z] := by
  unfold pairsR
  rw [List.mem_flatMap]
  constructor
  · rintro ⟨y, hy, h⟩
    obtain ⟨z, hz, rfl⟩ := List.mem_map.1 h
    exact ⟨y, z, hy, hz, rfl⟩
  · rintro ⟨y, z, hy, hz, rfl⟩
    exact ⟨y, hy, List.mem_map.2 ⟨z, hz, rfl⟩⟩
theorem mem_solo {r a : Int} {l : List Rd} {x : Rd} : x ∈ soloR r a l ↔ ∃ y, y ∈ l ∧ x = .mk r a [y] := by
  unfold soloR
  rw [List.mem_map]
  exact ⟨fun ⟨y, h, e⟩ => ⟨y, h, e.symm⟩, fun ⟨y, h, e⟩ => ⟨y, h, e.symm⟩⟩
/-- a reading by a rule -/
def RuleP (rs : List Rul) (ts : List ByteArray) (i j n : Nat) (u : Rul) (x : Rd) : Prop :=
  (u.kind = 1 ∧ ∃ k y z, i < k ∧ k + 1 < j ∧ tokB ts k u.sym.toList = true ∧ y ∈ leastR rs (allR rs ts i k) u.left ∧ z ∈ leastR rs (allR rs ts (k + 1) j) u.right ∧ x = .mk n i [y, z]) ∨
  (u.kind = 2 ∧ ∃ y, tokB ts i u.sym.toList = true ∧ y ∈ leastR rs (allR rs ts (i + 1) j) u.right ∧ x = .mk n i [y]) ∨
  (u.kind = 3 ∧ ∃ y, tokB ts (j - 1) u.sym.toList = true ∧ y ∈ leastR rs (allR rs ts i (j - 1)) u.left ∧ x = .mk n i [y]) ∨
  (u.kind = 4 ∧ ∃ k y z, i < k ∧ k < j ∧ y ∈ leastR rs (allR rs ts i k) u.left ∧ z ∈ leastR rs (allR rs ts k j) u.right ∧ x = .mk n i [y, z])
theorem mem_rule {rs : List Rul} {ts : List ByteArray} {i j n : Nat} {u : Rul} (hu : rs[n]? = some u) {x : Rd} : x ∈ ofRule rs ts (allR rs ts) i j n ↔ RuleP rs ts i j n u x := by
  unfold ofRule RuleP
  rw [hu]
  dsimp only
  by_cases h1 : u.kind = 1
  · rw [if_pos h1, List.mem_flatMap]
    constructor
    · rintro ⟨k, hk, h⟩
      have := mem_range1 hk
      split at h
      · obtain ⟨y, z, hy, hz, rfl⟩ := mem_pairs.1 h
        exact .inl ⟨h1, k, y, z, by omega, by omega, ‹_›, hy, hz, rfl⟩
      · cases h
    · rintro (⟨_, k, y, z, h2, h3, h4, hy, hz, rfl⟩ | ⟨h2, _⟩ | ⟨h2, _⟩ | ⟨h2, _⟩)
      · refine ⟨k, List.mem_range'_1.2 ⟨by omega, by omega⟩, ?_⟩
        rw [if_pos h4]
        exact mem_pairs.2 ⟨y, z, hy, hz, rfl⟩
      · omega
      · omega
      · omega
  · rw [if_neg h1]
    by_cases h2 : u.kind = 2
    · rw [if_pos h2]
      constructor
      · intro h
        split at h
        · obtain ⟨y, hy, rfl⟩ := mem_solo.1 h
          exact .inr (.inl ⟨h2, y, ‹_›, hy, rfl⟩)
        · cases h
      · rintro (⟨h3, _⟩ | ⟨_, y, h3, hy, rfl⟩ | ⟨h3, _⟩ | ⟨h3, _⟩)
        · omega
        · rw [if_pos h3]
          exact mem_solo.2 ⟨y, hy, rfl⟩
        · omega
        · omega
    · rw [if_neg h2]
      by_cases h3 : u.kind = 3
      · rw [if_pos h3]
        constructor
        · intro h
          split at h
          · obtain ⟨y, hy, rfl⟩ := mem_solo.1 h
            exact .inr (.inr (.inl ⟨h3, y, ‹_›, hy, rfl⟩))
          · cases h
        · rintro (⟨h4, _⟩ | ⟨h4, _⟩ | ⟨_, y, h4, hy, rfl⟩ | ⟨h4, _⟩)
          · omega
          · omega
          · rw [if_pos h4]
            exact mem_solo.2 ⟨y, hy, rfl⟩
          · omega
      · rw [if_neg h3]
        by_cases h4 : u.kind = 4
        · rw [if_pos h4, List.mem_flatMap]
          constructor
          · rintro ⟨k, hk, h⟩
            have := mem_range1 hk
            obtain ⟨y, z, hy, hz, rfl⟩ := mem_pairs.1 h
            exact .inr (.inr (.inr ⟨h4, k, y, z, by omega, by omega, hy, hz, rfl⟩))
          · rintro (⟨h5, _⟩ | ⟨h5, _⟩ | ⟨h5, _⟩ | ⟨_, k, y, z, h5, h6, hy, hz, rfl⟩)
            · omega
            · omega
            · omega
            · exact ⟨k, List.mem_range'_1.2 ⟨by omega, by omega⟩, mem_pairs.2 ⟨y, z, hy, hz, rfl⟩⟩
        · rw [if_neg h4]
          constructor
          · intro h; cases h
          · rintro (⟨h5, _⟩ | ⟨h5, _⟩ | ⟨h5, _⟩ | ⟨h5, _⟩) <;> omega
theorem mem_all {rs : List Rul} {ts : List ByteArray} {i j : Nat} (hij : i < j) {x : Rd} : x ∈ allR rs ts i j ↔ (j = i + 1 ∧ tokB ts i opndL = true ∧ x = .mk (-1) i []) ∨ ∃ n u, rs[n]? = some u ∧ RuleP rs ts i j n u x := by
  rw [all_eq hij]
  unfold bodyR baseR
  rw [List.mem_append, List.mem_flatMap]
  constructor
  · rintro (h | ⟨n, hn, h⟩)
    · split at h
      · exact .inl ⟨(‹_ ∧ _›).1, (‹_ ∧ _›).2, by simpa using h⟩
      · cases h
    · obtain ⟨u, hu⟩ : ∃ u, rs[n]? = some u := ⟨_, List.getElem?_eq_getElem (List.mem_range.1 hn)⟩
      exact .inr ⟨n, u, hu, (mem_rule hu).1 h⟩
  · rintro (⟨h1, h2, rfl⟩ | ⟨n, u, hu, h⟩)
    · left
      rw [if_pos ⟨h1, h2⟩]
      simp
    · right
      exact ⟨n, List.mem_range.2 (List.getElem?_eq_some_iff.1 hu).1, (mem_rule hu).2 h⟩
theorem mem_lt {rs : List Rul} {ts : List ByteArray} {i j : Nat} {x : Rd} (h : x ∈ allR rs ts i j) : i < j := by
  rcases Nat.lt_or_ge i j with h' | h'
  · exact h'
  · rw [all_none h'] at h; cases h
theorem rule_at {rs : List Rul} {ts : List ByteArray} {i j n : Nat} {u : Rul} {x : Rd} (h : RuleP rs ts i j n u x) : x.at_ = i ∧ x.rule = n := by
  rcases h with ⟨_, k, y, z, _, _, _, _, _, rfl⟩ | ⟨_, y, _, _, rfl⟩ | ⟨_, y, _, _, rfl⟩ | ⟨_, k, y, z, _, _, _, _, rfl⟩
  all_goals exact ⟨rfl, rfl⟩
theorem mem_at {rs : List Rul} {ts : List ByteArray} {i j : Nat} {x : Rd} (h : x ∈ allR rs ts i j) : x.at_ = i := by
  rcases (mem_all (mem_lt h)).1 h with ⟨_, _, rfl⟩ | ⟨n, u, _, h⟩
  · rfl
  · exact (rule_at h).1
theorem mem_least_at {rs : List Rul} {ts : List ByteArray} {i j : Nat} {p : Int} {x : Rd} (h : x ∈ leastR rs (allR rs ts i j) p) : x.at_ = i ∧ i < j := ⟨mem_at (mem_least.1 h).1, mem_lt (mem_least.1 h).1⟩
/-- the program's check -/
def chkR (rs : List Rul) (ts : List ByteArray) (x : Rd) (i j : Nat) (p : Int) : Bool := match x with
  | .mk r a ks =>
    if j ≤ i ∨ a ≠ (i : Int) then false
    else if r = -1 then decide (j = i + 1) && (tokB ts i opndL && (ks.isEmpty && decide (p ≤ 101)))
    else if r < 0 ∨ (rs.length : Int) ≤ r then false
    else match rs[r.toNat]? with
      | none => false
      | some u =>
        if u.prec < p then false
        else if u.kind = 2 ∨ u.kind = 3 then (match ks with
          | [y] => if u.kind = 2 then tokB ts i u.sym.toList && chkR rs ts y (i + 1) j u.right else tokB ts (j - 1) u.sym.toList && chkR rs ts y i (j - 1) u.left
          | _ => false)
        else (match ks with
          | [y, z] => if z.at_ ≤ (i : Int) ∨ (j : Int) ≤ z.at_ then false
            else if u.kind = 1 then tokB ts (z.at_.toNat - 1) u.sym.toList && (chkR rs ts y i (z.at_.toNat - 1) u.left && chkR rs ts z z.at_.toNat j u.right)
            else chkR rs ts y i z.at_.toNat u.left && chkR rs ts z z.at_.toNat j u.right
          | _ => false)
  termination_by x
theorem precI_int {rs : List Rul} {r : Int} {u : Rul} (h0 : 0 ≤ r) (h : rs[r.toNat]? = some u) : precI rs r = u.prec := by
  unfold precI; rw [if_neg (by omega), h]
/-- the program's check accepts the readings -/
theorem chk_mem {rs : List Rul} (hv : validB rs = true) {ts : List ByteArray} : ∀ (m : Nat) (x : Rd) (i j : Nat) (p : Int), j - i ≤ m → (chkR rs ts x i j p = true ↔ x ∈ leastR rs (allR rs ts i j) p) := by
  intro m
  induction m with
  | zero =>
    intro x i j p h
    obtain ⟨r, a, ks⟩ := x
    rw [all_none (by omega), chkR, if_pos (.inl (by omega))]
    simp [leastR]
  | succ m ih =>
    intro x i j p hm
    obtain ⟨r, a, ks⟩ := x
    by_cases hij : j ≤ i
    · rw [all_none (by omega), chkR, if_pos (.inl (by omega))]
      simp [leastR]
    rw [mem_least, mem_all (by omega), chkR]
    by_cases ha : a = (i : Int)
    · rw [if_neg (by omega)]
      by_cases hr : r = -1
      · subst hr
        rw [if_pos rfl]
        simp only [Bool.and_eq_true, decide_eq_true_eq]
        constructor
        · rintro ⟨h1, h2, h3, h4⟩
          refine ⟨.inl ⟨h1, h2, ?_⟩, by show p ≤ precI rs (-1); unfold precI; rw [if_pos (by omega)]; exact h4⟩
          rw [ha, List.isEmpty_iff.1 h3]
        · rintro ⟨h, hp⟩
          rcases h with ⟨h1, h2, h3⟩ | ⟨n, u, hu, h⟩
          · simp only [Rd.mk.injEq] at h3
            have hp : p ≤ precI rs (-1) := hp
            unfold precI at hp
            rw [if_pos (by omega)] at hp
            exact ⟨h1, h2, List.isEmpty_iff.2 h3.2.2, hp⟩
          · have := (rule_at h).2
            have e : (-1 : Int) = n := this
            omega
      · rw [if_neg hr]
        by_cases hb : r < 0 ∨ (rs.length : Int) ≤ r
        · rw [if_pos hb]
          constructor
          · intro h; cases h
          · rintro ⟨h, _⟩
            rcases h with ⟨_, _, h3⟩ | ⟨n, u, hu, h⟩
            · simp only [Rd.mk.injEq] at h3
              omega
            · have e : r = n := (rule_at h).2
              have := (List.getElem?_eq_some_iff.1 hu).1
              omega
        · rw [if_neg hb]
          obtain ⟨n, rfl⟩ : ∃ n : Nat, r = n := ⟨r.toNat, by omega⟩
          rw [Int.toNat_natCast]
          obtain ⟨u, hu⟩ : ∃ u, rs[n]? = some u := ⟨_, List.getElem?_eq_getElem (by omega)⟩
          rw [hu]
          dsimp only
          have hpre : precI rs (Rd.mk n a ks).rule = u.prec := precI_nat hu
          rw [hpre]
          by_cases hpu : u.prec < p
          · rw [if_pos hpu]
            constructor
            · intro h; cases h
            · rintro ⟨_, h⟩; omega
          · rw [if_neg hpu]
            have hself : ((j = i + 1 ∧ tokB ts i opndL = true ∧ Rd.mk n a ks = .mk (-1) i []) ∨ ∃ n' u', rs[n']? = some u' ∧ RuleP rs ts i j n' u' (.mk n a ks)) ∧ p ≤ u.prec ↔ RuleP rs ts i j n u (.mk n a ks) := by
              constructor
              · rintro ⟨h, _⟩
                rcases h with ⟨_, _, h3⟩ | ⟨n', u', hu', h⟩
                · simp only [Rd.mk.injEq] at h3
                  omega
                · have e : (n : Int) = n' := (rule_at h).2
                  obtain rfl : n = n' := by omega
                  rw [hu] at hu'
                  obtain rfl := Option.some.inj hu'
                  exact h
              · intro h
                exact ⟨.inr ⟨n, u, hu, h⟩, by omega⟩
            rw [hself]
            clear hself
            unfold RuleP
            by_cases h23 : u.kind = 2 ∨ u.kind = 3
            · rw [if_pos h23]
              match ks with
              | [] =>
                dsimp only
                constructor
                · intro h; cases h
                · rintro (⟨h, _⟩ | ⟨_, y, _, _, h⟩ | ⟨_, y, _, _, h⟩ | ⟨h, _⟩)
                  · omega
                  · simp at h
                  · simp at h
                  · omega
              | [y] =>
                dsimp only
                by_cases h2 : u.kind = 2
                · rw [if_pos h2, Bool.and_eq_true, ih y (i + 1) j u.right (by omega)]
                  constructor
                  · rintro ⟨h3, h4⟩
                    exact .inr (.inl ⟨h2, y, h3, h4, by rw [ha]⟩)
                  · rintro (⟨h, _⟩ | ⟨_, y', h3, h4, h⟩ | ⟨h, _⟩ | ⟨h, _⟩)
                    · omega
                    · simp only [Rd.mk.injEq, List.cons.injEq, and_true, true_and] at h
                      rw [h.2]
                      exact ⟨h3, h4⟩
                    · omega
                    · omega
                · rw [if_neg h2, Bool.and_eq_true, ih y i (j - 1) u.left (by omega)]
                  constructor
                  · rintro ⟨h3, h4⟩
                    exact .inr (.inr (.inl ⟨by omega, y, h3, h4, by rw [ha]⟩))
                  · rintro (⟨h, _⟩ | ⟨h, _⟩ | ⟨_, y', h3, h4, h⟩ | ⟨h, _⟩)
                    · omega
                    · omega
                    · simp only [Rd.mk.injEq, List.cons.injEq, and_true, true_and] at h
                      rw [h.2]
                      exact ⟨h3, h4⟩
                    · omega
              | y :: z :: l =>
                dsimp only
                constructor
                · intro h; cases h
                · rintro (⟨h, _⟩ | ⟨_, y, _, _, h⟩ | ⟨_, y, _, _, h⟩ | ⟨h, _⟩)
                  · omega
                  · simp at h
                  · simp at h
                  · omega
            · rw [if_neg h23]
              have bad : ∀ l, (∀ y z, l ≠ [y, z]) → ¬ ((u.kind = 1 ∧ ∃ k y z, i < k ∧ k + 1 < j ∧ tokB ts k u.sym.toList = true ∧ y ∈ leastR rs (allR rs ts i k) u.left ∧ z ∈ leastR rs (allR rs ts (k + 1) j) u.right ∧ Rd.mk n a l = .mk n i [y, z]) ∨
                  (u.kind = 2 ∧ ∃ y, tokB ts i u.sym.toList = true ∧ y ∈ leastR rs (allR rs ts (i + 1) j) u.right ∧ Rd.mk n a l = .mk n i [y]) ∨
                  (u.kind = 3 ∧ ∃ y, tokB ts (j - 1) u.sym.toList = true ∧ y ∈ leastR rs (allR rs ts i (j - 1)) u.left ∧ Rd.mk n a l = .mk n i [y]) ∨
                  (u.kind = 4 ∧ ∃ k y z, i < k ∧ k < j ∧ y ∈ leastR rs (allR rs ts i k) u.left ∧ z ∈ leastR rs (allR rs ts k j) u.right ∧ Rd.mk n a l = .mk n i [y, z])) := by
                intro l hl
                rintro (⟨_, k, y, z, _, _, _, _, _, h⟩ | ⟨h, _⟩ | ⟨h, _⟩ | ⟨_, k, y, z, _, _, _, _, h⟩)
                · simp only [Rd.mk.injEq] at h; exact hl y z h.2.2
                · omega
                · omega
                · simp only [Rd.mk.injEq] at h; exact hl y z h.2.2
              match ks with
              | [] => exact ⟨fun h => by simp at h, fun h => (bad [] (by simp) h).elim⟩
              | [y] => exact ⟨fun h => by simp at h, fun h => (bad [y] (by simp) h).elim⟩
              | y :: z :: c :: l => exact ⟨fun h => by simp at h, fun h => (bad (y :: z :: c :: l) (by simp) h).elim⟩
              | [y, z] =>
                clear bad
                dsimp only
                by_cases hz : z.at_ ≤ (i : Int) ∨ (j : Int) ≤ z.at_
                · rw [if_pos hz]
                  constructor
                  · intro h; cases h
                  · rintro (⟨_, k, y', z', h3, h4, _, _, h6, h⟩ | ⟨h, _⟩ | ⟨h, _⟩ | ⟨_, k, y', z', h3, h4, _, h6, h⟩)
                    · simp only [Rd.mk.injEq, List.cons.injEq, and_true, true_and] at h
                      have := (mem_least_at h6).1
                      rw [← h.2.2] at this
                      omega
                    · omega
                    · omega
                    · simp only [Rd.mk.injEq, List.cons.injEq, and_true, true_and] at h
                      have := (mem_least_at h6).1
                      rw [← h.2.2] at this
                      omega
                · rw [if_neg hz]
                  obtain ⟨b, hb'⟩ : ∃ b : Nat, z.at_ = b := ⟨z.at_.toNat, by omega⟩
                  rw [hb', Int.toNat_natCast]
                  have hbi : i < b ∧ b < j := by omega
                  by_cases h1 : u.kind = 1
                  · rw [if_pos h1, Bool.and_eq_true, Bool.and_eq_true, ih y i (b - 1) u.left (by omega), ih z b j u.right (by omega)]
                    constructor
                    · rintro ⟨h3, h4, h5⟩
                      have h6 := (mem_least_at h4).2
                      exact .inl ⟨h1, b - 1, y, z, by omega, by omega, h3, h4, by rw [show b - 1 + 1 = b by omega]; exact h5, by rw [ha]⟩
                    · rintro (⟨_, k, y', z', h3, h4, h5, h6, h7, h⟩ | ⟨h, _⟩ | ⟨h, _⟩ | ⟨h, _⟩)
                      · simp only [Rd.mk.injEq, List.cons.injEq, and_true, true_and] at h
                        obtain ⟨_, rfl, rfl⟩ := h
                        have := (mem_least_at h7).1
                        obtain rfl : b = k + 1 := by omega
                        rw [show k + 1 - 1 = k by omega]
                        exact ⟨h5, h6, h7⟩
                      · omega
                      · omega
                      · omega
                  · rw [if_neg h1, Bool.and_eq_true, ih y i b u.left (by omega), ih z b j u.right (by omega)]
                    have h4k : u.kind = 4 := by
                      rcases own_kind (valid_own hv hu) with h | h | h | h <;> omega
                    constructor
                    · rintro ⟨h4, h5⟩
                      exact .inr (.inr (.inr ⟨h4k, b, y, z, by omega, by omega, h4, h5, by rw [ha]⟩))
                    · rintro (⟨h, _⟩ | ⟨h, _⟩ | ⟨h, _⟩ | ⟨_, k, y', z', h3, h4, h6, h7, h⟩)
                      · omega
                      · omega
                      · omega
                      · simp only [Rd.mk.injEq, List.cons.injEq, and_true, true_and] at h
                        obtain ⟨_, rfl, rfl⟩ := h
                        have := (mem_least_at h7).1
                        obtain rfl : b = k := by omega
                        exact ⟨h6, h7⟩
    · rw [if_pos (.inr ha)]
      constructor
      · intro h; cases h
      · rintro ⟨h, _⟩
        rcases h with ⟨_, _, h3⟩ | ⟨n, u, hu, h⟩
        · simp only [Rd.mk.injEq] at h3
          exact (ha h3.2.1).elim
        · exact (ha (rule_at h).1).elim
end Go.Proofs.Ytmhddlhlniajpaa
