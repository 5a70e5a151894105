/- Infix rules that group to the left: plain. -/
import Derived.Test.YtmhddlhlniajpaaRP4
namespace Go.Proofs.Ytmhddlhlniajpaa
theorem lt_irrefl (x : Rd) : ¬ Lt x x := by unfold Lt; rw [cmp_self]; omega
theorem single_of {l : List Rd} {x : Rd} (hs : l.Pairwise Lt) (h : ∀ y, y ∈ l ↔ y = x) : l = [x] := by
  match l with
  | [] => have := (h x).2 rfl; cases this
  | [a] => rw [(h a).1 List.mem_cons_self]
  | a :: b :: l =>
    have ea := (h a).1 List.mem_cons_self
    have eb := (h b).1 (List.mem_cons_of_mem _ List.mem_cons_self)
    subst ea
    rw [List.pairwise_cons] at hs
    have := hs.1 b List.mem_cons_self
    rw [eb] at this
    exact (lt_irrefl _ this).elim
/-- operands with operators between them -/
structure InfixP (rs : List Rul) (ts : List ByteArray) (m : Nat) (o : Nat → Nat) : Prop where
  uniq : Uniq rs
  len : ts.length = 2 * m + 1
  opnd : ∀ q, q ≤ m → tokL ts (2 * q) = opndL
  op : ∀ q, q < m → ∃ u, rs[o q]? = some u ∧ tokL ts (2 * q + 1) = u.sym.toList
  rul : ∀ (n : Nat) u, rs[n]? = some u → u.kind = 1 ∧ u.left = u.prec ∧ u.right = u.prec + 1 ∧ u.sym.toList ≠ opndL ∧ u.prec ≤ 100
/-- the last operator with the least precedence -/
def LastMin (P : Nat → Int) (a b q : Nat) : Prop := a ≤ q ∧ q < b ∧ ∀ t, a ≤ t → t < b → P q ≤ P t ∧ (q < t → P q < P t)
theorem last_min (P : Nat → Int) (a : Nat) : ∀ n, ∃ q, LastMin P a (a + n + 1) q := by
  intro n
  induction n with
  | zero =>
    refine ⟨a, Nat.le_refl _, by omega, fun t h1 h2 => ?_⟩
    obtain rfl : t = a := by omega
    exact ⟨Int.le_refl _, fun h => by omega⟩
  | succ n ih =>
    obtain ⟨q, h1, h2, h3⟩ := ih
    by_cases h : P (a + n + 1) ≤ P q
    · refine ⟨a + n + 1, by omega, by omega, fun t h4 h5 => ?_⟩
      by_cases e : t = a + n + 1
      · subst e; exact ⟨Int.le_refl _, fun h => by omega⟩
      · have := (h3 t h4 (by omega)).1
        exact ⟨by omega, fun h => by omega⟩
    · refine ⟨q, h1, by omega, fun t h4 h5 => ?_⟩
      by_cases e : t = a + n + 1
      · subst e; exact ⟨by omega, fun _ => by omega⟩
      · exact h3 t h4 (by omega)
theorem last_uniq {P : Nat → Int} {a b q q' : Nat} (h : LastMin P a b q) (h' : LastMin P a b q') : q = q' := by
  obtain ⟨h1, h2, h3⟩ := h
  obtain ⟨h4, h5, h6⟩ := h'
  rcases Nat.lt_trichotomy q q' with hl | hl | hl
  · have := (h3 q' h4 h5).2 hl; have := (h6 q h1 h2).1; omega
  · exact hl
  · have := (h6 q h1 h2).2 hl; have := (h3 q' h4 h5).1; omega
/-- the only reading of operands a to b -/
structure OnlyP (rs : List Rul) (ts : List ByteArray) (o : Nat → Nat) (a b : Nat) (x : Rd) : Prop where
  only : ∀ y, y ∈ allR rs ts (2 * a) (2 * b + 1) ↔ y = x
  leaf : a = b → x.rule = -1
  root : ∀ q, LastMin (fun q => precI rs (o q)) a b q → ∃ l r, x = .mk (o q) ((2 * a : Nat) : Int) [l, r] ∧ r.at_ = ((2 * q + 2 : Nat) : Int)
theorem infix_only {rs : List Rul} {ts : List ByteArray} {m : Nat} {o : Nat → Nat} (I : InfixP rs ts m o) : ∀ (n a b : Nat), b - a ≤ n → a ≤ b → b ≤ m → ∃ x, OnlyP rs ts o a b x := by
  intro n
  induction n with
  | zero =>
    intro a b h1 h2 hbm
    obtain rfl : a = b := by omega
    refine ⟨.mk (-1) ((2 * a : Nat) : Int) [], fun y => ?_, fun _ => rfl, fun q hq => by have := hq.1; have := hq.2.1; omega⟩
    rw [mem_all (by omega)]
    constructor
    · rintro (⟨_, _, rfl⟩ | ⟨n, u, hu, h⟩)
      · rfl
      · obtain ⟨hk, _⟩ := I.rul n u hu
        rcases h with ⟨_, k, _, _, h3, h4, _⟩ | ⟨h, _⟩ | ⟨h, _⟩ | ⟨h, _⟩ <;> omega
    · rintro rfl
      exact .inl ⟨rfl, (tokB_iff (by rw [I.len]; omega) _).2 (I.opnd a (by omega)).symm, rfl⟩
  | succ n ih =>
    intro a b h1 h2 hbm
    by_cases hn : b - a ≤ n
    · exact ih a b hn h2 hbm
    have hab : a < b := by omega
    -- the readings of each side
    obtain ⟨q0, hq0⟩ := last_min (fun q => precI rs (o q)) a (b - a - 1)
    rw [show a + (b - a - 1) + 1 = b by omega] at hq0
    -- what a reading looks like
    have key : ∀ y, y ∈ allR rs ts (2 * a) (2 * b + 1) ↔ ∃ q l r, LastMin (fun q => precI rs (o q)) a b q ∧ l ∈ allR rs ts (2 * a) (2 * q + 1) ∧ r ∈ allR rs ts (2 * q + 2) (2 * b + 1) ∧ y = .mk (o q) ((2 * a : Nat) : Int) [l, r] := by
      intro y
      have side : ∀ q, a ≤ q → q < b → ∀ l r, l ∈ allR rs ts (2 * a) (2 * q + 1) → r ∈ allR rs ts (2 * q + 2) (2 * b + 1) → ((precI rs (o q) ≤ precI rs l.rule ∧ precI rs (o q) + 1 ≤ precI rs r.rule) ↔ LastMin (fun q => precI rs (o q)) a b q) := by
        intro q hq1 hq2 l r hl hr
        obtain ⟨u, hu, _⟩ := I.op q (by omega)
        have hpq := precI_nat hu
        obtain ⟨_, _, _, _, hp100⟩ := I.rul _ u hu
        obtain ⟨xl, hxl⟩ := ih a q (by omega) hq1 (by omega)
        obtain ⟨xr, hxr⟩ := ih (q + 1) b (by omega) (by omega) hbm
        obtain rfl := (hxl.only l).1 hl
        obtain rfl := (hxr.only r).1 (by rw [show 2 * (q + 1) = 2 * q + 2 by omega]; exact hr)
        have fl : precI rs (o q) ≤ precI rs l.rule ↔ ∀ t, a ≤ t → t < q → precI rs (o q) ≤ precI rs (o t) := by
          by_cases e : a = q
          · rw [hxl.leaf e]
            have : precI rs (-1) = 101 := rfl
            constructor
            · intro _ t h1 h2; omega
            · intro _; omega
          · obtain ⟨q1, hq1'⟩ := last_min (fun q => precI rs (o q)) a (q - a - 1)
            rw [show a + (q - a - 1) + 1 = q by omega] at hq1'
            obtain ⟨l1, r1, rfl, _⟩ := hxl.root q1 hq1'
            constructor
            · intro h t h1 h2
              have h5 : precI rs (o q1) ≤ precI rs (o t) := (hq1'.2.2 t h1 h2).1
              have h : precI rs (o q) ≤ precI rs (o q1) := h
              omega
            · intro h
              exact h q1 hq1'.1 hq1'.2.1
        have fr : precI rs (o q) + 1 ≤ precI rs r.rule ↔ ∀ t, q < t → t < b → precI rs (o q) < precI rs (o t) := by
          by_cases e : q + 1 = b
          · rw [hxr.leaf e]
            have : precI rs (-1) = 101 := rfl
            constructor
            · intro _ t h1 h2; omega
            · intro _; omega
          · obtain ⟨q1, hq1'⟩ := last_min (fun q => precI rs (o q)) (q + 1) (b - (q + 1) - 1)
            rw [show q + 1 + (b - (q + 1) - 1) + 1 = b by omega] at hq1'
            obtain ⟨l1, r1, rfl, _⟩ := hxr.root q1 hq1'
            constructor
            · intro h t h1 h2
              have h5 : precI rs (o q1) ≤ precI rs (o t) := (hq1'.2.2 t h1 h2).1
              have h : precI rs (o q) + 1 ≤ precI rs (o q1) := h
              omega
            · intro h
              have := h q1 hq1'.1 hq1'.2.1
              show precI rs (o q) + 1 ≤ precI rs (o q1)
              omega
        rw [fl, fr]
        constructor
        · rintro ⟨h3, h4⟩
          refine ⟨hq1, hq2, fun t h5 h6 => ?_⟩
          rcases Nat.lt_trichotomy t q with ht | ht | ht
          · exact ⟨h3 t h5 ht, fun h => by omega⟩
          · subst ht; exact ⟨Int.le_refl _, fun h => by omega⟩
          · have := h4 t ht h6; exact ⟨by show precI rs (o q) ≤ precI rs (o t); omega, fun _ => this⟩
        · rintro ⟨_, _, h3⟩
          exact ⟨fun t h5 h6 => (h3 t h5 (by omega)).1, fun t h5 h6 => (h3 t (by omega) h6).2 h5⟩
      rw [mem_all (by omega)]
      constructor
      · rintro (⟨h3, _, _⟩ | ⟨n', u, hu, h⟩)
        · omega
        · obtain ⟨hk, hul, hur, hso, _⟩ := I.rul n' u hu
          rcases h with ⟨_, k, l, r, h3, h4, h5, hl, hr, rfl⟩ | ⟨h, _⟩ | ⟨h, _⟩ | ⟨h, _⟩
          · have hkl : k < ts.length := by rw [I.len]; omega
            have htk := (tokB_iff hkl _).1 h5
            obtain ⟨q, hq⟩ : ∃ q, k = 2 * q + 1 := by
              rcases Nat.mod_two_eq_zero_or_one k with h | h
              · have := I.opnd (k / 2) (by omega)
                rw [show 2 * (k / 2) = k by omega] at this
                rw [this] at htk
                exact (hso htk).elim
              · exact ⟨k / 2, by omega⟩
            subst hq
            obtain ⟨u', hu', htu⟩ := I.op q (by omega)
            have hk' := (I.rul _ u' hu').1
            obtain rfl : n' = o q := I.uniq _ _ u u' hu hu' (hk.trans hk'.symm) (htk.trans htu)
            rw [mem_least] at hl hr
            refine ⟨q, l, r, ?_, hl.1, hr.1, rfl⟩
            refine (side q (by omega) (by omega) l r hl.1 hr.1).1 ⟨?_, ?_⟩
            · rw [precI_nat hu, ← hul]; exact hl.2
            · rw [precI_nat hu, ← hur]; exact hr.2
          · omega
          · omega
          · omega
      · rintro ⟨q, l, r, hq, hl, hr, rfl⟩
        obtain ⟨u, hu, htu⟩ := I.op q (by have := hq.2.1; omega)
        obtain ⟨hk, hul, hur, _, _⟩ := I.rul _ u hu
        have hs := (side q hq.1 hq.2.1 l r hl hr).2 hq
        rw [precI_nat hu] at hs
        have := hq.1
        have := hq.2.1
        refine .inr ⟨o q, u, hu, .inl ⟨hk, 2 * q + 1, l, r, by omega, by omega, (tokB_iff (by rw [I.len]; omega) _).2 htu.symm, mem_least.2 ⟨hl, by rw [hul]; exact hs.1⟩, mem_least.2 ⟨hr, by rw [hur]; exact hs.2⟩, rfl⟩⟩
    obtain ⟨xl, hxl⟩ := ih a q0 (by have := hq0.1; have := hq0.2.1; omega) hq0.1 (by have := hq0.2.1; omega)
    obtain ⟨xr, hxr⟩ := ih (q0 + 1) b (by have := hq0.1; omega) (by have := hq0.2.1; omega) hbm
    have hl0 := (hxl.only xl).2 rfl
    have hr0 := (hxr.only xr).2 rfl
    rw [show 2 * (q0 + 1) = 2 * q0 + 2 by omega] at hr0
    refine ⟨.mk (o q0) ((2 * a : Nat) : Int) [xl, xr], fun y => ?_, fun h => by omega, fun q hq => ?_⟩
    · rw [key]
      constructor
      · rintro ⟨q, l, r, hq, hl, hr, rfl⟩
        obtain rfl := last_uniq hq hq0
        rw [(hxl.only l).1 hl, (hxr.only r).1 (by rw [show 2 * (q + 1) = 2 * q + 2 by omega]; exact hr)]
      · rintro rfl
        exact ⟨q0, xl, xr, hq0, hl0, hr0, rfl⟩
    · obtain rfl := last_uniq hq hq0
      exact ⟨xl, xr, rfl, mem_at hr0⟩
/-- ChartInfix -/
theorem infix_all {rs : List Rul} {ts : List ByteArray} {m : Nat} {o : Nat → Nat} (I : InfixP rs ts m o) : ∃ x, allR rs ts 0 ts.length = [x] ∧ (m = 0 → x.rule = -1) ∧ ∀ q, LastMin (fun q => precI rs (o q)) 0 m q → ∃ l r, x = .mk (o q) 0 [l, r] ∧ r.at_ = ((2 * q + 2 : Nat) : Int) := by
  obtain ⟨x, hx⟩ := infix_only I m 0 m (by omega) (by omega) (by omega)
  have h := hx.only
  rw [show 2 * 0 = 0 by rfl, ← I.len] at h
  exact ⟨x, single_of (all_sorted _ _ _ (Nat.le_refl _)) h, fun h => hx.leaf h.symm, fun q hq => hx.root q hq⟩
end Go.Proofs.Ytmhddlhlniajpaa
