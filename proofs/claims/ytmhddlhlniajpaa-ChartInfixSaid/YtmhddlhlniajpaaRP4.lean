/- The order of readings: plain. -/
import Derived.Test.YtmhddlhlniajpaaRP3
namespace Go.Proofs.Ytmhddlhlniajpaa
def signI (a b : Int) : Int := if a < b then -1 else if b < a then 1 else 0
/-- compares two readings by their rules, the numbers of their kids, and the At of the last ones -/
def headR (x y : Rd) : Int :=
  if signI x.rule y.rule ≠ 0 then signI x.rule y.rule
  else if signI x.kids.length y.kids.length ≠ 0 then signI x.kids.length y.kids.length
  else match x.kids.getLast?, y.kids.getLast? with
    | some a, some b => signI a.at_ b.at_
    | _, _ => 0
mutual
def cmpR : Rd → Rd → Int
  | .mk r a ks, .mk r' a' ks' => if headR (.mk r a ks) (.mk r' a' ks') ≠ 0 then headR (.mk r a ks) (.mk r' a' ks') else cmpL ks ks'
def cmpL : List Rd → List Rd → Int
  | x :: xs, y :: ys => if cmpR x y ≠ 0 then cmpR x y else cmpL xs ys
  | _, _ => 0
end
/-- the program's stack, the top first -/
def stackR : List (Rd × Rd) → Int
  | [] => 0
  | (x, y) :: l => if cmpR x y ≠ 0 then cmpR x y else stackR l
theorem stack_kids : ∀ (ks ks' : List Rd) (l : List (Rd × Rd)), stackR (ks.zip ks' ++ l) = if cmpL ks ks' ≠ 0 then cmpL ks ks' else stackR l
  | [], _, l => by simp [cmpL]
  | _ :: _, [], l => by simp [cmpL]
  | x :: xs, y :: ys, l => by
    rw [List.zip_cons_cons, List.cons_append, stackR, cmpL, stack_kids xs ys l]
    by_cases h : cmpR x y = 0
    · simp [h]
    · simp [h]
theorem stack_step (x y : Rd) (l : List (Rd × Rd)) : stackR ((x, y) :: l) = if headR x y ≠ 0 then headR x y else stackR (x.kids.zip y.kids ++ l) := by
  obtain ⟨r, a, ks⟩ := x
  obtain ⟨r', a', ks'⟩ := y
  rw [stackR, cmpR, stack_kids]
  by_cases h : headR (.mk r a ks) (.mk r' a' ks') = 0
  · have h0 : ¬ headR (.mk r a ks) (.mk r' a' ks') ≠ 0 := fun hh => hh h
    simp only [if_neg h0]
    rfl
  · have h0 : headR (.mk r a ks) (.mk r' a' ks') ≠ 0 := h
    simp only [if_pos h0]
theorem sign_self (a : Int) : signI a a = 0 := by unfold signI; rw [if_neg (by omega), if_neg (by omega)]
theorem sign_swap (a b : Int) : signI b a = -signI a b := by
  unfold signI
  rcases Int.lt_trichotomy a b with h | h | h
  · rw [if_neg (by omega), if_pos h, if_pos h]; rfl
  · subst h; rw [if_neg (by omega), if_neg (by omega)]; rfl
  · rw [if_pos h, if_neg (by omega), if_pos h]
theorem head_self (x : Rd) : headR x x = 0 := by
  unfold headR
  rw [sign_self, sign_self]
  cases x.kids.getLast? <;> simp [sign_self]
theorem head_swap (x y : Rd) : headR y x = -headR x y := by
  unfold headR
  rw [sign_swap x.rule y.rule, sign_swap (x.kids.length : Int) (y.kids.length : Int)]
  by_cases h1 : signI x.rule y.rule = 0
  · by_cases h2 : signI (x.kids.length : Int) (y.kids.length : Int) = 0
    · rw [h1, h2]
      cases x.kids.getLast? <;> cases y.kids.getLast? <;> simp
      exact sign_swap _ _
    · rw [h1]
      simp [h2]
  · simp [h1]
theorem cmp_def (x y : Rd) : cmpR x y = if headR x y ≠ 0 then headR x y else cmpL x.kids y.kids := by
  obtain ⟨r, a, ks⟩ := x
  obtain ⟨r', a', ks'⟩ := y
  rw [cmpR]
  rfl
mutual
theorem cmp_self : ∀ x : Rd, cmpR x x = 0
  | .mk r a ks => by
    rw [cmpR, head_self]
    simp [cmpL_self ks]
theorem cmpL_self : ∀ l : List Rd, cmpL l l = 0
  | [] => by rw [cmpL]; intros; simp_all
  | x :: l => by
    rw [cmpL, cmp_self x]
    simp [cmpL_self l]
end
mutual
theorem cmp_swap : ∀ x y : Rd, cmpR y x = -cmpR x y
  | .mk r a ks, .mk r' a' ks' => by
    rw [cmpR, cmpR, head_swap (.mk r a ks) (.mk r' a' ks'), cmpL_swap ks ks']
    by_cases h : headR (.mk r a ks) (.mk r' a' ks') = 0
    · simp [h]
    · simp [h]
theorem cmpL_swap : ∀ l m : List Rd, cmpL m l = -cmpL l m
  | [], [] => by simp [cmpL]
  | [], _ :: _ => by simp [cmpL]
  | _ :: _, [] => by simp [cmpL]
  | x :: l, y :: m => by
    rw [cmpL, cmpL, cmp_swap x y, cmpL_swap l m]
    by_cases h : cmpR x y = 0
    · simp [h]
    · simp [h]
end
/-- the reference's number of parts left -/
def leftR (x : Rd) (m : Int) : Int := m - sizeR x
/-- sorted -/
def Lt (x y : Rd) : Prop := cmpR x y = -1
theorem lt_rule {x y : Rd} (h : x.rule < y.rule) : Lt x y := by
  unfold Lt
  rw [cmp_def]
  have e : signI x.rule y.rule = -1 := by unfold signI; rw [if_pos h]
  have e2 : headR x y = -1 := by unfold headR; rw [e]; rfl
  rw [e2]; rfl
theorem head_two {r a : Int} {y z y' z' : Rd} : headR (.mk r a [y, z]) (.mk r a [y', z']) = signI z.at_ z'.at_ := by
  unfold headR
  simp only [Rd.rule, Rd.kids, sign_self, List.length_cons, List.length_nil]
  simp
theorem head_one {r a : Int} {y y' : Rd} : headR (.mk r a [y]) (.mk r a [y']) = signI y.at_ y'.at_ := by
  unfold headR
  simp only [Rd.rule, Rd.kids, sign_self, List.length_cons, List.length_nil]
  simp
theorem lt_last {r a : Int} {y z y' z' : Rd} (h : z.at_ < z'.at_) : Lt (.mk r a [y, z]) (.mk r a [y', z']) := by
  unfold Lt
  have e : signI z.at_ z'.at_ = -1 := by unfold signI; rw [if_pos h]
  rw [cmp_def, head_two, e]; rfl
theorem lt_first {r a : Int} {y z y' z' : Rd} (ha : z.at_ = z'.at_) (h : Lt y y') : Lt (.mk r a [y, z]) (.mk r a [y', z']) := by
  unfold Lt at *
  rw [cmp_def, head_two, ha, sign_self]
  simp only [Rd.kids, cmpL]
  rw [h]; rfl
theorem lt_second {r a : Int} {y z z' : Rd} (ha : z.at_ = z'.at_) (h : Lt z z') : Lt (.mk r a [y, z]) (.mk r a [y, z']) := by
  unfold Lt at *
  rw [cmp_def, head_two, ha, sign_self]
  simp only [Rd.kids, cmpL]
  rw [cmp_self, h]; rfl
theorem lt_one {r a : Int} {y y' : Rd} (ha : y.at_ = y'.at_) (h : Lt y y') : Lt (.mk r a [y]) (.mk r a [y']) := by
  unfold Lt at *
  rw [cmp_def, head_one, ha, sign_self]
  simp only [Rd.kids, cmpL]
  rw [h]; rfl
theorem pw_least {rs : List Rul} {l : List Rd} {p : Int} (h : l.Pairwise Lt) : (leastR rs l p).Pairwise Lt := h.filter _
theorem pw_solo {r a b : Int} {l : List Rd} (h : l.Pairwise Lt) (ha : ∀ x ∈ l, x.at_ = b) : (soloR r a l).Pairwise Lt := by
  unfold soloR
  rw [List.pairwise_map]
  exact h.imp_of_mem fun {x y} hx hy hxy => lt_one ((ha x hx).trans (ha y hy).symm) hxy
theorem pw_pairs {r a b : Int} {l m : List Rd} (hl : l.Pairwise Lt) (hm : m.Pairwise Lt) (ha : ∀ x ∈ m, x.at_ = b) : (pairsR r a l m).Pairwise Lt := by
  unfold pairsR
  rw [List.pairwise_flatMap]
  constructor
  · intro x _
    rw [List.pairwise_map]
    exact hm.imp_of_mem fun {y z} hy hz hyz => lt_second ((ha y hy).trans (ha z hz).symm) hyz
  · refine hl.imp fun {x y} hxy u hu v hv => ?_
    obtain ⟨z, hz, rfl⟩ := List.mem_map.1 hu
    obtain ⟨z', hz', rfl⟩ := List.mem_map.1 hv
    exact lt_first ((ha z hz).trans (ha z' hz').symm) hxy
theorem range_pw (a n : Nat) : (List.range' a n).Pairwise (· < ·) := List.pairwise_lt_range'
/-- the readings are in order -/
theorem all_sorted {rs : List Rul} {ts : List ByteArray} : ∀ (m i j : Nat), j - i ≤ m → (allR rs ts i j).Pairwise Lt := by
  intro m
  induction m with
  | zero => intro i j h; rw [all_none (by omega)]; exact List.Pairwise.nil
  | succ m ih =>
    intro i j hm
    by_cases hij : j ≤ i
    · rw [all_none hij]; exact List.Pairwise.nil
    rw [all_eq (by omega)]
    unfold bodyR
    rw [List.pairwise_append]
    refine ⟨?_, ?_, ?_⟩
    · unfold baseR
      split
      · exact List.pairwise_singleton _ _
      · exact List.Pairwise.nil
    · rw [List.pairwise_flatMap]
      constructor
      · intro n _
        unfold ofRule
        cases hu : rs[n]? with
        | none => exact List.Pairwise.nil
        | some u =>
          dsimp only
          split
          · rw [List.pairwise_flatMap]
            constructor
            · intro k hk
              have := mem_range1 hk
              split
              · exact pw_pairs (b := ((k + 1 : Nat) : Int)) (pw_least (ih _ _ (by omega))) (pw_least (ih _ _ (by omega))) fun x hx => (mem_least_at hx).1
              · exact List.Pairwise.nil
            · refine (range_pw _ _).imp fun {k k'} hkk x hx y hy => ?_
              split at hx
              · split at hy
                · obtain ⟨a, b, _, hb, rfl⟩ := mem_pairs.1 hx
                  obtain ⟨a', b', _, hb', rfl⟩ := mem_pairs.1 hy
                  refine lt_last ?_
                  rw [(mem_least_at hb).1, (mem_least_at hb').1]
                  omega
                · cases hy
              · cases hx
          · split
            · split
              · exact pw_solo (b := ((i + 1 : Nat) : Int)) (pw_least (ih _ _ (by omega))) fun x hx => (mem_least_at hx).1
              · exact List.Pairwise.nil
            · split
              · split
                · exact pw_solo (b := (i : Int)) (pw_least (ih _ _ (by omega))) fun x hx => (mem_least_at hx).1
                · exact List.Pairwise.nil
              · split
                · rw [List.pairwise_flatMap]
                  constructor
                  · intro k hk
                    have := mem_range1 hk
                    exact pw_pairs (b := (k : Int)) (pw_least (ih _ _ (by omega))) (pw_least (ih _ _ (by omega))) fun x hx => (mem_least_at hx).1
                  · refine (range_pw _ _).imp fun {k k'} hkk x hx y hy => ?_
                    obtain ⟨a, b, _, hb, rfl⟩ := mem_pairs.1 hx
                    obtain ⟨a', b', _, hb', rfl⟩ := mem_pairs.1 hy
                    refine lt_last ?_
                    rw [(mem_least_at hb).1, (mem_least_at hb').1]
                    omega
                · exact List.Pairwise.nil
      · refine List.pairwise_lt_range.imp fun {n n'} hnn x hx y hy => lt_rule ?_
        rw [(ofRule_rule hx).1, (ofRule_rule hy).1]
        omega
    · intro x hx y hy
      obtain ⟨n, _, hn⟩ := List.mem_flatMap.1 hy
      unfold baseR at hx
      split at hx
      · rw [List.mem_singleton] at hx
        subst hx
        refine lt_rule ?_
        rw [(ofRule_rule hn).1]
        show (-1 : Int) < n
        omega
      · cases hx
/-- what ChartOrder says -/
theorem order_two {rs : List Rul} {ts : List ByteArray} {a b : Rd} {l : List Rd} (h : allR rs ts 0 ts.length = a :: b :: l) : cmpR a b = -1 ∧ ∀ x, x ∈ allR rs ts 0 ts.length → x = a ∨ cmpR b x ≤ 0 := by
  have hs := all_sorted (rs := rs) (ts := ts) _ 0 ts.length (Nat.le_refl _)
  rw [h] at hs ⊢
  rw [List.pairwise_cons, List.pairwise_cons] at hs
  obtain ⟨h1, h2, _⟩ := hs
  refine ⟨h1 b List.mem_cons_self, fun x hx => ?_⟩
  rcases List.mem_cons.1 hx with rfl | hx
  · exact .inl rfl
  · rcases List.mem_cons.1 hx with rfl | hx
    · right; rw [cmp_self]; omega
    · right
      have := h2 x hx
      unfold Lt at this
      rw [this]; omega
end Go.Proofs.Ytmhddlhlniajpaa
