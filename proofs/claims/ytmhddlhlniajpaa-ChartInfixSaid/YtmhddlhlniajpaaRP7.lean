/- Without one of the rules; how many readings there are at most: plain. -/
import Derived.Test.YtmhddlhlniajpaaRP4
namespace Go.Proofs.Ytmhddlhlniajpaa
mutual
/-- numbers of rules from k on are greater by 1 -/
def shiftR (k : Int) : Rd → Rd
  | .mk r a ks => .mk (if k ≤ r then r + 1 else r) a (shiftL k ks)
def shiftL (k : Int) : List Rd → List Rd
  | [] => []
  | x :: xs => shiftR k x :: shiftL k xs
end
theorem shift_at (k : Int) (x : Rd) : (shiftR k x).at_ = x.at_ := by obtain ⟨r, a, ks⟩ := x; rw [shiftR]; rfl
theorem shift_rule (k : Int) (x : Rd) : (shiftR k x).rule = if k ≤ x.rule then x.rule + 1 else x.rule := by obtain ⟨r, a, ks⟩ := x; rw [shiftR]; rfl
def lessR (rs : List Rul) (k : Nat) : List Rul := rs.take k ++ rs.drop (k + 1)
def up (k n : Nat) : Nat := if k ≤ n then n + 1 else n
theorem less_at {rs : List Rul} {k n : Nat} (hk : k < rs.length) : (lessR rs k)[n]? = rs[up k n]? := by
  unfold lessR up
  have hl : (rs.take k).length = k := by rw [List.length_take]; omega
  by_cases h : k ≤ n
  · rw [if_pos h, List.getElem?_append_right (by omega), hl, List.getElem?_drop]
    congr 1
    omega
  · rw [if_neg h, List.getElem?_append_left (by omega), List.getElem?_take, if_pos (by omega)]
theorem less_len {rs : List Rul} {k : Nat} (hk : k < rs.length) : (lessR rs k).length = rs.length - 1 := by
  unfold lessR
  rw [List.length_append, List.length_take, List.length_drop]
  omega
theorem less_prec {rs : List Rul} {k : Nat} (hk : k < rs.length) (x : Rd) (h0 : -1 ≤ x.rule) : precI rs (shiftR k x).rule = precI (lessR rs k) x.rule := by
  rw [shift_rule]
  by_cases h : x.rule < 0
  · rw [if_neg (by omega)]
    unfold precI
    rw [if_pos h, if_pos h]
  · obtain ⟨n, hn⟩ : ∃ n : Nat, x.rule = n := ⟨x.rule.toNat, by omega⟩
    rw [hn]
    have e : ∀ (l : List Rul) (m : Nat), precI l m = match l[m]? with
        | some x => x.prec
        | none => 0 := by
      intro l m
      unfold precI
      rw [if_neg (show ¬ ((m : Int) < 0) by omega), Int.toNat_natCast]
      rfl
    rw [e, less_at hk]
    unfold up
    by_cases h2 : k ≤ n
    · rw [if_pos (show (k : Int) ≤ (n : Int) by omega), if_pos h2, show (n : Int) + 1 = ((n + 1 : Nat) : Int) by omega, e]
    · rw [if_neg (show ¬ ((k : Int) ≤ (n : Int)) by omega), if_neg h2, e]
theorem sub_flatMap {α β : Type} {f g : α → List β} : ∀ {l : List α}, (∀ x ∈ l, (f x).Sublist (g x)) → (l.flatMap f).Sublist (l.flatMap g)
  | [], _ => List.Sublist.refl _
  | a :: l, h => by
    rw [List.flatMap_cons, List.flatMap_cons]
    exact (h a List.mem_cons_self).append (sub_flatMap fun x hx => h x (List.mem_cons_of_mem _ hx))
theorem flatMap_sub {α β : Type} {f : α → List β} {l m : List α} (h : l.Sublist m) : (l.flatMap f).Sublist (m.flatMap f) := by
  induction h with
  | slnil => exact List.Sublist.refl _
  | cons a _ ih => rw [List.flatMap_cons]; exact ih.trans (List.sublist_append_right _ _)
  | cons_cons a _ ih => rw [List.flatMap_cons, List.flatMap_cons]; exact (List.Sublist.refl _).append ih
theorem map_flatMap' {α β γ : Type} {f : β → γ} {g : α → List β} : ∀ l : List α, (l.flatMap g).map f = l.flatMap fun x => (g x).map f
  | [] => rfl
  | a :: l => by rw [List.flatMap_cons, List.flatMap_cons, List.map_append, map_flatMap' l]
theorem least_map {rs : List Rul} {k : Nat} (hk : k < rs.length) {l : List Rd} (h0 : ∀ x ∈ l, -1 ≤ x.rule) (p : Int) : (leastR (lessR rs k) l p).map (shiftR k) = leastR rs (l.map (shiftR k)) p := by
  unfold leastR
  rw [List.filter_map]
  congr 1
  refine List.filter_congr fun x hx => ?_
  show decide _ = decide (p ≤ precI rs (shiftR k x).rule)
  rw [less_prec hk x (h0 x hx)]
theorem all_rule {rs : List Rul} {ts : List ByteArray} {i j : Nat} {x : Rd} (h : x ∈ allR rs ts i j) : -1 ≤ x.rule ∧ x.rule < (rs.length : Int) := by
  rcases (mem_all (mem_lt h)).1 h with ⟨_, _, rfl⟩ | ⟨n, u, hu, h⟩
  · show (-1 : Int) ≤ -1 ∧ (-1 : Int) < _
    omega
  · rw [(rule_at h).2]
    have := (List.getElem?_eq_some_iff.1 hu).1
    omega
theorem sub_least {rs : List Rul} {l m : List Rd} {p : Int} (h : l.Sublist m) : (leastR rs l p).Sublist (leastR rs m p) := h.filter _
theorem sub_pairs {r a : Int} {l l' m m' : List Rd} (h : l.Sublist l') (h' : m.Sublist m') : (pairsR r a l m).Sublist (pairsR r a l' m') := by
  unfold pairsR
  exact (flatMap_sub h).trans (sub_flatMap fun x _ => h'.map _)
theorem sub_solo {r a : Int} {l l' : List Rd} (h : l.Sublist l') : (soloR r a l).Sublist (soloR r a l') := h.map _
theorem map_pairs {k : Int} {r a : Int} {l m : List Rd} : (pairsR r a l m).map (shiftR k) = pairsR (if k ≤ r then r + 1 else r) a (l.map (shiftR k)) (m.map (shiftR k)) := by
  unfold pairsR
  rw [map_flatMap', List.flatMap_map]
  refine flatMap_congr' fun x _ => ?_
  rw [List.map_map, List.map_map]
  refine List.map_congr_left fun y _ => ?_
  show shiftR k (.mk r a [x, y]) = _
  rw [shiftR, shiftL, shiftL, shiftL]
  rfl
theorem map_solo {k : Int} {r a : Int} {l : List Rd} : (soloR r a l).map (shiftR k) = soloR (if k ≤ r then r + 1 else r) a (l.map (shiftR k)) := by
  unfold soloR
  rw [List.map_map, List.map_map]
  refine List.map_congr_left fun y _ => ?_
  show shiftR k (.mk r a [y]) = _
  rw [shiftR, shiftL, shiftL]
  rfl
theorem up_int (k n : Nat) : (if (k : Int) ≤ (n : Int) then (n : Int) + 1 else n) = ((up k n : Nat) : Int) := by
  unfold up
  by_cases h : k ≤ n
  · rw [if_pos (by omega), if_pos h]; omega
  · rw [if_neg (by omega), if_neg h]
theorem range_up (k n : Nat) (hk : k ≤ n) : ((List.range n).map (up k)).Sublist (List.range (n + 1)) := by
  have e : (List.range n).map (up k) = (List.range (n + 1)).filter (fun x => decide (x ≠ k)) := by
    induction n with
    | zero =>
      obtain rfl : k = 0 := by omega
      rfl
    | succ n ih =>
      by_cases h : k = n + 1
      · subst h
        have h1 : (List.range (n + 1)).map (up (n + 1)) = List.range (n + 1) := by
          conv => rhs; rw [← List.map_id (List.range (n + 1))]
          refine List.map_congr_left fun x hx => ?_
          have := List.mem_range.1 hx
          unfold up
          rw [if_neg (by omega)]
          rfl
        rw [h1, List.range_succ (n := n + 1), List.filter_append]
        rw [List.filter_eq_self.2 fun x hx => by have := List.mem_range.1 hx; exact decide_eq_true (by omega)]
        simp
      · rw [List.range_succ, List.map_append, ih (by omega), List.range_succ (n := n + 1), List.filter_append]
        congr 1
        have e1 : up k n = n + 1 := by unfold up; rw [if_pos (show k ≤ n by omega)]
        have e2 : decide (n + 1 ≠ k) = true := decide_eq_true (by omega)
        rw [List.map_cons, List.map_nil, List.filter_cons, e2, e1]
        rfl
  rw [e]
  exact List.filter_sublist
/-- the readings by less rules are readings -/
theorem less_all {rs : List Rul} {ts : List ByteArray} {k : Nat} (hk : k < rs.length) : ∀ (m i j : Nat), j - i ≤ m → ((allR (lessR rs k) ts i j).map (shiftR k)).Sublist (allR rs ts i j) := by
  intro m
  induction m with
  | zero => intro i j h; rw [all_none (by omega)]; exact List.nil_sublist _
  | succ m ih =>
    intro i j hm
    by_cases hij : j ≤ i
    · rw [all_none hij]; exact List.nil_sublist _
    rw [all_eq (by omega), all_eq (rs := rs) (by omega)]
    unfold bodyR
    rw [List.map_append]
    refine List.Sublist.append ?_ ?_
    · unfold baseR
      split
      · rw [List.map_cons, List.map_nil, shiftR, shiftL, if_neg (by omega)]
        exact List.Sublist.refl _
      · exact List.nil_sublist _
    · rw [map_flatMap']
      have low : ∀ {a b : Nat} (p : Int), b - a ≤ m → ((leastR (lessR rs k) (allR (lessR rs k) ts a b) p).map (shiftR k)).Sublist (leastR rs (allR rs ts a b) p) := by
        intro a b p h
        rw [least_map hk fun x hx => (all_rule hx).1]
        exact sub_least (ih a b h)
      have h1 : ((List.range (lessR rs k).length).flatMap fun n => (ofRule (lessR rs k) ts (allR (lessR rs k) ts) i j n).map (shiftR k)).Sublist ((List.range (lessR rs k).length).flatMap fun n => ofRule rs ts (allR rs ts) i j (up k n)) := by
        refine sub_flatMap fun n _ => ?_
        unfold ofRule
        rw [less_at hk]
        cases hu : rs[up k n]? with
        | none => exact List.nil_sublist _
        | some u =>
          dsimp only
          split
          · rw [map_flatMap']
            refine sub_flatMap fun c hc => ?_
            have := mem_range1 hc
            split
            · rw [map_pairs, up_int]
              exact sub_pairs (low _ (by omega)) (low _ (by omega))
            · exact List.nil_sublist _
          · split
            · split
              · rw [map_solo, up_int]
                exact sub_solo (low _ (by omega))
              · exact List.nil_sublist _
            · split
              · split
                · rw [map_solo, up_int]
                  exact sub_solo (low _ (by omega))
                · exact List.nil_sublist _
              · split
                · rw [map_flatMap']
                  refine sub_flatMap fun c hc => ?_
                  have := mem_range1 hc
                  rw [map_pairs, up_int]
                  exact sub_pairs (low _ (by omega)) (low _ (by omega))
                · exact List.nil_sublist _
      refine h1.trans ?_
      rw [less_len hk]
      have h2 := flatMap_sub (f := ofRule rs ts (allR rs ts) i j) (range_up k (rs.length - 1) (by omega))
      rw [List.flatMap_map, show rs.length - 1 + 1 = rs.length by omega] at h2
      exact h2
theorem less_count {rs : List Rul} {ts : List ByteArray} {k : Nat} (hk : k < rs.length) : (allR (lessR rs k) ts 0 ts.length).length ≤ (allR rs ts 0 ts.length).length := by
  have := (less_all (ts := ts) hk _ 0 ts.length (Nat.le_refl _)).length_le
  rwa [List.length_map] at this
theorem less_mem {rs : List Rul} {ts : List ByteArray} {k : Nat} (hk : k < rs.length) {x : Rd} (h : x ∈ allR (lessR rs k) ts 0 ts.length) : shiftR k x ∈ allR rs ts 0 ts.length :=
  (less_all (ts := ts) hk _ 0 ts.length (Nat.le_refl _)).subset (List.mem_map_of_mem h)
theorem less_valid {rs : List Rul} (hv : validB rs = true) {k : Nat} (hk : k < rs.length) : validB (lessR rs k) = true := by
  have hu : ∀ n x, (lessR rs k)[n]? = some x → ownB x = true ∧ freshB ((lessR rs k).take n) x = true := by
    intro n x hx
    rw [less_at hk] at hx
    unfold validB at hv
    rw [Bool.and_eq_true] at hv
    obtain ⟨h1, h2⟩ := firsts_at hv.2 (List.getElem?_eq_some_iff.1 hx).1 hx
    refine ⟨h1, ?_⟩
    unfold freshB at h2 ⊢
    rw [Bool.not_eq_true', List.any_eq_false] at h2 ⊢
    intro y hy
    obtain ⟨m, hm⟩ := List.mem_iff_getElem?.1 hy
    rw [List.getElem?_take] at hm
    split at hm
    · rw [less_at hk] at hm
      refine h2 y (List.mem_of_getElem? (i := up k m) ?_)
      rw [List.getElem?_take, if_pos (by unfold up; split <;> split <;> omega)]
      exact hm
    · cases hm
  have hf : ∀ n, n ≤ (lessR rs k).length → firstsB (lessR rs k) n = true := by
    intro n
    induction n with
    | zero => intro _; rfl
    | succ n ih =>
      intro hn
      obtain ⟨x, hx⟩ : ∃ x, (lessR rs k)[n]? = some x := ⟨_, List.getElem?_eq_getElem (by omega)⟩
      rw [firsts_succ hx, ih (by omega), (hu n x hx).1, (hu n x hx).2]
      rfl
  unfold validB at hv ⊢
  rw [Bool.and_eq_true] at hv ⊢
  refine ⟨decide_eq_true ?_, hf _ (Nat.le_refl _)⟩
  have := of_decide_eq_true hv.1
  rw [less_len hk]
  omega
/-- bounds -/
theorem flat_le {α β : Type} {f : α → List β} {b : Nat} : ∀ {l : List α}, (∀ x ∈ l, (f x).length ≤ b) → (l.flatMap f).length ≤ l.length * b
  | [], _ => by simp
  | a :: l, h => by
    rw [List.flatMap_cons, List.length_append, List.length_cons, Nat.add_mul, Nat.one_mul]
    have := h a List.mem_cons_self
    have := flat_le (l := l) fun x hx => h x (List.mem_cons_of_mem _ hx)
    omega
theorem least_le {rs : List Rul} {l : List Rd} {p : Int} : (leastR rs l p).length ≤ l.length := List.length_filter_le ..
theorem pairs_len {r a : Int} {l m : List Rd} : (pairsR r a l m).length = l.length * m.length := by
  induction l with
  | nil => simp [pairsR]
  | cons x l ih =>
    unfold pairsR at ih ⊢
    rw [List.flatMap_cons, List.length_append, ih, List.length_map, List.length_cons, Nat.add_mul, Nat.one_mul]
    omega
theorem pairs_le {r a : Int} {l m : List Rd} {b c : Nat} (h : l.length ≤ b) (h' : m.length ≤ c) : (pairsR r a l m).length ≤ b * c := by rw [pairs_len]; exact Nat.mul_le_mul h h'
def mostN : List Nat := [0, 1, 8, 128, 2560, 57344, 1376256]
theorem most_mono {a b : Nat} (h : a ≤ b) (hb : b ≤ 6) : mostN.getD a 0 ≤ mostN.getD b 0 := by
  have : ∀ b, b ≤ 6 → ∀ a, a ≤ b → mostN.getD a 0 ≤ mostN.getD b 0 := by decide
  exact this b hb a h
theorem sum_le {β : Type} {f : Nat → List β} {g : Nat → Nat} (a : Nat) : ∀ n, (∀ k, a ≤ k → k < a + n → (f k).length ≤ g (k - a)) → ((List.range' a n).flatMap f).length ≤ ((List.range n).map g).sum := by
  intro n
  induction n with
  | zero => intro _; simp
  | succ n ih =>
    intro h
    rw [List.range'_concat, List.flatMap_append, List.length_append, List.range_succ, List.map_append, List.sum_append_nat]
    have h1 := ih fun k h1 h2 => h k h1 (by omega)
    have h2 := h (a + n) (by omega) (by omega)
    rw [show a + n - a = n by omega] at h2
    simp only [List.flatMap_cons, List.flatMap_nil, List.append_nil, List.map_cons, List.map_nil, List.sum_cons, List.sum_nil, Nat.one_mul]
    omega
def rowN (s : Nat) : Nat := max (mostN.getD (s - 1) 0) (((List.range (s - 1)).map fun k => mostN.getD (k + 1) 0 * mostN.getD (s - (k + 1)) 0).sum)
theorem row_step : ∀ s, s ≤ 6 → 2 ≤ s → 8 * rowN s ≤ mostN.getD s 0 := by decide
theorem row_in : ∀ s, s ≤ 6 → 2 ≤ s → (((List.range (s - 2)).map fun k => mostN.getD (k + 1) 0 * mostN.getD (s - (k + 2)) 0).sum) ≤ rowN s := by decide
theorem all_most {rs : List Rul} (hr : rs.length ≤ 8) {ts : List ByteArray} : ∀ (s i j : Nat), j - i = s → s ≤ 6 → (allR rs ts i j).length ≤ mostN.getD s 0 := by
  intro s
  induction s using Nat.strongRecOn with
  | _ s ih =>
    intro i j hs h6
    by_cases hij : j ≤ i
    · rw [all_none hij]; exact Nat.zero_le _
    rw [all_eq (by omega)]
    unfold bodyR
    rw [List.length_append]
    by_cases h1 : s = 1
    · subst h1
      have hb : (baseR ts i j).length ≤ 1 := by unfold baseR; split <;> simp
      have h0 : ((List.range rs.length).flatMap (ofRule rs ts (allR rs ts) i j)).length ≤ (List.range rs.length).length * 0 := by
        refine flat_le fun n _ => ?_
        unfold ofRule
        cases rs[n]? with
        | none => simp
        | some u =>
          dsimp only
          rw [show j - 1 - (i + 1) = 0 by omega, show j - (i + 1) = 0 by omega, all_none (show j ≤ i + 1 by omega), all_none (show j - 1 ≤ i by omega)]
          split
          · simp
          · split
            · split <;> simp [soloR, leastR]
            · split
              · split <;> simp [soloR, leastR]
              · split <;> simp
      show _ ≤ 1
      omega
    · have hb : baseR ts i j = [] := by unfold baseR; rw [if_neg (by omega)]
      rw [hb, List.length_nil, Nat.zero_add]
      have h0 : ((List.range rs.length).flatMap (ofRule rs ts (allR rs ts) i j)).length ≤ (List.range rs.length).length * rowN s := by
        refine flat_le fun n _ => ?_
        have low : ∀ (a b : Nat) (p : Int), b - a < s → (leastR rs (allR rs ts a b) p).length ≤ mostN.getD (b - a) 0 := fun a b p h => Nat.le_trans least_le (ih (b - a) h a b rfl (by omega))
        have hone : mostN.getD (s - 1) 0 ≤ rowN s := Nat.le_max_left _ _
        unfold ofRule
        cases rs[n]? with
        | none => simp
        | some u =>
          dsimp only
          split
          · refine Nat.le_trans ?_ (row_in s h6 (by omega))
            rw [show s - 2 = j - 1 - (i + 1) by omega]
            refine sum_le (i + 1) _ fun k h2 h3 => ?_
            split
            · have a1 := low i k u.left (by omega)
              have a2 := low (k + 1) j u.right (by omega)
              rw [show k - i = k - (i + 1) + 1 by omega] at a1
              rw [show j - (k + 1) = s - (k - (i + 1) + 2) by omega] at a2
              exact pairs_le a1 a2
            · exact Nat.zero_le _
          · split
            · split
              · unfold soloR
                rw [List.length_map]
                have := low (i + 1) j u.right (by omega)
                rw [show j - (i + 1) = s - 1 by omega] at this
                omega
              · exact Nat.zero_le _
            · split
              · split
                · unfold soloR
                  rw [List.length_map]
                  have := low i (j - 1) u.left (by omega)
                  rw [show j - 1 - i = s - 1 by omega] at this
                  omega
                · exact Nat.zero_le _
              · split
                · refine Nat.le_trans ?_ (Nat.le_max_right _ _)
                  rw [show s - 1 = j - (i + 1) by omega]
                  refine sum_le (i + 1) _ fun k h2 h3 => ?_
                  have a1 := low i k u.left (by omega)
                  have a2 := low k j u.right (by omega)
                  rw [show k - i = k - (i + 1) + 1 by omega] at a1
                  rw [show j - k = s - (k - (i + 1) + 1) by omega] at a2
                  exact pairs_le a1 a2
                · exact Nat.zero_le _
      rw [List.length_range] at h0
      have h2 := row_step s h6 (by omega)
      have h3 : rs.length * rowN s ≤ 8 * rowN s := Nat.mul_le_mul_right _ hr
      omega
end Go.Proofs.Ytmhddlhlniajpaa
