/- Trees of nodes, plain: what makes a tree valid, the program's count and the reference's; numbers. -/
import Derived.Test.YtpokelkneblafaaGreatDoorGP0
import Derived.Test.YtpokelkneblafaaGreatDoorSP0
namespace Go.Proofs.YtpokelkneblafaaGreatDoor
/-- a node with its kids -/
inductive Tre where
  | mk (kind : Int) (text : ByteArray) (cols : Int) (kids : List Tre)
def Tre.kind : Tre → Int
  | .mk k _ _ _ => k
def Tre.text : Tre → ByteArray
  | .mk _ s _ _ => s
def Tre.cols : Tre → Int
  | .mk _ _ c _ => c
def Tre.kids : Tre → List Tre
  | .mk _ _ _ ks => ks
mutual
def countT : Tre → Nat
  | .mk _ _ _ ks => countL ks + 1
def countL : List Tre → Nat
  | [] => 0
  | t :: ts => countT t + countL ts
end
mutual
def depthT : Tre → Nat
  | .mk _ _ _ ks => depthL ks + 1
def depthL : List Tre → Nat
  | [] => 0
  | t :: ts => max (depthT t) (depthL ts)
end
def dig46 (c : UInt8) : Bool := decide (48 ≤ c.toNat) && decide (c.toNat ≤ 57)
def digsB (l : List UInt8) : Bool := l.all dig46 && !l.isEmpty
/-- a number, as the program reads it -/
def numP (l : List UInt8) : Bool := decide (l.length ≤ 20) && (digsB (Lib.cut l [46]).1 && (!(Lib.cut l [46]).2.2 || digsB (Lib.cut l [46]).2.1))
/-- a number, as the reference reads it -/
def numR (l : List UInt8) : Bool := l.all (fun c => c == 46 || dig46 c) && (decide (l.head? ≠ some 46) && (decide (l.getLast? ≠ some 46) && (decide (0 < l.length) && (decide (l.length ≤ 20) && decide (l.count 46 ≤ 1)))))
theorem dig_not (c : UInt8) (h : dig46 c = true) : c ≠ 46 := by
  rintro rfl
  revert h
  decide
theorem digs_count {l : List UInt8} (h : l.all dig46 = true) : l.count 46 = 0 := by
  rw [List.count_eq_zero]
  intro hm
  exact dig_not 46 (List.all_eq_true.1 h 46 hm) rfl
theorem num_plain {l : List UInt8} (h : (46 : UInt8) ∉ l) : l.all (fun c => c == 46 || dig46 c) = l.all dig46 := by
  induction l with
  | nil => rfl
  | cons a r ih =>
    simp only [List.mem_cons, not_or] at h
    rw [List.all_cons, List.all_cons, ih h.2]
    congr 1
    rw [beq_eq_false_iff_ne.2 (fun e => h.1 e.symm), Bool.false_or]
theorem num_same (l : List UInt8) : numR l = numP l := by
  unfold numR numP
  rcases mem_split 46 l with h | ⟨a, b, rfl, h⟩
  · rw [cut_miss 46 h, num_plain h]
    have h1 : l.count 46 = 0 := List.count_eq_zero.2 h
    have h2 : l.head? ≠ some 46 := fun e => h (List.mem_of_head? e)
    have h3 : l.getLast? ≠ some 46 := fun e => h (List.mem_of_getLast? e)
    rw [h1, decide_eq_true h2, decide_eq_true h3]
    unfold digsB
    cases l with
    | nil => simp
    | cons x r => simp [Bool.and_comm]
  · rw [cut_hit 46 h]
    simp only [Bool.not_true, Bool.false_or]
    rw [Bool.eq_iff_iff]
    simp only [Bool.and_eq_true, decide_eq_true_eq, digsB, Bool.not_eq_true', List.isEmpty_eq_false_iff]
    constructor
    · rintro ⟨h1, h2, h3, h4, h5, h6⟩
      rw [List.all_append, List.all_cons, Bool.and_eq_true, num_plain h] at h1
      have hc : (b.count 46) = 0 := by
        rw [List.count_append, List.count_cons_self] at h6
        omega
      have hb : (46 : UInt8) ∉ b := List.count_eq_zero.1 hc
      rw [num_plain hb] at h1
      simp only [Bool.and_eq_true] at h1
      refine ⟨h5, ⟨h1.1, fun e => ?_⟩, h1.2.2, fun e => ?_⟩
      · subst e
        simp at h2
      · subst e
        simp at h3
    · rintro ⟨h1, ⟨h2, h3⟩, h4, h5⟩
      have hb : (46 : UInt8) ∉ b := List.count_eq_zero.1 (digs_count h4)
      refine ⟨?_, ?_, ?_, by simp; omega, h1, ?_⟩
      · rw [List.all_append, List.all_cons, num_plain h, num_plain hb, h2, h4]
        rfl
      · intro e
        cases a with
        | nil => exact h3 rfl
        | cons x r =>
          simp at e
          subst e
          simp at h
      · intro e
        rw [List.getLast?_append] at e
        cases b with
        | nil => exact h5 rfl
        | cons x r =>
          rw [List.getLast?_cons_cons] at e
          have hne : (x :: r).getLast? = some 46 := by
            cases hl : (x :: r).getLast? with
            | none => simp at hl
            | some y => rw [hl] at e; simpa using e
          exact hb (List.mem_of_getLast? hne)
      · rw [List.count_append, List.count_cons_self, digs_count h2, digs_count h4]
        omega
def prinB (l : List UInt8) : Bool := l.all fun c => decide (32 ≤ c.toNat) && decide (c.toNat ≤ 126)
def delimL : List UInt8 := [40, 41, 91, 93, 123, 125, 124, 60, 62, 47, 46]
def fencB (l : List UInt8) : Bool := match l with
  | [a, b] => hasB delimL a && hasB delimL b
  | _ => false
/-- whether a text is one of a node of a kind -/
def textB (k : Int) (l : List UInt8) : Bool :=
  if k = 2 then symB l else if k = 3 then numP l else if k = 4 then decide (l.length ≤ 200) && prinB l else if k = 10 then inB accentsL l else if k = 11 then fencB l else l.isEmpty
/-- whether a node of a kind may have a number of columns and of kids -/
def kidsB (k c : Int) (n : Nat) : Bool :=
  if k = 12 then decide (1 ≤ c ∧ c ≤ 16) && (decide (1 ≤ n ∧ n ≤ 256) && decide ((n : Int) % c = 0))
  else decide (c = 0) && (if k = 1 then decide (n ≤ 200) else if k = 2 ∨ k = 3 ∨ k = 4 then decide (n = 0) else if k = 5 ∨ k = 6 ∨ k = 7 ∨ k = 8 then decide (n = 2) else if k = 9 then decide (n = 3) else if k = 10 ∨ k = 11 then decide (n = 1) else false)
def ownT (k : Int) (s : List UInt8) (c : Int) (n : Nat) : Bool := textB k s && kidsB k c n
/-- a row in a row, or none in none -/
def badPair (k j : Int) : Bool := (decide (k = 1)) == (decide (j = 1))
mutual
def formT : Tre → Bool
  | .mk k s c ks => ownT k s.data.toList c ks.length && formL k ks
def formL (k : Int) : List Tre → Bool
  | [] => true
  | t :: ts => !badPair k t.kind && (formT t && formL k ts)
end
def validT (t : Tre) : Bool := decide (t.kind = 1) && (formT t && (decide (countT t ≤ 1000) && decide (depthT t ≤ 24)))
mutual
/-- the program's check: whether a node at a depth is valid, and the number of nodes so far -/
def chkT : Tre → Nat → Nat → Bool × Nat
  | .mk k s c ks, d, n => if 1000 < n + 1 ∨ 24 < d ∨ ownT k s.data.toList c ks.length = false then (false, n + 1) else chkL k ks (d + 1) (n + 1)
def chkL (k : Int) : List Tre → Nat → Nat → Bool × Nat
  | [], _, n => (true, n)
  | t :: ts, d, n => if badPair k t.kind then (false, n) else if (chkT t d n).1 then chkL k ts d (chkT t d n).2 else (false, (chkT t d n).2)
end
mutual
theorem chkT_iff : ∀ (t : Tre) (d n : Nat), n ≤ 1000 → ((chkT t d n).1 = true ↔ formT t = true ∧ d + depthT t ≤ 25 ∧ n + countT t ≤ 1000) ∧ ((chkT t d n).1 = true → (chkT t d n).2 = n + countT t)
  | .mk k s c ks, d, n, hn => by
    unfold chkT formT depthT countT
    by_cases h : 1000 < n + 1 ∨ 24 < d ∨ ownT k s.data.toList c ks.length = false
    · rw [if_pos h]
      refine ⟨⟨fun e => by simp at e, fun ⟨h1, h2, h3⟩ => ?_⟩, fun e => by simp at e⟩
      rw [Bool.and_eq_true] at h1
      rcases h with h | h | h
      · omega
      · omega
      · rw [h] at h1; simp at h1
    · rw [if_neg h]
      simp only [not_or, Bool.not_eq_false] at h
      obtain ⟨g1, g2, g3⟩ := h
      obtain ⟨i1, i2⟩ := chkL_iff k ks (d + 1) (n + 1) (by omega) (by omega)
      rw [g3, Bool.true_and]
      refine ⟨i1.trans ⟨fun ⟨a, b, c⟩ => ⟨a, by omega, by omega⟩, fun ⟨a, b, c⟩ => ⟨a, by omega, by omega⟩⟩, fun e => ?_⟩
      rw [i2 e]
      omega
theorem chkL_iff : ∀ (k : Int) (ts : List Tre) (d n : Nat), n ≤ 1000 → d ≤ 25 → ((chkL k ts d n).1 = true ↔ formL k ts = true ∧ d + depthL ts ≤ 25 ∧ n + countL ts ≤ 1000) ∧ ((chkL k ts d n).1 = true → (chkL k ts d n).2 = n + countL ts)
  | k, [], d, n, hn, hd => by
    unfold chkL formL depthL countL
    simp
    omega
  | k, t :: ts, d, n, hn, hd => by
    unfold chkL formL depthL countL
    cases hb : badPair k t.kind
    · obtain ⟨a1, a2⟩ := chkT_iff t d n hn
      rw [if_neg (by simp)]
      cases hc : (chkT t d n).1
      · rw [if_neg (by simp)]
        rw [hc] at a1
        refine ⟨⟨fun e => by simp at e, fun ⟨h1, h2, h3⟩ => ?_⟩, fun e => by simp at e⟩
        simp only [Bool.not_false, Bool.true_and, Bool.and_eq_true] at h1
        have := a1.2 ⟨h1.1, by omega, by omega⟩
        cases this
      · rw [if_pos rfl]
        obtain ⟨f1, f2, f3⟩ := a1.1 hc
        have e2 := a2 hc
        rw [e2]
        obtain ⟨b1, b2⟩ := chkL_iff k ts d (n + countT t) f3 hd
        simp only [Bool.not_false, Bool.true_and, f1]
        refine ⟨b1.trans ⟨fun ⟨p, q, r⟩ => ⟨p, by omega, by omega⟩, fun ⟨p, q, r⟩ => ⟨p, by omega, by omega⟩⟩, fun e => ?_⟩
        rw [b2 e]
        omega
    · rw [if_pos rfl]
      simp
end
theorem valid_chk (t : Tre) : validT t = (decide (t.kind = 1) && (chkT t 1 0).1) := by
  unfold validT
  congr 1
  rw [Bool.eq_iff_iff]
  have := (chkT_iff t 1 0 (by omega)).1
  rw [this]
  simp only [Bool.and_eq_true, decide_eq_true_eq]
  constructor
  · rintro ⟨a, b, c⟩; exact ⟨a, by omega, by omega⟩
  · rintro ⟨a, b, c⟩; exact ⟨a, by omega, by omega⟩
end Go.Proofs.YtpokelkneblafaaGreatDoor
