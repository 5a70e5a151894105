/- Trees of nodes, plain: what makes a tree valid, the program's count and the reference's; numbers · Strings that are symbols or names: the leaf functions of the program and of the reference return what the plain functions say -/
import Derived.Test.YthpioplpfmlgcaaGreatDoorH95b2a9f9
import Derived.Test.YthpioplpfmlgcaaGreatDoorProg
import Derived.WalkKit
import Derived.WalkSpells
import Derived.WalkLawsBesides
import Derived.Handy
import Derived.Lib.Hide
import Derived.Below
import Derived.Laws.OwnMore
import Derived.Deep.Draws
import Derived.Laws.Rows
import Derived.Laws.BitsAllLaws
namespace Go.Proofs.YthpioplpfmlgcaaGreatDoor.At
/-- a node with its kids -/
inductive Tre where
  | mk (kind : Int) (text : ByteArray) (cols : Int) (kids : List Tre)
def Tre.kind : Tre → Int
  | .mk k _ _ _ => k
def Tre.text : Tre → ByteArray
  | .mk _ s _ _ => s
def Tre.cols : Tre → Int
  | .mk _ _ c _ => c
def Tre.kids : Tre → List Tre
  | .mk _ _ _ ks => ks
mutual
def countT : Tre → Nat
  | .mk _ _ _ ks => countL ks + 1
def countL : List Tre → Nat
  | [] => 0
  | t :: ts => countT t + countL ts
end
mutual
def depthT : Tre → Nat
  | .mk _ _ _ ks => depthL ks + 1
def depthL : List Tre → Nat
  | [] => 0
  | t :: ts => max (depthT t) (depthL ts)
end
def dig46 (c : UInt8) : Bool := decide (48 ≤ c.toNat) && decide (c.toNat ≤ 57)
def digsB (l : List UInt8) : Bool := l.all dig46 && !l.isEmpty
/-- a number, as the program reads it -/
def numP (l : List UInt8) : Bool := decide (l.length ≤ 20) && (digsB (Lib.cut l [46]).1 && (!(Lib.cut l [46]).2.2 || digsB (Lib.cut l [46]).2.1))
/-- a number, as the reference reads it -/
def numR (l : List UInt8) : Bool := l.all (fun c => c == 46 || dig46 c) && (decide (l.head? ≠ some 46) && (decide (l.getLast? ≠ some 46) && (decide (0 < l.length) && (decide (l.length ≤ 20) && decide (l.count 46 ≤ 1)))))
theorem dig_not (c : UInt8) (h : dig46 c = true) : c ≠ 46 := by
  rintro rfl
  revert h
  decide
theorem digs_count {l : List UInt8} (h : l.all dig46 = true) : l.count 46 = 0 := by
  rw [List.count_eq_zero]
  intro hm
  exact dig_not 46 (List.all_eq_true.1 h 46 hm) rfl
theorem num_plain {l : List UInt8} (h : (46 : UInt8) ∉ l) : l.all (fun c => c == 46 || dig46 c) = l.all dig46 := by
  induction l with
  | nil => rfl
  | cons a r ih =>
    simp only [List.mem_cons, not_or] at h
    rw [List.all_cons, List.all_cons, ih h.2]
    congr 1
    rw [beq_eq_false_iff_ne.2 (fun e => h.1 e.symm), Bool.false_or]
theorem num_same (l : List UInt8) : numR l = numP l := by
  unfold numR numP
  rcases mem_split 46 l with h | ⟨a, b, rfl, h⟩
  · rw [cut_miss 46 h, num_plain h]
    have h1 : l.count 46 = 0 := List.count_eq_zero.2 h
    have h2 : l.head? ≠ some 46 := fun e => h (List.mem_of_head? e)
    have h3 : l.getLast? ≠ some 46 := fun e => h (List.mem_of_getLast? e)
    rw [h1, decide_eq_true h2, decide_eq_true h3]
    unfold digsB
    cases l with
    | nil => simp
    | cons x r => simp [Bool.and_comm]
  · rw [cut_hit 46 h]
    simp only [Bool.not_true, Bool.false_or]
    rw [Bool.eq_iff_iff]
    simp only [Bool.and_eq_true, decide_eq_true_eq, digsB, Bool.not_eq_true', List.isEmpty_eq_false_iff]
    constructor
    · rintro ⟨h1, h2, h3, h4, h5, h6⟩
      rw [List.all_append, List.all_cons, Bool.and_eq_true, num_plain h] at h1
      have hc : (b.count 46) = 0 := by
        rw [List.count_append, List.count_cons_self] at h6
        omega
      have hb : (46 : UInt8) ∉ b := List.count_eq_zero.1 hc
      rw [num_plain hb] at h1
      simp only [Bool.and_eq_true] at h1
      refine ⟨h5, ⟨h1.1, fun e => ?_⟩, h1.2.2, fun e => ?_⟩
      · subst e
        simp at h2
      · subst e
        simp at h3
    · rintro ⟨h1, ⟨h2, h3⟩, h4, h5⟩
      have hb : (46 : UInt8) ∉ b := List.count_eq_zero.1 (digs_count h4)
      refine ⟨?_, ?_, ?_, by simp; omega, h1, ?_⟩
      · rw [List.all_append, List.all_cons, num_plain h, num_plain hb, h2, h4]
        rfl
      · intro e
        cases a with
        | nil => exact h3 rfl
        | cons x r =>
          simp at e
          subst e
          simp at h
      · intro e
        rw [List.getLast?_append] at e
        cases b with
        | nil => exact h5 rfl
        | cons x r =>
          rw [List.getLast?_cons_cons] at e
          have hne : (x :: r).getLast? = some 46 := by
            cases hl : (x :: r).getLast? with
            | none => simp at hl
            | some y => rw [hl] at e; simpa using e
          exact hb (List.mem_of_getLast? hne)
      · rw [List.count_append, List.count_cons_self, digs_count h2, digs_count h4]
        omega
def prinB (l : List UInt8) : Bool := l.all fun c => decide (32 ≤ c.toNat) && decide (c.toNat ≤ 126)
def delimL : List UInt8 := [40, 41, 91, 93, 123, 125, 124, 60, 62, 47, 46]
def fencB (l : List UInt8) : Bool := match l with
  | [a, b] => hasB delimL a && hasB delimL b
  | _ => false
/-- whether a text is one of a node of a kind -/
def textB (k : Int) (l : List UInt8) : Bool :=
  if k = 2 then symB l else if k = 3 then numP l else if k = 4 then decide (l.length ≤ 200) && prinB l else if k = 10 then inB accentsL l else if k = 11 then fencB l else l.isEmpty
/-- whether a node of a kind may have a number of columns and of kids -/
def kidsB (k c : Int) (n : Nat) : Bool :=
  if k = 12 then decide (1 ≤ c ∧ c ≤ 16) && (decide (1 ≤ n ∧ n ≤ 256) && decide ((n : Int) % c = 0))
  else decide (c = 0) && (if k = 1 then decide (n ≤ 200) else if k = 2 ∨ k = 3 ∨ k = 4 then decide (n = 0) else if k = 5 ∨ k = 6 ∨ k = 7 ∨ k = 8 then decide (n = 2) else if k = 9 then decide (n = 3) else if k = 10 ∨ k = 11 then decide (n = 1) else false)
def ownT (k : Int) (s : List UInt8) (c : Int) (n : Nat) : Bool := textB k s && kidsB k c n
/-- a row in a row, or none in none -/
def badPair (k j : Int) : Bool := (decide (k = 1)) == (decide (j = 1))
mutual
def formT : Tre → Bool
  | .mk k s c ks => ownT k s.data.toList c ks.length && formL k ks
def formL (k : Int) : List Tre → Bool
  | [] => true
  | t :: ts => !badPair k t.kind && (formT t && formL k ts)
end
def validT (t : Tre) : Bool := decide (t.kind = 1) && (formT t && (decide (countT t ≤ 1000) && decide (depthT t ≤ 24)))
mutual
/-- the program's check: whether a node at a depth is valid, and the number of nodes so far -/
def chkT : Tre → Nat → Nat → Bool × Nat
  | .mk k s c ks, d, n => if 1000 < n + 1 ∨ 24 < d ∨ ownT k s.data.toList c ks.length = false then (false, n + 1) else chkL k ks (d + 1) (n + 1)
def chkL (k : Int) : List Tre → Nat → Nat → Bool × Nat
  | [], _, n => (true, n)
  | t :: ts, d, n => if badPair k t.kind then (false, n) else if (chkT t d n).1 then chkL k ts d (chkT t d n).2 else (false, (chkT t d n).2)
end
mutual
theorem chkT_iff : ∀ (t : Tre) (d n : Nat), n ≤ 1000 → ((chkT t d n).1 = true ↔ formT t = true ∧ d + depthT t ≤ 25 ∧ n + countT t ≤ 1000) ∧ ((chkT t d n).1 = true → (chkT t d n).2 = n + countT t)
  | .mk k s c ks, d, n, hn => by
    unfold chkT formT depthT countT
    by_cases h : 1000 < n + 1 ∨ 24 < d ∨ ownT k s.data.toList c ks.length = false
    · rw [if_pos h]
      refine ⟨⟨fun e => by simp at e, fun ⟨h1, h2, h3⟩ => ?_⟩, fun e => by simp at e⟩
      rw [Bool.and_eq_true] at h1
      rcases h with h | h | h
      · omega
      · omega
      · rw [h] at h1; simp at h1
    · rw [if_neg h]
      simp only [not_or, Bool.not_eq_false] at h
      obtain ⟨g1, g2, g3⟩ := h
      obtain ⟨i1, i2⟩ := chkL_iff k ks (d + 1) (n + 1) (by omega) (by omega)
      rw [g3, Bool.true_and]
      refine ⟨i1.trans ⟨fun ⟨a, b, c⟩ => ⟨a, by omega, by omega⟩, fun ⟨a, b, c⟩ => ⟨a, by omega, by omega⟩⟩, fun e => ?_⟩
      rw [i2 e]
      omega
theorem chkL_iff : ∀ (k : Int) (ts : List Tre) (d n : Nat), n ≤ 1000 → d ≤ 25 → ((chkL k ts d n).1 = true ↔ formL k ts = true ∧ d + depthL ts ≤ 25 ∧ n + countL ts ≤ 1000) ∧ ((chkL k ts d n).1 = true → (chkL k ts d n).2 = n + countL ts)
  | k, [], d, n, hn, hd => by
    unfold chkL formL depthL countL
    simp
    omega
  | k, t :: ts, d, n, hn, hd => by
    unfold chkL formL depthL countL
    cases hb : badPair k t.kind
    · obtain ⟨a1, a2⟩ := chkT_iff t d n hn
      rw [if_neg (by simp)]
      cases hc : (chkT t d n).1
      · rw [if_neg (by simp)]
        rw [hc] at a1
        refine ⟨⟨fun e => by simp at e, fun ⟨h1, h2, h3⟩ => ?_⟩, fun e => by simp at e⟩
        simp only [Bool.not_false, Bool.true_and, Bool.and_eq_true] at h1
        have := a1.2 ⟨h1.1, by omega, by omega⟩
        cases this
      · rw [if_pos rfl]
        obtain ⟨f1, f2, f3⟩ := a1.1 hc
        have e2 := a2 hc
        rw [e2]
        obtain ⟨b1, b2⟩ := chkL_iff k ts d (n + countT t) f3 hd
        simp only [Bool.not_false, Bool.true_and, f1]
        refine ⟨b1.trans ⟨fun ⟨p, q, r⟩ => ⟨p, by omega, by omega⟩, fun ⟨p, q, r⟩ => ⟨p, by omega, by omega⟩⟩, fun e => ?_⟩
        rw [b2 e]
        omega
    · rw [if_pos rfl]
      simp
end
theorem valid_chk (t : Tre) : validT t = (decide (t.kind = 1) && (chkT t 1 0).1) := by
  unfold validT
  congr 1
  rw [Bool.eq_iff_iff]
  have := (chkT_iff t 1 0 (by omega)).1
  rw [this]
  simp only [Bool.and_eq_true, decide_eq_true_eq]
  constructor
  · rintro ⟨a, b, c⟩; exact ⟨a, by omega, by omega⟩
  · rintro ⟨a, b, c⟩; exact ⟨a, by omega, by omega⟩
end Go.Proofs.YthpioplpfmlgcaaGreatDoor.At
namespace Go.Proofs.YthpioplpfmlgcaaGreatDoor
open Go.RowKit
theorem ret_bool {a b : Bool} (h : a = b) : Ending.returned (.bool a) = .returned (.bool b) := by rw [h]
theorem or_let (c : UInt8) : letB c = (decide (97 ≤ bits .or .u8 (c.toNat : Int) 32) && decide (bits .or .u8 (c.toNat : Int) 32 ≤ 122)) := by
  have h : ∀ n : Nat, n < 256 → letB (UInt8.ofNat n) = (decide (97 ≤ bits .or .u8 ((UInt8.ofNat n).toNat : Int) 32) && decide (bits .or .u8 ((UInt8.ofNat n).toNat : Int) 32 ≤ 122)) := by decide +kernel
  have := h c.toNat c.toNat_lt
  rwa [UInt8.ofNat_toNat] at this
theorem all_get {s : ByteArray} {p : UInt8 → Bool} (h : ∀ (j : Nat) (hj : j < s.size), p s[j] = true) : s.toList.all p = true := by
  rw [ByteArray.toList_eq, List.all_eq_true]
  intro x hx
  obtain ⟨j, hj, rfl⟩ := List.mem_iff_getElem.1 hx
  exact h j (by simpa using hj)
theorem not_all_get {s : ByteArray} {p : UInt8 → Bool} {k : Nat} (hk : k < s.size) (h : p s[k] = false) : s.toList.all p = false := by
  rw [ByteArray.toList_eq, List.all_eq_false]
  refine ⟨s[k], ?_, by simp [h]⟩
  rw [Array.mem_toList_iff]
  exact Array.getElem_mem (xs := s.data) hk
theorem size_toList (s : ByteArray) : s.toList.length = s.size := by rw [ByteArray.toList_eq, Array.length_toList]; rfl
set_option maxHeartbeats 400000 in
theorem letters_any (s : ByteArray) (w : World) (hs : s.size ≤ 9223372036854775807) : Calls Tryz.prog 128 #[.string s] w fun e w' => e = .returned (.bool (lettersB s.toList)) ∧ w = w' := by
  go_enter Tryz.func128, Tryz.ntmps128
  go_wp2_with fail
  go_loop [3] (fun i => ∃ k : Nat, k ≤ s.size ∧ i = .int .i64 k ∧ Hid (∀ (j : Nat) (hj : j < s.size), j < k → letB s[j] = true)) (fun i => s.size - (intOf i).toNat)
  case atStart => exact ⟨0, by omega, rfl, fun j _ h => by omega⟩
  case round =>
    obtain ⟨k, hk, rfl, HJ⟩ := hrel
    by_cases hlt : k < s.size
    · have ho := or_let s[k]
      cases hl : letB s[k]
      · have HF := Lib.hid (not_all_get hlt hl)
        rw [hl] at ho
        have ho' : bits .or .u8 (s[k].toNat : Int) 32 < 97 ∨ 122 < bits .or .u8 (s[k].toNat : Int) 32 := by simp at ho; omega
        clear ho hl
        rcases ho' with h | h
        · go_wp2_with fail
          go_ret
          exact ⟨ret_bool HF.out.symm, rfl⟩
        · go_wp2_with fail
          go_ret
          exact ⟨ret_bool HF.out.symm, rfl⟩
      · rw [hl] at ho
        have h1 : 97 ≤ bits .or .u8 (s[k].toNat : Int) 32 := by simp at ho; omega
        have h2 : bits .or .u8 (s[k].toNat : Int) 32 ≤ 122 := by simp at ho; omega
        have HL := Lib.hid hl
        clear ho hl
        go_wp2_with fail
        go_round
        case rel => exact ⟨k + 1, by omega, by go_num, fun j hj h => by
          rcases Nat.lt_or_ge j k with h' | h'
          · exact HJ.out j hj h'
          · obtain rfl : j = k := by omega
            exact HL.out⟩
        case measure => simp [intOf]; omega
    · have HF := Lib.hid (all_get (s := s) (p := letB) fun j hj => HJ.out j hj (by omega))
      go_wp2_with fail
      go_ret
      exact ⟨ret_bool HF.out.symm, rfl⟩
set_option maxHeartbeats 400000 in
theorem keyword_any (s : ByteArray) (w : World) : Calls Tryz.prog 130 #[.string s] w fun e w' => e = .returned (.bool (inB keywordsL s.toList)) ∧ w = w' := by
  cases h1 : (s.toList == [102, 114, 97, 99])
  · cases h2 : (s.toList == [114, 111, 111, 116])
    · cases h3 : (s.toList == [109, 97, 116, 114, 105, 120])
      · cases h4 : (s.toList == [102, 101, 110, 99, 101])
        · have HR : Hid (inB keywordsL s.toList = false) := by simp only [inB, keywordsL, List.contains_cons, h1, h2, h3, h4]; rfl
          go_enter Tryz.func130, Tryz.ntmps130
          go_wp2_with fail
          go_ret
          exact ⟨ret_bool HR.out.symm, rfl⟩
        · have HR : Hid (inB keywordsL s.toList = true) := by simp only [inB, keywordsL, List.contains_cons, h1, h2, h3, h4]; rfl
          go_enter Tryz.func130, Tryz.ntmps130
          go_wp2_with fail
          go_ret
          exact ⟨ret_bool HR.out.symm, rfl⟩
      · have HR : Hid (inB keywordsL s.toList = true) := by simp only [inB, keywordsL, List.contains_cons, h1, h2, h3]; rfl
        go_enter Tryz.func130, Tryz.ntmps130
        go_wp2_with fail
        go_ret
        exact ⟨ret_bool HR.out.symm, rfl⟩
    · have HR : Hid (inB keywordsL s.toList = true) := by simp only [inB, keywordsL, List.contains_cons, h1, h2]; rfl
      go_enter Tryz.func130, Tryz.ntmps130
      go_wp2_with fail
      go_ret
      exact ⟨ret_bool HR.out.symm, rfl⟩
  · have HR : Hid (inB keywordsL s.toList = true) := by simp only [inB, keywordsL, List.contains_cons, h1]; rfl
    go_enter Tryz.func130, Tryz.ntmps130
    go_wp2_with fail
    go_ret
    exact ⟨ret_bool HR.out.symm, rfl⟩
set_option maxHeartbeats 400000 in
theorem accent_any (s : ByteArray) (w : World) : Calls Tryz.prog 99 #[.string s] w fun e w' => e = .returned (.bool (inB accentsL s.toList)) ∧ w = w' := by
  cases h1 : (s.toList == [104, 97, 116])
  · cases h2 : (s.toList == [98, 97, 114])
    · cases h3 : (s.toList == [118, 101, 99])
      · cases h4 : (s.toList == [100, 111, 116])
        · cases h5 : (s.toList == [116, 105, 108, 100, 101])
          · cases h6 : (s.toList == [99, 104, 101, 99, 107])
            · have HR : Hid (inB accentsL s.toList = false) := by simp only [inB, accentsL, List.contains_cons, h1, h2, h3, h4, h5, h6]; rfl
              go_enter Tryz.func99, Tryz.ntmps99
              go_wp2_with fail
              go_ret
              exact ⟨ret_bool HR.out.symm, rfl⟩
            · have HR : Hid (inB accentsL s.toList = true) := by simp only [inB, accentsL, List.contains_cons, h1, h2, h3, h4, h5, h6]; rfl
              go_enter Tryz.func99, Tryz.ntmps99
              go_wp2_with fail
              go_ret
              exact ⟨ret_bool HR.out.symm, rfl⟩
          · have HR : Hid (inB accentsL s.toList = true) := by simp only [inB, accentsL, List.contains_cons, h1, h2, h3, h4, h5]; rfl
            go_enter Tryz.func99, Tryz.ntmps99
            go_wp2_with fail
            go_ret
            exact ⟨ret_bool HR.out.symm, rfl⟩
        · have HR : Hid (inB accentsL s.toList = true) := by simp only [inB, accentsL, List.contains_cons, h1, h2, h3, h4]; rfl
          go_enter Tryz.func99, Tryz.ntmps99
          go_wp2_with fail
          go_ret
          exact ⟨ret_bool HR.out.symm, rfl⟩
      · have HR : Hid (inB accentsL s.toList = true) := by simp only [inB, accentsL, List.contains_cons, h1, h2, h3]; rfl
        go_enter Tryz.func99, Tryz.ntmps99
        go_wp2_with fail
        go_ret
        exact ⟨ret_bool HR.out.symm, rfl⟩
    · have HR : Hid (inB accentsL s.toList = true) := by simp only [inB, accentsL, List.contains_cons, h1, h2]; rfl
      go_enter Tryz.func99, Tryz.ntmps99
      go_wp2_with fail
      go_ret
      exact ⟨ret_bool HR.out.symm, rfl⟩
  · have HR : Hid (inB accentsL s.toList = true) := by simp only [inB, accentsL, List.contains_cons, h1]; rfl
    go_enter Tryz.func99, Tryz.ntmps99
    go_wp2_with fail
    go_ret
    exact ⟨ret_bool HR.out.symm, rfl⟩
set_option maxHeartbeats 400000 in
theorem within_any (n a b : Int) (w : World) : Calls Tryz.prog 92 #[.int .i64 n, .int .i64 a, .int .i64 b] w fun e w' => e = .returned (.bool (inR n a b)) ∧ w = w' := by
  by_cases h1 : a ≤ n
  · by_cases h2 : n ≤ b
    · have HR := Lib.hid (show inR n a b = true by unfold inR; rw [decide_eq_true h1, decide_eq_true h2]; rfl)
      go_enter Tryz.func92, Tryz.ntmps92
      go_wp2_with fail
      go_ret
      exact ⟨ret_bool (by first | exact HR.out.symm | (rw [HR.out]; simp; omega)), rfl⟩
    · have HR := Lib.hid (show inR n a b = false by unfold inR; rw [decide_eq_false h2, Bool.and_false])
      go_enter Tryz.func92, Tryz.ntmps92
      go_wp2_with fail
      go_ret
      exact ⟨ret_bool (by first | exact HR.out.symm | (rw [HR.out]; simp; omega)), rfl⟩
  · have HR := Lib.hid (show inR n a b = false by unfold inR; rw [decide_eq_false h1]; rfl)
    go_enter Tryz.func92, Tryz.ntmps92
    go_wp2_with fail
    go_ret
    exact ⟨ret_bool (by first | exact HR.out.symm | (rw [HR.out]; simp; omega)), rfl⟩
set_option maxHeartbeats 400000 in
theorem rwithin_any (n a b : Int) (w : World) : Calls Tryz.prog 77 #[.int .i64 n, .int .i64 a, .int .i64 b] w fun e w' => e = .returned (.bool (inR n a b)) ∧ w = w' := by
  by_cases h1 : a ≤ n
  · by_cases h2 : n ≤ b
    · have HR := Lib.hid (show inR n a b = true by unfold inR; rw [decide_eq_true h1, decide_eq_true h2]; rfl)
      go_enter Tryz.func77, Tryz.ntmps77
      go_wp2_with fail
      go_ret
      exact ⟨ret_bool (by first | exact HR.out.symm | (rw [HR.out]; simp; omega)), rfl⟩
    · have HR := Lib.hid (show inR n a b = false by unfold inR; rw [decide_eq_false h2, Bool.and_false])
      go_enter Tryz.func77, Tryz.ntmps77
      go_wp2_with fail
      go_ret
      exact ⟨ret_bool (by first | exact HR.out.symm | (rw [HR.out]; simp; omega)), rfl⟩
  · have HR := Lib.hid (show inR n a b = false by unfold inR; rw [decide_eq_false h1]; rfl)
    go_enter Tryz.func77, Tryz.ntmps77
    go_wp2_with fail
    go_ret
    exact ⟨ret_bool (by first | exact HR.out.symm | (rw [HR.out]; simp; omega)), rfl⟩
set_option maxHeartbeats 400000 in
theorem named_any (s : ByteArray) (w : World) (hs : s.size ≤ 9223372036854775807) : Calls Tryz.prog 91 #[.string s] w fun e w' => e = .returned (.bool (namedB s.toList)) ∧ w = w' := by
  go_enter Tryz.func91, Tryz.ntmps91
  go_wp2_with fail
  go_loop [3] (fun i => ∃ k : Nat, k ≤ s.size ∧ i = .int .i64 k ∧ Hid (∀ (j : Nat) (hj : j < s.size), j < k → letB s[j] = true)) (fun i => s.size - (intOf i).toNat)
  case atStart => exact ⟨0, by omega, rfl, fun j _ h => by omega⟩
  case round =>
    obtain ⟨k, hk, rfl, HJ⟩ := hrel
    by_cases hlt : k < s.size
    · have ho := or_let s[k]
      cases hl : letB s[k]
      · have HF := Lib.hid (not_all_get hlt hl)
        rw [hl] at ho
        have ho' : bits .or .u8 (s[k].toNat : Int) 32 < 97 ∨ 122 < bits .or .u8 (s[k].toNat : Int) 32 := by simp at ho; omega
        clear ho hl
        rcases ho' with h | h
        · go_wp2_with fail
          go_ret
          exact ⟨ret_bool (by unfold namedB lettersB; rw [HF.out]; rfl), rfl⟩
        · go_wp2_with fail
          go_ret
          exact ⟨ret_bool (by unfold namedB lettersB; rw [HF.out]; rfl), rfl⟩
      · rw [hl] at ho
        have h1 : 97 ≤ bits .or .u8 (s[k].toNat : Int) 32 := by simp at ho; omega
        have h2 : bits .or .u8 (s[k].toNat : Int) 32 ≤ 122 := by simp at ho; omega
        have HL := Lib.hid hl
        clear ho hl
        go_wp2_with fail
        go_round
        case rel => exact ⟨k + 1, by omega, by go_num, fun j hj h => by
          rcases Nat.lt_or_ge j k with h' | h'
          · exact HJ.out j hj h'
          · obtain rfl : j = k := by omega
            exact HL.out⟩
        case measure => simp [intOf]; omega
    · have HF := Lib.hid (all_get (s := s) (p := letB) fun j hj => HJ.out j hj (by omega))
      have HZ := Lib.hid (size_toList s)
      by_cases h1 : 1 ≤ s.size
      · by_cases h2 : s.size ≤ 16
        · have HR := Lib.hid (show namedB s.toList = true by unfold namedB lettersB; rw [HF.out, HZ.out, decide_eq_true h1, decide_eq_true h2]; rfl)
          go_wp2_with fail
          go_ret
          exact ⟨ret_bool (by first | exact HR.out.symm | (rw [HR.out]; simp; omega)), rfl⟩
        · have HR := Lib.hid (show namedB s.toList = false by unfold namedB; rw [HZ.out, decide_eq_false h2, Bool.and_false, Bool.and_false])
          go_wp2_with fail
          go_ret
          exact ⟨ret_bool (by first | exact HR.out.symm | (rw [HR.out]; simp; omega)), rfl⟩
      · have HR := Lib.hid (show namedB s.toList = false by unfold namedB; rw [HZ.out, decide_eq_false h1, Bool.false_and, Bool.and_false])
        go_wp2_with fail
        go_ret
        exact ⟨ret_bool (by first | exact HR.out.symm | (rw [HR.out]; simp; omega)), rfl⟩
set_option maxHeartbeats 400000 in
theorem rletter_any (c : UInt8) (w : World) : Calls Tryz.prog 121 #[.int .u8 (c.toNat : Int)] w fun e w' => e = .returned (.bool (letB c)) ∧ w = w' := by
  have hc := c.toNat_lt
  by_cases h1 : 97 ≤ c.toNat
  · by_cases h2 : c.toNat ≤ 122
    · have HR := Lib.hid (show letB c = true by unfold letB; rw [decide_eq_true h1, decide_eq_true h2]; rfl)
      go_enter Tryz.func121, Tryz.ntmps121
      go_wp2_with fail
      go_ret
      exact ⟨ret_bool (by first | exact HR.out.symm | (rw [HR.out]; simp; omega)), rfl⟩
    · have HR := Lib.hid (show letB c = false by unfold letB; rw [decide_eq_false h2, Bool.and_false, decide_eq_false (show ¬ c.toNat ≤ 90 by omega), Bool.and_false]; rfl)
      go_enter Tryz.func121, Tryz.ntmps121
      go_wp2_with fail
      go_ret
      exact ⟨ret_bool (by first | exact HR.out.symm | (rw [HR.out]; simp; omega)), rfl⟩
  · by_cases h3 : 65 ≤ c.toNat
    · by_cases h4 : c.toNat ≤ 90
      · have HR := Lib.hid (show letB c = true by unfold letB; rw [decide_eq_true h3, decide_eq_true h4, Bool.or_eq_true]; exact .inr rfl)
        go_enter Tryz.func121, Tryz.ntmps121
        go_wp2_with fail
        go_ret
        exact ⟨ret_bool (by first | exact HR.out.symm | (rw [HR.out]; simp; omega)), rfl⟩
      · have HR := Lib.hid (show letB c = false by unfold letB; rw [decide_eq_false h1, decide_eq_false h4, Bool.and_false]; rfl)
        go_enter Tryz.func121, Tryz.ntmps121
        go_wp2_with fail
        go_ret
        exact ⟨ret_bool (by first | exact HR.out.symm | (rw [HR.out]; simp; omega)), rfl⟩
    · have HR := Lib.hid (show letB c = false by unfold letB; rw [decide_eq_false h1, decide_eq_false h3]; rfl)
      go_enter Tryz.func121, Tryz.ntmps121
      go_wp2_with fail
      go_ret
      exact ⟨ret_bool (by first | exact HR.out.symm | (rw [HR.out]; simp; omega)), rfl⟩
def LetterPost (c : UInt8) (w : World) (e : Ending) (w' : World) : Prop := ∃ n : Int, e = .returned (.int .i64 n) ∧ (letB c = true → 0 ≤ n) ∧ (letB c = false → n < 0) ∧ w = w'
set_option maxHeartbeats 400000 in
theorem rplace_any (c : UInt8) (w : World) : Calls Tryz.prog 113 #[.int .u8 (c.toNat : Int)] w (LetterPost c w) := by
  have hc := c.toNat_lt
  by_cases h1 : 97 ≤ c.toNat
  · by_cases h2 : c.toNat ≤ 122
    · have HR := Lib.hid (show letB c = true by unfold letB; rw [decide_eq_true h1, decide_eq_true h2]; rfl)
      go_enter Tryz.func113, Tryz.ntmps113
      go_wp2_with fail
      go_ret
      exact ⟨_, rfl, (fun _ => by omega), (fun h => absurd (h.symm.trans HR.out) (by decide)), rfl⟩
    · have HR := Lib.hid (show letB c = false by unfold letB; rw [decide_eq_false h2, Bool.and_false, decide_eq_false (show ¬ c.toNat ≤ 90 by omega), Bool.and_false]; rfl)
      go_enter Tryz.func113, Tryz.ntmps113
      go_wp2_with fail
      go_ret
      exact ⟨_, rfl, (fun h => absurd (h.symm.trans HR.out) (by decide)), (fun _ => by omega), rfl⟩
  · by_cases h3 : 65 ≤ c.toNat
    · by_cases h4 : c.toNat ≤ 90
      · have HR := Lib.hid (show letB c = true by unfold letB; rw [decide_eq_true h3, decide_eq_true h4, Bool.or_eq_true]; exact .inr rfl)
        go_enter Tryz.func113, Tryz.ntmps113
        go_wp2_with fail
        go_ret
        exact ⟨_, rfl, (fun _ => by omega), (fun h => absurd (h.symm.trans HR.out) (by decide)), rfl⟩
      · have HR := Lib.hid (show letB c = false by unfold letB; rw [decide_eq_false h1, decide_eq_false h4, Bool.and_false]; rfl)
        go_enter Tryz.func113, Tryz.ntmps113
        go_wp2_with fail
        go_ret
        exact ⟨_, rfl, (fun h => absurd (h.symm.trans HR.out) (by decide)), (fun _ => by omega), rfl⟩
    · have HR := Lib.hid (show letB c = false by unfold letB; rw [decide_eq_false h1, decide_eq_false h3]; rfl)
      go_enter Tryz.func113, Tryz.ntmps113
      go_wp2_with fail
      go_ret
      exact ⟨_, rfl, (fun h => absurd (h.symm.trans HR.out) (by decide)), (fun _ => by omega), rfl⟩
set_option maxHeartbeats 400000 in
theorem rnamed_any (s : ByteArray) (w : World) (hs : s.size ≤ 9223372036854775807) : Calls Tryz.prog 76 #[.string s] w fun e w' => e = .returned (.bool (namedB s.toList)) ∧ w = w' := by
  go_enter Tryz.func76, Tryz.ntmps76
  go_wp2_with fail
  go_loop [3] (fun i => ∃ k : Nat, k ≤ s.size ∧ i = .int .i64 k ∧ Hid (∀ (j : Nat) (hj : j < s.size), j < k → letB s[j] = true)) (fun i => s.size - (intOf i).toNat)
  case atStart => exact ⟨0, by omega, rfl, fun j _ h => by omega⟩
  case round =>
    obtain ⟨k, hk, rfl, HJ⟩ := hrel
    by_cases hlt : k < s.size
    · go_wp2_with fail
      refine (rplace_any s[k] _).mono ?_
      rintro e w' ⟨n, rfl, hn1, hn2, rfl⟩
      cases hl : letB s[k]
      · have HF := Lib.hid (not_all_get hlt hl)
        have hn := hn2 hl
        clear hn1 hn2 hl
        go_wp2_with fail
        go_ret
        exact ⟨ret_bool (by unfold namedB lettersB; rw [HF.out]; rfl), rfl⟩
      · have hn := hn1 hl
        have HL := Lib.hid hl
        clear hn1 hn2 hl
        go_wp2_with fail
        go_round
        case rel => exact ⟨k + 1, by omega, by go_num, fun j hj h => by
          rcases Nat.lt_or_ge j k with h' | h'
          · exact HJ.out j hj h'
          · obtain rfl : j = k := by omega
            exact HL.out⟩
        case measure => simp [intOf]; omega
    · have HF := Lib.hid (all_get (s := s) (p := letB) fun j hj => HJ.out j hj (by omega))
      have HZ := Lib.hid (size_toList s)
      by_cases h1 : 1 ≤ s.size
      · by_cases h2 : s.size ≤ 16
        · have HR := Lib.hid (show namedB s.toList = true by unfold namedB lettersB; rw [HF.out, HZ.out, decide_eq_true h1, decide_eq_true h2]; rfl)
          go_wp2_with fail
          go_ret
          exact ⟨ret_bool (by first | exact HR.out.symm | (rw [HR.out]; simp; omega)), rfl⟩
        · have HR := Lib.hid (show namedB s.toList = false by unfold namedB; rw [HZ.out, decide_eq_false h2, Bool.and_false, Bool.and_false])
          go_wp2_with fail
          go_ret
          exact ⟨ret_bool (by first | exact HR.out.symm | (rw [HR.out]; simp; omega)), rfl⟩
      · have HR := Lib.hid (show namedB s.toList = false by unfold namedB; rw [HZ.out, decide_eq_false h1, Bool.false_and, Bool.and_false])
        go_wp2_with fail
        go_ret
        exact ⟨ret_bool (by first | exact HR.out.symm | (rw [HR.out]; simp; omega)), rfl⟩
set_option maxHeartbeats 400000 in
theorem rhas_any (s : ByteArray) (c : UInt8) (w : World) (hs : s.size ≤ 9223372036854775807) : Calls Tryz.prog 119 #[.string s, .int .u8 (c.toNat : Int)] w fun e w' => e = .returned (.bool (hasB s.toList c)) ∧ w = w' := by
  go_enter Tryz.func119, Tryz.ntmps119
  go_wp2_with fail
  go_loop [5] (fun i => ∃ k : Nat, k ≤ s.size ∧ i = .int .i64 k ∧ Hid (∀ (j : Nat) (hj : j < s.size), j < k → (!(s[j] == c)) = true)) (fun i => s.size - (intOf i).toNat)
  case atStart => exact ⟨0, by omega, rfl, fun j _ h => by omega⟩
  case round =>
    obtain ⟨k, hk, rfl, HJ⟩ := hrel
    by_cases hlt : k < s.size
    · cases hl : (s[k] == c)
      · have hq : ((s[k].toNat : Int) == (c.toNat : Int)) = false := by
          rw [beq_eq_false_iff_ne] at hl ⊢
          intro e; apply hl
          exact UInt8.toNat_inj.1 (by omega)
        have HL := Lib.hid hl
        clear hl
        go_wp2_with fail
        go_round
        case rel => exact ⟨k + 1, by omega, by go_num, fun j hj h => by
          rcases Nat.lt_or_ge j k with h' | h'
          · exact HJ.out j hj h'
          · obtain rfl : j = k := by omega
            rw [HL.out]; rfl⟩
        case measure => simp [intOf]; omega
      · have hq : ((s[k].toNat : Int) == (c.toNat : Int)) = true := by rw [beq_iff_eq] at hl ⊢; rw [hl]
        have HF := Lib.hid (show hasB s.toList c = true by
          unfold hasB
          have := not_all_get (p := fun x => !(x == c)) hlt (by rw [hl]; rfl)
          rw [List.all_eq_false] at this
          obtain ⟨x, hx, hxc⟩ := this
          have e : x = c := by simpa using hxc
          rw [← e]; simpa using hx)
        clear hl
        go_wp2_with fail
        go_ret
        exact ⟨ret_bool HF.out.symm, rfl⟩
    · have HF := Lib.hid (show hasB s.toList c = false by
        unfold hasB
        have := all_get (s := s) (p := fun x => !(x == c)) fun j hj => HJ.out j hj (by omega)
        rw [List.all_eq_true] at this
        rw [Bool.eq_false_iff]
        intro hc
        have hm : c ∈ s.toList := by simpa using hc
        have := this c hm
        simp at this)
      go_wp2_with fail
      go_ret
      exact ⟨ret_bool HF.out.symm, rfl⟩
theorem signs_list : (⟨#[43, 45, 42, 47, 61, 60, 62, 44, 59, 58, 33, 124, 39, 63, 126, 64]⟩ : ByteArray).toList = signsL := by rw [ByteArray.toList_eq]; rfl
set_option maxHeartbeats 400000 in
theorem rchar_any (c : UInt8) (w : World) : Calls Tryz.prog 120 #[.int .u8 (c.toNat : Int)] w fun e w' => e = .returned (.bool (letB c || hasB signsL c)) ∧ w = w' := by
  have HH := Lib.hid (rhas_any ⟨#[43, 45, 42, 47, 61, 60, 62, 44, 59, 58, 33, 124, 39, 63, 126, 64]⟩ c)
  rw [signs_list] at HH
  cases hl : letB c
  · have HL := Lib.hid hl
    clear hl
    go_enter Tryz.func120, Tryz.ntmps120
    go_wp2_with fail
    refine (rletter_any c _).mono ?_
    rintro e w' ⟨rfl, rfl⟩
    rw [HL.out]
    go_wp2_with fail
    refine (HH.out _ (by decide)).mono ?_
    rintro e w' ⟨rfl, rfl⟩
    go_wp2_with fail
    go_ret
    exact ⟨ret_bool (Bool.false_or _).symm, rfl⟩
  · have HL := Lib.hid hl
    clear hl
    go_enter Tryz.func120, Tryz.ntmps120
    go_wp2_with fail
    refine (rletter_any c _).mono ?_
    rintro e w' ⟨rfl, rfl⟩
    rw [HL.out]
    go_wp2_with fail
    go_ret
    exact ⟨ret_bool (Bool.true_or _).symm, rfl⟩
end Go.Proofs.YthpioplpfmlgcaaGreatDoor
