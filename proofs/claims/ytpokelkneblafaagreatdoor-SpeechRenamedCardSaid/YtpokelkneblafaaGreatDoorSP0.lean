/- Parts of a string between bytes of a kind: plain functions, and what the library's Split and Cut give for one byte. -/
import Derived.Lib.SplitLaws
import Derived.Lib.CountLaws
import Derived.Lib.CutLaws
import Derived.Lib.Join
import Derived.Lib.AtoiTie
import Derived.Lib.AtoiAllCases
import Derived.Lib.Hide
namespace Go.Proofs.YtpokelkneblafaaGreatDoor
/-- the parts between bytes of a kind -/
def splitL (c : UInt8) : List UInt8 → List (List UInt8)
  | [] => [[]]
  | x :: r => if x = c then [] :: splitL c r else (x :: (splitL c r).headD []) :: (splitL c r).tail
theorem splitL_ne (c : UInt8) (l : List UInt8) : splitL c l ≠ [] := by
  cases l with
  | nil => simp [splitL]
  | cons x r => unfold splitL; split <;> simp
theorem splitL_ht (c : UInt8) (l : List UInt8) : (splitL c l).headD [] :: (splitL c l).tail = splitL c l := by
  cases h : splitL c l with
  | nil => exact absurd h (splitL_ne c l)
  | cons a b => rfl
theorem splitL_none {c : UInt8} {l : List UInt8} (h : c ∉ l) : splitL c l = [l] := by
  induction l with
  | nil => rfl
  | cons x r ih =>
    rw [List.mem_cons, not_or] at h
    unfold splitL
    rw [if_neg (fun e => h.1 e.symm), ih h.2]
    rfl
theorem splitL_app {c : UInt8} {a b : List UInt8} (h : c ∉ a) : splitL c (a ++ c :: b) = a :: splitL c b := by
  induction a with
  | nil => simp [splitL]
  | cons x r ih =>
    rw [List.mem_cons, not_or] at h
    rw [List.cons_append, splitL, if_neg (fun e => h.1 e.symm), ih h.2]
    rfl
theorem splitL_join (c : UInt8) : ∀ (ps : List (List UInt8)), ps ≠ [] → (∀ p ∈ ps, c ∉ p) → splitL c (Lib.join ps [c]) = ps
  | [], h, _ => absurd rfl h
  | [p], _, h => by simpa [Lib.join] using splitL_none (h p (by simp))
  | p :: q :: r, _, h => by
    have ih := splitL_join c (q :: r) (by simp) (fun x hx => h x (List.mem_cons_of_mem _ hx))
    have e : Lib.join (p :: q :: r) [c] = p ++ c :: Lib.join (q :: r) [c] := by simp [Lib.join]
    rw [e, splitL_app (h p (by simp)), ih]
theorem index_one (c : UInt8) : ∀ {a b : List UInt8}, c ∉ a → Lib.index (a ++ c :: b) [c] = (a.length : Int)
  | [], b, _ => by simp [Lib.index, List.isPrefixOf]
  | x :: a, b, h => by
    rw [List.mem_cons, not_or] at h
    rw [List.cons_append, Lib.index, index_one c h.2]
    have hp : ([c] : List UInt8).isPrefixOf (x :: (a ++ c :: b)) = false := by simp [List.isPrefixOf, h.1]
    rw [hp]
    have : ((a.length : Int) == -1) = false := by rw [beq_eq_false_iff_ne]; omega
    simp [this]
theorem index_miss (c : UInt8) : ∀ {a : List UInt8}, c ∉ a → Lib.index a [c] = -1
  | [], _ => by simp [Lib.index]
  | x :: a, h => by
    rw [List.mem_cons, not_or] at h
    rw [Lib.index, index_miss c h.2]
    have hp : ([c] : List UInt8).isPrefixOf (x :: a) = false := by simp [List.isPrefixOf, h.1]
    rw [hp]; simp
theorem cut_hit (c : UInt8) {a b : List UInt8} (h : c ∉ a) : Lib.cut (a ++ c :: b) [c] = (a, b, true) := by
  unfold Lib.cut
  rw [index_one c h, if_pos (by omega)]
  simp
theorem cut_miss (c : UInt8) {a : List UInt8} (h : c ∉ a) : Lib.cut a [c] = (a, [], false) := by
  unfold Lib.cut
  rw [index_miss c h, if_neg (by omega)]
theorem mem_split (c : UInt8) (l : List UInt8) : c ∉ l ∨ ∃ a b, l = a ++ c :: b ∧ c ∉ a := by
  induction l with
  | nil => exact .inl (by simp)
  | cons x r ih =>
    by_cases hx : x = c
    · subst hx; exact .inr ⟨[], r, rfl, by simp⟩
    · rcases ih with h | ⟨a, b, rfl, h⟩
      · exact .inl (by simp [h, Ne.symm hx])
      · exact .inr ⟨x :: a, b, rfl, by simp [h, Ne.symm hx]⟩
theorem splitK_eq (c : UInt8) : ∀ (k : Nat) (l : List UInt8), l.count c = k → Lib.splitK [c] 0 k l = splitL c l
  | 0, l, h => by
    rw [Lib.splitK, splitL_none]
    intro hm
    have := List.count_pos_iff.2 hm
    omega
  | k + 1, l, h => by
    rcases mem_split c l with hm | ⟨a, b, rfl, hm⟩
    · rw [List.count_eq_zero.2 hm] at h; omega
    · have hc : b.count c = k := by
        rw [List.count_append, List.count_cons_self, List.count_eq_zero.2 hm] at h; omega
      have hne : ((a.length : Int) == -1) = false := by rw [beq_eq_false_iff_ne]; omega
      rw [Lib.splitK, index_one c hm, splitL_app hm]
      simp [hne, splitK_eq c k b hc]
def bys (l : List UInt8) : ByteArray := ⟨l.toArray⟩
theorem bys_data (l : List UInt8) : (bys l).data.toList = l := by simp [bys]
theorem data_bys (b : ByteArray) : bys b.data.toList = b := by simp [bys]
theorem splitB_one (c : UInt8) (s : ByteArray) : Lib.splitB ⟨#[c]⟩ 0 (Lib.countB s ⟨#[c]⟩) s = (splitL c s.data.toList).map bys := by
  have h := Lib.splitB_data ⟨#[c]⟩ 0 (Lib.countB s ⟨#[c]⟩) s
  have hc : Lib.countB s ⟨#[c]⟩ = s.data.toList.count c := Lib.count_one c s.data.toList
  rw [hc] at h ⊢
  have h2 := splitK_eq c _ s.data.toList rfl
  have h3 : (Lib.splitB ⟨#[c]⟩ 0 (s.data.toList.count c) s).map (·.data.toList) = splitL c s.data.toList := h.trans h2
  rw [← h3, List.map_map]
  have : (bys ∘ fun x : ByteArray => x.data.toList) = id := by funext x; exact data_bys x
  rw [this, List.map_id]
theorem countB_one (c : UInt8) (s : ByteArray) : Lib.countB s ⟨#[c]⟩ + 1 = (splitL c s.data.toList).length := by
  rw [← List.length_map (f := bys), ← splitB_one, Lib.splitB_all ⟨#[c]⟩ (by simp [ByteArray.size]) 0 _ s rfl]
theorem join_split (c : UInt8) : ∀ (l : List UInt8), Lib.join (splitL c l) [c] = l := by
  intro l
  induction l with
  | nil => rfl
  | cons x r ih =>
    unfold splitL
    cases h : splitL c r with
    | nil => exact absurd h (splitL_ne c r)
    | cons a b =>
      rw [h] at ih
      split
      · rename_i e
        subst e
        conv => rhs; rw [← ih]
        simp [Lib.join]
      · conv => rhs; rw [← ih]
        cases b with
        | nil => simp [Lib.join]
        | cons b bs => simp [Lib.join]
end Go.Proofs.YtpokelkneblafaaGreatDoor
