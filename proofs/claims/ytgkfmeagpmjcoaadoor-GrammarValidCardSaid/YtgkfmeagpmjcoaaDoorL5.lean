import Derived.Test.YtgkfmeagpmjcoaaDoorL2
import Derived.Test.YtgkfmeagpmjcoaaDoorL3
import Derived.Test.YtgkfmeagpmjcoaaDoorL4
import Derived.Lib.ItoaLen
namespace Go.Proofs.YtgkfmeagpmjcoaaDoor
open Go.RowKit
/-- the words of a rule's line -/
def wordsR (r : Rul) : List ByteArray := if r.kind = 1 then words1 r.sym r.nam r.prec r.left r.right else if r.kind = 2 then words2 r.sym r.nam r.prec r.right else if r.kind = 3 then words3 r.sym r.nam r.prec r.left else words4 r.nam r.prec r.left r.right
/-- a rule's line -/
def lineR (r : Rul) : List UInt8 := lineOf (wordsR r)
theorem itB_len (n : Int) (h0 : 0 ≤ n) (h1 : n ≤ 101) : (itB n).data.toList.length ≤ 21 := by
  have := Lib.itoa_length_le n (by omega) (by omega)
  simpa [itB] using this
theorem symB_len {l : List UInt8} (h : symB l = true) : l.length ≤ 16 := by
  unfold symB at h
  split at h
  · simp
  · simp only [Bool.and_eq_true, decide_eq_true_eq] at h; omega
structure OwnR (r : Rul) : Prop where
  nam : r.nam.data.toList.length ≤ 16
  sym : r.sym.data.toList.length ≤ 16
  prec : 0 ≤ r.prec ∧ r.prec ≤ 101
  left : 0 ≤ r.left ∧ r.left ≤ 101
  right : 0 ≤ r.right ∧ r.right ≤ 101
  kind : r.kind = 1 ∨ r.kind = 2 ∨ r.kind = 3 ∨ r.kind = 4
theorem ownR_of {r : Rul} (h : ownB r = true) : OwnR r := by
  unfold ownB at h
  simp only [Bool.and_eq_true, inR, decide_eq_true_eq, namedB, ByteArray.toList_eq] at h
  obtain ⟨⟨_, _, hn⟩, hp, hl, hr, hk⟩ := h
  refine ⟨hn, ?_, by omega, hl, hr, ?_⟩
  · split at hk
    · exact symB_len hk
    · split at hk
      · simp only [Bool.and_eq_true] at hk; exact symB_len hk.1
      · split at hk
        · simp only [Bool.and_eq_true] at hk; exact symB_len hk.1
        · simp only [Bool.and_eq_true, List.isEmpty_iff] at hk; rw [hk.2]; simp
  · split at hk
    · simp [*]
    · split at hk
      · simp [*]
      · split at hk
        · simp [*]
        · simp only [Bool.and_eq_true, decide_eq_true_eq] at hk; simp [hk.1]
theorem line_len {r : Rul} (h : OwnR r) : (lineR r).length ≤ 120 := by
  have a := itB_len _ h.prec.1 h.prec.2
  have b := itB_len _ h.left.1 h.left.2
  have c := itB_len _ h.right.1 h.right.2
  have d := h.nam
  have e := h.sym
  unfold lineR wordsR
  rcases h.kind with hk | hk | hk | hk <;> simp [hk, lineOf, words1, words2, words3, words4, Lib.join] <;> simp at a b c d e <;> omega
theorem line_any (r : Rul) (w : World) (ht : Tab w) (hr : ownB r = true) : Calls Tryd.prog 29 #[r.v] w fun e w' => e = .returned (.string ⟨(lineR r).toArray⟩) ∧ Below w.heap.size w w' := by
  have h := ownR_of hr
  have hl := line_len h
  obtain ⟨kind, sym, nam, prec, left, right⟩ := r
  obtain ⟨h1, h2, h3, h4, h5, h6⟩ := h
  dsimp only at h1 h2 h3 h4 h5 h6
  rcases h6 with rfl | rfl | rfl | rfl
  · exact line1 sym nam prec left right w ht h3 h4 h5 (by have := hl; simp [lineR, wordsR] at this; omega)
  · exact line2 sym nam prec left right w ht h3 h4 h5 (by have := hl; simp [lineR, wordsR] at this; omega)
  · exact line3 sym nam prec left right w ht h3 h4 h5 (by have := hl; simp [lineR, wordsR] at this; omega)
  · exact line4 sym nam prec left right w ht h3 h4 h5 (by have := hl; simp [lineR, wordsR] at this; omega)
end Go.Proofs.YtgkfmeagpmjcoaaDoor
