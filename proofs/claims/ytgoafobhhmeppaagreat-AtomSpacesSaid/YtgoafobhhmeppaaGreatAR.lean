/- Classes of the items of a row, plain. -/
import Derived.Test.YtgoafobhhmeppaaGreatTR
namespace Go.Proofs.YtgoafobhhmeppaaGreat
structure Ent where
  text : ByteArray
  cls : Int
  lim : Bool
  stc : Bool
def findE (es : List Ent) (s : List UInt8) : Option Ent := es.find? fun e => e.text.data.toList == s
def clsOf (es : List Ent) (s : List UInt8) : Int := ((findE es s).map (·.cls)).getD 0
/-- the own class of a node -/
def classT (es : List Ent) : Tre → Int
  | .mk k s _ ks => if k = 2 then clsOf es s.data.toList else if k = 7 ∨ k = 8 ∨ k = 9 then (match ks with
      | .mk _ _ _ [t] :: _ => classT es t
      | _ => 0)
    else if k = 5 ∨ k = 11 ∨ k = 12 then 7 else 0
def opensB (c : Int) : Bool := decide (c = 2) || (decide (c = 1) || (decide (c = 3) || (decide (c = 4) || decide (c = 6))))
def closesB (c : Int) : Bool := decide (c = 3) || (decide (c = 5) || decide (c = 6))
/-- a row of classes with a further item -/
def rowStep (acc : List Int) (c : Int) : List Int :=
  if c = 2 ∧ (acc = [] ∨ opensB (acc.getLast?.getD 0) = true) then acc ++ [0]
  else if closesB c = true ∧ acc.getLast? = some 2 then acc.dropLast ++ [0, c]
  else acc ++ [c]
def rowsOf (own : List Int) : List Int := own.foldl rowStep []
def lastStep (l : List Int) : List Int := if l.getLast? = some 2 then l.dropLast ++ [0] else l
def rowL (own : List Int) : List Int := lastStep (rowsOf own)
theorem rowStep_len (acc : List Int) (c : Int) : (rowStep acc c).length = acc.length + 1 := by
  unfold rowStep
  split
  · simp
  · split
    · rename_i h
      have : acc ≠ [] := fun e => by rw [e] at h; simp at h
      have := List.length_pos_iff.2 this
      simp
      omega
    · simp
theorem rowsOf_snoc (own : List Int) (c : Int) : rowsOf (own ++ [c]) = rowStep (rowsOf own) c := by simp [rowsOf]
theorem rowsOf_len (own : List Int) : (rowsOf own).length = own.length := by
  rw [← List.reverse_reverse own]
  induction own.reverse with
  | nil => rfl
  | cons c r ih => rw [List.reverse_cons, rowsOf_snoc, rowStep_len, ih]; simp
theorem rowL_len (own : List Int) : (rowL own).length = own.length := by
  unfold rowL lastStep
  split
  · rename_i h
    have : rowsOf own ≠ [] := fun e => by rw [e] at h; simp at h
    have := List.length_pos_iff.2 this
    have h2 := rowsOf_len own
    simp
    omega
  · exact rowsOf_len own
end Go.Proofs.YtgoafobhhmeppaaGreat
