/- Rules of a grammar, symbols and names: plain functions on bytes. -/
import Derived.Lib.Strings
import Derived.Lib.Hide
namespace Go.Proofs.YtpokelkneblafaaGreatDoor
/-- a letter -/
def letB (c : UInt8) : Bool := (decide (97 ≤ c.toNat) && decide (c.toNat ≤ 122)) || (decide (65 ≤ c.toNat) && decide (c.toNat ≤ 90))
def lettersB (l : List UInt8) : Bool := l.all letB
/-- 1 to 16 letters -/
def namedB (l : List UInt8) : Bool := lettersB l && (decide (1 ≤ l.length) && decide (l.length ≤ 16))
/-- the characters of a symbol that are no letters -/
def signsL : List UInt8 := [43, 45, 42, 47, 61, 60, 62, 44, 59, 58, 33, 124, 39, 63, 126, 64]
def keywordsL : List (List UInt8) := [[102, 114, 97, 99], [114, 111, 111, 116], [109, 97, 116, 114, 105, 120], [102, 101, 110, 99, 101]]
def accentsL : List (List UInt8) := [[104, 97, 116], [98, 97, 114], [118, 101, 99], [100, 111, 116], [116, 105, 108, 100, 101], [99, 104, 101, 99, 107]]
def hasB (l : List UInt8) (c : UInt8) : Bool := l.contains c
def inB (ls : List (List UInt8)) (l : List UInt8) : Bool := ls.contains l
def symB (l : List UInt8) : Bool := match l with
  | [c] => letB c || hasB signsL c
  | _ => decide (2 ≤ l.length) && (decide (l.length ≤ 16) && (lettersB l && (!inB keywordsL l && !inB accentsL l)))
structure Rul where
  kind : Int
  sym : ByteArray
  nam : ByteArray
  prec : Int
  left : Int
  right : Int
def inR (n a b : Int) : Bool := decide (a ≤ n) && decide (n ≤ b)
/-- valid as the only rule -/
def ownB (r : Rul) : Bool := namedB r.nam.toList && (inR r.prec 1 100 && (inR r.left 0 101 && (inR r.right 0 101 &&
  (if r.kind = 1 then symB r.sym.toList else if r.kind = 2 then symB r.sym.toList && decide (r.left = 0) else if r.kind = 3 then symB r.sym.toList && decide (r.right = 0) else decide (r.kind = 4) && r.sym.toList.isEmpty))))
/-- two rules that may not be together -/
def clashB (o r : Rul) : Bool := decide (o.kind = r.kind) && (o.sym.toList == r.sym.toList || o.nam.toList == r.nam.toList)
/-- a rule that clashes with none of others -/
def freshB (os : List Rul) (r : Rul) : Bool := !os.any fun o => clashB o r
/-- the first k rules: each valid alone and clashing with none ahead of it -/
def firstsB (rs : List Rul) : Nat → Bool
  | 0 => true
  | k + 1 => firstsB rs k && (match rs[k]? with
    | some r => ownB r && freshB (rs.take k) r
    | none => true)
def validB (rs : List Rul) : Bool := decide (rs.length ≤ 64) && firstsB rs rs.length
theorem firsts_false {rs : List Rul} {k j : Nat} (h : firstsB rs k = false) (hj : k ≤ j) : firstsB rs j = false := by
  induction j with
  | zero => obtain rfl : k = 0 := by omega
            exact h
  | succ j ih =>
    by_cases e : k = j + 1
    · rw [← e]; exact h
    · rw [firstsB, ih (by omega)]; rfl
theorem firsts_succ {rs : List Rul} {k : Nat} {r : Rul} (h : rs[k]? = some r) : firstsB rs (k + 1) = (firstsB rs k && (ownB r && freshB (rs.take k) r)) := by
  rw [firstsB, h]
end Go.Proofs.YtpokelkneblafaaGreatDoor
