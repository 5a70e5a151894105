/- The texts of the dimensions of the units; the reference's units. -/
import Derived.Test.YtlfapncbkgpclaaDoorF0
import Derived.Test.YtlfapncbkgpclaaDoorP5
namespace Go.Proofs.YtlfapncbkgpclaaDoor
open Go.RowKit
theorem bel_fin (w : World) (o : Obj) : Below w.heap.size w (w.alloc o) := (Below.refl _ _).alloc (Nat.le_refl _) o
def pL3 (i : Nat) (x : Int) : List UInt8 := if x = 1 then (baseB i).data.toList else (baseB i).data.toList ++ 94 :: it3 x
/-- the parts of a text, by numerals that can be computed -/
def parts3 (d : D7) : Nat → List (List UInt8)
  | 0 => []
  | k + 1 => parts3 d k ++ (if d.at k = 0 then [] else [pL3 k (d.at k)])
theorem parts3_eq (d : D7) (hd : d.ok = true) : ∀ k, k ≤ 7 → (partsOf d k).map (·.data.toList) = parts3 d k
  | 0, _ => by simp [partsOf, parts3]
  | k + 1, hk => by
    have bd := ok_at hd k (by omega)
    rw [partsOf, List.map_append, parts_data, parts3_eq d hd k (by omega), parts3]
    congr 1
    split
    · rfl
    · unfold partL pL3
      rw [itoa_it3 bd.1 bd.2]
def text3 (d : D7) : List UInt8 := if Lib.join (parts3 d 7) [32] = [] then [49] else Lib.join (parts3 d 7) [32]
theorem text_eq3 (d : D7) (hd : d.ok = true) : textB d = bys (text3 d) := by
  rw [textB_txt]
  unfold txt text3
  rw [parts3_eq d hd 7 (Nat.le_refl _)]
  split
  · rfl
  · rfl
end Go.Proofs.YtlfapncbkgpclaaDoor
