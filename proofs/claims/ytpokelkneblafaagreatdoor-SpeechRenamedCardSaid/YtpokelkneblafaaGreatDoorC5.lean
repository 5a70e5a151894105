/- A region that draws its order, whose operations only read and whose calls only add memory: ONE walk, in the order of the text (the class of worlds: those that extend the world ahead of it); for every program. -/
import Derived.Test.YtpokelkneblafaaGreatDoorGS1
import Derived.BigQuiet
namespace Go.Proofs.YtpokelkneblafaaGreatDoor
open Go.RowKit
/-- the worlds that extend a world: nothing that was there has turned -/
structure Ext (w : World) where
  val : World
  bel : Below w.heap.size w val
instance (w : World) : Inhabited (Ext w) := ⟨⟨w, Below.refl _ _⟩⟩
theorem Ext.cell {w : World} (e : Ext w) {p : Addr} {v : Value} (hp : p.block < w.heap.size) (h : w.cell? p = some v) : e.val.cell? p = some v := by
  rw [e.bel.cell hp]; exact h
theorem wp_region_ext {P : Program} {id : Nat} {Q : Exit → Act → World → Prop} {a : Act} {w : World} {l : List Oper} (hm : P.follows .mixedOrders = true) (hB : Region.lexB .any l.toArray = true)
    (h : wpQuiet P l.toArray (fun w' => ∃ e : Ext w, w' = e.val) (fun a' => ∀ w', (∃ e : Ext w, w' = e.val) → Q .normal a' w') l a) : (Code.region id l.toArray true).wp P Q a w :=
  wp_region_quiet (C := fun w' => ∃ e : Ext w, w' = e.val) hm hB ⟨⟨_, below_drew (Below.refl _ _)⟩, rfl⟩ (by simpa using h)
/-- a callee's contract, met in a world that extends w -/
theorem Calls.ext {P : Program} {f : FuncId} {args : Array Value} {w : World} {e : Ext w} {v : Value}
    (h : Calls P f args e.val fun r w' => r = .returned v ∧ Below e.val.heap.size e.val w') : Calls P f args e.val fun r w'' => r = .returned v ∧ ∃ e' : Ext w, w'' = e'.val :=
  h.mono fun _ w' hw => ⟨hw.1, ⟨w', e.bel.trans (hw.2.mono e.bel.size)⟩, rfl⟩
end Go.Proofs.YtpokelkneblafaaGreatDoor
