/- An argument that is a slice of rules: where there is no address there is no capacity. -/
import Derived.Test.YtgkfmeagpmjcoaaDoorR5
namespace Go.Proofs.YtgkfmeagpmjcoaaDoor
open Go.ChangeShapes Go.WideShapes Go.ChangeAt Go.WideMaps Go.WideElems Go.RowKit Go.Deep
set_option maxRecDepth 100000 in
theorem open_ruls2 {H : Type} {enc : TypeId × Value → H} {W : World} {r : Reach} {b0 base : Nat} {sp : Nat → Bool} {held : Bool} {v : Value} {d : DataW H} {p : List MemPlace}
    (hv : Value.okWide Tryd.prog W r b0 22 v) (h : DataW.Trod enc Tryd.prog W base sp held 22 v d p) : ∃ (A : Option Addr) (rs : List Rul) (cap : Nat), v = .slice A rs.length cap ∧ rs.length ≤ cap ∧ cap ≤ 9223372036854775807 ∧ RulsAt W A rs ∧ (A = none → cap = 0) := by
  obtain ⟨A, rs, cap, rfl, hc, hm, hR⟩ := open_ruls hv h
  obtain ⟨fuel, hf⟩ := h
  refine ⟨A, rs, cap, rfl, hc, hm, hR, fun hA => ?_⟩
  subst hA
  rcases open_slice_fields Tryd.underlying22 Tryd.underlying39 (by kernel_rfl) rule_cells hf with ⟨hcs, _⟩ | ⟨a, len', cap', m, hcs, _⟩
  · have e : Value.slice none rs.length cap = .slice none 0 0 := by simpa [Value.cells] using hcs
    simp only [Value.slice.injEq] at e
    exact e.2.2
  · have e : Value.slice none rs.length cap = .slice (some a) len' cap' := by simpa [Value.cells] using hcs
    simp only [Value.slice.injEq] at e
    cases e.1
end Go.Proofs.YtgkfmeagpmjcoaaDoor
