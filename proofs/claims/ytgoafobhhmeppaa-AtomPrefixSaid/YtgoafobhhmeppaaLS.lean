/- An argument that is a row of items with a dictionary. -/
import Derived.Test.YtgoafobhhmeppaaLR
namespace Go.Proofs.Ytgoafobhhmeppaa
open Go.ChangeShapes Go.WideShapes Go.ChangeAt Go.WideMaps Go.WideElems Go.RowKit Go.Deep
theorem line_cells : Try.prog.cellsOf 51 = 2 := by kernel_rfl
theorem ents_cells : Try.prog.cellsOf 22 = 1 := by kernel_rfl
set_option maxRecDepth 100000 in
theorem arg_line {H : Type} {enc : TypeId × Value → H} {W : World} {r : Reach} {b0 base : Nat} {sp : Nat → Bool} {held : Bool} {v : Value} {d : DataW H} {p : List MemPlace}
    (hv : Value.okWide Try.prog W r b0 51 v) (h : DataW.Trod enc Try.prog W base sp held 51 v d p) :
    ∃ (A A2 : Option Addr) (cap cap2 : Nat) (es : List Ent) (ts : List Tre), v = .agg #[.slice A es.length cap, .slice A2 ts.length cap2] ∧ EntsAt W A es ∧ KidsAt W A2 ts ∧ ts.length ≤ cap2 ∧ cap2 ≤ 9223372036854775807 := by
  obtain ⟨cs, rfl, hsz⟩ := okWide_struct Try.underlying51 hv
  obtain ⟨fuel, hf⟩ := h
  obtain ⟨xs, n, rfl, _, hcl, hxl, hf⟩ := DataW.trod_struct Try.underlying51 hf
  rw [line_cells] at hcl
  obtain ⟨l⟩ := cs
  match l, hcl with
  | [v0, v1], _ =>
    have hx : xs.length = 2 := hxl
    have get : ∀ i, i < 2 → ∃ y, xs[i]? = some y := fun i hi => ⟨_, List.getElem?_eq_getElem (by omega)⟩
    obtain ⟨y0, e0⟩ := get 0 (by omega)
    obtain ⟨y1, e1⟩ := get 1 (by omega)
    have t0 : DataW.trod enc Try.prog W base sp held n 22 (([v0, v1].drop 0).take (Try.prog.cellsOf 22)) = some y0 := (hf 0 _ rfl).trans e0
    have t1 : DataW.trod enc Try.prog W base sp held n 23 (([v0, v1].drop 1).take (Try.prog.cellsOf 23)) = some y1 := (hf 1 _ rfl).trans e1
    rw [ents_cells] at t0
    rw [nodes_cells] at t1
    obtain ⟨A, es, cap, rfl, _, _, hE⟩ := open_ents (v := v0) (x := y0) t0
    obtain ⟨A2, ts, cap2, rfl, hl, hm, hK⟩ := open_kids (fun n' _ cs x hx => open_node n' cs x hx) (v := v1) (x := y1) t1
    exact ⟨A, A2, cap, cap2, es, ts, rfl, hE, hK, hl, hm⟩
  | [], h => simp [Value.cells] at h
  | [_], h => simp [Value.cells] at h
  | _ :: _ :: _ :: _, h => simp [Value.cells] at h
end Go.Proofs.Ytgoafobhhmeppaa
