/- What the rows of this seat share: the listed tables, an argument that is a dimension. -/
import Derived.Test.YtlfapncbkgpclaaDoorRows
import Derived.Test.YtlfapncbkgpclaaDoorA
import Derived.Test.YtlfapncbkgpclaaDoorRow0
import Derived.ProofKit
import Derived.LaidMore
import Derived.OpenShut
import Derived.Stop.Joined
import Derived.Lib.LaidTab
namespace Go.Proofs.YtlfapncbkgpclaaDoor
open Go.ChangeShapes Go.WideShapes Go.ChangeAt Go.WideMaps Go.WideElems Go.RowKit

theorem own : ownKnob Tryd.prog.godebug = none := by kernel_rfl
abbrev laid3 : List (String × DataW Unit) := [("math/bits.deBruijn32tab", Rows.laid_math_bits_deBruijn32tab), ("math/bits.deBruijn64tab", Rows.laid_math_bits_deBruijn64tab), ("internal/strconv.uint64pow10", Rows.laid_internal_strconv_uint64pow10)]
theorem door_met (os : Os) (args : Array Value) : laidMetH Tryd.prog laid3 ((World.doorLaid Tryd.prog 400 os).forCall (fun _ _ => 0) ⟨#[], args, []⟩).memory :=
  laidMetH_of_parts3 (fuel := 8) (laidMet_of_run' 8 (by kernel_rfl) (by kernel_rfl)) (by kernel_rfl) (by kernel_rfl)
theorem gPow : Tryd.prog.globalNamed "internal/strconv.uint64pow10" = some 3 := by kernel_rfl
theorem tPow : (Tryd.prog.globals[3]?).map (·.type) = some 140 := by kernel_rfl
theorem powD : (Rows.laid_internal_strconv_uint64pow10 : DataW Unit) = Lib.tabData .u64 Lib.pow10Tab := by kernel_rfl
theorem tab_of_laid {W : World} (h : laidMetH Tryd.prog laid3 W) : Lib.TabIs Tryd.prog W "internal/strconv.uint64pow10" .u64 Lib.pow10Tab := by
  rw [MakeChecks.laidMetH_plain _ _ _ (by kernel_rfl)] at h
  obtain ⟨ps, ⟨g0, t0, cs0, f0, p0, q0, hg0, ht0, hv0, hd0, ⟨g1, t1, cs1, f1, p1, q1, hg1, ht1, hv1, hd1, ⟨g2, t2, cs2, f2, p2, q2, hg2, ht2, hv2, hd2, _, _⟩, _⟩, _⟩, _, _⟩ := h
  obtain rfl := Option.some.inj (gPow.symm.trans hg2)
  obtain rfl := Option.some.inj (tPow.symm.trans ht2)
  rw [powD] at hd2
  unfold Lib.TabIs
  rw [hv2, ← Lib.cells_of_tab Tryd.underlying140 Tryd.underlying95 (by kernel_rfl) (by kernel_rfl) hd2]
theorem tab_of {W : World} (h : laidMetH Tryd.prog laid3 W) : Tab W := fun _ hb => Joins.tab_stays gPow (tab_of_laid h) hb (Nat.le_refl _)
theorem dim_cells : Tryd.prog.cellsOf 23 = 7 := by kernel_rfl
theorem int_cells : Tryd.prog.cellsOf 3 = 1 := by kernel_rfl
theorem array7 {α : Type} {cs : Array α} (h : cs.size = 7) : ∃ c0 c1 c2 c3 c4 c5 c6, cs = #[c0, c1, c2, c3, c4, c5, c6] := by
  obtain ⟨l⟩ := cs
  match l, h with
  | [c0, c1, c2, c3, c4, c5, c6], _ => exact ⟨c0, c1, c2, c3, c4, c5, c6, rfl⟩
set_option maxRecDepth 100000 in
/-- an argument that is a dimension -/
theorem open_dim {H : Type} {enc : TypeId × Value → H} {W : World} {r : Reach} {b0 base : Nat} {sp : Nat → Bool} {held : Bool} {v : Value} {d : DataW H} {p : List MemPlace}
    (hv : Value.okWide Tryd.prog W r b0 23 v) (h : DataW.Trod enc Tryd.prog W base sp held 23 v d p) : ∃ x : D7, v = x.v ∧ ∀ i, i < 7 → (Lit.int .i64 (x.at i)).wf = true := by
  simp only [Value.okWide, Tryd.underlying23] at hv
  obtain ⟨cs, rfl, hsz, _⟩ := hv
  rw [dim_cells] at hsz
  obtain ⟨c0, c1, c2, c3, c4, c5, c6, rfl⟩ := array7 hsz
  obtain ⟨fuel, hf⟩ := h
  obtain ⟨xs, m, _, _, _, hn, hel⟩ := DataW.trod_array Tryd.underlying23 hf
  rw [int_cells] at hel
  have get : ∀ i c, i < 7 → ((Value.agg #[c0, c1, c2, c3, c4, c5, c6]).cells.toList.drop (i * 1)).take 1 = [c] → ∃ n, c = .int .i64 n ∧ (Lit.int .i64 n).wf = true := by
    intro i c hi hc
    have h1 := hel i hi
    rw [hc, List.getElem?_eq_getElem (by omega)] at h1
    obtain ⟨n, e, _, hw⟩ := DataW.trod_int Tryd.underlying3 h1
    exact ⟨n, by simpa using e, hw⟩
  obtain ⟨n0, rfl, w0⟩ := get 0 c0 (by omega) rfl
  obtain ⟨n1, rfl, w1⟩ := get 1 c1 (by omega) rfl
  obtain ⟨n2, rfl, w2⟩ := get 2 c2 (by omega) rfl
  obtain ⟨n3, rfl, w3⟩ := get 3 c3 (by omega) rfl
  obtain ⟨n4, rfl, w4⟩ := get 4 c4 (by omega) rfl
  obtain ⟨n5, rfl, w5⟩ := get 5 c5 (by omega) rfl
  obtain ⟨n6, rfl, w6⟩ := get 6 c6 (by omega) rfl
  refine ⟨⟨n0, n1, n2, n3, n4, n5, n6⟩, rfl, fun i hi => ?_⟩
  match i, hi with
  | 0, _ => exact w0
  | 1, _ => exact w1
  | 2, _ => exact w2
  | 3, _ => exact w3
  | 4, _ => exact w4
  | 5, _ => exact w5
  | 6, _ => exact w6

abbrev zdim : Value := .agg #[.int .i64 0, .int .i64 0, .int .i64 0, .int .i64 0, .int .i64 0, .int .i64 0, .int .i64 0]
end Go.Proofs.YtlfapncbkgpclaaDoor
