/- What the rows of this seat share: the listed tables, an argument that is a slice of rules. -/
import Derived.Test.YtgkfmeagpmjcoaaDoorRows
import Derived.Test.YtgkfmeagpmjcoaaDoorGS4
import Derived.Test.YtgkfmeagpmjcoaaDoorRow0
import Derived.ProofKit
import Derived.LaidMore
import Derived.OpenShut
import Derived.Stop.Joined
import Derived.Lib.LaidTab
import Derived.Deep.Slices
import Derived.Deep.Fields
import Derived.ChangeSame
namespace Go.Proofs.YtgkfmeagpmjcoaaDoor
open Go.ChangeShapes Go.WideShapes Go.ChangeAt Go.WideMaps Go.WideElems Go.RowKit Go.Deep
theorem own : ownKnob Tryd.prog.godebug = none := by kernel_rfl
abbrev laid3 : List (String × DataW Unit) := [("math/bits.deBruijn32tab", Rows.laid_math_bits_deBruijn32tab), ("math/bits.deBruijn64tab", Rows.laid_math_bits_deBruijn64tab), ("internal/strconv.uint64pow10", Rows.laid_internal_strconv_uint64pow10)]
theorem door_met (os : Os) (args : Array Value) : laidMetH Tryd.prog laid3 ((World.doorLaid Tryd.prog 400 os).forCall (fun _ _ => 0) ⟨#[], args, []⟩).memory :=
  laidMetH_of_parts3 (fuel := 8) (laidMet_of_run' 8 (by kernel_rfl) (by kernel_rfl)) (by kernel_rfl) (by kernel_rfl)
theorem gPow : Tryd.prog.globalNamed "internal/strconv.uint64pow10" = some 1 := by kernel_rfl
theorem tPow : (Tryd.prog.globals[1]?).map (·.type) = some 104 := by kernel_rfl
theorem powD : (Rows.laid_internal_strconv_uint64pow10 : DataW Unit) = Lib.tabData .u64 Lib.pow10Tab := by kernel_rfl
theorem tab_of_laid {W : World} (h : laidMetH Tryd.prog laid3 W) : Lib.TabIs Tryd.prog W "internal/strconv.uint64pow10" .u64 Lib.pow10Tab := by
  rw [MakeChecks.laidMetH_plain _ _ _ (by kernel_rfl)] at h
  obtain ⟨ps, ⟨g0, t0, cs0, f0, p0, q0, hg0, ht0, hv0, hd0, ⟨g1, t1, cs1, f1, p1, q1, hg1, ht1, hv1, hd1, ⟨g2, t2, cs2, f2, p2, q2, hg2, ht2, hv2, hd2, _, _⟩, _⟩, _⟩, _, _⟩ := h
  obtain rfl := Option.some.inj (gPow.symm.trans hg2)
  obtain rfl := Option.some.inj (tPow.symm.trans ht2)
  rw [powD] at hd2
  unfold Lib.TabIs
  rw [hv2, ← Lib.cells_of_tab Tryd.underlying104 Tryd.underlying93 (by kernel_rfl) (by kernel_rfl) hd2]
theorem tab_of {W : World} (h : laidMetH Tryd.prog laid3 W) : Tab W := fun _ hb => Joins.tab_stays gPow (tab_of_laid h) hb (Nat.le_refl _)
section
variable {H : Type} {enc : TypeId × Value → H} {P : Program} {w : World} {base : Nat} {spare : Nat → Bool} {held : Bool}
theorem open_slice_fields {t e : TypeId} {fs : Array Field} {fuel : Nat} {cs : List Value} {x : DataW H × List MemPlace} (ht : P.underlying t = some (.slice e)) (he : P.underlying e = some (.struct fs))
    (hone : oneCellFields P fs = true) (hC : P.cellsOf e = fs.size) (h : DataW.trod enc P w base spare held fuel t cs = some x) :
    (cs = [.slice none 0 0] ∧ x = (.nil, [])) ∨
    ∃ (a : Addr) (len cap m : Nat), cs = [.slice (some a) len cap] ∧ len ≤ cap ∧ cap ≤ maxLen ∧ len ≤ m ∧
      ∀ i, i < m → ∃ (n : Nat), ∀ (j : Nat) (f : Field), fs[j]? = some f → ∃ (v : Value) (y : DataW H × List MemPlace), w.cell? (a.add (i * fs.size + j)) = some v ∧ DataW.trod enc P w base spare held n f.type [v] = some y := by
  rcases open_slice ht h with h0 | ⟨a, len, cap, m, n, D, Pl, hcs, hb, hl, hm, hmm, hx, hi⟩
  · exact .inl h0
  · refine .inr ⟨a, len, cap, m, hcs, hl, hm, by subst hmm; split <;> omega, fun i him => ?_⟩
    obtain ⟨cs', hc, ht'⟩ := hi i him
    rw [hC] at hc
    obtain ⟨ys, n', hn', hy, hlen, hyl, hf⟩ := DataW.trod_struct he ht'
    obtain ⟨_, hcl, hat⟩ := World.cells?_some hc
    refine ⟨n', fun j f hj => ?_⟩
    obtain ⟨ho, hk⟩ := hone_of hone j f hj
    have hjl : j < fs.size := (Array.getElem?_eq_some_iff.1 hj).1
    have hcell := hat j hjl
    have hv : cs'[j]? = some (cs'[j]'(by omega)) := List.getElem?_eq_getElem (by omega)
    have h1 := hf j f hj
    rw [ho, hk] at h1
    have hone' : (cs'.drop j).take 1 = [cs'[j]'(by omega)] := by
      rw [List.drop_eq_getElem_cons (by omega)]
      rfl
    rw [hone'] at h1
    have hys : ys[j]? = some (ys[j]'(by omega)) := List.getElem?_eq_getElem (by omega)
    refine ⟨_, _, ?_, h1.trans hys⟩
    rw [← Go.Deep.add_add, hcell, hv]
end
theorem list_of {α : Type} : ∀ (n : Nat) {p : Nat → α → Prop}, (∀ i, i < n → ∃ x, p i x) → ∃ l : List α, l.length = n ∧ ∀ (i : Nat) (x : α), l[i]? = some x → p i x
  | 0, _, _ => ⟨[], rfl, fun i x h => by simp at h⟩
  | n + 1, p, h => by
    obtain ⟨l, hl, hp⟩ := list_of n (p := p) fun i hi => h i (by omega)
    obtain ⟨x, hx⟩ := h n (by omega)
    refine ⟨l ++ [x], by simp [hl], fun i y hy => ?_⟩
    rcases Nat.lt_or_ge i n with hi | hi
    · rw [List.getElem?_append_left (by omega)] at hy
      exact hp i y hy
    · rw [List.getElem?_append_right (by omega), hl] at hy
      by_cases e : i = n
      · subst e
        simp at hy
        subst hy
        exact hx
      · rw [List.getElem?_eq_none (by simp; omega)] at hy
        cases hy
theorem rule_cells : Tryd.prog.cellsOf 39 = 6 := by kernel_rfl
set_option maxRecDepth 100000 in
/-- an argument that is a slice of rules -/
theorem open_ruls {H : Type} {enc : TypeId × Value → H} {W : World} {r : Reach} {b0 base : Nat} {sp : Nat → Bool} {held : Bool} {v : Value} {d : DataW H} {p : List MemPlace}
    (hv : Value.okWide Tryd.prog W r b0 22 v) (h : DataW.Trod enc Tryd.prog W base sp held 22 v d p) : ∃ (A : Option Addr) (rs : List Rul) (cap : Nat), v = .slice A rs.length cap ∧ rs.length ≤ cap ∧ cap ≤ 9223372036854775807 ∧ RulsAt W A rs := by
  obtain ⟨a0, len, cap, rfl⟩ := okWide_slice Tryd.underlying22 hv
  obtain ⟨fuel, hf⟩ := h
  rcases open_slice_fields Tryd.underlying22 Tryd.underlying39 (by kernel_rfl) rule_cells hf with ⟨hcs, _⟩ | ⟨a, len', cap', m, hcs, hl, hm, hlm, hi⟩
  · have e : Value.slice a0 len cap = .slice none 0 0 := by simpa [Value.cells] using hcs
    cases e
    exact ⟨none, [], 0, rfl, Nat.le_refl _, by omega, fun k r hk => by simp at hk⟩
  · have e : Value.slice a0 len cap = .slice (some a) len' cap' := by simpa [Value.cells] using hcs
    cases e
    obtain ⟨rs, hrl, hrs⟩ := list_of len (p := fun i (r : Rul) => r.fits ∧ ∀ (j : Nat) (v : Value), r.c[j]? = some v → W.cell? (a.add (i * 6 + j)) = some v) (fun i hi' => by
      obtain ⟨n, hf⟩ := hi i (by omega)
      obtain ⟨v0, y0, c0, t0⟩ := hf 0 _ rfl
      obtain ⟨v1, y1, c1, t1⟩ := hf 1 _ rfl
      obtain ⟨v2, y2, c2, t2⟩ := hf 2 _ rfl
      obtain ⟨v3, y3, c3, t3⟩ := hf 3 _ rfl
      obtain ⟨v4, y4, c4, t4⟩ := hf 4 _ rfl
      obtain ⟨v5, y5, c5, t5⟩ := hf 5 _ rfl
      obtain ⟨n0, e0, _, k0⟩ := DataW.trod_int Tryd.underlying3 t0
      obtain ⟨n1, e1, _, k1⟩ := DataW.trod_string Tryd.underlying9 t1
      obtain ⟨n2, e2, _, k2⟩ := DataW.trod_string Tryd.underlying9 t2
      obtain ⟨n3, e3, _, k3⟩ := DataW.trod_int Tryd.underlying3 t3
      obtain ⟨n4, e4, _, k4⟩ := DataW.trod_int Tryd.underlying3 t4
      obtain ⟨n5, e5, _, k5⟩ := DataW.trod_int Tryd.underlying3 t5
      simp only [List.cons.injEq, and_true] at e0 e1 e2 e3 e4 e5
      subst e0 e1 e2 e3 e4 e5
      refine ⟨⟨n0, n1, n2, n3, n4, n5⟩, ?_, fun j v hj => ?_⟩
      · unfold maxLen at k1 k2; exact ⟨by omega, by omega⟩
      · match j, hj with
        | 0, hj => simp at hj; subst hj; exact c0
        | 1, hj => simp at hj; subst hj; exact c1
        | 2, hj => simp at hj; subst hj; exact c2
        | 3, hj => simp at hj; subst hj; exact c3
        | 4, hj => simp at hj; subst hj; exact c4
        | 5, hj => simp at hj; subst hj; exact c5)
    subst hrl
    unfold maxLen at hm
    refine ⟨some a, rs, cap, rfl, hl, by omega, fun k r hk => ?_⟩
    obtain ⟨hfit, hc⟩ := hrs k r hk
    refine ⟨hfit, a, rfl, ?_, hc⟩
    have := hc 0 _ rfl
    refine Classical.byContradiction fun hn => ?_
    unfold World.cell? at this
    rw [Array.getElem?_eq_none (by rw [add_block]; omega)] at this
    cases this
end Go.Proofs.YtgkfmeagpmjcoaaDoor
