/- What the rows of this seat share: arguments that are dictionaries, trees, lists of trees. -/
import Derived.Test.YtgoafobhhmeppaaGreatRows
import Derived.Test.YtgoafobhhmeppaaGreatLC
import Derived.Test.YtgoafobhhmeppaaGreatRow0
import Derived.ProofKit
import Derived.LaidMore
import Derived.OpenShut
import Derived.Stop.Joined
import Derived.Deep.Slices
import Derived.Deep.Fields
import Derived.ChangeSame
namespace Go.Proofs.YtgoafobhhmeppaaGreat
open Go.ChangeShapes Go.WideShapes Go.ChangeAt Go.WideMaps Go.WideElems Go.RowKit Go.Deep
theorem own : ownKnob Tryz.prog.godebug = none := by kernel_rfl
theorem list_of {α : Type} : ∀ (n : Nat) {p : Nat → α → Prop}, (∀ i, i < n → ∃ x, p i x) → ∃ l : List α, l.length = n ∧ ∀ (i : Nat) (x : α), l[i]? = some x → p i x
  | 0, _, _ => ⟨[], rfl, fun i x h => by simp at h⟩
  | n + 1, p, h => by
    obtain ⟨l, hl, hp⟩ := list_of n (p := p) fun i hi => h i (by omega)
    obtain ⟨x, hx⟩ := h n (by omega)
    refine ⟨l ++ [x], by simp [hl], fun i y hy => ?_⟩
    rcases Nat.lt_or_ge i n with hi | hi
    · rw [List.getElem?_append_left (by omega)] at hy
      exact hp i y hy
    · rw [List.getElem?_append_right (by omega), hl] at hy
      by_cases e : i = n
      · subst e
        simp at hy
        subst hy
        exact hx
      · rw [List.getElem?_eq_none (by simp; omega)] at hy
        cases hy
section
variable {H : Type} {enc : TypeId × Value → H} {w : World} {base : Nat} {spare : Nat → Bool} {held : Bool}
theorem cell_blk {w : World} {a : Addr} {n : Nat} {v : Value} (h : w.cell? (a.add n) = some v) : a.block < w.heap.size := by
  refine Classical.byContradiction fun hn => ?_
  unfold World.cell? at h
  rw [Array.getElem?_eq_none (by rw [add_blk]; omega)] at h
  cases h
/-- the elements of a slice, as cells and as data -/
theorem open_elems {P : Program} {t e : TypeId} {fuel : Nat} {v : Value} {x : DataW H × List MemPlace} (ht : P.underlying t = some (.slice e)) (h : DataW.trod enc P w base spare held fuel t [v] = some x) :
    v = .slice none 0 0 ∨ ∃ (a : Addr) (len cap n : Nat), fuel = n + 1 ∧ v = .slice (some a) len cap ∧ len ≤ cap ∧ cap ≤ maxLen ∧
      ∀ i, i < len → ∃ cs : List Value, cs.length = P.cellsOf e ∧ (∀ j, j < P.cellsOf e → w.cell? (a.add (i * P.cellsOf e + j)) = cs[j]?) ∧ ∃ y, DataW.trod enc P w base spare held n e cs = some y := by
  rcases DataW.trod_slice ht h with ⟨hcs, _⟩ | ⟨a, len, cap, elems, rest, n, hf, hcs, _, _, hl, hm, hlen, hel, _⟩
  · exact .inl (by simpa using hcs)
  · refine .inr ⟨a, len, cap, n, hf, by simpa using hcs, hl, hm, fun i hi => ?_⟩
    have h1 := hel i hi
    have h2 : elems[i]? = some (elems[i]'(by omega)) := List.getElem?_eq_getElem (by omega)
    rw [h2] at h1
    cases hc : w.cells? base (a.add (i * P.cellsOf e)) (P.cellsOf e) with
    | none => rw [hc] at h1; cases h1
    | some cs =>
      rw [hc] at h1
      obtain ⟨_, hcl, hat⟩ := World.cells?_some hc
      exact ⟨cs, hcl, fun j hj => by rw [← Addr.add_add]; exact hat j hj, _, h1⟩
theorem node_cells : Tryz.prog.cellsOf 46 = 4 := by kernel_rfl
theorem int_cells : Tryz.prog.cellsOf 3 = 1 := by kernel_rfl
theorem str_cells : Tryz.prog.cellsOf 9 = 1 := by kernel_rfl
theorem bool_cells : Tryz.prog.cellsOf 4 = 1 := by kernel_rfl
theorem nodes_cells : Tryz.prog.cellsOf 29 = 1 := by kernel_rfl
set_option maxRecDepth 100000 in
theorem open_kids {fuel : Nat} (IH : ∀ n, n < fuel → ∀ cs x, DataW.trod enc Tryz.prog w base spare held n 46 cs = some x → ∃ t, NodAt w t cs.toArray) {v : Value} {x : DataW H × List MemPlace} (h : DataW.trod enc Tryz.prog w base spare held fuel 29 [v] = some x) :
    ∃ (A : Option Addr) (ts : List Tre) (cap : Nat), v = .slice A ts.length cap ∧ ts.length ≤ cap ∧ cap ≤ 9223372036854775807 ∧ KidsAt w A ts := by
  rcases open_elems Tryz.underlying29 h with rfl | ⟨a, len, cap, n, hf, rfl, hl, hm, hi⟩
  · exact ⟨none, [], 0, rfl, Nat.le_refl _, by omega, fun i t hi => by simp at hi⟩
  · rw [node_cells] at hi
    obtain ⟨ts, hlen, hts⟩ := list_of len (p := fun i (t : Tre) => ∃ c, NodAt w t c ∧ ∀ j, j < 4 → w.cell? (a.add (i * 4 + j)) = c[j]?) (fun i hi' => by
      obtain ⟨cs, hcl, hat, y, hy⟩ := hi i hi'
      obtain ⟨t, ht⟩ := IH n (by omega) cs y hy
      exact ⟨t, cs.toArray, ht, fun j hj => by rw [hat j hj]; simp⟩)
    subst hlen
    unfold maxLen at hm
    refine ⟨some a, ts, cap, rfl, hl, by omega, fun i t hit => ?_⟩
    obtain ⟨c, hn, hc⟩ := hts i t hit
    refine ⟨a, rfl, ?_, c, hn, hc⟩
    obtain ⟨A2, cap2, rfl, _⟩ := hn.form
    exact cell_blk (hc 0 (by omega))
set_option maxRecDepth 100000 in
theorem open_node : ∀ (fuel : Nat) (cs : List Value) (x : DataW H × List MemPlace), DataW.trod enc Tryz.prog w base spare held fuel 46 cs = some x → ∃ t, NodAt w t cs.toArray := by
  intro fuel
  induction fuel using Nat.strongRecOn with
  | _ fuel ih =>
    intro cs x h
    obtain ⟨xs, n, rfl, _, hcl, hxl, hf⟩ := DataW.trod_struct Tryz.underlying46 h
    rw [node_cells] at hcl
    match cs, hcl with
    | [v0, v1, v2, v3], _ =>
      have hx : xs.length = 4 := hxl
      have get : ∀ i, i < 4 → ∃ y, xs[i]? = some y := fun i hi => ⟨_, List.getElem?_eq_getElem (by omega)⟩
      obtain ⟨y0, e0⟩ := get 0 (by omega)
      obtain ⟨y1, e1⟩ := get 1 (by omega)
      obtain ⟨y2, e2⟩ := get 2 (by omega)
      obtain ⟨y3, e3⟩ := get 3 (by omega)
      have t0 : DataW.trod enc Tryz.prog w base spare held n 3 (([v0, v1, v2, v3].drop 0).take (Tryz.prog.cellsOf 3)) = some y0 := (hf 0 _ rfl).trans e0
      have t1 : DataW.trod enc Tryz.prog w base spare held n 9 (([v0, v1, v2, v3].drop 1).take (Tryz.prog.cellsOf 9)) = some y1 := (hf 1 _ rfl).trans e1
      have t2 : DataW.trod enc Tryz.prog w base spare held n 3 (([v0, v1, v2, v3].drop 2).take (Tryz.prog.cellsOf 3)) = some y2 := (hf 2 _ rfl).trans e2
      have t3 : DataW.trod enc Tryz.prog w base spare held n 29 (([v0, v1, v2, v3].drop 3).take (Tryz.prog.cellsOf 29)) = some y3 := (hf 3 _ rfl).trans e3
      rw [int_cells] at t0 t2
      rw [str_cells] at t1
      rw [nodes_cells] at t3
      obtain ⟨n0, k0, _, _⟩ := DataW.trod_int Tryz.underlying3 t0
      obtain ⟨n1, k1, _, z1⟩ := DataW.trod_string Tryz.underlying9 t1
      obtain ⟨n2, k2, _, _⟩ := DataW.trod_int Tryz.underlying3 t2
      obtain ⟨A, ts, cap, k3, hl, hc, hk⟩ := open_kids (fun n' hn' => ih n' (by omega)) (show DataW.trod enc Tryz.prog w base spare held n 29 [v3] = some y3 from t3)
      obtain rfl : v0 = .int .i64 n0 := by simpa using k0
      obtain rfl : v1 = .string n1 := by simpa using k1
      obtain rfl : v2 = .int .i64 n2 := by simpa using k2
      subst k3
      unfold maxLen at z1
      exact ⟨.mk n0 n1 n2 ts, NodAt.of (by omega) hl hc hk⟩
    | [], h => simp at h
    | [_], h => simp at h
    | [_, _], h => simp at h
    | [_, _, _], h => simp at h
    | _ :: _ :: _ :: _ :: _ :: _, h => simp at h
theorem ent_cells : Tryz.prog.cellsOf 78 = 4 := by kernel_rfl
set_option maxRecDepth 100000 in
theorem open_ents {fuel : Nat} {v : Value} {x : DataW H × List MemPlace} (h : DataW.trod enc Tryz.prog w base spare held fuel 28 [v] = some x) :
    ∃ (A : Option Addr) (es : List Ent) (cap : Nat), v = .slice A es.length cap ∧ es.length ≤ cap ∧ cap ≤ 9223372036854775807 ∧ EntsAt w A es := by
  rcases open_elems Tryz.underlying28 h with rfl | ⟨a, len, cap, n, hf, rfl, hl, hm, hi⟩
  · exact ⟨none, [], 0, rfl, Nat.le_refl _, by omega, fun i t hi => by simp at hi⟩
  · rw [ent_cells] at hi
    obtain ⟨es, hlen, hes⟩ := list_of len (p := fun i (e : Ent) => e.text.size ≤ 9223372036854775807 ∧ ∀ (j : Nat) v, e.c[j]? = some v → w.cell? (a.add (i * 4 + j)) = some v) (fun i hi' => by
      obtain ⟨cs, hcl, hat, y, hy⟩ := hi i hi'
      obtain ⟨xs, n', _, _, hcl2, hxl, hf⟩ := DataW.trod_struct Tryz.underlying78 hy
      match cs, hcl with
      | [v0, v1, v2, v3], _ =>
        have hx : xs.length = 4 := hxl
        have get : ∀ i, i < 4 → ∃ y, xs[i]? = some y := fun i hi => ⟨_, List.getElem?_eq_getElem (by omega)⟩
        obtain ⟨y0, e0⟩ := get 0 (by omega)
        obtain ⟨y1, e1⟩ := get 1 (by omega)
        obtain ⟨y2, e2⟩ := get 2 (by omega)
        obtain ⟨y3, e3⟩ := get 3 (by omega)
        have t0 : DataW.trod enc Tryz.prog w base spare held n' 9 (([v0, v1, v2, v3].drop 0).take (Tryz.prog.cellsOf 9)) = some y0 := (hf 0 _ rfl).trans e0
        have t1 : DataW.trod enc Tryz.prog w base spare held n' 3 (([v0, v1, v2, v3].drop 1).take (Tryz.prog.cellsOf 3)) = some y1 := (hf 1 _ rfl).trans e1
        have t2 : DataW.trod enc Tryz.prog w base spare held n' 4 (([v0, v1, v2, v3].drop 2).take (Tryz.prog.cellsOf 4)) = some y2 := (hf 2 _ rfl).trans e2
        have t3 : DataW.trod enc Tryz.prog w base spare held n' 4 (([v0, v1, v2, v3].drop 3).take (Tryz.prog.cellsOf 4)) = some y3 := (hf 3 _ rfl).trans e3
        rw [str_cells] at t0
        rw [int_cells] at t1
        rw [bool_cells] at t2 t3
        obtain ⟨n0, k0, _, z0⟩ := DataW.trod_string Tryz.underlying9 t0
        obtain ⟨n1, k1, _, _⟩ := DataW.trod_int Tryz.underlying3 t1
        obtain ⟨n2, k2, _⟩ := DataW.trod_bool Tryz.underlying4 t2
        obtain ⟨n3, k3, _⟩ := DataW.trod_bool Tryz.underlying4 t3
        obtain rfl : v0 = .string n0 := by simpa using k0
        obtain rfl : v1 = .int .i64 n1 := by simpa using k1
        obtain rfl : v2 = .bool n2 := by simpa using k2
        obtain rfl : v3 = .bool n3 := by simpa using k3
        unfold maxLen at z0
        refine ⟨⟨n0, n1, n2, n3⟩, by show n0.size ≤ _; omega, fun j v hj => ?_⟩
        match j, hj with
        | 0, hj => simp at hj; subst hj; exact hat 0 (by omega)
        | 1, hj => simp at hj; subst hj; exact hat 1 (by omega)
        | 2, hj => simp at hj; subst hj; exact hat 2 (by omega)
        | 3, hj => simp at hj; subst hj; exact hat 3 (by omega)
      | [], h => simp at h
      | [_], h => simp at h
      | [_, _], h => simp at h
      | [_, _, _], h => simp at h
      | _ :: _ :: _ :: _ :: _ :: _, h => simp at h)
    subst hlen
    unfold maxLen at hm
    refine ⟨some a, es, cap, rfl, hl, by omega, fun k e hk => ?_⟩
    obtain ⟨hf, hc⟩ := hes k e hk
    refine ⟨hf, a, rfl, ?_, hc⟩
    have := hc 0 _ rfl
    exact cell_blk this
end
section
variable {H : Type} {enc : TypeId × Value → H} {W : World} {r : Reach} {b0 base : Nat} {sp : Nat → Bool} {held : Bool} {v : Value} {d : DataW H} {p : List MemPlace}
set_option maxRecDepth 100000 in
theorem arg_ents (hv : Value.okWide Tryz.prog W r b0 28 v) (h : DataW.Trod enc Tryz.prog W base sp held 28 v d p) : ∃ (A : Option Addr) (es : List Ent) (cap : Nat), v = .slice A es.length cap ∧ es.length ≤ cap ∧ cap ≤ 9223372036854775807 ∧ EntsAt W A es := by
  obtain ⟨a0, len, cap, rfl⟩ := okWide_slice Tryz.underlying28 hv
  obtain ⟨fuel, hf⟩ := h
  exact open_ents (x := (d, p)) (by simpa [Value.cells] using hf)
set_option maxRecDepth 100000 in
theorem arg_kids (hv : Value.okWide Tryz.prog W r b0 29 v) (h : DataW.Trod enc Tryz.prog W base sp held 29 v d p) : ∃ (A : Option Addr) (ts : List Tre) (cap : Nat), v = .slice A ts.length cap ∧ ts.length ≤ cap ∧ cap ≤ 9223372036854775807 ∧ KidsAt W A ts := by
  obtain ⟨a0, len, cap, rfl⟩ := okWide_slice Tryz.underlying29 hv
  obtain ⟨fuel, hf⟩ := h
  exact open_kids (fun n _ cs x hx => open_node n cs x hx) (x := (d, p)) (by simpa [Value.cells] using hf)
set_option maxRecDepth 100000 in
theorem arg_node (hv : Value.okWide Tryz.prog W r b0 46 v) (h : DataW.Trod enc Tryz.prog W base sp held 46 v d p) : ∃ (t : Tre) (c : Array Value), v = .agg c ∧ NodAt W t c := by
  obtain ⟨cs, rfl, _⟩ := okWide_struct Tryz.underlying46 hv
  obtain ⟨fuel, hf⟩ := h
  obtain ⟨t, ht⟩ := open_node fuel cs.toList (d, p) (by simpa [Value.cells] using hf)
  exact ⟨t, cs, rfl, by simpa using ht⟩
end
end Go.Proofs.YtgoafobhhmeppaaGreat
