/- What the rows of this seat share: arguments that are terms. -/
import Derived.Test.YtpokelkneblafaaGreatDoorRB
import Derived.Deep.Slices
import Derived.Deep.Fields
namespace Go.Proofs.YtpokelkneblafaaGreatDoor
open Go.ChangeShapes Go.WideShapes Go.ChangeAt Go.WideMaps Go.WideElems Go.RowKit Go.Deep
theorem list_of {α : Type} : ∀ (n : Nat) {p : Nat → α → Prop}, (∀ i, i < n → ∃ x, p i x) → ∃ l : List α, l.length = n ∧ ∀ (i : Nat) (x : α), l[i]? = some x → p i x
  | 0, _, _ => ⟨[], rfl, fun i x h => by simp at h⟩
  | n + 1, p, h => by
    obtain ⟨l, hl, hp⟩ := list_of n (p := p) fun i hi => h i (by omega)
    obtain ⟨x, hx⟩ := h n (by omega)
    refine ⟨l ++ [x], by simp [hl], fun i y hy => ?_⟩
    rcases Nat.lt_or_ge i n with hi | hi
    · rw [List.getElem?_append_left (by omega)] at hy
      exact hp i y hy
    · rw [List.getElem?_append_right (by omega), hl] at hy
      by_cases e : i = n
      · subst e
        simp at hy
        subst hy
        exact hx
      · rw [List.getElem?_eq_none (by simp; omega)] at hy
        cases hy
section
variable {H : Type} {enc : TypeId × Value → H} {w : World} {base : Nat} {spare : Nat → Bool} {held : Bool}
theorem cell_blk {w : World} {a : Addr} {n : Nat} {v : Value} (h : w.cell? (a.add n) = some v) : a.block < w.heap.size := by
  refine Classical.byContradiction fun hn => ?_
  unfold World.cell? at h
  rw [Array.getElem?_eq_none (by rw [add_blk]; omega)] at h
  cases h
/-- the elements of a slice, as cells and as data -/
theorem open_elems {P : Program} {t e : TypeId} {fuel : Nat} {v : Value} {x : DataW H × List MemPlace} (ht : P.underlying t = some (.slice e)) (h : DataW.trod enc P w base spare held fuel t [v] = some x) :
    v = .slice none 0 0 ∨ ∃ (a : Addr) (len cap n : Nat), fuel = n + 1 ∧ v = .slice (some a) len cap ∧ len ≤ cap ∧ cap ≤ maxLen ∧
      ∀ i, i < len → ∃ cs : List Value, cs.length = P.cellsOf e ∧ (∀ j, j < P.cellsOf e → w.cell? (a.add (i * P.cellsOf e + j)) = cs[j]?) ∧ ∃ y, DataW.trod enc P w base spare held n e cs = some y := by
  rcases DataW.trod_slice ht h with ⟨hcs, _⟩ | ⟨a, len, cap, elems, rest, n, hf, hcs, _, _, hl, hm, hlen, hel, _⟩
  · exact .inl (by simpa using hcs)
  · refine .inr ⟨a, len, cap, n, hf, by simpa using hcs, hl, hm, fun i hi => ?_⟩
    have h1 := hel i hi
    have h2 : elems[i]? = some (elems[i]'(by omega)) := List.getElem?_eq_getElem (by omega)
    rw [h2] at h1
    cases hc : w.cells? base (a.add (i * P.cellsOf e)) (P.cellsOf e) with
    | none => rw [hc] at h1; cases h1
    | some cs =>
      rw [hc] at h1
      obtain ⟨_, hcl, hat⟩ := World.cells?_some hc
      exact ⟨cs, hcl, fun j hj => by rw [← Addr.add_add]; exact hat j hj, _, h1⟩
theorem term_cells : Tryz.prog.cellsOf 25 = 5 := by kernel_rfl
theorem int_cells : Tryz.prog.cellsOf 3 = 1 := by kernel_rfl
theorem str_cells : Tryz.prog.cellsOf 9 = 1 := by kernel_rfl
theorem terms_cells : Tryz.prog.cellsOf 23 = 1 := by kernel_rfl
set_option maxRecDepth 100000 in
theorem open_args {fuel : Nat} (IH : ∀ n, n < fuel → ∀ cs x, DataW.trod enc Tryz.prog w base spare held n 25 cs = some x → ∃ t, MAt w t cs.toArray) {v : Value} {x : DataW H × List MemPlace} (h : DataW.trod enc Tryz.prog w base spare held fuel 23 [v] = some x) :
    ∃ (A : Option Addr) (ts : List Trm) (cap : Nat), v = .slice A ts.length cap ∧ ts.length ≤ cap ∧ cap ≤ 9223372036854775807 ∧ ArgsAt w A ts := by
  rcases open_elems Tryz.underlying23 h with rfl | ⟨a, len, cap, n, hf, rfl, hl, hm, hi⟩
  · exact ⟨none, [], 0, rfl, Nat.le_refl _, by omega, fun i t hi => by simp at hi⟩
  · rw [term_cells] at hi
    obtain ⟨ts, hlen, hts⟩ := list_of len (p := fun i (t : Trm) => ∃ c, MAt w t c ∧ ∀ j, j < 5 → w.cell? (a.add (i * 5 + j)) = c[j]?) (fun i hi' => by
      obtain ⟨cs, hcl, hat, y, hy⟩ := hi i hi'
      obtain ⟨t, ht⟩ := IH n (by omega) cs y hy
      exact ⟨t, cs.toArray, ht, fun j hj => by rw [hat j hj]; simp⟩)
    subst hlen
    unfold maxLen at hm
    refine ⟨some a, ts, cap, rfl, hl, by omega, fun i t hit => ?_⟩
    obtain ⟨c, hn, hc⟩ := hts i t hit
    refine ⟨a, rfl, ?_, c, hn, hc⟩
    obtain ⟨A2, cap2, rfl, _⟩ := hn.form
    exact cell_blk (hc 0 (by omega))
set_option maxRecDepth 100000 in
theorem open_term : ∀ (fuel : Nat) (cs : List Value) (x : DataW H × List MemPlace), DataW.trod enc Tryz.prog w base spare held fuel 25 cs = some x → ∃ t, MAt w t cs.toArray := by
  intro fuel
  induction fuel using Nat.strongRecOn with
  | _ fuel ih =>
    intro cs x h
    obtain ⟨xs, n, rfl, _, hcl, hxl, hf⟩ := DataW.trod_struct Tryz.underlying25 h
    rw [term_cells] at hcl
    match cs, hcl with
    | [v0, v1, v2, v3, v4], _ =>
      have hx : xs.length = 5 := hxl
      have get : ∀ i, i < 5 → ∃ y, xs[i]? = some y := fun i hi => ⟨_, List.getElem?_eq_getElem (by omega)⟩
      obtain ⟨y0, e0⟩ := get 0 (by omega)
      obtain ⟨y1, e1⟩ := get 1 (by omega)
      obtain ⟨y2, e2⟩ := get 2 (by omega)
      obtain ⟨y3, e3⟩ := get 3 (by omega)
      obtain ⟨y4, e4⟩ := get 4 (by omega)
      have t0 : DataW.trod enc Tryz.prog w base spare held n 3 (([v0, v1, v2, v3, v4].drop 0).take (Tryz.prog.cellsOf 3)) = some y0 := (hf 0 _ rfl).trans e0
      have t1 : DataW.trod enc Tryz.prog w base spare held n 9 (([v0, v1, v2, v3, v4].drop 1).take (Tryz.prog.cellsOf 9)) = some y1 := (hf 1 _ rfl).trans e1
      have t2 : DataW.trod enc Tryz.prog w base spare held n 9 (([v0, v1, v2, v3, v4].drop 2).take (Tryz.prog.cellsOf 9)) = some y2 := (hf 2 _ rfl).trans e2
      have t3 : DataW.trod enc Tryz.prog w base spare held n 23 (([v0, v1, v2, v3, v4].drop 3).take (Tryz.prog.cellsOf 23)) = some y3 := (hf 3 _ rfl).trans e3
      have t4 : DataW.trod enc Tryz.prog w base spare held n 9 (([v0, v1, v2, v3, v4].drop 4).take (Tryz.prog.cellsOf 9)) = some y4 := (hf 4 _ rfl).trans e4
      rw [int_cells] at t0
      rw [str_cells] at t1 t2 t4
      rw [terms_cells] at t3
      obtain ⟨n0, k0, _, _⟩ := DataW.trod_int Tryz.underlying3 t0
      obtain ⟨n1, k1, _, z1⟩ := DataW.trod_string Tryz.underlying9 t1
      obtain ⟨n2, k2, _, z2⟩ := DataW.trod_string Tryz.underlying9 t2
      obtain ⟨A, ts, cap, k3, hl, hc, hk⟩ := open_args (fun n' hn' => ih n' (by omega)) (show DataW.trod enc Tryz.prog w base spare held n 23 [v3] = some y3 from t3)
      obtain ⟨n4, k4, _, z4⟩ := DataW.trod_string Tryz.underlying9 t4
      obtain rfl : v0 = .int .i64 n0 := by simpa using k0
      obtain rfl : v1 = .string n1 := by simpa using k1
      obtain rfl : v2 = .string n2 := by simpa using k2
      subst k3
      obtain rfl : v4 = .string n4 := by simpa using k4
      unfold maxLen at z1 z2 z4
      exact ⟨.mk n0 n1 n2 n4 ts, MAt.of (by omega) (by omega) (by omega) hl hc hk⟩
    | [], h => simp at h
    | [_], h => simp at h
    | [_, _], h => simp at h
    | [_, _, _], h => simp at h
    | [_, _, _, _], h => simp at h
    | _ :: _ :: _ :: _ :: _ :: _ :: _, h => simp at h
end
section
variable {H : Type} {enc : TypeId × Value → H} {W : World} {r : Reach} {b0 base : Nat} {sp : Nat → Bool} {held : Bool} {v : Value} {d : DataW H} {p : List MemPlace}
set_option maxRecDepth 100000 in
theorem arg_term (hv : Value.okWide Tryz.prog W r b0 25 v) (h : DataW.Trod enc Tryz.prog W base sp held 25 v d p) : ∃ (t : Trm) (c : Array Value), v = .agg c ∧ MAt W t c := by
  obtain ⟨cs, rfl, _⟩ := okWide_struct Tryz.underlying25 hv
  obtain ⟨fuel, hf⟩ := h
  obtain ⟨t, ht⟩ := open_term fuel cs.toList (d, p) (by simpa [Value.cells] using hf)
  exact ⟨t, cs, rfl, by simpa using ht⟩
end
end Go.Proofs.YtpokelkneblafaaGreatDoor
