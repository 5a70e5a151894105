/- What the rows of this seat share: arguments that are readings, rules, tokens. -/
import Derived.Test.YtmhddlhlniajpaaRows
import Derived.Test.YtmhddlhlniajpaaCC
import Derived.Test.YtmhddlhlniajpaaRow0
import Derived.ProofKit
import Derived.LaidMore
import Derived.OpenShut
import Derived.Stop.Joined
import Derived.Deep.Slices
import Derived.Deep.Fields
import Derived.ChangeSame
namespace Go.Proofs.Ytmhddlhlniajpaa
open Go.ChangeShapes Go.WideShapes Go.ChangeAt Go.WideMaps Go.WideElems Go.RowKit Go.Deep
theorem own : ownKnob Try.prog.godebug = none := by kernel_rfl
theorem list_of {α : Type} : ∀ (n : Nat) {p : Nat → α → Prop}, (∀ i, i < n → ∃ x, p i x) → ∃ l : List α, l.length = n ∧ ∀ (i : Nat) (x : α), l[i]? = some x → p i x
  | 0, _, _ => ⟨[], rfl, fun i x h => by simp at h⟩
  | n + 1, p, h => by
    obtain ⟨l, hl, hp⟩ := list_of n (p := p) fun i hi => h i (by omega)
    obtain ⟨x, hx⟩ := h n (by omega)
    refine ⟨l ++ [x], by simp [hl], fun i y hy => ?_⟩
    rcases Nat.lt_or_ge i n with hi | hi
    · rw [List.getElem?_append_left (by omega)] at hy
      exact hp i y hy
    · rw [List.getElem?_append_right (by omega), hl] at hy
      by_cases e : i = n
      · subst e
        simp at hy
        subst hy
        exact hx
      · rw [List.getElem?_eq_none (by simp; omega)] at hy
        cases hy
section
variable {H : Type} {enc : TypeId × Value → H} {w : World} {base : Nat} {spare : Nat → Bool} {held : Bool}
theorem cell_blk {w : World} {a : Addr} {n : Nat} {v : Value} (h : w.cell? (a.add n) = some v) : a.block < w.heap.size := by
  refine Classical.byContradiction fun hn => ?_
  unfold World.cell? at h
  rw [Array.getElem?_eq_none (by rw [add_block]; omega)] at h
  cases h
/-- the elements of a slice, as cells and as data -/
theorem open_elems {P : Program} {t e : TypeId} {fuel : Nat} {v : Value} {x : DataW H × List MemPlace} (ht : P.underlying t = some (.slice e)) (h : DataW.trod enc P w base spare held fuel t [v] = some x) :
    v = .slice none 0 0 ∨ ∃ (a : Addr) (len cap n : Nat), fuel = n + 1 ∧ v = .slice (some a) len cap ∧ len ≤ cap ∧ cap ≤ maxLen ∧
      ∀ i, i < len → ∃ cs : List Value, cs.length = P.cellsOf e ∧ (∀ j, j < P.cellsOf e → w.cell? (a.add (i * P.cellsOf e + j)) = cs[j]?) ∧ ∃ y, DataW.trod enc P w base spare held n e cs = some y := by
  rcases DataW.trod_slice ht h with ⟨hcs, _⟩ | ⟨a, len, cap, elems, rest, n, hf, hcs, _, _, hl, hm, hlen, hel, _⟩
  · exact .inl (by simpa using hcs)
  · refine .inr ⟨a, len, cap, n, hf, by simpa using hcs, hl, hm, fun i hi => ?_⟩
    have h1 := hel i hi
    have h2 : elems[i]? = some (elems[i]'(by omega)) := List.getElem?_eq_getElem (by omega)
    rw [h2] at h1
    cases hc : w.cells? base (a.add (i * P.cellsOf e)) (P.cellsOf e) with
    | none => rw [hc] at h1; cases h1
    | some cs =>
      rw [hc] at h1
      obtain ⟨_, hcl, hat⟩ := World.cells?_some hc
      exact ⟨cs, hcl, fun j hj => by rw [← Addr.add_add]; exact hat j hj, _, h1⟩
theorem read_cells : Try.prog.cellsOf 34 = 3 := by kernel_rfl
theorem rule_cells : Try.prog.cellsOf 41 = 6 := by kernel_rfl
theorem int_cells : Try.prog.cellsOf 3 = 1 := by kernel_rfl
theorem str_cells : Try.prog.cellsOf 9 = 1 := by kernel_rfl
theorem rds_cells : Try.prog.cellsOf 26 = 1 := by kernel_rfl
set_option maxRecDepth 100000 in
theorem open_rds {fuel : Nat} (IH : ∀ n, n < fuel → ∀ cs x, DataW.trod enc Try.prog w base spare held n 34 cs = some x → ∃ t, RdAt (fun _ => True) w t cs.toArray) {v : Value} {x : DataW H × List MemPlace} (h : DataW.trod enc Try.prog w base spare held fuel 26 [v] = some x) :
    ∃ (A : Option Addr) (ts : List Rd) (cap : Nat), v = .slice A ts.length cap ∧ ts.length ≤ cap ∧ cap ≤ 9223372036854775807 ∧ RdsAt (fun _ => True) w A ts := by
  rcases open_elems Try.underlying26 h with rfl | ⟨a, len, cap, n, hf, rfl, hl, hm, hi⟩
  · exact ⟨none, [], 0, rfl, Nat.le_refl _, by omega, fun i t hi => by simp at hi⟩
  · rw [read_cells] at hi
    obtain ⟨ts, hlen, hts⟩ := list_of len (p := fun i (t : Rd) => ∃ c, RdAt (fun _ => True) w t c ∧ ∀ j, j < 3 → w.cell? (a.add (i * 3 + j)) = c[j]?) (fun i hi' => by
      obtain ⟨cs, hcl, hat, y, hy⟩ := hi i hi'
      obtain ⟨t, ht⟩ := IH n (by omega) cs y hy
      exact ⟨t, cs.toArray, ht, fun j hj => by rw [hat j hj]; simp⟩)
    subst hlen
    unfold maxLen at hm
    refine ⟨some a, ts, cap, rfl, hl, by omega, fun i t hit => ?_⟩
    obtain ⟨c, hn, hc⟩ := hts i t hit
    refine ⟨a, rfl, ?_, trivial, c, hn, hc⟩
    obtain ⟨A2, cap2, rfl, _⟩ := hn.form
    exact cell_blk (hc 0 (by omega))
set_option maxRecDepth 100000 in
theorem open_read : ∀ (fuel : Nat) (cs : List Value) (x : DataW H × List MemPlace), DataW.trod enc Try.prog w base spare held fuel 34 cs = some x → ∃ t, RdAt (fun _ => True) w t cs.toArray := by
  intro fuel
  induction fuel using Nat.strongRecOn with
  | _ fuel ih =>
    intro cs x h
    obtain ⟨xs, n, rfl, _, hcl, hxl, hf⟩ := DataW.trod_struct Try.underlying34 h
    rw [read_cells] at hcl
    match cs, hcl with
    | [v0, v1, v2], _ =>
      have hx : xs.length = 3 := hxl
      have get : ∀ i, i < 3 → ∃ y, xs[i]? = some y := fun i hi => ⟨_, List.getElem?_eq_getElem (by omega)⟩
      obtain ⟨y0, e0⟩ := get 0 (by omega)
      obtain ⟨y1, e1⟩ := get 1 (by omega)
      obtain ⟨y2, e2⟩ := get 2 (by omega)
      have t0 : DataW.trod enc Try.prog w base spare held n 3 (([v0, v1, v2].drop 0).take (Try.prog.cellsOf 3)) = some y0 := (hf 0 _ rfl).trans e0
      have t1 : DataW.trod enc Try.prog w base spare held n 3 (([v0, v1, v2].drop 1).take (Try.prog.cellsOf 3)) = some y1 := (hf 1 _ rfl).trans e1
      have t2 : DataW.trod enc Try.prog w base spare held n 26 (([v0, v1, v2].drop 2).take (Try.prog.cellsOf 26)) = some y2 := (hf 2 _ rfl).trans e2
      rw [int_cells] at t0 t1
      rw [rds_cells] at t2
      obtain ⟨n0, k0, _, _⟩ := DataW.trod_int Try.underlying3 t0
      obtain rfl : v0 = .int .i64 n0 := by simpa using k0
      obtain ⟨n1, k1, _, _⟩ := DataW.trod_int Try.underlying3 t1
      obtain rfl : v1 = .int .i64 n1 := by simpa using k1
      obtain ⟨A, ts, cap, k2, hl, hc, hk⟩ := open_rds (fun n' hn' => ih n' (by omega)) (show DataW.trod enc Try.prog w base spare held n 26 [v2] = some y2 from t2)
      subst k2
      exact ⟨.mk n0 n1 ts, RdAt.of hl hc hk⟩
    | [], h => simp at h
    | [_], h => simp at h
    | [_, _], h => simp at h
    | _ :: _ :: _ :: _ :: _, h => simp at h
set_option maxRecDepth 100000 in
theorem open_rules {fuel : Nat} {v : Value} {x : DataW H × List MemPlace} (h : DataW.trod enc Try.prog w base spare held fuel 22 [v] = some x) :
    ∃ (A : Option Addr) (rs : List Rul) (cap : Nat), v = .slice A rs.length cap ∧ rs.length ≤ cap ∧ cap ≤ 9223372036854775807 ∧ RulsAt w A rs := by
  rcases open_elems Try.underlying22 h with rfl | ⟨a, len, cap, n, hf, rfl, hl, hm, hi⟩
  · exact ⟨none, [], 0, rfl, Nat.le_refl _, by omega, fun i t hi => by simp at hi⟩
  · rw [rule_cells] at hi
    obtain ⟨rs, hlen, hes⟩ := list_of len (p := fun i (e : Rul) => e.fits ∧ ∀ (j : Nat) v, e.c[j]? = some v → w.cell? (a.add (i * 6 + j)) = some v) (fun i hi' => by
      obtain ⟨cs, hcl, hat, y, hy⟩ := hi i hi'
      obtain ⟨xs, n', _, _, hcl2, hxl, hf⟩ := DataW.trod_struct Try.underlying41 hy
      match cs, hcl with
      | [v0, v1, v2, v3, v4, v5], _ =>
        have hx : xs.length = 6 := hxl
        have get : ∀ i, i < 6 → ∃ y, xs[i]? = some y := fun i hi => ⟨_, List.getElem?_eq_getElem (by omega)⟩
        obtain ⟨y0, e0⟩ := get 0 (by omega)
        obtain ⟨y1, e1⟩ := get 1 (by omega)
        obtain ⟨y2, e2⟩ := get 2 (by omega)
        obtain ⟨y3, e3⟩ := get 3 (by omega)
        obtain ⟨y4, e4⟩ := get 4 (by omega)
        obtain ⟨y5, e5⟩ := get 5 (by omega)
        have t0 : DataW.trod enc Try.prog w base spare held n' 3 (([v0, v1, v2, v3, v4, v5].drop 0).take (Try.prog.cellsOf 3)) = some y0 := (hf 0 _ rfl).trans e0
        have t1 : DataW.trod enc Try.prog w base spare held n' 9 (([v0, v1, v2, v3, v4, v5].drop 1).take (Try.prog.cellsOf 9)) = some y1 := (hf 1 _ rfl).trans e1
        have t2 : DataW.trod enc Try.prog w base spare held n' 9 (([v0, v1, v2, v3, v4, v5].drop 2).take (Try.prog.cellsOf 9)) = some y2 := (hf 2 _ rfl).trans e2
        have t3 : DataW.trod enc Try.prog w base spare held n' 3 (([v0, v1, v2, v3, v4, v5].drop 3).take (Try.prog.cellsOf 3)) = some y3 := (hf 3 _ rfl).trans e3
        have t4 : DataW.trod enc Try.prog w base spare held n' 3 (([v0, v1, v2, v3, v4, v5].drop 4).take (Try.prog.cellsOf 3)) = some y4 := (hf 4 _ rfl).trans e4
        have t5 : DataW.trod enc Try.prog w base spare held n' 3 (([v0, v1, v2, v3, v4, v5].drop 5).take (Try.prog.cellsOf 3)) = some y5 := (hf 5 _ rfl).trans e5
        rw [int_cells] at t0 t3 t4 t5
        rw [str_cells] at t1 t2
        obtain ⟨n0, k0, _, _⟩ := DataW.trod_int Try.underlying3 t0
        obtain rfl : v0 = .int .i64 n0 := by simpa using k0
        obtain ⟨n1, k1, _, z1⟩ := DataW.trod_string Try.underlying9 t1
        obtain rfl : v1 = .string n1 := by simpa using k1
        unfold maxLen at z1
        obtain ⟨n2, k2, _, z2⟩ := DataW.trod_string Try.underlying9 t2
        obtain rfl : v2 = .string n2 := by simpa using k2
        unfold maxLen at z2
        obtain ⟨n3, k3, _, _⟩ := DataW.trod_int Try.underlying3 t3
        obtain rfl : v3 = .int .i64 n3 := by simpa using k3
        obtain ⟨n4, k4, _, _⟩ := DataW.trod_int Try.underlying3 t4
        obtain rfl : v4 = .int .i64 n4 := by simpa using k4
        obtain ⟨n5, k5, _, _⟩ := DataW.trod_int Try.underlying3 t5
        obtain rfl : v5 = .int .i64 n5 := by simpa using k5
        refine ⟨⟨n0, n1, n2, n3, n4, n5⟩, ⟨by show n1.size ≤ _; omega, by show n2.size ≤ _; omega⟩, fun j v hj => ?_⟩
        match j, hj with
        | 0, hj => simp at hj; subst hj; exact hat 0 (by omega)
        | 1, hj => simp at hj; subst hj; exact hat 1 (by omega)
        | 2, hj => simp at hj; subst hj; exact hat 2 (by omega)
        | 3, hj => simp at hj; subst hj; exact hat 3 (by omega)
        | 4, hj => simp at hj; subst hj; exact hat 4 (by omega)
        | 5, hj => simp at hj; subst hj; exact hat 5 (by omega)
      | [], h => simp at h
      | [_], h => simp at h
      | [_, _], h => simp at h
      | [_, _, _], h => simp at h
      | [_, _, _, _], h => simp at h
      | [_, _, _, _, _], h => simp at h
      | _ :: _ :: _ :: _ :: _ :: _ :: _ :: _, h => simp at h)
    subst hlen
    unfold maxLen at hm
    refine ⟨some a, rs, cap, rfl, hl, by omega, fun k e hk => ?_⟩
    obtain ⟨hf, hc⟩ := hes k e hk
    refine ⟨hf, a, rfl, ?_, hc⟩
    have := hc 0 _ rfl
    exact cell_blk this
set_option maxRecDepth 100000 in
theorem open_toks {fuel : Nat} {v : Value} {x : DataW H × List MemPlace} (h : DataW.trod enc Try.prog w base spare held fuel 23 [v] = some x) :
    ∃ (A : Option Addr) (ts : List ByteArray) (cap : Nat), v = .slice A ts.length cap ∧ ts.length ≤ cap ∧ cap ≤ 9223372036854775807 ∧ ToksAt w A ts := by
  rcases open_elems Try.underlying23 h with rfl | ⟨a, len, cap, n, hf, rfl, hl, hm, hi⟩
  · exact ⟨none, [], 0, rfl, Nat.le_refl _, by omega, fun i t hi => by simp at hi⟩
  · rw [str_cells] at hi
    obtain ⟨ts, hlen, hes⟩ := list_of len (p := fun i (s : ByteArray) => s.size ≤ 9223372036854775807 ∧ w.cell? (a.add i) = some (.string s)) (fun i hi' => by
      obtain ⟨cs, hcl, hat, y, hy⟩ := hi i hi'
      match cs, hcl with
      | [v0], _ =>
        obtain ⟨n1, k1, _, z1⟩ := DataW.trod_string Try.underlying9 hy
        obtain rfl : v0 = .string n1 := by simpa using k1
        unfold maxLen at z1
        exact ⟨n1, by omega, by have := hat 0 (by omega); rw [Nat.mul_one, Nat.add_zero] at this; exact this⟩
      | [], h => simp at h
      | _ :: _ :: _, h => simp at h)
    subst hlen
    unfold maxLen at hm
    refine ⟨some a, ts, cap, rfl, hl, by omega, fun k s hk => ?_⟩
    obtain ⟨hf, hc⟩ := hes k s hk
    exact ⟨hf, a, rfl, cell_blk hc, hc⟩
end
section
variable {H : Type} {enc : TypeId × Value → H} {W : World} {r : Reach} {b0 base : Nat} {sp : Nat → Bool} {held : Bool} {v : Value} {d : DataW H} {p : List MemPlace}
set_option maxRecDepth 100000 in
theorem arg_rules (hv : Value.okWide Try.prog W r b0 22 v) (h : DataW.Trod enc Try.prog W base sp held 22 v d p) : ∃ (A : Option Addr) (rs : List Rul) (cap : Nat), v = .slice A rs.length cap ∧ rs.length ≤ cap ∧ cap ≤ 9223372036854775807 ∧ RulsAt W A rs := by
  obtain ⟨a0, len, cap, rfl⟩ := okWide_slice Try.underlying22 hv
  obtain ⟨fuel, hf⟩ := h
  exact open_rules (x := (d, p)) (by simpa [Value.cells] using hf)
set_option maxRecDepth 100000 in
theorem arg_toks (hv : Value.okWide Try.prog W r b0 23 v) (h : DataW.Trod enc Try.prog W base sp held 23 v d p) : ∃ (A : Option Addr) (ts : List ByteArray) (cap : Nat), v = .slice A ts.length cap ∧ ts.length ≤ cap ∧ cap ≤ 9223372036854775807 ∧ ToksAt W A ts := by
  obtain ⟨a0, len, cap, rfl⟩ := okWide_slice Try.underlying23 hv
  obtain ⟨fuel, hf⟩ := h
  exact open_toks (x := (d, p)) (by simpa [Value.cells] using hf)
set_option maxRecDepth 100000 in
theorem arg_read (hv : Value.okWide Try.prog W r b0 34 v) (h : DataW.Trod enc Try.prog W base sp held 34 v d p) : ∃ (t : Rd) (c : Array Value), v = .agg c ∧ RdAt (fun _ => True) W t c := by
  obtain ⟨cs, rfl, _⟩ := okWide_struct Try.underlying34 hv
  obtain ⟨fuel, hf⟩ := h
  obtain ⟨t, ht⟩ := open_read fuel cs.toList (d, p) (by simpa [Value.cells] using hf)
  exact ⟨t, cs, rfl, by simpa using ht⟩
theorem two_cells : Try.prog.cellsOf 39 = 2 := by kernel_rfl
theorem strs_cells : Try.prog.cellsOf 23 = 1 := by kernel_rfl
theorem array2 {α : Type} {cs : Array α} (h : cs.size = 2) : ∃ c0 c1, cs = #[c0, c1] := by
  obtain ⟨l⟩ := cs
  match l, h with
  | [c0, c1], _ => exact ⟨c0, c1, rfl⟩
set_option maxRecDepth 100000 in
theorem arg_two (hv : Value.okWide Try.prog W r b0 39 v) (h : DataW.Trod enc Try.prog W base sp held 39 v d p) : ∃ (A B : Option Addr) (ts us : List ByteArray) (c1 c2 : Nat), v = .agg #[.slice A ts.length c1, .slice B us.length c2] ∧ ts.length ≤ c1 ∧ c1 ≤ 9223372036854775807 ∧ us.length ≤ c2 ∧ c2 ≤ 9223372036854775807 ∧ ToksAt W A ts ∧ ToksAt W B us := by
  simp only [Value.okWide, Try.underlying39] at hv
  obtain ⟨cs, rfl, hsz, _⟩ := hv
  rw [two_cells] at hsz
  obtain ⟨c0, c1, rfl⟩ := array2 hsz
  obtain ⟨fuel, hf⟩ := h
  obtain ⟨xs, m, _, _, _, hn, hel⟩ := DataW.trod_array Try.underlying39 hf
  rw [strs_cells] at hel
  have get : ∀ i c, i < 2 → ((Value.agg #[c0, c1]).cells.toList.drop (i * 1)).take 1 = [c] → ∃ y, DataW.trod enc Try.prog W base sp held m 23 [c] = some y := by
    intro i c hi hc
    have h1 := hel i hi
    rw [hc, List.getElem?_eq_getElem (by omega)] at h1
    exact ⟨_, h1⟩
  obtain ⟨y0, h0⟩ := get 0 c0 (by omega) rfl
  obtain ⟨y1, h1⟩ := get 1 c1 (by omega) rfl
  obtain ⟨A, ts, k1, rfl, a1, a2, a3⟩ := open_toks h0
  obtain ⟨B, us, k2, rfl, b1, b2, b3⟩ := open_toks h1
  exact ⟨A, B, ts, us, k1, k2, rfl, a1, a2, b1, b2, a3, b3⟩
end
end Go.Proofs.Ytmhddlhlniajpaa
