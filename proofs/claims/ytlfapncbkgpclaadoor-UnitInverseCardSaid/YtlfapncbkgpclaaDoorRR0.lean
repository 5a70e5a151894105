/- Arguments that are values or scalings. -/
import Derived.Test.YtlfapncbkgpclaaDoorR
import Derived.Test.YtlfapncbkgpclaaDoorN
namespace Go.Proofs.YtlfapncbkgpclaaDoor
open Go.ChangeShapes Go.WideShapes Go.ChangeAt Go.WideMaps Go.WideElems Go.RowKit
theorem byte_cells : Tryd.prog.cellsOf 47 = 2 := by kernel_rfl
theorem scal_cells : Tryd.prog.cellsOf 49 = 14 := by kernel_rfl
theorem val_cells : Tryd.prog.cellsOf 35 = 9 := by kernel_rfl
theorem u8_cells : Tryd.prog.cellsOf 5 = 1 := by kernel_rfl
theorem array14 {α : Type} {cs : Array α} (h : cs.size = 14) : ∃ c0 c1 c2 c3 c4 c5 c6 c7 c8 c9 c10 c11 c12 c13, cs = #[c0, c1, c2, c3, c4, c5, c6, c7, c8, c9, c10, c11, c12, c13] := by
  obtain ⟨l⟩ := cs
  match l, h with
  | [c0, c1, c2, c3, c4, c5, c6, c7, c8, c9, c10, c11, c12, c13], _ => exact ⟨c0, c1, c2, c3, c4, c5, c6, c7, c8, c9, c10, c11, c12, c13, rfl⟩
theorem array9 {α : Type} {cs : Array α} (h : cs.size = 9) : ∃ c0 c1 c2 c3 c4 c5 c6 c7 c8, cs = #[c0, c1, c2, c3, c4, c5, c6, c7, c8] := by
  obtain ⟨l⟩ := cs
  match l, h with
  | [c0, c1, c2, c3, c4, c5, c6, c7, c8], _ => exact ⟨c0, c1, c2, c3, c4, c5, c6, c7, c8, rfl⟩
section
variable {H : Type} {enc : TypeId × Value → H} {W : World} {r : Reach} {b0 base : Nat} {sp : Nat → Bool} {held : Bool} {v : Value} {d : DataW H} {p : List MemPlace}
set_option maxRecDepth 100000 in
/-- an argument that is a scaling: fourteen bytes -/
theorem open_scal (hv : Value.okWide Tryd.prog W r b0 49 v) (h : DataW.Trod enc Tryd.prog W base sp held 49 v d p) : ∃ s : F7, v = .agg s.u ∧ s.bytes := by
  simp only [Value.okWide, Tryd.underlying49] at hv
  obtain ⟨cs, rfl, hsz, _⟩ := hv
  rw [scal_cells] at hsz
  obtain ⟨c0, c1, c2, c3, c4, c5, c6, c7, c8, c9, c10, c11, c12, c13, rfl⟩ := array14 hsz
  obtain ⟨fuel, hf⟩ := h
  obtain ⟨xs, m, _, _, _, hn, hel⟩ := DataW.trod_array Tryd.underlying49 hf
  rw [byte_cells] at hel
  have get : ∀ i a b, i < 7 → ((Value.agg #[c0, c1, c2, c3, c4, c5, c6, c7, c8, c9, c10, c11, c12, c13]).cells.toList.drop (i * 2)).take 2 = [a, b] → ∃ x y, a = .int .u8 x ∧ b = .int .u8 y ∧ (Lit.int .u8 x).wf = true ∧ (Lit.int .u8 y).wf = true := by
    intro i a b hi hc
    have h1 := hel i hi
    rw [hc, List.getElem?_eq_getElem (by omega)] at h1
    obtain ⟨ys, m2, _, _, _, hn2, hel2⟩ := DataW.trod_array Tryd.underlying47 h1
    rw [u8_cells] at hel2
    have e0 := hel2 0 (by omega)
    have e1 := hel2 1 (by omega)
    rw [List.getElem?_eq_getElem (by omega)] at e0 e1
    obtain ⟨x, ex, _, hx⟩ := DataW.trod_int Tryd.underlying5 e0
    obtain ⟨y, ey, _, hy⟩ := DataW.trod_int Tryd.underlying5 e1
    exact ⟨x, y, by simpa using ex, by simpa using ey, hx, hy⟩
  obtain ⟨n0, d0, rfl, rfl, a0, b0⟩ := get 0 c0 c1 (by omega) rfl
  obtain ⟨n1, d1, rfl, rfl, a1, b1⟩ := get 1 c2 c3 (by omega) rfl
  obtain ⟨n2, d2, rfl, rfl, a2, b2⟩ := get 2 c4 c5 (by omega) rfl
  obtain ⟨n3, d3, rfl, rfl, a3, b3⟩ := get 3 c6 c7 (by omega) rfl
  obtain ⟨n4, d4, rfl, rfl, a4, b4⟩ := get 4 c8 c9 (by omega) rfl
  obtain ⟨n5, d5, rfl, rfl, a5, b5⟩ := get 5 c10 c11 (by omega) rfl
  obtain ⟨n6, d6, rfl, rfl, a6, b6⟩ := get 6 c12 c13 (by omega) rfl
  refine ⟨⟨n0, d0, n1, d1, n2, d2, n3, d3, n4, d4, n5, d5, n6, d6⟩, rfl, fun i hi => ?_⟩
  match i, hi with
  | 0, _ => exact ⟨(bounds_u8 a0).1, (bounds_u8 a0).2, (bounds_u8 b0).1, (bounds_u8 b0).2⟩
  | 1, _ => exact ⟨(bounds_u8 a1).1, (bounds_u8 a1).2, (bounds_u8 b1).1, (bounds_u8 b1).2⟩
  | 2, _ => exact ⟨(bounds_u8 a2).1, (bounds_u8 a2).2, (bounds_u8 b2).1, (bounds_u8 b2).2⟩
  | 3, _ => exact ⟨(bounds_u8 a3).1, (bounds_u8 a3).2, (bounds_u8 b3).1, (bounds_u8 b3).2⟩
  | 4, _ => exact ⟨(bounds_u8 a4).1, (bounds_u8 a4).2, (bounds_u8 b4).1, (bounds_u8 b4).2⟩
  | 5, _ => exact ⟨(bounds_u8 a5).1, (bounds_u8 a5).2, (bounds_u8 b5).1, (bounds_u8 b5).2⟩
  | 6, _ => exact ⟨(bounds_u8 a6).1, (bounds_u8 a6).2, (bounds_u8 b6).1, (bounds_u8 b6).2⟩

set_option maxRecDepth 100000 in
/-- an argument that is a value -/
theorem open_val (hv : Value.okWide Tryd.prog W r b0 35 v) (h : DataW.Trod enc Tryd.prog W base sp held 35 v d p) : ∃ x : V9, v = x.v := by
  simp only [Value.okWide, Tryd.underlying35] at hv
  obtain ⟨cs, rfl, hsz, _⟩ := hv
  rw [val_cells] at hsz
  obtain ⟨c0, c1, c2, c3, c4, c5, c6, c7, c8, rfl⟩ := array9 hsz
  obtain ⟨fuel, hf⟩ := h
  obtain ⟨xs, m, _, hx, hl, hn, hg⟩ := DataW.trod_struct Tryd.underlying35 hf
  have hn3 : xs.length = 3 := hn
  have fld : ∀ (i : Nat) (t o k : Nat) (f : Field), (#[{ name := "Num", type := 3, offset := 0, embedded := false, tag := "", pkgPath := "", byteOffset := 0 }, { name := "Den", type := 3, offset := 1, embedded := false, tag := "", pkgPath := "", byteOffset := 8 }, { name := "Dim", type := 23, offset := 2, embedded := false, tag := "", pkgPath := "", byteOffset := 16 }] : Array Field)[i]? = some f → f.type = t → f.offset = o → Tryd.prog.cellsOf t = k →
      DataW.trod enc Tryd.prog W base sp held m t (((Value.agg #[c0, c1, c2, c3, c4, c5, c6, c7, c8]).cells.toList.drop o).take k) = xs[i]? := by
    intro i t o k f hf ht ho hk
    subst ht ho hk
    exact hg i f hf
  have e0 := fld 0 3 0 1 _ rfl rfl rfl int_cells
  have e1 := fld 1 3 1 1 _ rfl rfl rfl int_cells
  have e2 := fld 2 23 2 7 _ rfl rfl rfl dim_cells
  rw [List.getElem?_eq_getElem (by omega)] at e0 e1 e2
  obtain ⟨n0, ex0, _, _⟩ := DataW.trod_int Tryd.underlying3 e0
  obtain ⟨n1, ex1, _, _⟩ := DataW.trod_int Tryd.underlying3 e1
  obtain ⟨ys, m2, _, _, _, hn2, hel⟩ := DataW.trod_array Tryd.underlying23 e2
  rw [int_cells] at hel
  have get : ∀ i c, i < 7 → ((((Value.agg #[c0, c1, c2, c3, c4, c5, c6, c7, c8]).cells.toList.drop 2).take 7).drop (i * 1)).take 1 = [c] → ∃ n, c = .int .i64 n := by
    intro i c hi hc
    have h1 := hel i hi
    rw [hc, List.getElem?_eq_getElem (by omega)] at h1
    obtain ⟨n, e, _, _⟩ := DataW.trod_int Tryd.underlying3 h1
    exact ⟨n, by simpa using e⟩
  have z0 : c0 = .int .i64 n0 := by simpa [Value.cells] using ex0
  have z1 : c1 = .int .i64 n1 := by simpa [Value.cells] using ex1
  obtain ⟨a0, z2⟩ := get 0 c2 (by omega) rfl
  obtain ⟨a1, z3⟩ := get 1 c3 (by omega) rfl
  obtain ⟨a2, z4⟩ := get 2 c4 (by omega) rfl
  obtain ⟨a3, z5⟩ := get 3 c5 (by omega) rfl
  obtain ⟨a4, z6⟩ := get 4 c6 (by omega) rfl
  obtain ⟨a5, z7⟩ := get 5 c7 (by omega) rfl
  obtain ⟨a6, z8⟩ := get 6 c8 (by omega) rfl
  refine ⟨⟨n0, n1, ⟨a0, a1, a2, a3, a4, a5, a6⟩⟩, ?_⟩
  rw [z0, z1, z2, z3, z4, z5, z6, z7, z8]
end
end Go.Proofs.YtlfapncbkgpclaaDoor
