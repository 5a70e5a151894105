/- FO, RO in one text. -/
import Derived.Test.YtgoafobhhmeppaaGreatLR
import Derived.Test.YtgoafobhhmeppaaGreatFN
namespace Go.Proofs.YtgoafobhhmeppaaGreat
section
open Go.ChangeShapes Go.WideShapes Go.ChangeAt Go.WideMaps Go.WideElems Go.RowKit Go.Deep
section
variable {H : Type} {enc : TypeId × Value → H} {w : World} {base : Nat} {spare : Nat → Bool} {held : Bool}
theorem gly_cells : Tryz.prog.cellsOf 70 = 6 := by kernel_rfl
theorem stc_cells : Tryz.prog.cellsOf 53 = 4 := by kernel_rfl
theorem prt_cells : Tryz.prog.cellsOf 93 = 2 := by kernel_rfl
theorem prm_cells : Tryz.prog.cellsOf 25 = 20 := by kernel_rfl
theorem fnt_cells : Tryz.prog.cellsOf 27 = 22 := by kernel_rfl
theorem sty_cells : Tryz.prog.cellsOf 33 = 2 := by kernel_rfl
theorem glys_cells : Tryz.prog.cellsOf 22 = 1 := by kernel_rfl
theorem stcs_cells : Tryz.prog.cellsOf 23 = 1 := by kernel_rfl
theorem strs_cells : Tryz.prog.cellsOf 50 = 1 := by kernel_rfl
theorem prts_cells : Tryz.prog.cellsOf 51 = 1 := by kernel_rfl
set_option maxRecDepth 100000 in
theorem open_prm {fuel : Nat} {cs : List Value} {x : DataW H × List MemPlace} (h : DataW.trod enc Tryz.prog w base spare held fuel 25 cs = some x) : ∃ p : Nat → Int, cs = prmL p := by
  obtain ⟨xs, n, _, _, hcl, hxl, hf⟩ := DataW.trod_struct Tryz.underlying25 h
  rw [prm_cells] at hcl
  obtain ⟨v0, cs, rfl⟩ := List.exists_cons_of_length_eq_add_one hcl
  replace hcl := Nat.succ.inj hcl
  obtain ⟨v1, cs, rfl⟩ := List.exists_cons_of_length_eq_add_one hcl
  replace hcl := Nat.succ.inj hcl
  obtain ⟨v2, cs, rfl⟩ := List.exists_cons_of_length_eq_add_one hcl
  replace hcl := Nat.succ.inj hcl
  obtain ⟨v3, cs, rfl⟩ := List.exists_cons_of_length_eq_add_one hcl
  replace hcl := Nat.succ.inj hcl
  obtain ⟨v4, cs, rfl⟩ := List.exists_cons_of_length_eq_add_one hcl
  replace hcl := Nat.succ.inj hcl
  obtain ⟨v5, cs, rfl⟩ := List.exists_cons_of_length_eq_add_one hcl
  replace hcl := Nat.succ.inj hcl
  obtain ⟨v6, cs, rfl⟩ := List.exists_cons_of_length_eq_add_one hcl
  replace hcl := Nat.succ.inj hcl
  obtain ⟨v7, cs, rfl⟩ := List.exists_cons_of_length_eq_add_one hcl
  replace hcl := Nat.succ.inj hcl
  obtain ⟨v8, cs, rfl⟩ := List.exists_cons_of_length_eq_add_one hcl
  replace hcl := Nat.succ.inj hcl
  obtain ⟨v9, cs, rfl⟩ := List.exists_cons_of_length_eq_add_one hcl
  replace hcl := Nat.succ.inj hcl
  obtain ⟨v10, cs, rfl⟩ := List.exists_cons_of_length_eq_add_one hcl
  replace hcl := Nat.succ.inj hcl
  obtain ⟨v11, cs, rfl⟩ := List.exists_cons_of_length_eq_add_one hcl
  replace hcl := Nat.succ.inj hcl
  obtain ⟨v12, cs, rfl⟩ := List.exists_cons_of_length_eq_add_one hcl
  replace hcl := Nat.succ.inj hcl
  obtain ⟨v13, cs, rfl⟩ := List.exists_cons_of_length_eq_add_one hcl
  replace hcl := Nat.succ.inj hcl
  obtain ⟨v14, cs, rfl⟩ := List.exists_cons_of_length_eq_add_one hcl
  replace hcl := Nat.succ.inj hcl
  obtain ⟨v15, cs, rfl⟩ := List.exists_cons_of_length_eq_add_one hcl
  replace hcl := Nat.succ.inj hcl
  obtain ⟨v16, cs, rfl⟩ := List.exists_cons_of_length_eq_add_one hcl
  replace hcl := Nat.succ.inj hcl
  obtain ⟨v17, cs, rfl⟩ := List.exists_cons_of_length_eq_add_one hcl
  replace hcl := Nat.succ.inj hcl
  obtain ⟨v18, cs, rfl⟩ := List.exists_cons_of_length_eq_add_one hcl
  replace hcl := Nat.succ.inj hcl
  obtain ⟨v19, cs, rfl⟩ := List.exists_cons_of_length_eq_add_one hcl
  replace hcl := Nat.succ.inj hcl
  obtain rfl := List.eq_nil_of_length_eq_zero hcl
  have hx : xs.length = 20 := hxl
  have get : ∀ i, i < 20 → ∃ y, xs[i]? = some y := fun i hi => ⟨_, List.getElem?_eq_getElem (by omega)⟩
  obtain ⟨y0, e0⟩ := get 0 (by omega)
  obtain ⟨y1, e1⟩ := get 1 (by omega)
  obtain ⟨y2, e2⟩ := get 2 (by omega)
  obtain ⟨y3, e3⟩ := get 3 (by omega)
  obtain ⟨y4, e4⟩ := get 4 (by omega)
  obtain ⟨y5, e5⟩ := get 5 (by omega)
  obtain ⟨y6, e6⟩ := get 6 (by omega)
  obtain ⟨y7, e7⟩ := get 7 (by omega)
  obtain ⟨y8, e8⟩ := get 8 (by omega)
  obtain ⟨y9, e9⟩ := get 9 (by omega)
  obtain ⟨y10, e10⟩ := get 10 (by omega)
  obtain ⟨y11, e11⟩ := get 11 (by omega)
  obtain ⟨y12, e12⟩ := get 12 (by omega)
  obtain ⟨y13, e13⟩ := get 13 (by omega)
  obtain ⟨y14, e14⟩ := get 14 (by omega)
  obtain ⟨y15, e15⟩ := get 15 (by omega)
  obtain ⟨y16, e16⟩ := get 16 (by omega)
  obtain ⟨y17, e17⟩ := get 17 (by omega)
  obtain ⟨y18, e18⟩ := get 18 (by omega)
  obtain ⟨y19, e19⟩ := get 19 (by omega)
  have t0 : DataW.trod enc Tryz.prog w base spare held n 3 (([v0, v1, v2, v3, v4, v5, v6, v7, v8, v9, v10, v11, v12, v13, v14, v15, v16, v17, v18, v19].drop 0).take (Tryz.prog.cellsOf 3)) = some y0 := (hf 0 _ rfl).trans e0
  have t1 : DataW.trod enc Tryz.prog w base spare held n 3 (([v0, v1, v2, v3, v4, v5, v6, v7, v8, v9, v10, v11, v12, v13, v14, v15, v16, v17, v18, v19].drop 1).take (Tryz.prog.cellsOf 3)) = some y1 := (hf 1 _ rfl).trans e1
  have t2 : DataW.trod enc Tryz.prog w base spare held n 3 (([v0, v1, v2, v3, v4, v5, v6, v7, v8, v9, v10, v11, v12, v13, v14, v15, v16, v17, v18, v19].drop 2).take (Tryz.prog.cellsOf 3)) = some y2 := (hf 2 _ rfl).trans e2
  have t3 : DataW.trod enc Tryz.prog w base spare held n 3 (([v0, v1, v2, v3, v4, v5, v6, v7, v8, v9, v10, v11, v12, v13, v14, v15, v16, v17, v18, v19].drop 3).take (Tryz.prog.cellsOf 3)) = some y3 := (hf 3 _ rfl).trans e3
  have t4 : DataW.trod enc Tryz.prog w base spare held n 3 (([v0, v1, v2, v3, v4, v5, v6, v7, v8, v9, v10, v11, v12, v13, v14, v15, v16, v17, v18, v19].drop 4).take (Tryz.prog.cellsOf 3)) = some y4 := (hf 4 _ rfl).trans e4
  have t5 : DataW.trod enc Tryz.prog w base spare held n 3 (([v0, v1, v2, v3, v4, v5, v6, v7, v8, v9, v10, v11, v12, v13, v14, v15, v16, v17, v18, v19].drop 5).take (Tryz.prog.cellsOf 3)) = some y5 := (hf 5 _ rfl).trans e5
  have t6 : DataW.trod enc Tryz.prog w base spare held n 3 (([v0, v1, v2, v3, v4, v5, v6, v7, v8, v9, v10, v11, v12, v13, v14, v15, v16, v17, v18, v19].drop 6).take (Tryz.prog.cellsOf 3)) = some y6 := (hf 6 _ rfl).trans e6
  have t7 : DataW.trod enc Tryz.prog w base spare held n 3 (([v0, v1, v2, v3, v4, v5, v6, v7, v8, v9, v10, v11, v12, v13, v14, v15, v16, v17, v18, v19].drop 7).take (Tryz.prog.cellsOf 3)) = some y7 := (hf 7 _ rfl).trans e7
  have t8 : DataW.trod enc Tryz.prog w base spare held n 3 (([v0, v1, v2, v3, v4, v5, v6, v7, v8, v9, v10, v11, v12, v13, v14, v15, v16, v17, v18, v19].drop 8).take (Tryz.prog.cellsOf 3)) = some y8 := (hf 8 _ rfl).trans e8
  have t9 : DataW.trod enc Tryz.prog w base spare held n 3 (([v0, v1, v2, v3, v4, v5, v6, v7, v8, v9, v10, v11, v12, v13, v14, v15, v16, v17, v18, v19].drop 9).take (Tryz.prog.cellsOf 3)) = some y9 := (hf 9 _ rfl).trans e9
  have t10 : DataW.trod enc Tryz.prog w base spare held n 3 (([v0, v1, v2, v3, v4, v5, v6, v7, v8, v9, v10, v11, v12, v13, v14, v15, v16, v17, v18, v19].drop 10).take (Tryz.prog.cellsOf 3)) = some y10 := (hf 10 _ rfl).trans e10
  have t11 : DataW.trod enc Tryz.prog w base spare held n 3 (([v0, v1, v2, v3, v4, v5, v6, v7, v8, v9, v10, v11, v12, v13, v14, v15, v16, v17, v18, v19].drop 11).take (Tryz.prog.cellsOf 3)) = some y11 := (hf 11 _ rfl).trans e11
  have t12 : DataW.trod enc Tryz.prog w base spare held n 3 (([v0, v1, v2, v3, v4, v5, v6, v7, v8, v9, v10, v11, v12, v13, v14, v15, v16, v17, v18, v19].drop 12).take (Tryz.prog.cellsOf 3)) = some y12 := (hf 12 _ rfl).trans e12
  have t13 : DataW.trod enc Tryz.prog w base spare held n 3 (([v0, v1, v2, v3, v4, v5, v6, v7, v8, v9, v10, v11, v12, v13, v14, v15, v16, v17, v18, v19].drop 13).take (Tryz.prog.cellsOf 3)) = some y13 := (hf 13 _ rfl).trans e13
  have t14 : DataW.trod enc Tryz.prog w base spare held n 3 (([v0, v1, v2, v3, v4, v5, v6, v7, v8, v9, v10, v11, v12, v13, v14, v15, v16, v17, v18, v19].drop 14).take (Tryz.prog.cellsOf 3)) = some y14 := (hf 14 _ rfl).trans e14
  have t15 : DataW.trod enc Tryz.prog w base spare held n 3 (([v0, v1, v2, v3, v4, v5, v6, v7, v8, v9, v10, v11, v12, v13, v14, v15, v16, v17, v18, v19].drop 15).take (Tryz.prog.cellsOf 3)) = some y15 := (hf 15 _ rfl).trans e15
  have t16 : DataW.trod enc Tryz.prog w base spare held n 3 (([v0, v1, v2, v3, v4, v5, v6, v7, v8, v9, v10, v11, v12, v13, v14, v15, v16, v17, v18, v19].drop 16).take (Tryz.prog.cellsOf 3)) = some y16 := (hf 16 _ rfl).trans e16
  have t17 : DataW.trod enc Tryz.prog w base spare held n 3 (([v0, v1, v2, v3, v4, v5, v6, v7, v8, v9, v10, v11, v12, v13, v14, v15, v16, v17, v18, v19].drop 17).take (Tryz.prog.cellsOf 3)) = some y17 := (hf 17 _ rfl).trans e17
  have t18 : DataW.trod enc Tryz.prog w base spare held n 3 (([v0, v1, v2, v3, v4, v5, v6, v7, v8, v9, v10, v11, v12, v13, v14, v15, v16, v17, v18, v19].drop 18).take (Tryz.prog.cellsOf 3)) = some y18 := (hf 18 _ rfl).trans e18
  have t19 : DataW.trod enc Tryz.prog w base spare held n 3 (([v0, v1, v2, v3, v4, v5, v6, v7, v8, v9, v10, v11, v12, v13, v14, v15, v16, v17, v18, v19].drop 19).take (Tryz.prog.cellsOf 3)) = some y19 := (hf 19 _ rfl).trans e19
  rw [int_cells] at t0
  obtain ⟨n0, k0, _, _⟩ := DataW.trod_int Tryz.underlying3 t0
  obtain rfl : v0 = .int .i64 n0 := by simpa using k0
  rw [int_cells] at t1
  obtain ⟨n1, k1, _, _⟩ := DataW.trod_int Tryz.underlying3 t1
  obtain rfl : v1 = .int .i64 n1 := by simpa using k1
  rw [int_cells] at t2
  obtain ⟨n2, k2, _, _⟩ := DataW.trod_int Tryz.underlying3 t2
  obtain rfl : v2 = .int .i64 n2 := by simpa using k2
  rw [int_cells] at t3
  obtain ⟨n3, k3, _, _⟩ := DataW.trod_int Tryz.underlying3 t3
  obtain rfl : v3 = .int .i64 n3 := by simpa using k3
  rw [int_cells] at t4
  obtain ⟨n4, k4, _, _⟩ := DataW.trod_int Tryz.underlying3 t4
  obtain rfl : v4 = .int .i64 n4 := by simpa using k4
  rw [int_cells] at t5
  obtain ⟨n5, k5, _, _⟩ := DataW.trod_int Tryz.underlying3 t5
  obtain rfl : v5 = .int .i64 n5 := by simpa using k5
  rw [int_cells] at t6
  obtain ⟨n6, k6, _, _⟩ := DataW.trod_int Tryz.underlying3 t6
  obtain rfl : v6 = .int .i64 n6 := by simpa using k6
  rw [int_cells] at t7
  obtain ⟨n7, k7, _, _⟩ := DataW.trod_int Tryz.underlying3 t7
  obtain rfl : v7 = .int .i64 n7 := by simpa using k7
  rw [int_cells] at t8
  obtain ⟨n8, k8, _, _⟩ := DataW.trod_int Tryz.underlying3 t8
  obtain rfl : v8 = .int .i64 n8 := by simpa using k8
  rw [int_cells] at t9
  obtain ⟨n9, k9, _, _⟩ := DataW.trod_int Tryz.underlying3 t9
  obtain rfl : v9 = .int .i64 n9 := by simpa using k9
  rw [int_cells] at t10
  obtain ⟨n10, k10, _, _⟩ := DataW.trod_int Tryz.underlying3 t10
  obtain rfl : v10 = .int .i64 n10 := by simpa using k10
  rw [int_cells] at t11
  obtain ⟨n11, k11, _, _⟩ := DataW.trod_int Tryz.underlying3 t11
  obtain rfl : v11 = .int .i64 n11 := by simpa using k11
  rw [int_cells] at t12
  obtain ⟨n12, k12, _, _⟩ := DataW.trod_int Tryz.underlying3 t12
  obtain rfl : v12 = .int .i64 n12 := by simpa using k12
  rw [int_cells] at t13
  obtain ⟨n13, k13, _, _⟩ := DataW.trod_int Tryz.underlying3 t13
  obtain rfl : v13 = .int .i64 n13 := by simpa using k13
  rw [int_cells] at t14
  obtain ⟨n14, k14, _, _⟩ := DataW.trod_int Tryz.underlying3 t14
  obtain rfl : v14 = .int .i64 n14 := by simpa using k14
  rw [int_cells] at t15
  obtain ⟨n15, k15, _, _⟩ := DataW.trod_int Tryz.underlying3 t15
  obtain rfl : v15 = .int .i64 n15 := by simpa using k15
  rw [int_cells] at t16
  obtain ⟨n16, k16, _, _⟩ := DataW.trod_int Tryz.underlying3 t16
  obtain rfl : v16 = .int .i64 n16 := by simpa using k16
  rw [int_cells] at t17
  obtain ⟨n17, k17, _, _⟩ := DataW.trod_int Tryz.underlying3 t17
  obtain rfl : v17 = .int .i64 n17 := by simpa using k17
  rw [int_cells] at t18
  obtain ⟨n18, k18, _, _⟩ := DataW.trod_int Tryz.underlying3 t18
  obtain rfl : v18 = .int .i64 n18 := by simpa using k18
  rw [int_cells] at t19
  obtain ⟨n19, k19, _, _⟩ := DataW.trod_int Tryz.underlying3 t19
  obtain rfl : v19 = .int .i64 n19 := by simpa using k19
  exact ⟨fun i => [n0, n1, n2, n3, n4, n5, n6, n7, n8, n9, n10, n11, n12, n13, n14, n15, n16, n17, n18, n19].getD i 0, rfl⟩
set_option maxRecDepth 100000 in
theorem open_glys {fuel : Nat} {v : Value} {x : DataW H × List MemPlace} (h : DataW.trod enc Tryz.prog w base spare held fuel 22 [v] = some x) :
    ∃ (A : Option Addr) (gs : List Gly) (cap : Nat), v = .slice A gs.length cap ∧ (gs.length ≤ cap ∧ cap ≤ 9223372036854775807) ∧ GlysAt w A gs := by
  rcases open_elems Tryz.underlying22 h with rfl | ⟨a, len, cap, n, hf, rfl, hl, hm, hi⟩
  · exact ⟨none, [], 0, rfl, ⟨Nat.le_refl _, by omega⟩, fun i t hi => by simp at hi⟩
  · rw [gly_cells] at hi
    obtain ⟨gs, hlen, hgs⟩ := list_of len (p := fun i (g : Gly) => g.nm.size ≤ 9223372036854775807 ∧ ∀ j, j < 6 → w.cell? (a.add (i * 6 + j)) = g.c[j]?) (fun i hi' => by
      obtain ⟨cs, hcl, hat, y, hy⟩ := hi i hi'
      obtain ⟨xs, n', _, _, hcl2, hxl, hf⟩ := DataW.trod_struct Tryz.underlying70 hy
      clear hcl2
      obtain ⟨v0, cs, rfl⟩ := List.exists_cons_of_length_eq_add_one hcl
      replace hcl := Nat.succ.inj hcl
      obtain ⟨v1, cs, rfl⟩ := List.exists_cons_of_length_eq_add_one hcl
      replace hcl := Nat.succ.inj hcl
      obtain ⟨v2, cs, rfl⟩ := List.exists_cons_of_length_eq_add_one hcl
      replace hcl := Nat.succ.inj hcl
      obtain ⟨v3, cs, rfl⟩ := List.exists_cons_of_length_eq_add_one hcl
      replace hcl := Nat.succ.inj hcl
      obtain ⟨v4, cs, rfl⟩ := List.exists_cons_of_length_eq_add_one hcl
      replace hcl := Nat.succ.inj hcl
      obtain ⟨v5, cs, rfl⟩ := List.exists_cons_of_length_eq_add_one hcl
      replace hcl := Nat.succ.inj hcl
      obtain rfl := List.eq_nil_of_length_eq_zero hcl
      have hx : xs.length = 6 := hxl
      have get : ∀ i, i < 6 → ∃ y, xs[i]? = some y := fun i hi => ⟨_, List.getElem?_eq_getElem (by omega)⟩
      obtain ⟨y0, e0⟩ := get 0 (by omega)
      obtain ⟨y1, e1⟩ := get 1 (by omega)
      obtain ⟨y2, e2⟩ := get 2 (by omega)
      obtain ⟨y3, e3⟩ := get 3 (by omega)
      obtain ⟨y4, e4⟩ := get 4 (by omega)
      obtain ⟨y5, e5⟩ := get 5 (by omega)
      have t0 : DataW.trod enc Tryz.prog w base spare held n' 9 (([v0, v1, v2, v3, v4, v5].drop 0).take (Tryz.prog.cellsOf 9)) = some y0 := (hf 0 _ rfl).trans e0
      have t1 : DataW.trod enc Tryz.prog w base spare held n' 3 (([v0, v1, v2, v3, v4, v5].drop 1).take (Tryz.prog.cellsOf 3)) = some y1 := (hf 1 _ rfl).trans e1
      have t2 : DataW.trod enc Tryz.prog w base spare held n' 3 (([v0, v1, v2, v3, v4, v5].drop 2).take (Tryz.prog.cellsOf 3)) = some y2 := (hf 2 _ rfl).trans e2
      have t3 : DataW.trod enc Tryz.prog w base spare held n' 3 (([v0, v1, v2, v3, v4, v5].drop 3).take (Tryz.prog.cellsOf 3)) = some y3 := (hf 3 _ rfl).trans e3
      have t4 : DataW.trod enc Tryz.prog w base spare held n' 3 (([v0, v1, v2, v3, v4, v5].drop 4).take (Tryz.prog.cellsOf 3)) = some y4 := (hf 4 _ rfl).trans e4
      have t5 : DataW.trod enc Tryz.prog w base spare held n' 3 (([v0, v1, v2, v3, v4, v5].drop 5).take (Tryz.prog.cellsOf 3)) = some y5 := (hf 5 _ rfl).trans e5
      rw [str_cells] at t0
      obtain ⟨n0, k0, _, z0⟩ := DataW.trod_string Tryz.underlying9 t0
      obtain rfl : v0 = .string n0 := by simpa using k0
      unfold maxLen at z0
      rw [int_cells] at t1
      obtain ⟨n1, k1, _, _⟩ := DataW.trod_int Tryz.underlying3 t1
      obtain rfl : v1 = .int .i64 n1 := by simpa using k1
      rw [int_cells] at t2
      obtain ⟨n2, k2, _, _⟩ := DataW.trod_int Tryz.underlying3 t2
      obtain rfl : v2 = .int .i64 n2 := by simpa using k2
      rw [int_cells] at t3
      obtain ⟨n3, k3, _, _⟩ := DataW.trod_int Tryz.underlying3 t3
      obtain rfl : v3 = .int .i64 n3 := by simpa using k3
      rw [int_cells] at t4
      obtain ⟨n4, k4, _, _⟩ := DataW.trod_int Tryz.underlying3 t4
      obtain rfl : v4 = .int .i64 n4 := by simpa using k4
      rw [int_cells] at t5
      obtain ⟨n5, k5, _, _⟩ := DataW.trod_int Tryz.underlying3 t5
      obtain rfl : v5 = .int .i64 n5 := by simpa using k5
      exact ⟨⟨n0, n1, n2, n3, n4, n5⟩, by show n0.size ≤ _; omega, fun j hj => by rw [hat j hj]; simp [Gly.c]⟩)
    subst hlen
    unfold maxLen at hm
    refine ⟨some a, gs, cap, rfl, ⟨hl, by omega⟩, fun k g hk => ?_⟩
    obtain ⟨hz, hc⟩ := hgs k g hk
    exact ⟨hz, a, rfl, cell_blk (hc 0 (by omega)), hc⟩
set_option maxRecDepth 100000 in
theorem open_strA {fuel : Nat} {v : Value} {x : DataW H × List MemPlace} (h : DataW.trod enc Tryz.prog w base spare held fuel 50 [v] = some x) :
    ∃ (A : Option Addr) (xs : List ByteArray) (cap : Nat), v = .slice A xs.length cap ∧ (xs.length ≤ cap ∧ cap ≤ 9223372036854775807) ∧ StrA w A xs := by
  rcases open_elems Tryz.underlying50 h with rfl | ⟨a, len, cap, n, hf, rfl, hl, hm, hi⟩
  · exact ⟨none, [], 0, rfl, ⟨Nat.le_refl _, by omega⟩, fun i t hi => by simp at hi⟩
  · rw [str_cells] at hi
    obtain ⟨gs, hlen, hgs⟩ := list_of len (p := fun i (g : ByteArray) => g.size ≤ 9223372036854775807 ∧ w.cell? (a.add i) = some (.string g)) (fun i hi' => by
      obtain ⟨cs, hcl, hat, y, hy⟩ := hi i hi'
      obtain ⟨n0, k0, _, z0⟩ := DataW.trod_string Tryz.underlying9 hy
      unfold maxLen at z0
      refine ⟨n0, by omega, ?_⟩
      have h0 := hat 0 (by omega)
      rw [k0] at h0
      simpa using h0)
    subst hlen
    unfold maxLen at hm
    refine ⟨some a, gs, cap, rfl, ⟨hl, by omega⟩, fun k g hk => ?_⟩
    obtain ⟨hz, hc⟩ := hgs k g hk
    exact ⟨hz, a, rfl, cell_blk hc, hc⟩
set_option maxRecDepth 100000 in
theorem open_prtA {fuel : Nat} {v : Value} {x : DataW H × List MemPlace} (h : DataW.trod enc Tryz.prog w base spare held fuel 51 [v] = some x) :
    ∃ (A : Option Addr) (xs : List Prt) (cap : Nat), v = .slice A xs.length cap ∧ (xs.length ≤ cap ∧ cap ≤ 9223372036854775807) ∧ PrtA w A xs := by
  rcases open_elems Tryz.underlying51 h with rfl | ⟨a, len, cap, n, hf, rfl, hl, hm, hi⟩
  · exact ⟨none, [], 0, rfl, ⟨Nat.le_refl _, by omega⟩, fun i t hi => by simp at hi⟩
  · rw [prt_cells] at hi
    obtain ⟨gs, hlen, hgs⟩ := list_of len (p := fun i (g : Prt) => g.nm.size ≤ 9223372036854775807 ∧ w.cell? (a.add (i * 2)) = some (.string g.nm) ∧ w.cell? (a.add (i * 2 + (0 + 1))) = some (.bool g.ext)) (fun i hi' => by
      obtain ⟨cs, hcl, hat, y, hy⟩ := hi i hi'
      obtain ⟨xs, n', _, _, hcl2, hxl, hf⟩ := DataW.trod_struct Tryz.underlying93 hy
      clear hcl2
      obtain ⟨v0, cs, rfl⟩ := List.exists_cons_of_length_eq_add_one hcl
      replace hcl := Nat.succ.inj hcl
      obtain ⟨v1, cs, rfl⟩ := List.exists_cons_of_length_eq_add_one hcl
      replace hcl := Nat.succ.inj hcl
      obtain rfl := List.eq_nil_of_length_eq_zero hcl
      have hx : xs.length = 2 := hxl
      have get : ∀ i, i < 2 → ∃ y, xs[i]? = some y := fun i hi => ⟨_, List.getElem?_eq_getElem (by omega)⟩
      obtain ⟨y0, e0⟩ := get 0 (by omega)
      obtain ⟨y1, e1⟩ := get 1 (by omega)
      have t0 : DataW.trod enc Tryz.prog w base spare held n' 9 (([v0, v1].drop 0).take (Tryz.prog.cellsOf 9)) = some y0 := (hf 0 _ rfl).trans e0
      have t1 : DataW.trod enc Tryz.prog w base spare held n' 4 (([v0, v1].drop 1).take (Tryz.prog.cellsOf 4)) = some y1 := (hf 1 _ rfl).trans e1
      rw [str_cells] at t0
      obtain ⟨n0, k0, _, z0⟩ := DataW.trod_string Tryz.underlying9 t0
      obtain rfl : v0 = .string n0 := by simpa using k0
      unfold maxLen at z0
      rw [bool_cells] at t1
      obtain ⟨n1, k1, _⟩ := DataW.trod_bool Tryz.underlying4 t1
      obtain rfl : v1 = .bool n1 := by simpa using k1
      exact ⟨⟨n0, n1⟩, by show n0.size ≤ _; omega, hat 0 (by omega), hat 1 (by omega)⟩)
    subst hlen
    unfold maxLen at hm
    refine ⟨some a, gs, cap, rfl, ⟨hl, by omega⟩, fun k g hk => ?_⟩
    obtain ⟨hz, hc, hd⟩ := hgs k g hk
    exact ⟨hz, a, rfl, by rw [fadd_blk]; exact cell_blk hc, hc, fadd_cel hd⟩
set_option maxRecDepth 100000 in
theorem open_stcs {fuel : Nat} {v : Value} {x : DataW H × List MemPlace} (h : DataW.trod enc Tryz.prog w base spare held fuel 23 [v] = some x) :
    ∃ (A : Option Addr) (ss : List Stc) (cap : Nat), v = .slice A ss.length cap ∧ (ss.length ≤ cap ∧ cap ≤ 9223372036854775807) ∧ StcsAt w A ss := by
  rcases open_elems Tryz.underlying23 h with rfl | ⟨a, len, cap, n, hf, rfl, hl, hm, hi⟩
  · exact ⟨none, [], 0, rfl, ⟨Nat.le_refl _, by omega⟩, fun i t hi => by simp at hi⟩
  · rw [stc_cells] at hi
    obtain ⟨gs, hlen, hgs⟩ := list_of len (p := fun i (s : Stc) => ∃ A1 c1 A2 c2, StcIn w s A1 c1 A2 c2 ∧ ∀ j, j < 4 → w.cell? (a.add (i * 4 + j)) = (s.c A1 c1 A2 c2)[j]?) (fun i hi' => by
      obtain ⟨cs, hcl, hat, y, hy⟩ := hi i hi'
      obtain ⟨xs, n', _, _, hcl2, hxl, hf⟩ := DataW.trod_struct Tryz.underlying53 hy
      clear hcl2
      obtain ⟨v0, cs, rfl⟩ := List.exists_cons_of_length_eq_add_one hcl
      replace hcl := Nat.succ.inj hcl
      obtain ⟨v1, cs, rfl⟩ := List.exists_cons_of_length_eq_add_one hcl
      replace hcl := Nat.succ.inj hcl
      obtain ⟨v2, cs, rfl⟩ := List.exists_cons_of_length_eq_add_one hcl
      replace hcl := Nat.succ.inj hcl
      obtain ⟨v3, cs, rfl⟩ := List.exists_cons_of_length_eq_add_one hcl
      replace hcl := Nat.succ.inj hcl
      obtain rfl := List.eq_nil_of_length_eq_zero hcl
      have hx : xs.length = 4 := hxl
      have get : ∀ i, i < 4 → ∃ y, xs[i]? = some y := fun i hi => ⟨_, List.getElem?_eq_getElem (by omega)⟩
      obtain ⟨y0, e0⟩ := get 0 (by omega)
      obtain ⟨y1, e1⟩ := get 1 (by omega)
      obtain ⟨y2, e2⟩ := get 2 (by omega)
      obtain ⟨y3, e3⟩ := get 3 (by omega)
      have t0 : DataW.trod enc Tryz.prog w base spare held n' 9 (([v0, v1, v2, v3].drop 0).take (Tryz.prog.cellsOf 9)) = some y0 := (hf 0 _ rfl).trans e0
      have t1 : DataW.trod enc Tryz.prog w base spare held n' 50 (([v0, v1, v2, v3].drop 1).take (Tryz.prog.cellsOf 50)) = some y1 := (hf 1 _ rfl).trans e1
      have t2 : DataW.trod enc Tryz.prog w base spare held n' 51 (([v0, v1, v2, v3].drop 2).take (Tryz.prog.cellsOf 51)) = some y2 := (hf 2 _ rfl).trans e2
      have t3 : DataW.trod enc Tryz.prog w base spare held n' 3 (([v0, v1, v2, v3].drop 3).take (Tryz.prog.cellsOf 3)) = some y3 := (hf 3 _ rfl).trans e3
      rw [str_cells] at t0
      obtain ⟨n0, k0, _, z0⟩ := DataW.trod_string Tryz.underlying9 t0
      obtain rfl : v0 = .string n0 := by simpa using k0
      unfold maxLen at z0
      rw [int_cells] at t3
      obtain ⟨n3, k3, _, _⟩ := DataW.trod_int Tryz.underlying3 t3
      obtain rfl : v3 = .int .i64 n3 := by simpa using k3
      rw [strs_cells] at t1
      rw [prts_cells] at t2
      obtain ⟨A1, ys, c1, rfl, hy1, hy2⟩ := open_strA (show DataW.trod enc Tryz.prog w base spare held n' 50 [v1] = some y1 from t1)
      obtain ⟨A2, ps, c2, rfl, hp1, hp2⟩ := open_prtA (show DataW.trod enc Tryz.prog w base spare held n' 51 [v2] = some y2 from t2)
      exact ⟨⟨n0, ys, ps, n3⟩, A1, c1, A2, c2, ⟨by show n0.size ≤ _; omega, hy1, hp1, hy2, hp2⟩, fun j hj => by rw [hat j hj]; simp [Stc.c]⟩)
    subst hlen
    unfold maxLen at hm
    refine ⟨some a, gs, cap, rfl, ⟨hl, by omega⟩, fun k g hk => ?_⟩
    obtain ⟨A1, c1, A2, c2, hz, hc⟩ := hgs k g hk
    exact ⟨a, rfl, cell_blk (hc 0 (by omega)), A1, c1, A2, c2, hz, hc⟩
end
section
variable {H : Type} {enc : TypeId × Value → H} {W : World} {r : Reach} {b0 base : Nat} {sp : Nat → Bool} {held : Bool} {v : Value} {d : DataW H} {p : List MemPlace}
set_option maxRecDepth 100000 in
theorem arg_font (hv : Value.okWide Tryz.prog W r b0 27 v) (h : DataW.Trod enc Tryz.prog W base sp held 27 v d p) :
    ∃ (A1 : Option Addr) (gs : List Gly) (c1 : Nat) (A2 : Option Addr) (ss : List Stc) (c2 : Nat) (q : Nat → Int), v = .agg (fontC A1 gs.length c1 A2 ss.length c2 q) ∧ FontAt A1 c1 A2 c2 gs ss W := by
  obtain ⟨cs, rfl, _⟩ := okWide_struct Tryz.underlying27 hv
  obtain ⟨fuel, hf⟩ := h
  replace hf : DataW.trod enc Tryz.prog W base sp held fuel 27 cs.toList = some (d, p) := by simpa [Value.cells] using hf
  obtain ⟨cs⟩ := cs
  obtain ⟨xs, n, _, _, hcl, hxl, hf⟩ := DataW.trod_struct Tryz.underlying27 hf
  rw [fnt_cells] at hcl
  dsimp only at hcl hf
  obtain ⟨v0, cs, rfl⟩ := List.exists_cons_of_length_eq_add_one hcl
  replace hcl := Nat.succ.inj hcl
  obtain ⟨v1, cs, rfl⟩ := List.exists_cons_of_length_eq_add_one hcl
  replace hcl := Nat.succ.inj hcl
  have hx : xs.length = 3 := hxl
  have get : ∀ i, i < 3 → ∃ y, xs[i]? = some y := fun i hi => ⟨_, List.getElem?_eq_getElem (by omega)⟩
  obtain ⟨y0, e0⟩ := get 0 (by omega)
  obtain ⟨y1, e1⟩ := get 1 (by omega)
  obtain ⟨y2, e2⟩ := get 2 (by omega)
  have t0 : DataW.trod enc Tryz.prog W base sp held n 22 (((v0 :: v1 :: cs).drop 0).take (Tryz.prog.cellsOf 22)) = some y0 := (hf 0 _ rfl).trans e0
  have t1 : DataW.trod enc Tryz.prog W base sp held n 23 (((v0 :: v1 :: cs).drop 1).take (Tryz.prog.cellsOf 23)) = some y1 := (hf 1 _ rfl).trans e1
  have t2 : DataW.trod enc Tryz.prog W base sp held n 25 (((v0 :: v1 :: cs).drop 2).take (Tryz.prog.cellsOf 25)) = some y2 := (hf 2 _ rfl).trans e2
  rw [glys_cells] at t0
  rw [stcs_cells] at t1
  rw [prm_cells, List.take_of_length_le (by show cs.length ≤ 20; omega)] at t2
  obtain ⟨A1, gs, c1, rfl, hg1, hg2⟩ := open_glys (show DataW.trod enc Tryz.prog W base sp held n 22 [v0] = some y0 from t0)
  obtain ⟨A2, ss, c2, rfl, hs1, hs2⟩ := open_stcs (show DataW.trod enc Tryz.prog W base sp held n 23 [v1] = some y1 from t1)
  obtain ⟨q, hq⟩ := open_prm (show DataW.trod enc Tryz.prog W base sp held n 25 cs = some y2 from t2)
  subst hq
  exact ⟨A1, gs, c1, A2, ss, c2, q, rfl, hg1, hs1, hg2, hs2⟩
set_option maxRecDepth 100000 in
theorem arg_style (hv : Value.okWide Tryz.prog W r b0 33 v) (h : DataW.Trod enc Tryz.prog W base sp held 33 v d p) : ∃ (n : Int) (b : Bool), v = .agg #[.int .i64 n, .bool b] := by
  obtain ⟨cs, rfl, _⟩ := okWide_struct Tryz.underlying33 hv
  obtain ⟨fuel, hf⟩ := h
  replace hf : DataW.trod enc Tryz.prog W base sp held fuel 33 cs.toList = some (d, p) := by simpa [Value.cells] using hf
  obtain ⟨cs⟩ := cs
  obtain ⟨xs, n, _, _, hcl, hxl, hf⟩ := DataW.trod_struct Tryz.underlying33 hf
  rw [sty_cells] at hcl
  dsimp only at hcl hf
  obtain ⟨v0, cs, rfl⟩ := List.exists_cons_of_length_eq_add_one hcl
  replace hcl := Nat.succ.inj hcl
  obtain ⟨v1, cs, rfl⟩ := List.exists_cons_of_length_eq_add_one hcl
  replace hcl := Nat.succ.inj hcl
  obtain rfl := List.eq_nil_of_length_eq_zero hcl
  have hx : xs.length = 2 := hxl
  have get : ∀ i, i < 2 → ∃ y, xs[i]? = some y := fun i hi => ⟨_, List.getElem?_eq_getElem (by omega)⟩
  obtain ⟨y0, e0⟩ := get 0 (by omega)
  obtain ⟨y1, e1⟩ := get 1 (by omega)
  have t0 : DataW.trod enc Tryz.prog W base sp held n 3 (([v0, v1].drop 0).take (Tryz.prog.cellsOf 3)) = some y0 := (hf 0 _ rfl).trans e0
  have t1 : DataW.trod enc Tryz.prog W base sp held n 4 (([v0, v1].drop 1).take (Tryz.prog.cellsOf 4)) = some y1 := (hf 1 _ rfl).trans e1
  rw [int_cells] at t0
  obtain ⟨n0, k0, _, _⟩ := DataW.trod_int Tryz.underlying3 t0
  obtain rfl : v0 = .int .i64 n0 := by simpa using k0
  rw [bool_cells] at t1
  obtain ⟨n1, k1, _⟩ := DataW.trod_bool Tryz.underlying4 t1
  obtain rfl : v1 = .bool n1 := by simpa using k1
  exact ⟨n0, n1, rfl⟩
end
end
section
open Go.ChangeShapes Go.WideShapes Go.ChangeAt Go.WideMaps Go.WideElems Go.RowKit Go.Deep
theorem line_cells : Tryz.prog.cellsOf 31 = 2 := by kernel_rfl
theorem ents_cells : Tryz.prog.cellsOf 28 = 1 := by kernel_rfl
set_option maxRecDepth 100000 in
theorem arg_line {H : Type} {enc : TypeId × Value → H} {W : World} {r : Reach} {b0 base : Nat} {sp : Nat → Bool} {held : Bool} {v : Value} {d : DataW H} {p : List MemPlace}
    (hv : Value.okWide Tryz.prog W r b0 31 v) (h : DataW.Trod enc Tryz.prog W base sp held 31 v d p) :
    ∃ (A A2 : Option Addr) (cap cap2 : Nat) (es : List Ent) (ts : List Tre), v = .agg #[.slice A es.length cap, .slice A2 ts.length cap2] ∧ EntsAt W A es ∧ KidsAt W A2 ts ∧ ts.length ≤ cap2 ∧ cap2 ≤ 9223372036854775807 := by
  obtain ⟨cs, rfl, hsz⟩ := okWide_struct Tryz.underlying31 hv
  obtain ⟨fuel, hf⟩ := h
  obtain ⟨xs, n, rfl, _, hcl, hxl, hf⟩ := DataW.trod_struct Tryz.underlying31 hf
  rw [line_cells] at hcl
  obtain ⟨l⟩ := cs
  match l, hcl with
  | [v0, v1], _ =>
    have hx : xs.length = 2 := hxl
    have get : ∀ i, i < 2 → ∃ y, xs[i]? = some y := fun i hi => ⟨_, List.getElem?_eq_getElem (by omega)⟩
    obtain ⟨y0, e0⟩ := get 0 (by omega)
    obtain ⟨y1, e1⟩ := get 1 (by omega)
    have t0 : DataW.trod enc Tryz.prog W base sp held n 28 (([v0, v1].drop 0).take (Tryz.prog.cellsOf 28)) = some y0 := (hf 0 _ rfl).trans e0
    have t1 : DataW.trod enc Tryz.prog W base sp held n 29 (([v0, v1].drop 1).take (Tryz.prog.cellsOf 29)) = some y1 := (hf 1 _ rfl).trans e1
    rw [ents_cells] at t0
    rw [nodes_cells] at t1
    obtain ⟨A, es, cap, rfl, _, _, hE⟩ := open_ents (v := v0) (x := y0) t0
    obtain ⟨A2, ts, cap2, rfl, hl, hm, hK⟩ := open_kids (fun n' _ cs x hx => open_node n' cs x hx) (v := v1) (x := y1) t1
    exact ⟨A, A2, cap, cap2, es, ts, rfl, hE, hK, hl, hm⟩
  | [], h => simp [Value.cells] at h
  | [_], h => simp [Value.cells] at h
  | _ :: _ :: _ :: _, h => simp [Value.cells] at h
end
end Go.Proofs.YtgoafobhhmeppaaGreat
