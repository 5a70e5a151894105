/- Two dimensions are compared exponent by exponent: a law for arrays, and for dimensions. -/
import Derived.Test.YtlfapncbkgpclaaDoorU1
import Derived.Laws.StructEq
namespace Go.Proofs.YtlfapncbkgpclaaDoor
open Go.RowKit
/-- elements of two arrays, one after the other -/
def eqAt (d : Nat) (e : TypeId) (n : Nat) (xs ys : Array Value) : List Nat → Sem Bool
  | [] => pure true
  | i :: r => do
    if !(← Op.equalIn d e (← part e xs (i * n)) (← part e ys (i * n))) then pure false else eqAt d e n xs ys r
theorem run_equalIn_array {P : Program} (w : World) (d : Nat) (t e : TypeId) (len n : Nat) (xs ys : Array Value) (ht : P.underlying t = some (.array len e)) (hn : ∀ w : World, (sizeOf e).run P w = .ok n w) :
    (Op.equalIn (d + 1) t (.agg xs) (.agg ys)).run P w = (eqAt d e n xs ys (List.range' 0 len)).run P w := by
  simp only [Op.equalIn, Sem.run_bind, run_underlying ht, Result.andThen_ok, hn, Std.Legacy.Range.forIn_eq_forIn_range', Std.Legacy.Range.size, Nat.sub_zero, Nat.add_sub_cancel, Nat.div_one]
  generalize List.range' 0 len = is
  clear ht
  induction is generalizing w with
  | nil => simp [eqAt]
  | cons i is ih =>
    simp only [List.forIn_cons, eqAt, Sem.run_bind]
    generalize (part e xs (i * n)).run P w = r1
    cases r1 with
    | ok a w1 =>
      simp only [Result.andThen_ok]
      generalize (part e ys (i * n)).run P w1 = r2
      cases r2 with
      | ok b w2 =>
        simp only [Result.andThen_ok]
        generalize (Op.equalIn d e a b).run P w2 = r3
        cases r3 with
        | ok r w3 =>
          cases r
          · simp only [Result.andThen_ok, Bool.not_false, if_true, Sem.run_pure]
          · simp only [Result.andThen_ok, Bool.not_true, Bool.false_eq_true, if_false, Sem.run_pure]
            exact ih w3
        | halt x w3 => simp [Result.andThen]
      | halt x w2 => simp [Result.andThen]
    | halt x w1 => simp [Result.andThen]
theorem run_eqAt_ints {P : Program} (d : Nat) (e : TypeId) (n : Nat) (xs ys : Array Value) (k : IntKind) (X Y : Nat → Int) (he : P.underlying e = some (.int k)) (is : List Nat)
    (hx : ∀ i ∈ is, ∀ w : World, (part e xs (i * n)).run P w = .ok (.int k (X i)) w) (hy : ∀ i ∈ is, ∀ w : World, (part e ys (i * n)).run P w = .ok (.int k (Y i)) w) (w : World) :
    (eqAt (d + 1) e n xs ys is).run P w = .ok (is.all fun i => X i == Y i) w := by
  induction is with
  | nil => simp [eqAt]
  | cons i is ih =>
    simp only [eqAt, Sem.run_bind, hx i List.mem_cons_self, hy i List.mem_cons_self, Result.andThen_ok, run_equalIn_int (P := P) w d e k k (X i) (Y i) he]
    cases hxy : X i == Y i
    · simp [hxy]
    · simp only [Bool.not_true, Bool.false_eq_true, if_false, List.all_cons, hxy, Bool.true_and]
      exact ih (fun j hj => hx j (List.mem_cons_of_mem _ hj)) (fun j hj => hy j (List.mem_cons_of_mem _ hj))
theorem part_dim0 (x : D7) (w : World) : (part 3 x.c (0 * 1)).run Tryd.prog w = .ok (.int .i64 x.a0) w := by kernel_rfl
theorem part_dim1 (x : D7) (w : World) : (part 3 x.c (1 * 1)).run Tryd.prog w = .ok (.int .i64 x.a1) w := by kernel_rfl
theorem part_dim2 (x : D7) (w : World) : (part 3 x.c (2 * 1)).run Tryd.prog w = .ok (.int .i64 x.a2) w := by kernel_rfl
theorem part_dim3 (x : D7) (w : World) : (part 3 x.c (3 * 1)).run Tryd.prog w = .ok (.int .i64 x.a3) w := by kernel_rfl
theorem part_dim4 (x : D7) (w : World) : (part 3 x.c (4 * 1)).run Tryd.prog w = .ok (.int .i64 x.a4) w := by kernel_rfl
theorem part_dim5 (x : D7) (w : World) : (part 3 x.c (5 * 1)).run Tryd.prog w = .ok (.int .i64 x.a5) w := by kernel_rfl
theorem part_dim6 (x : D7) (w : World) : (part 3 x.c (6 * 1)).run Tryd.prog w = .ok (.int .i64 x.a6) w := by kernel_rfl
theorem part_dim (x : D7) (i : Nat) (hi : i ∈ List.range' 0 7) (w : World) : (part 3 x.c (i * 1)).run Tryd.prog w = .ok (.int .i64 (x.at i)) w := by
  have h7 : i < 7 := by have := List.mem_range'.1 hi; omega
  match i, h7 with
  | 0, _ => exact part_dim0 x w
  | 1, _ => exact part_dim1 x w
  | 2, _ => exact part_dim2 x w
  | 3, _ => exact part_dim3 x w
  | 4, _ => exact part_dim4 x w
  | 5, _ => exact part_dim5 x w
  | 6, _ => exact part_dim6 x w
def D7.beq (x y : D7) : Bool := (List.range' 0 7).all fun i => x.at i == y.at i
theorem D7.ext' {x y : D7} (h0 : x.a0 = y.a0) (h1 : x.a1 = y.a1) (h2 : x.a2 = y.a2) (h3 : x.a3 = y.a3) (h4 : x.a4 = y.a4) (h5 : x.a5 = y.a5) (h6 : x.a6 = y.a6) : x = y := by
  cases x; cases y; simp_all
theorem beq_iff (x y : D7) : D7.beq x y = true ↔ x = y := by
  constructor
  · intro h
    have h' := List.all_eq_true.1 h
    have g : ∀ i, i < 7 → x.at i = y.at i := fun i hi => by simpa using h' i (List.mem_range'.2 ⟨i, hi, by omega⟩)
    exact D7.ext' (g 0 (by omega)) (g 1 (by omega)) (g 2 (by omega)) (g 3 (by omega)) (g 4 (by omega)) (g 5 (by omega)) (g 6 (by omega))
  · rintro rfl
    simp [D7.beq]
theorem beq_self (x : D7) : D7.beq x x = true := (beq_iff x x).2 rfl
theorem eq_dim0 (d : Nat) (x y : D7) (w : World) : (Op.equalIn (d + 2) 23 x.v y.v).run Tryd.prog w = .ok (D7.beq x y) w := by
  rw [run_equalIn_array w (d + 1) 23 3 7 1 _ _ Tryd.underlying23 (fun w => by kernel_rfl)]
  exact run_eqAt_ints d 3 1 _ _ .i64 x.at y.at Tryd.underlying3 _ (part_dim x) (part_dim y) w
/-- two dimensions compared, as the walk meets it -/
theorem eq_dim (x0 x1 x2 x3 x4 x5 x6 y0 y1 y2 y3 y4 y5 y6 : Int) (w : World) : (Op.equalIn 10000 23 (.agg #[.int .i64 x0, .int .i64 x1, .int .i64 x2, .int .i64 x3, .int .i64 x4, .int .i64 x5, .int .i64 x6]) (.agg #[.int .i64 y0, .int .i64 y1, .int .i64 y2, .int .i64 y3, .int .i64 y4, .int .i64 y5, .int .i64 y6])).run Tryd.prog w = .ok (D7.beq ⟨x0, x1, x2, x3, x4, x5, x6⟩ ⟨y0, y1, y2, y3, y4, y5, y6⟩) w :=
  eq_dim0 9998 ⟨x0, x1, x2, x3, x4, x5, x6⟩ ⟨y0, y1, y2, y3, y4, y5, y6⟩ w
end Go.Proofs.YtlfapncbkgpclaaDoor
