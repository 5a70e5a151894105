/- Seven rational numbers, values with dimensions: what they hold, and plain functions on them. -/
import Derived.Test.YtlfapncbkgpclaaDoorQ6
namespace Go.Proofs.YtlfapncbkgpclaaDoor
open Go.RowKit
structure F7 where
  n0 : Int
  d0 : Int
  n1 : Int
  d1 : Int
  n2 : Int
  d2 : Int
  n3 : Int
  d3 : Int
  n4 : Int
  d4 : Int
  n5 : Int
  d5 : Int
  n6 : Int
  d6 : Int
abbrev F7.c (f : F7) : Array Value := #[.int .i64 f.n0, .int .i64 f.d0, .int .i64 f.n1, .int .i64 f.d1, .int .i64 f.n2, .int .i64 f.d2, .int .i64 f.n3, .int .i64 f.d3, .int .i64 f.n4, .int .i64 f.d4, .int .i64 f.n5, .int .i64 f.d5, .int .i64 f.n6, .int .i64 f.d6]
abbrev F7.v (f : F7) : Value := .agg f.c
def F7.n (f : F7) : Nat → Int
  | 0 => f.n0 | 1 => f.n1 | 2 => f.n2 | 3 => f.n3 | 4 => f.n4 | 5 => f.n5 | 6 => f.n6 | _ => 0
def F7.d (f : F7) : Nat → Int
  | 0 => f.d0 | 1 => f.d1 | 2 => f.d2 | 3 => f.d3 | 4 => f.d4 | 5 => f.d5 | 6 => f.d6 | _ => 0
theorem index_f52_0 (f : F7) (w : World) : (Instr.index 52 f.v (.int .i64 0)).run Tryd.prog w = .ok (ratV f.n0 f.d0) w := by kernel_rfl
theorem index_f52_1 (f : F7) (w : World) : (Instr.index 52 f.v (.int .i64 1)).run Tryd.prog w = .ok (ratV f.n1 f.d1) w := by kernel_rfl
theorem index_f52_2 (f : F7) (w : World) : (Instr.index 52 f.v (.int .i64 2)).run Tryd.prog w = .ok (ratV f.n2 f.d2) w := by kernel_rfl
theorem index_f52_3 (f : F7) (w : World) : (Instr.index 52 f.v (.int .i64 3)).run Tryd.prog w = .ok (ratV f.n3 f.d3) w := by kernel_rfl
theorem index_f52_4 (f : F7) (w : World) : (Instr.index 52 f.v (.int .i64 4)).run Tryd.prog w = .ok (ratV f.n4 f.d4) w := by kernel_rfl
theorem index_f52_5 (f : F7) (w : World) : (Instr.index 52 f.v (.int .i64 5)).run Tryd.prog w = .ok (ratV f.n5 f.d5) w := by kernel_rfl
theorem index_f52_6 (f : F7) (w : World) : (Instr.index 52 f.v (.int .i64 6)).run Tryd.prog w = .ok (ratV f.n6 f.d6) w := by kernel_rfl
theorem index_f52 (f : F7) (k : Nat) (hk : k < 7) (w : World) : (Instr.index 52 f.v (.int .i64 k)).run Tryd.prog w = .ok (ratV (f.n k) (f.d k)) w := by
  match k, hk with
  | 0, _ => exact index_f52_0 f w
  | 1, _ => exact index_f52_1 f w
  | 2, _ => exact index_f52_2 f w
  | 3, _ => exact index_f52_3 f w
  | 4, _ => exact index_f52_4 f w
  | 5, _ => exact index_f52_5 f w
  | 6, _ => exact index_f52_6 f w
theorem index_f54_0 (f : F7) (w : World) : (Instr.index 54 f.v (.int .i64 0)).run Tryd.prog w = .ok (ratV f.n0 f.d0) w := by kernel_rfl
theorem index_f54_1 (f : F7) (w : World) : (Instr.index 54 f.v (.int .i64 1)).run Tryd.prog w = .ok (ratV f.n1 f.d1) w := by kernel_rfl
theorem index_f54_2 (f : F7) (w : World) : (Instr.index 54 f.v (.int .i64 2)).run Tryd.prog w = .ok (ratV f.n2 f.d2) w := by kernel_rfl
theorem index_f54_3 (f : F7) (w : World) : (Instr.index 54 f.v (.int .i64 3)).run Tryd.prog w = .ok (ratV f.n3 f.d3) w := by kernel_rfl
theorem index_f54_4 (f : F7) (w : World) : (Instr.index 54 f.v (.int .i64 4)).run Tryd.prog w = .ok (ratV f.n4 f.d4) w := by kernel_rfl
theorem index_f54_5 (f : F7) (w : World) : (Instr.index 54 f.v (.int .i64 5)).run Tryd.prog w = .ok (ratV f.n5 f.d5) w := by kernel_rfl
theorem index_f54_6 (f : F7) (w : World) : (Instr.index 54 f.v (.int .i64 6)).run Tryd.prog w = .ok (ratV f.n6 f.d6) w := by kernel_rfl
theorem index_f54 (f : F7) (k : Nat) (hk : k < 7) (w : World) : (Instr.index 54 f.v (.int .i64 k)).run Tryd.prog w = .ok (ratV (f.n k) (f.d k)) w := by
  match k, hk with
  | 0, _ => exact index_f54_0 f w
  | 1, _ => exact index_f54_1 f w
  | 2, _ => exact index_f54_2 f w
  | 3, _ => exact index_f54_3 f w
  | 4, _ => exact index_f54_4 f w
  | 5, _ => exact index_f54_5 f w
  | 6, _ => exact index_f54_6 f w
theorem cell_fn (f : F7) (k : Nat) (hk : k < 7) : f.c[k * 2]? = some (.int .i64 (f.n k)) := by
  match k, hk with
  | 0, _ => rfl
  | 1, _ => rfl
  | 2, _ => rfl
  | 3, _ => rfl
  | 4, _ => rfl
  | 5, _ => rfl
  | 6, _ => rfl
theorem cell_fd (f : F7) (k : Nat) (hk : k < 7) : f.c[k * 2 + 1]? = some (.int .i64 (f.d k)) := by
  match k, hk with
  | 0, _ => rfl
  | 1, _ => rfl
  | 2, _ => rfl
  | 3, _ => rfl
  | 4, _ => rfl
  | 5, _ => rfl
  | 6, _ => rfl

/-- a value: a number and a dimension -/
structure V9 where
  n : Int
  d : Int
  m : D7
abbrev V9.c (x : V9) : Array Value := #[.int .i64 x.n, .int .i64 x.d, .int .i64 x.m.a0, .int .i64 x.m.a1, .int .i64 x.m.a2, .int .i64 x.m.a3, .int .i64 x.m.a4, .int .i64 x.m.a5, .int .i64 x.m.a6]
abbrev V9.v (x : V9) : Value := .agg x.c
abbrev V9.zero : V9 := ⟨0, 0, D7.zero⟩
theorem cell_v9 (x : V9) (k : Nat) (hk : k < 7) : x.c[2 + k]? = some (.int .i64 (x.m.at k)) := by
  match k, hk with
  | 0, _ => rfl
  | 1, _ => rfl
  | 2, _ => rfl
  | 3, _ => rfl
  | 4, _ => rfl
  | 5, _ => rfl
  | 6, _ => rfl
def V9.ok (x : V9) : Bool := valQ x.n x.d && x.m.ok
def posB (n d : Int) : Bool := valQ n d && decide (0 < n)
def F7.pos (f : F7) : Bool := (List.range 7).all fun i => posB (f.n i) (f.d i)
theorem pos_iff (f : F7) : f.pos = true ↔ ∀ i, i < 7 → posB (f.n i) (f.d i) = true := by
  unfold F7.pos
  rw [List.all_eq_true]
  exact ⟨fun h i hi => h i (List.mem_range.2 hi), fun h i hi => h i (List.mem_range.1 hi)⟩
theorem not_pos (f : F7) (k : Nat) (hk : k < 7) (h : posB (f.n k) (f.d k) = false) : f.pos = false := by
  rw [Bool.eq_false_iff]
  intro hp
  rw [(pos_iff f).1 hp k hk] at h
  cases h
/-- the numbers of a positive fraction, as natural ones -/
theorem pos_nat {n d : Int} (h : posB n d = true) : ∃ a b : Nat, n = a ∧ d = b ∧ Nat.gcd a b = 1 ∧ 1 ≤ a ∧ 1 ≤ b ∧ a ≤ 2147483647 ∧ b ≤ 2147483647 := by
  unfold posB valQ inB at h
  simp only [Bool.and_eq_true, decide_eq_true_eq, beq_iff_eq] at h
  obtain ⟨⟨h1, h2⟩, h3⟩ := h
  refine ⟨n.natAbs, d.natAbs, by omega, by omega, h2, by omega, by omega, by omega, by omega⟩
/-- one more factor -/
def stepP (f : F7) (m : D7) (k : Nat) (p : Int × Int) : Option (Int × Int) :=
  if (powQ (f.n k).natAbs (f.d k).natAbs (m.at k)).2.2 = 0 then
    (if (mulQ p.1 p.2 (powQ (f.n k).natAbs (f.d k).natAbs (m.at k)).1 (powQ (f.n k).natAbs (f.d k).natAbs (m.at k)).2.1).2.2 = 0 then
      some ((mulQ p.1 p.2 (powQ (f.n k).natAbs (f.d k).natAbs (m.at k)).1 (powQ (f.n k).natAbs (f.d k).natAbs (m.at k)).2.1).1, (mulQ p.1 p.2 (powQ (f.n k).natAbs (f.d k).natAbs (m.at k)).1 (powQ (f.n k).natAbs (f.d k).natAbs (m.at k)).2.1).2.1)
     else none)
  else none
/-- the product of the first k factors -/
def foldP (f : F7) (m : D7) : Nat → Option (Int × Int)
  | 0 => some (1, 1)
  | k + 1 => (foldP f m k).bind (stepP f m k)
theorem fold_none {f : F7} {m : D7} {k j : Nat} (h : foldP f m k = none) (hkj : k ≤ j) : foldP f m j = none := by
  induction j with
  | zero => obtain rfl : k = 0 := by omega
            exact h
  | succ j ih =>
    by_cases e : k = j + 1
    · rw [← e]; exact h
    · simp [foldP, ih (by omega)]
def v2V (x : V9) (e : Int) : Value := .tuple #[x.v, .int .i64 e]
/-- what Rescale returns -/
def rescV (x : V9) (f : F7) : Value :=
  if x.ok then
    match foldP f x.m 7 with
    | none => v2V V9.zero 2
    | some p => if (divQ x.n x.d p.1 p.2).2.2 = 0 then v2V ⟨(divQ x.n x.d p.1 p.2).1, (divQ x.n x.d p.1 p.2).2.1, x.m⟩ 0 else v2V V9.zero 2
  else v2V V9.zero 1
end Go.Proofs.YtlfapncbkgpclaaDoor
