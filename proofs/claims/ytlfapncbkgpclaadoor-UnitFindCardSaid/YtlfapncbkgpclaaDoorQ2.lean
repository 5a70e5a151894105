/- Quotients of integers in lowest terms: both Make functions, products and quotients of rational numbers; for all numbers. -/
import Derived.Test.YtlfapncbkgpclaaDoorQ1
namespace Go.Proofs.YtlfapncbkgpclaaDoor
open Go.RowKit
def q3V (r : Int × Int × Int) : Value := .tuple #[ratV r.1 r.2.1, .int .i64 r.2.2]
/-- a quotient in lowest terms, or 2 -/
def redQ (neg : Bool) (a b : Nat) : Int × Int × Int :=
  if 2147483647 < a / Nat.gcd a b ∨ 2147483647 < b / Nat.gcd a b then (0, 0, 2) else (if neg then -((a / Nat.gcd a b : Nat) : Int) else ((a / Nat.gcd a b : Nat) : Int), ((b / Nat.gcd a b : Nat) : Int), 0)
def makeQ (n d : Int) : Int × Int × Int := if d = 0 then (0, 0, 10) else redQ (!(decide (n < 0) == decide (d < 0))) n.natAbs d.natAbs
abbrev zrat : Array Value := #[.int .i64 0, .int .i64 0]

set_option maxHeartbeats 800000 in
theorem red_true (a b : Nat) (w : World) (ha : a ≤ 18446744073709551615) (hb : b ≤ 18446744073709551615) (hb0 : 0 < b) : Calls Tryd.prog 79 #[.bool true, .int .u64 a, .int .u64 b] w fun e w' => e = .returned (q3V (redQ true a b)) ∧ Below w.heap.size w w' := by
  have HG := Lib.hid (Nat.gcd_pos_of_pos_right a hb0)
  have HA := Lib.hid (Nat.div_le_self a (Nat.gcd a b))
  have HB := Lib.hid (Nat.div_le_self b (Nat.gcd a b))
  have HF := Lib.hid (show redQ true a b = if 2147483647 < a / Nat.gcd a b ∨ 2147483647 < b / Nat.gcd a b then (0, 0, 2) else (if true then -((a / Nat.gcd a b : Nat) : Int) else ((a / Nat.gcd a b : Nat) : Int), ((b / Nat.gcd a b : Nat) : Int), 0) from rfl)
  go_enter Tryd.func79, Tryd.ntmps79
  go_wp2_with fail
  refine (gcd_any a b _ (by omega) (by omega)).mono ?_
  rintro e w' ⟨rfl, k, rfl⟩
  generalize Nat.gcd a b = g at HG HA HB HF
  have hg := HG.out
  have hA := HA.out
  have hB := HB.out
  generalize hx : a / g = x at hA HF
  generalize hy : b / g = y at hB HF
  have h1 : (0 : Int) < g := by omega
  have hx' : (a : Int) / (g : Int) = (x : Int) := by rw [← hx]; rfl
  have hy' : (b : Int) / (g : Int) = (y : Int) := by rw [← hy]; rfl
  clear hx hy HA HB HG
  go_wp2_with fail
  go_region
  all_goals clear hx' hy'
  by_cases h2 : 2147483647 < x
  · have HR := Lib.hid (HF.out.trans (if_pos (Or.inl h2)))
    clear HF
    go_wp2_with fail
    go_returns
    exact ⟨by rw [HR.out]; rfl, by repeat' (first | (with_reducible exact Below.refl _ _) | (with_reducible refine Below.alloc ?_ ?_ _) | (with_reducible refine Below.setCell ?_ ?_ _) | (with_reducible refine below_drewN ?_ _) | (with_reducible refine Below.drew ?_) | go_size)⟩
  · by_cases h3 : 2147483647 < y
    · have HR := Lib.hid (HF.out.trans (if_pos (Or.inr h3)))
      clear HF
      go_wp2_with fail
      go_returns
      exact ⟨by rw [HR.out]; rfl, by repeat' (first | (with_reducible exact Below.refl _ _) | (with_reducible refine Below.alloc ?_ ?_ _) | (with_reducible refine Below.setCell ?_ ?_ _) | (with_reducible refine below_drewN ?_ _) | (with_reducible refine Below.drew ?_) | go_size)⟩
    · have HR := Lib.hid (HF.out.trans (if_neg (fun h => h.elim h2 h3)))
      clear HF
      go_wp2_with fail
      go_returns
      exact ⟨by rw [HR.out]; rfl, by repeat' (first | (with_reducible exact Below.refl _ _) | (with_reducible refine Below.alloc ?_ ?_ _) | (with_reducible refine Below.setCell ?_ ?_ _) | (with_reducible refine below_drewN ?_ _) | (with_reducible refine Below.drew ?_) | go_size)⟩

set_option maxHeartbeats 800000 in
theorem red_false (a b : Nat) (w : World) (ha : a ≤ 18446744073709551615) (hb : b ≤ 18446744073709551615) (hb0 : 0 < b) : Calls Tryd.prog 79 #[.bool false, .int .u64 a, .int .u64 b] w fun e w' => e = .returned (q3V (redQ false a b)) ∧ Below w.heap.size w w' := by
  have HG := Lib.hid (Nat.gcd_pos_of_pos_right a hb0)
  have HA := Lib.hid (Nat.div_le_self a (Nat.gcd a b))
  have HB := Lib.hid (Nat.div_le_self b (Nat.gcd a b))
  have HF := Lib.hid (show redQ false a b = if 2147483647 < a / Nat.gcd a b ∨ 2147483647 < b / Nat.gcd a b then (0, 0, 2) else (if false then -((a / Nat.gcd a b : Nat) : Int) else ((a / Nat.gcd a b : Nat) : Int), ((b / Nat.gcd a b : Nat) : Int), 0) from rfl)
  go_enter Tryd.func79, Tryd.ntmps79
  go_wp2_with fail
  refine (gcd_any a b _ (by omega) (by omega)).mono ?_
  rintro e w' ⟨rfl, k, rfl⟩
  generalize Nat.gcd a b = g at HG HA HB HF
  have hg := HG.out
  have hA := HA.out
  have hB := HB.out
  generalize hx : a / g = x at hA HF
  generalize hy : b / g = y at hB HF
  have h1 : (0 : Int) < g := by omega
  have hx' : (a : Int) / (g : Int) = (x : Int) := by rw [← hx]; rfl
  have hy' : (b : Int) / (g : Int) = (y : Int) := by rw [← hy]; rfl
  clear hx hy HA HB HG
  go_wp2_with fail
  go_region
  all_goals clear hx' hy'
  by_cases h2 : 2147483647 < x
  · have HR := Lib.hid (HF.out.trans (if_pos (Or.inl h2)))
    clear HF
    go_wp2_with fail
    go_returns
    exact ⟨by rw [HR.out]; rfl, by repeat' (first | (with_reducible exact Below.refl _ _) | (with_reducible refine Below.alloc ?_ ?_ _) | (with_reducible refine Below.setCell ?_ ?_ _) | (with_reducible refine below_drewN ?_ _) | (with_reducible refine Below.drew ?_) | go_size)⟩
  · by_cases h3 : 2147483647 < y
    · have HR := Lib.hid (HF.out.trans (if_pos (Or.inr h3)))
      clear HF
      go_wp2_with fail
      go_returns
      exact ⟨by rw [HR.out]; rfl, by repeat' (first | (with_reducible exact Below.refl _ _) | (with_reducible refine Below.alloc ?_ ?_ _) | (with_reducible refine Below.setCell ?_ ?_ _) | (with_reducible refine below_drewN ?_ _) | (with_reducible refine Below.drew ?_) | go_size)⟩
    · have HR := Lib.hid (HF.out.trans (if_neg (fun h => h.elim h2 h3)))
      clear HF
      go_wp2_with fail
      go_returns
      exact ⟨by rw [HR.out]; rfl, by repeat' (first | (with_reducible exact Below.refl _ _) | (with_reducible refine Below.alloc ?_ ?_ _) | (with_reducible refine Below.setCell ?_ ?_ _) | (with_reducible refine below_drewN ?_ _) | (with_reducible refine Below.drew ?_) | go_size)⟩
theorem red_any (neg : Bool) (a b : Nat) (w : World) (ha : a ≤ 18446744073709551615) (hb : b ≤ 18446744073709551615) (hb0 : 0 < b) : Calls Tryd.prog 79 #[.bool neg, .int .u64 a, .int .u64 b] w fun e w' => e = .returned (q3V (redQ neg a b)) ∧ Below w.heap.size w w' := by
  cases neg
  · exact red_false a b w ha hb hb0
  · exact red_true a b w ha hb hb0

set_option maxHeartbeats 400000 in
theorem make_zero (n : Int) (w : World) : Calls Tryd.prog 68 #[.int .i64 n, .int .i64 0] w fun e w' => e = .returned (q3V (0, 0, 10)) ∧ Below w.heap.size w w' := by
  go_enter Tryd.func68, Tryd.ntmps68
  go_wp2_with fail
  go_returns
  exact ⟨rfl, by repeat' (first | (with_reducible exact Below.refl _ _) | (with_reducible refine Below.alloc ?_ ?_ _) | (with_reducible refine Below.setCell ?_ ?_ _) | (with_reducible refine below_drewN ?_ _) | (with_reducible refine Below.drew ?_) | go_size)⟩
set_option maxHeartbeats 800000 in
theorem make_ne (n d : Int) (w : World) (hd0 : d ≠ 0) (n1 : -9223372036854775808 ≤ n) (n2 : n ≤ 9223372036854775807) (d1 : -9223372036854775808 ≤ d) (d2 : d ≤ 9223372036854775807) : Calls Tryd.prog 68 #[.int .i64 n, .int .i64 d] w fun e w' => e = .returned (q3V (redQ (!(decide (n < 0) == decide (d < 0))) n.natAbs d.natAbs)) ∧ Below w.heap.size w w' := by
  have hd : (d == 0) = false := by simpa using hd0
  have HD := Lib.hid hd0
  clear hd0

  go_enter Tryd.func68, Tryd.ntmps68
  go_wp2_with fail
  refine (mag_any n _ (by omega) (by omega)).mono ?_
  rintro e w' ⟨rfl, rfl⟩
  go_wp2_with fail
  refine (mag_any d _ (by omega) (by omega)).mono ?_
  rintro e w' ⟨rfl, rfl⟩
  go_wp2_with fail
  have hp : 0 < d.natAbs := by have := HD.out; omega
  refine (red_any _ n.natAbs d.natAbs _ (by omega) (by omega) hp).mono ?_
  rintro e w' ⟨rfl, hb⟩
  generalize hr : redQ _ n.natAbs d.natAbs = r
  have HR := Lib.hid hr
  clear hr
  obtain ⟨hc, hf⟩ := bcell hb
  have hz : w.heap.size < w'.heap.size := by have := hb.size; simp at this; omega
  have H0 := Lib.hid (below1 hb)
  clear hb
  unfold q3V
  go_wp2_with fail
  refine bodyPost_ret (v := q3V r) (by simp [q3V, results, Tryd.results68, go_sem, hc]) rfl ⟨by rw [HR.out], by repeat' (first | (with_reducible exact H0.out) | (with_reducible refine Below.setCell ?_ ?_ _) | (with_reducible refine Below.alloc ?_ ?_ _) | (with_reducible refine below_drewN ?_ _) | (with_reducible refine Below.drew ?_) | go_size)⟩
theorem make_any (n d : Int) (w : World) (n1 : -9223372036854775808 ≤ n) (n2 : n ≤ 9223372036854775807) (d1 : -9223372036854775808 ≤ d) (d2 : d ≤ 9223372036854775807) : Calls Tryd.prog 68 #[.int .i64 n, .int .i64 d] w fun e w' => e = .returned (q3V (makeQ n d)) ∧ Below w.heap.size w w' := by
  unfold makeQ
  by_cases h : d = 0
  · subst h
    rw [if_pos rfl]
    exact make_zero n w
  · rw [if_neg h]
    exact make_ne n d w h n1 n2 d1 d2

set_option maxHeartbeats 800000 in
theorem rred_true (a b : Nat) (w : World) (ha : a ≤ 18446744073709551615) (hb : b ≤ 18446744073709551615) (hb0 : 0 < b) : Calls Tryd.prog 65 #[.bool true, .int .u64 a, .int .u64 b] w fun e w' => e = .returned (q3V (redQ true a b)) ∧ Below w.heap.size w w' := by
  have HG := Lib.hid (Nat.gcd_pos_of_pos_right a hb0)
  have HA := Lib.hid (Nat.div_le_self a (Nat.gcd a b))
  have HB := Lib.hid (Nat.div_le_self b (Nat.gcd a b))
  have HF := Lib.hid (show redQ true a b = if 2147483647 < a / Nat.gcd a b ∨ 2147483647 < b / Nat.gcd a b then (0, 0, 2) else (if true then -((a / Nat.gcd a b : Nat) : Int) else ((a / Nat.gcd a b : Nat) : Int), ((b / Nat.gcd a b : Nat) : Int), 0) from rfl)
  go_enter Tryd.func65, Tryd.ntmps65
  go_wp2_with fail
  refine (rgcd_any a b _ (by omega) (by omega)).mono ?_
  rintro e w' ⟨rfl, k, rfl⟩
  generalize Nat.gcd a b = g at HG HA HB HF
  have hg := HG.out
  have hA := HA.out
  have hB := HB.out
  generalize hx : a / g = x at hA HF
  generalize hy : b / g = y at hB HF
  have h1 : (0 : Int) < g := by omega
  have hx' : (a : Int) / (g : Int) = (x : Int) := by rw [← hx]; rfl
  have hy' : (b : Int) / (g : Int) = (y : Int) := by rw [← hy]; rfl
  clear hx hy HA HB HG
  go_wp2_with fail
  go_region
  all_goals clear hx' hy'
  by_cases h2 : 2147483647 < x
  · have HR := Lib.hid (HF.out.trans (if_pos (Or.inl h2)))
    clear HF
    go_wp2_with fail
    go_returns
    exact ⟨by rw [HR.out]; rfl, by repeat' (first | (with_reducible exact Below.refl _ _) | (with_reducible refine Below.alloc ?_ ?_ _) | (with_reducible refine Below.setCell ?_ ?_ _) | (with_reducible refine below_drewN ?_ _) | (with_reducible refine Below.drew ?_) | go_size)⟩
  · by_cases h3 : 2147483647 < y
    · have HR := Lib.hid (HF.out.trans (if_pos (Or.inr h3)))
      clear HF
      go_wp2_with fail
      go_returns
      exact ⟨by rw [HR.out]; rfl, by repeat' (first | (with_reducible exact Below.refl _ _) | (with_reducible refine Below.alloc ?_ ?_ _) | (with_reducible refine Below.setCell ?_ ?_ _) | (with_reducible refine below_drewN ?_ _) | (with_reducible refine Below.drew ?_) | go_size)⟩
    · have HR := Lib.hid (HF.out.trans (if_neg (fun h => h.elim h2 h3)))
      clear HF
      go_wp2_with fail
      go_returns
      exact ⟨by rw [HR.out]; rfl, by repeat' (first | (with_reducible exact Below.refl _ _) | (with_reducible refine Below.alloc ?_ ?_ _) | (with_reducible refine Below.setCell ?_ ?_ _) | (with_reducible refine below_drewN ?_ _) | (with_reducible refine Below.drew ?_) | go_size)⟩

set_option maxHeartbeats 800000 in
theorem rred_false (a b : Nat) (w : World) (ha : a ≤ 18446744073709551615) (hb : b ≤ 18446744073709551615) (hb0 : 0 < b) : Calls Tryd.prog 65 #[.bool false, .int .u64 a, .int .u64 b] w fun e w' => e = .returned (q3V (redQ false a b)) ∧ Below w.heap.size w w' := by
  have HG := Lib.hid (Nat.gcd_pos_of_pos_right a hb0)
  have HA := Lib.hid (Nat.div_le_self a (Nat.gcd a b))
  have HB := Lib.hid (Nat.div_le_self b (Nat.gcd a b))
  have HF := Lib.hid (show redQ false a b = if 2147483647 < a / Nat.gcd a b ∨ 2147483647 < b / Nat.gcd a b then (0, 0, 2) else (if false then -((a / Nat.gcd a b : Nat) : Int) else ((a / Nat.gcd a b : Nat) : Int), ((b / Nat.gcd a b : Nat) : Int), 0) from rfl)
  go_enter Tryd.func65, Tryd.ntmps65
  go_wp2_with fail
  refine (rgcd_any a b _ (by omega) (by omega)).mono ?_
  rintro e w' ⟨rfl, k, rfl⟩
  generalize Nat.gcd a b = g at HG HA HB HF
  have hg := HG.out
  have hA := HA.out
  have hB := HB.out
  generalize hx : a / g = x at hA HF
  generalize hy : b / g = y at hB HF
  have h1 : (0 : Int) < g := by omega
  have hx' : (a : Int) / (g : Int) = (x : Int) := by rw [← hx]; rfl
  have hy' : (b : Int) / (g : Int) = (y : Int) := by rw [← hy]; rfl
  clear hx hy HA HB HG
  go_wp2_with fail
  go_region
  all_goals clear hx' hy'
  by_cases h2 : 2147483647 < x
  · have HR := Lib.hid (HF.out.trans (if_pos (Or.inl h2)))
    clear HF
    go_wp2_with fail
    go_returns
    exact ⟨by rw [HR.out]; rfl, by repeat' (first | (with_reducible exact Below.refl _ _) | (with_reducible refine Below.alloc ?_ ?_ _) | (with_reducible refine Below.setCell ?_ ?_ _) | (with_reducible refine below_drewN ?_ _) | (with_reducible refine Below.drew ?_) | go_size)⟩
  · by_cases h3 : 2147483647 < y
    · have HR := Lib.hid (HF.out.trans (if_pos (Or.inr h3)))
      clear HF
      go_wp2_with fail
      go_returns
      exact ⟨by rw [HR.out]; rfl, by repeat' (first | (with_reducible exact Below.refl _ _) | (with_reducible refine Below.alloc ?_ ?_ _) | (with_reducible refine Below.setCell ?_ ?_ _) | (with_reducible refine below_drewN ?_ _) | (with_reducible refine Below.drew ?_) | go_size)⟩
    · have HR := Lib.hid (HF.out.trans (if_neg (fun h => h.elim h2 h3)))
      clear HF
      go_wp2_with fail
      go_returns
      exact ⟨by rw [HR.out]; rfl, by repeat' (first | (with_reducible exact Below.refl _ _) | (with_reducible refine Below.alloc ?_ ?_ _) | (with_reducible refine Below.setCell ?_ ?_ _) | (with_reducible refine below_drewN ?_ _) | (with_reducible refine Below.drew ?_) | go_size)⟩
theorem rred_any (neg : Bool) (a b : Nat) (w : World) (ha : a ≤ 18446744073709551615) (hb : b ≤ 18446744073709551615) (hb0 : 0 < b) : Calls Tryd.prog 65 #[.bool neg, .int .u64 a, .int .u64 b] w fun e w' => e = .returned (q3V (redQ neg a b)) ∧ Below w.heap.size w w' := by
  cases neg
  · exact rred_false a b w ha hb hb0
  · exact rred_true a b w ha hb hb0

set_option maxHeartbeats 400000 in
theorem rmake_zero (n : Int) (w : World) : Calls Tryd.prog 44 #[.int .i64 n, .int .i64 0] w fun e w' => e = .returned (q3V (0, 0, 10)) ∧ Below w.heap.size w w' := by
  go_enter Tryd.func44, Tryd.ntmps44
  go_wp2_with fail
  go_returns
  exact ⟨rfl, by repeat' (first | (with_reducible exact Below.refl _ _) | (with_reducible refine Below.alloc ?_ ?_ _) | (with_reducible refine Below.setCell ?_ ?_ _) | (with_reducible refine below_drewN ?_ _) | (with_reducible refine Below.drew ?_) | go_size)⟩
set_option maxHeartbeats 800000 in
theorem rmake_ne (n d : Int) (w : World) (hd0 : d ≠ 0) (n1 : -9223372036854775808 ≤ n) (n2 : n ≤ 9223372036854775807) (d1 : -9223372036854775808 ≤ d) (d2 : d ≤ 9223372036854775807) : Calls Tryd.prog 44 #[.int .i64 n, .int .i64 d] w fun e w' => e = .returned (q3V (redQ (!(decide (n < 0) == decide (d < 0))) n.natAbs d.natAbs)) ∧ Below w.heap.size w w' := by
  have hd : (d == 0) = false := by simpa using hd0
  have HD := Lib.hid hd0
  clear hd0

  go_enter Tryd.func44, Tryd.ntmps44
  go_wp2_with fail
  refine (size_any n _ (by omega) (by omega)).mono ?_
  rintro e w' ⟨rfl, rfl⟩
  go_wp2_with fail
  refine (size_any d _ (by omega) (by omega)).mono ?_
  rintro e w' ⟨rfl, rfl⟩
  go_wp2_with fail
  have hp : 0 < d.natAbs := by have := HD.out; omega
  refine (rred_any _ n.natAbs d.natAbs _ (by omega) (by omega) hp).mono ?_
  rintro e w' ⟨rfl, hb⟩
  generalize hr : redQ _ n.natAbs d.natAbs = r
  have HR := Lib.hid hr
  clear hr
  obtain ⟨hc, hf⟩ := bcell hb
  have hz : w.heap.size < w'.heap.size := by have := hb.size; simp at this; omega
  have H0 := Lib.hid (below1 hb)
  clear hb
  unfold q3V
  go_wp2_with fail
  refine bodyPost_ret (v := q3V r) (by simp [q3V, results, Tryd.results44, go_sem, hc]) rfl ⟨by rw [HR.out], by repeat' (first | (with_reducible exact H0.out) | (with_reducible refine Below.setCell ?_ ?_ _) | (with_reducible refine Below.alloc ?_ ?_ _) | (with_reducible refine below_drewN ?_ _) | (with_reducible refine Below.drew ?_) | go_size)⟩
theorem rmake_any (n d : Int) (w : World) (n1 : -9223372036854775808 ≤ n) (n2 : n ≤ 9223372036854775807) (d1 : -9223372036854775808 ≤ d) (d2 : d ≤ 9223372036854775807) : Calls Tryd.prog 44 #[.int .i64 n, .int .i64 d] w fun e w' => e = .returned (q3V (makeQ n d)) ∧ Below w.heap.size w w' := by
  unfold makeQ
  by_cases h : d = 0
  · subst h
    rw [if_pos rfl]
    exact rmake_zero n w
  · rw [if_neg h]
    exact rmake_ne n d w h n1 n2 d1 d2
end Go.Proofs.YtlfapncbkgpclaaDoor
