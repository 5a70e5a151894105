/- Products, quotients, powers and roots of dimensions, both in the program and in the reference. -/
import Derived.Test.YtlfapncbkgpclaaDoorU3
namespace Go.Proofs.YtlfapncbkgpclaaDoor
open Go.RowKit
def chkD (r : D7) : D7 := if r.ok then r else D7.zero
def chkE (r : D7) : Int := if r.ok then 0 else 2
def twoD (a b r : D7) : D7 := if a.ok && b.ok then chkD r else D7.zero
def twoE (a b r : D7) : Int := if a.ok && b.ok then chkE r else 1
theorem two_eq (a b r : D7) : two a b r = .tuple #[(twoD a b r).v, .int .i64 (twoE a b r)] := by
  unfold two twoD twoE
  cases a.ok && b.ok
  · rfl
  · unfold chk chkD chkE
    cases r.ok <;> rfl
theorem below1 {w w' : World} {o1 : Obj} (hb : Below (w.alloc o1).heap.size (w.alloc o1) w') : Below w.heap.size w w' :=
  ((Below.refl _ _).alloc (Nat.le_refl _) o1).trans (hb.mono (by simp))
theorem below2 {w w' : World} {o1 o2 : Obj} (hb : Below ((w.alloc o1).alloc o2).heap.size ((w.alloc o1).alloc o2) w') : Below w.heap.size w w' := below1 (below1 hb)
theorem below3 {w w' : World} {o1 o2 o3 : Obj} (hb : Below (((w.alloc o1).alloc o2).alloc o3).heap.size (((w.alloc o1).alloc o2).alloc o3) w') : Below w.heap.size w w' := below1 (below2 hb)
theorem bcell {W w1 : World} (hb : Below W.heap.size W w1) : (∀ b o, b < W.heap.size → w1.cell? ⟨b, o, none⟩ = W.cell? ⟨b, o, none⟩) ∧ (∀ b o, b < W.heap.size → w1.frozen? ⟨b, o, none⟩ = W.frozen? ⟨b, o, none⟩) :=
  ⟨fun b o h => hb.cell (p := ⟨b, o, none⟩) h, fun b o h => hb.frozen (p := ⟨b, o, none⟩) h⟩

set_option maxHeartbeats 400000 in
theorem mul_any (a b : D7) (w : World) : Calls Tryd.prog 12 #[a.v, b.v] w fun e w' => e = .returned (.tuple #[(twoD a b (a.add b)).v, .int .i64 (twoE a b (a.add b))]) ∧ Below w.heap.size w w' := by
  go_enter Tryd.func12, Tryd.ntmps12
  go_wp2_with fail
  refine (cadd_any a b _).mono ?_
  rintro e w' ⟨rfl, hb⟩
  rw [two_eq]
  obtain ⟨hc, hf⟩ := bcell hb
  have hz : w.heap.size + 2 < w'.heap.size := by have := hb.size; simp at this; omega
  have H0 := Lib.hid (below3 hb)
  clear hb
  go_wp2_with fail
  refine bodyPost_ret (v := .tuple #[(twoD a b (a.add b)).v, .int .i64 (twoE a b (a.add b))]) (by simp [results, Tryd.results12, go_sem, hc]) rfl ⟨rfl, (by repeat' (first | (with_reducible exact H0.out) | (with_reducible refine Below.setCell ?_ ?_ _) | (with_reducible refine Below.alloc ?_ ?_ _) | (with_reducible refine below_drewN ?_ _) | (with_reducible refine Below.drew ?_) | go_size))⟩
set_option maxHeartbeats 400000 in
theorem div_any (a b : D7) (w : World) : Calls Tryd.prog 13 #[a.v, b.v] w fun e w' => e = .returned (.tuple #[(twoD a b (a.sub b)).v, .int .i64 (twoE a b (a.sub b))]) ∧ Below w.heap.size w w' := by
  go_enter Tryd.func13, Tryd.ntmps13
  go_wp2_with fail
  refine (csub_any a b _).mono ?_
  rintro e w' ⟨rfl, hb⟩
  rw [two_eq]
  obtain ⟨hc, hf⟩ := bcell hb
  have hz : w.heap.size + 2 < w'.heap.size := by have := hb.size; simp at this; omega
  have H0 := Lib.hid (below3 hb)
  clear hb
  go_wp2_with fail
  refine bodyPost_ret (v := .tuple #[(twoD a b (a.sub b)).v, .int .i64 (twoE a b (a.sub b))]) (by simp [results, Tryd.results13, go_sem, hc]) rfl ⟨rfl, (by repeat' (first | (with_reducible exact H0.out) | (with_reducible refine Below.setCell ?_ ?_ _) | (with_reducible refine Below.alloc ?_ ?_ _) | (with_reducible refine below_drewN ?_ _) | (with_reducible refine Below.drew ?_) | go_size))⟩


/-- the result of Pow -/
def powV (a : D7) (n : Int) : Value := if a.ok then (if D7.beq a D7.zero then okV a else if n < -100 ∨ 100 < n then errV 2 else chk (a.mul n)) else errV 1
theorem pow_any (a : D7) (n : Int) (w : World) : Calls Tryd.prog 15 #[a.v, .int .i64 n] w fun e w' => e = .returned (powV a n) ∧ Below w.heap.size w w' := by
  unfold powV
  cases ha : a.ok
  · simp only [Bool.false_eq_true, if_false]
    exact pow_no a n w ha
  · cases hz : D7.beq a D7.zero
    · by_cases hn : n < -100 ∨ 100 < n
      · simp only [Bool.false_eq_true, if_false, if_true, hn]
        exact pow_far a n w ha hz hn
      · simp only [Bool.false_eq_true, if_false, if_true, hn]
        exact pow_ok a n w ha hz (by omega) (by omega)
    · simp only [if_true]
      exact pow_zero a n w ha hz
/-- the result of Pow in the reference -/
def rpowV (a : D7) (n : Int) : Value := if a.ok then chk (a.mul (max (-101) (min 101 n))) else errV 1
theorem rpow_any (a : D7) (n : Int) (w : World) : Calls Tryd.prog 18 #[a.v, .int .i64 n] w fun e w' => e = .returned (rpowV a n) ∧ Below w.heap.size w w' := by
  unfold rpowV
  cases ha : a.ok
  · simp only [Bool.false_eq_true, if_false]
    exact rpow_no a n w ha
  · simp only [if_true]
    rcases (show n ≤ -101 ∨ 101 ≤ n ∨ (-101 < n ∧ n < 101) by omega) with h | h | ⟨h1, h2⟩
    · rw [show max (-101) (min 101 n) = -101 by omega]
      exact rpow_lo a n w ha h
    · rw [show max (-101) (min 101 n) = 101 by omega]
      exact rpow_hi a n w ha h
    · rw [show max (-101) (min 101 n) = n by omega]
      exact rpow_ok a n w ha h1 h2
def rootR (a : D7) : Value := if a.ok then rootV a else errV 1
theorem root_any (a : D7) (w : World) : Calls Tryd.prog 14 #[a.v] w fun e w' => e = .returned (rootR a) ∧ Below w.heap.size w w' := by
  unfold rootR
  cases ha : a.ok
  · exact root_no a w ha
  · exact root_ok a w ha
theorem rroot_any (a : D7) (w : World) : Calls Tryd.prog 19 #[a.v] w fun e w' => e = .returned (rootR a) ∧ Below w.heap.size w w' := by
  unfold rootR
  cases ha : a.ok
  · exact rroot_no a w ha
  · exact rroot_ok a w ha

/-! a value of a dimension and an error, by parts -/
def dOf : Value → D7
  | .tuple #[.agg #[.int .i64 a0, .int .i64 a1, .int .i64 a2, .int .i64 a3, .int .i64 a4, .int .i64 a5, .int .i64 a6], _] => ⟨a0, a1, a2, a3, a4, a5, a6⟩
  | _ => D7.zero
def eOf : Value → Int
  | .tuple #[_, .int .i64 n] => n
  | _ => 0
theorem parts_ok (r : D7) : okV r = .tuple #[(dOf (okV r)).v, .int .i64 (eOf (okV r))] := rfl
theorem parts_err (n : Int) : errV n = .tuple #[(dOf (errV n)).v, .int .i64 (eOf (errV n))] := rfl
theorem parts_chk (r : D7) : chk r = .tuple #[(dOf (chk r)).v, .int .i64 (eOf (chk r))] := by
  unfold chk
  cases r.ok
  · exact parts_err 2
  · exact parts_ok r
theorem parts_pow (a : D7) (n : Int) : powV a n = .tuple #[(dOf (powV a n)).v, .int .i64 (eOf (powV a n))] := by
  unfold powV
  split
  · split
    · exact parts_ok a
    · split
      · exact parts_err 2
      · exact parts_chk _
  · exact parts_err 1
theorem parts_rpow (a : D7) (n : Int) : rpowV a n = .tuple #[(dOf (rpowV a n)).v, .int .i64 (eOf (rpowV a n))] := by
  unfold rpowV
  split
  · exact parts_chk _
  · exact parts_err 1
theorem parts_root (a : D7) : rootR a = .tuple #[(dOf (rootR a)).v, .int .i64 (eOf (rootR a))] := by
  unfold rootR rootV
  split
  · split
    · exact parts_ok _
    · exact parts_err 2
  · exact parts_err 1
theorem keep {W w1 : World} (hb : Below W.heap.size W w1) {g : Nat} {t : TypeId} {cs : Array Value} (h : Blk W g t cs) : Blk w1 g t cs := h.below hb h.lt
end Go.Proofs.YtlfapncbkgpclaaDoor
