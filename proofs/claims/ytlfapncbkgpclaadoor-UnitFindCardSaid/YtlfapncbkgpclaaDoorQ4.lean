/- Powers of rational numbers: plain facts. -/
import Derived.Test.YtlfapncbkgpclaaDoorQ3
import Derived.Test.YtlfapncbkgpclaaDoorShelf2
namespace Go.Proofs.YtlfapncbkgpclaaDoor
open Go.RowKit
/-- the i-th power of a / b, if it is small enough -/
def powT (a b i : Nat) : Int × Int × Int := if a ^ i ≤ 2147483647 ∧ b ^ i ≤ 2147483647 then (((a ^ i : Nat) : Int), ((b ^ i : Nat) : Int), 0) else (0, 0, 2)
theorem cop_pow {a b : Nat} (h : Nat.gcd a b = 1) (i j : Nat) : Nat.gcd (a ^ i) (b ^ j) = 1 := Nat.Coprime.pow i j h
theorem red_cop {a b : Nat} (h : Nat.gcd a b = 1) (neg : Bool) : redQ neg a b = if 2147483647 < a ∨ 2147483647 < b then (0, 0, 2) else (if neg then -(a : Int) else (a : Int), (b : Int), 0) := by
  unfold redQ; rw [h, Nat.div_one, Nat.div_one]
theorem pow_pos' {a : Nat} (h : 1 ≤ a) (i : Nat) : 1 ≤ a ^ i := Nat.pos_of_ne_zero fun e => by
  have := Nat.pos_of_ne_zero (n := a ^ i) (by intro h0; have := Nat.pow_eq_zero.1 h0; omega)
  omega
theorem make_cop {a b : Nat} (h : Nat.gcd a b = 1) (hb : 1 ≤ b) : makeQ a b = if a ≤ 2147483647 ∧ b ≤ 2147483647 then ((a : Int), (b : Int), 0) else (0, 0, 2) := by
  unfold makeQ
  rw [if_neg (by omega), show (!(decide ((a : Int) < 0) == decide ((b : Int) < 0))) = false by simp; omega]
  simp only [Int.natAbs_natCast]
  rw [red_cop h]
  by_cases hc : a ≤ 2147483647 ∧ b ≤ 2147483647
  · rw [if_pos hc, if_neg (by omega)]; rfl
  · rw [if_neg hc, if_pos (by omega)]
theorem val_cop {a b : Nat} (h : Nat.gcd a b = 1) (hb : 1 ≤ b) (h1 : a ≤ 2147483647) (h2 : b ≤ 2147483647) : valQ a b = true := by
  simp [valQ, inB, h]; omega
theorem cop_mul {a b c d : Nat} (i j : Nat) (h : Nat.gcd a b = 1) (hc : c = a ^ j) (hd : d = b ^ j) : Nat.gcd (a ^ i * c) (b ^ i * d) = 1 := by
  subst hc hd
  rw [← Nat.pow_add, ← Nat.pow_add]
  exact cop_pow h _ _
/-- powers are multiplied by adding exponents -/
theorem mul_pow {a b : Nat} (i j : Nat) (h : Nat.gcd a b = 1) (hb : 1 ≤ b) (i1 : a ^ i ≤ 2147483647) (i2 : b ^ i ≤ 2147483647) (j1 : a ^ j ≤ 2147483647) (j2 : b ^ j ≤ 2147483647) :
    mulQ ((a ^ i : Nat) : Int) ((b ^ i : Nat) : Int) ((a ^ j : Nat) : Int) ((b ^ j : Nat) : Int) = powT a b (i + j) := by
  unfold mulQ powT
  rw [val_cop (cop_pow h i i) (pow_pos' hb i) i1 i2, val_cop (cop_pow h j j) (pow_pos' hb j) j1 j2, Bool.and_self, if_pos rfl]
  rw [← Int.natCast_mul, ← Int.natCast_mul, ← Nat.pow_add, ← Nat.pow_add]
  exact make_cop (cop_pow h _ _) (pow_pos' hb _)
theorem powT_ok {a b i : Nat} (h1 : a ^ i ≤ 2147483647) (h2 : b ^ i ≤ 2147483647) : powT a b i = (((a ^ i : Nat) : Int), ((b ^ i : Nat) : Int), 0) := if_pos ⟨h1, h2⟩
theorem powT_no {a b i : Nat} (h : ¬ (a ^ i ≤ 2147483647 ∧ b ^ i ≤ 2147483647)) : powT a b i = (0, 0, 2) := if_neg h
theorem powT_mono {a b i m : Nat} (ha : 1 ≤ a) (hb : 1 ≤ b) (hi : i ≤ m) (h : ¬ (a ^ i ≤ 2147483647 ∧ b ^ i ≤ 2147483647)) : powT a b m = (0, 0, 2) := by
  refine if_neg fun hc => h ⟨?_, ?_⟩
  · exact Nat.le_trans (Nat.pow_le_pow_right ha hi) hc.1
  · exact Nat.le_trans (Nat.pow_le_pow_right hb hi) hc.2
theorem bl_lt : ∀ n : Fin 101, n.val < 2 ^ Lib.bitLen n.val ∧ Lib.bitLen n.val ≤ 7 := by decide +kernel
theorem blk_set2 {w : World} {g : Nat} {t : TypeId} {x y u v : Value} (h : Blk w g t #[x, y]) : Blk ((w.setCell ⟨g, 0, none⟩ u).setCell ⟨g, 1, none⟩ v) g t #[u, v] := by
  have := (h.set_ 0 u).set_ 1 v
  simpa using this
theorem blk_far2 {w : World} {g g' : Nat} {t : TypeId} {cs : Array Value} (u v : Value) (h : Blk w g t cs) (hne : g ≠ g') : Blk ((w.setCell ⟨g', 0, none⟩ u).setCell ⟨g', 1, none⟩ v) g t cs :=
  (h.far (p := ⟨g', 0, none⟩) hne u).far (p := ⟨g', 1, none⟩) hne v
theorem half_step (m k : Nat) : m / 2 ^ k = m / 2 ^ (k + 1) + m / 2 ^ (k + 1) + m / 2 ^ k % 2 := by
  rw [Nat.pow_succ, ← Nat.div_div_eq_div_mul]; omega
end Go.Proofs.YtlfapncbkgpclaaDoor
