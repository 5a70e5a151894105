/- Rescaling by inverse numbers: plain facts. -/
import Derived.Test.YtlfapncbkgpclaaDoorRS
namespace Go.Proofs.YtlfapncbkgpclaaDoor
open Go.RowKit
theorem cross {a b x y : Nat} (h : a * y = x * b) (hc : Nat.gcd x y = 1) (hy : 0 < y) (hb : 0 < b) : ∃ t, 0 < t ∧ a = x * t ∧ b = y * t := by
  have hd : y ∣ x * b := ⟨a, by rw [← h, Nat.mul_comm]⟩
  have hyb : y ∣ b := Nat.Coprime.dvd_of_dvd_mul_left (by rw [Nat.Coprime, Nat.gcd_comm]; exact hc) hd
  obtain ⟨t, rfl⟩ := hyb
  have ht : 0 < t := Nat.pos_of_ne_zero fun e => by subst e; simp at hb
  refine ⟨t, ht, ?_, rfl⟩
  have : a * y = x * t * y := by rw [h]; rw [Nat.mul_comm y t, Nat.mul_assoc]
  exact Nat.eq_of_mul_eq_mul_right hy this
theorem red_cross {a b x y : Nat} (neg : Bool) (h : a * y = x * b) (hc : Nat.gcd x y = 1) (hy : 0 < y) (hb : 0 < b) (hx2 : x ≤ 2147483647) (hy2 : y ≤ 2147483647) :
    redQ neg a b = (if neg then -(x : Int) else (x : Int), (y : Int), 0) := by
  obtain ⟨t, ht, rfl, rfl⟩ := cross h hc hy hb
  have hg : Nat.gcd (x * t) (y * t) = t := by rw [Nat.gcd_mul_right, hc, Nat.one_mul]
  unfold redQ
  rw [hg, Nat.mul_div_cancel _ ht, Nat.mul_div_cancel _ ht, if_neg (by omega)]
/-- the inverse numbers -/
def F7.inv (f : F7) : F7 := ⟨f.d0, f.n0, f.d1, f.n1, f.d2, f.n2, f.d3, f.n3, f.d4, f.n4, f.d5, f.n5, f.d6, f.n6⟩
theorem inv_n (f : F7) (k : Nat) (hk : k < 7) : f.inv.n k = f.d k := by
  match k, hk with
  | 0, _ => rfl
  | 1, _ => rfl
  | 2, _ => rfl
  | 3, _ => rfl
  | 4, _ => rfl
  | 5, _ => rfl
  | 6, _ => rfl
theorem inv_d (f : F7) (k : Nat) (hk : k < 7) : f.inv.d k = f.n k := by
  match k, hk with
  | 0, _ => rfl
  | 1, _ => rfl
  | 2, _ => rfl
  | 3, _ => rfl
  | 4, _ => rfl
  | 5, _ => rfl
  | 6, _ => rfl
theorem powT_swap {a b i : Nat} {u v : Int} (h : powT a b i = (u, v, 0)) : powT b a i = (v, u, 0) := by
  unfold powT at h ⊢
  split at h
  · rename_i hc
    rw [if_pos ⟨hc.2, hc.1⟩]
    simp only [Prod.mk.injEq, and_true] at h
    rw [← h.1, ← h.2]
  · simp at h
theorem powQ_swap {a b : Nat} {n u v : Int} (h : powQ a b n = (u, v, 0)) : powQ b a n = (v, u, 0) := by
  unfold powQ at h ⊢
  split at h
  · rw [if_pos ‹_›]; exact powT_swap h
  · rw [if_neg ‹_›]; exact powT_swap h
theorem val_swap {u v : Int} (h : posB u v = true) : posB v u = true := by
  obtain ⟨a, b, rfl, rfl, hg, ha, hb, ha2, hb2⟩ := pos_nat h
  simp [posB, valQ, inB, Nat.gcd_comm b a, hg]; omega
theorem pos_val {u v : Int} (h : posB u v = true) : valQ u v = true := by
  unfold posB at h; simp at h; exact h.1
theorem redQ_swap {a b : Nat} {u v : Int} (h : redQ false a b = (u, v, 0)) : redQ false b a = (v, u, 0) := by
  unfold redQ at h ⊢
  rw [Nat.gcd_comm b a]
  split at h
  · simp at h
  · rw [if_neg (by omega)]
    simp at h ⊢
    exact ⟨h.2, h.1⟩
theorem make_pos {a b : Int} (ha : 0 < a) (hb : 0 < b) : makeQ a b = redQ false a.natAbs b.natAbs := by
  unfold makeQ
  rw [if_neg (by omega), show (!(decide (a < 0) == decide (b < 0))) = false by simp; omega]
theorem make_swap {a b u v : Int} (ha : 0 < a) (hb : 0 < b) (h : makeQ a b = (u, v, 0)) : makeQ b a = (v, u, 0) := by
  rw [make_pos ha hb] at h
  rw [make_pos hb ha]
  exact redQ_swap h
/-- a quotient of positive numbers in lowest terms is positive and valid -/
theorem red_pos {a b : Nat} {u v : Int} (ha : 0 < a) (hb : 0 < b) (h : redQ false a b = (u, v, 0)) : posB u v = true := by
  have hg : 0 < Nat.gcd a b := Nat.gcd_pos_of_pos_left _ ha
  have h3 : 0 < a / Nat.gcd a b := Nat.div_pos (Nat.le_of_dvd ha (Nat.gcd_dvd_left _ _)) hg
  have h4 : 0 < b / Nat.gcd a b := Nat.div_pos (Nat.le_of_dvd hb (Nat.gcd_dvd_right _ _)) hg
  have h5 : Nat.gcd (a / Nat.gcd a b) (b / Nat.gcd a b) = 1 := Nat.gcd_div_gcd_div_gcd_of_pos_left ha
  unfold redQ at h
  generalize a / Nat.gcd a b = x at *
  generalize b / Nat.gcd a b = y at *
  split at h
  · simp at h
  · simp at h
    obtain ⟨rfl, rfl⟩ := h
    simp [posB, valQ, inB, h5]
    omega
theorem powT_pos {a b i : Nat} {u v : Int} (hg : Nat.gcd a b = 1) (ha : 1 ≤ a) (hb : 1 ≤ b) (h : powT a b i = (u, v, 0)) : posB u v = true := by
  unfold powT at h
  split at h
  · rename_i hc
    simp only [Prod.mk.injEq, and_true] at h
    obtain ⟨rfl, rfl⟩ := h
    have h1 := pow_pos' ha i
    have h2 := pow_pos' hb i
    have h3 := cop_pow hg i i
    generalize a ^ i = x at *
    generalize b ^ i = y at *
    simp [posB, valQ, inB, h3]
    omega
  · simp at h
theorem powQ_pos {a b : Nat} {n u v : Int} (hg : Nat.gcd a b = 1) (ha : 1 ≤ a) (hb : 1 ≤ b) (h : powQ a b n = (u, v, 0)) : posB u v = true := by
  unfold powQ at h
  split at h
  · exact powT_pos hg ha hb h
  · exact powT_pos (by rw [Nat.gcd_comm]; exact hg) hb ha h
theorem fold_swap {f : F7} {m : D7} (hf : f.pos = true) : ∀ {k : Nat} {p : Int × Int}, k ≤ 7 → foldP f m k = some p → foldP f.inv m k = some (p.2, p.1) ∧ posB p.1 p.2 = true := by
  intro k
  induction k with
  | zero =>
    intro p _ h
    obtain rfl : (1, 1) = p := by simpa [foldP] using h
    exact ⟨rfl, by decide⟩
  | succ k ih =>
    intro p hk h
    rw [foldP] at h
    obtain ⟨p0, h0, h1⟩ := Option.bind_eq_some_iff.1 h
    obtain ⟨i0, q0⟩ := ih (by omega) h0
    obtain ⟨a, b, ea, eb, hg, ha, hb, _, _⟩ := pos_nat ((pos_iff f).1 hf k (by omega))
    unfold stepP at h1
    rw [ea, eb, Int.natAbs_natCast, Int.natAbs_natCast] at h1
    obtain ⟨u, v, e, hP⟩ : ∃ u v e, powQ a b (m.at k) = (u, v, e) := ⟨_, _, _, rfl⟩
    rw [hP] at h1
    simp only at h1
    by_cases he : e = 0
    · subst he
      rw [if_pos rfl] at h1
      obtain ⟨r, s, e2, hM⟩ : ∃ r s e2, mulQ p0.1 p0.2 u v = (r, s, e2) := ⟨_, _, _, rfl⟩
      rw [hM] at h1
      simp only at h1
      by_cases he2 : e2 = 0
      · subst he2
        rw [if_pos rfl] at h1
        obtain rfl : (r, s) = p := by simpa using h1
        have hu := powQ_pos hg ha hb hP
        have hS := powQ_swap hP
        have hM' := hM
        unfold mulQ at hM'
        rw [pos_val q0, pos_val hu, Bool.and_self, if_pos rfl] at hM'
        obtain ⟨c, d, e1, e2, _, hc, hd, _, _⟩ := pos_nat q0
        obtain ⟨x, y, e3, e4, _, hx, hy, _, _⟩ := pos_nat hu
        have m1 : 0 < p0.1 * u := by rw [e1, e3]; exact Int.mul_pos (by omega) (by omega)
        have m2 : 0 < p0.2 * v := by rw [e2, e4]; exact Int.mul_pos (by omega) (by omega)
        have hsw := make_swap m1 m2 hM'
        have hMs : mulQ p0.2 p0.1 v u = (s, r, 0) := by
          unfold mulQ
          rw [pos_val (val_swap q0), pos_val (val_swap hu), Bool.and_self, if_pos rfl]
          exact hsw
        refine ⟨?_, ?_⟩
        · rw [foldP, i0]
          show stepP f.inv m k (p0.2, p0.1) = _
          unfold stepP
          rw [inv_n f k (by omega), inv_d f k (by omega), ea, eb, Int.natAbs_natCast, Int.natAbs_natCast, hS]
          simp only
          rw [if_pos trivial, hMs]
          simp
        · rw [make_pos m1 m2] at hM'
          exact red_pos (by omega) (by omega) hM'
      · rw [if_neg he2] at h1
        cases h1
    · rw [if_neg he] at h1
      cases h1
theorem red_parts {neg : Bool} {a b : Nat} {u v : Int} (hb : 0 < b) (h : redQ neg a b = (u, v, 0)) :
    ∃ A B : Nat, u = (if neg then -(A : Int) else (A : Int)) ∧ v = B ∧ Nat.gcd A B = 1 ∧ 0 < B ∧ A ≤ 2147483647 ∧ B ≤ 2147483647 ∧ A * b = a * B := by
  have hg : 0 < Nat.gcd a b := Nat.gcd_pos_of_pos_right _ hb
  have h4 : 0 < b / Nat.gcd a b := Nat.div_pos (Nat.le_of_dvd hb (Nat.gcd_dvd_right _ _)) hg
  have h5 : Nat.gcd (a / Nat.gcd a b) (b / Nat.gcd a b) = 1 := Nat.gcd_div_gcd_div_gcd_of_pos_right hb
  have h6 : a / Nat.gcd a b * Nat.gcd a b = a := Nat.div_mul_cancel (Nat.gcd_dvd_left _ _)
  have h7 : b / Nat.gcd a b * Nat.gcd a b = b := Nat.div_mul_cancel (Nat.gcd_dvd_right _ _)
  unfold redQ at h
  generalize a / Nat.gcd a b = A at *
  generalize b / Nat.gcd a b = B at *
  generalize Nat.gcd a b = g at *
  split at h
  · simp at h
  · simp only [Prod.mk.injEq, and_true] at h
    refine ⟨A, B, h.1.symm, h.2.symm, h5, h4, by omega, by omega, ?_⟩
    rw [← h6, ← h7]
    rw [Nat.mul_assoc, Nat.mul_comm g B]
theorem make_sgn (n : Int) (q b : Nat) (hq : 0 < q) (hb : 0 < b) : makeQ (n * q) b = redQ (decide (n < 0)) (n.natAbs * q) b := by
  unfold makeQ
  have hs : (n * q < 0) ↔ n < 0 := by
    constructor
    · intro h
      refine Classical.byContradiction fun hc => ?_
      have := Int.mul_nonneg (show 0 ≤ n by omega) (show (0 : Int) ≤ q by omega)
      omega
    · intro h
      exact Int.mul_neg_of_neg_of_pos h (by omega)
  rw [if_neg (by omega)]
  have e : (!(decide (n * q < 0) == decide ((b : Int) < 0))) = decide (n < 0) := by
    rw [show decide ((b : Int) < 0) = false from decide_eq_false (by omega), show decide (n * q < 0) = decide (n < 0) from decide_eq_decide.2 hs]
    simp
  rw [e, Int.natAbs_mul, Int.natAbs_natCast, Int.natAbs_natCast]
theorem inverse {x y : V9} {f : F7} (hx : x.ok = true) (hf : f.pos = true) (h : rescR x f = v2V y 0) : rescR y f.inv = v2V x 0 := by
  have hi : f.inv.pos = true := by
    rw [pos_iff]
    intro i hi
    rw [inv_n f i hi, inv_d f i hi]
    exact val_swap ((pos_iff f).1 hf i hi)
  unfold rescR at h ⊢
  rw [hx, hf, Bool.and_self, if_pos rfl] at h
  cases hF : foldP f x.m 7 with
  | none =>
    rw [resc_none hx hF] at h
    simp [v2V] at h
  | some p =>
    obtain ⟨hFi, hp⟩ := fold_swap hf (Nat.le_refl 7) hF
    rw [resc_some hx hF] at h
    obtain ⟨u, v, e, hD⟩ : ∃ u v e, divQ x.n x.d p.1 p.2 = (u, v, e) := ⟨_, _, _, rfl⟩
    rw [hD] at h
    simp only at h
    by_cases he : e = 0
    · subst he
      rw [if_pos rfl] at h
      have hy : y = ⟨u, v, x.m⟩ := by
        simp only [v2V, Value.tuple.injEq, Array.mk.injEq, List.cons.injEq, Value.agg.injEq, Value.int.injEq, true_and, and_true] at h
        obtain ⟨h1, h2, h3, h4, h5, h6, h7, h8, h9⟩ := h
        cases y with
        | mk yn yd ym =>
          simp only at h1 h2 h3 h4 h5 h6 h7 h8 h9
          rw [← h1, ← h2]
          congr 1
          exact (D7.ext' h3 h4 h5 h6 h7 h8 h9).symm
      subst hy
      have hxv : valQ x.n x.d = true := by unfold V9.ok at hx; simp at hx; exact hx.1
      have hxm : x.m.ok = true := by unfold V9.ok at hx; simp at hx; exact hx.2
      obtain ⟨c, d, ec, ed, _, hc, hd, _, _⟩ := pos_nat hp
      have hxb := val_bd hxv
      have hxg : Nat.gcd x.n.natAbs x.d.natAbs = 1 := by unfold valQ at hxv; simp at hxv; exact hxv.2
      unfold divQ at hD
      rw [hxv, pos_val hp, Bool.and_self, if_pos rfl] at hD
      obtain ⟨D, hDd⟩ := Int.eq_ofNat_of_zero_le (show 0 ≤ x.d by omega)
      rw [ec, ed, hDd, ← Int.natCast_mul, make_sgn _ _ _ (by omega) (Nat.mul_pos (by omega) (by omega))] at hD
      obtain ⟨A, B, hu, hv, hAB, hB, hA2, hB2, hcr⟩ := red_parts (Nat.mul_pos (by omega) (by omega)) hD
      have hua : u.natAbs = A := by rw [hu]; split <;> simp
      have hyv : valQ u v = true := by
        unfold valQ inB
        rw [hua, hv, Int.natAbs_natCast, hAB]
        have : u ≤ A ∧ -(A : Int) ≤ u := by rw [hu]; split <;> omega
        simp
        omega
      have hyok : (⟨u, v, x.m⟩ : V9).ok = true := by unfold V9.ok; rw [hyv, hxm]; rfl
      rw [hyok, hi, Bool.and_self, if_pos rfl, resc_some hyok hFi]
      have hsg : decide (u < 0) = decide (x.n < 0) := by
        rw [decide_eq_decide]
        by_cases hn : x.n < 0
        · have hn0 : 0 < x.n.natAbs := by omega
          have hpos : 0 < x.n.natAbs * d * B := Nat.mul_pos (Nat.mul_pos hn0 (by omega)) hB
          have hA0 : 0 < A := by
            refine Nat.pos_of_ne_zero fun e => ?_
            rw [e, Nat.zero_mul] at hcr
            omega
          rw [hu, if_pos (by simpa using hn)]
          omega
        · rw [hu, if_neg (by simpa using hn)]
          omega
      have hfin : divQ u v p.2 p.1 = (x.n, x.d, 0) := by
        unfold divQ
        rw [hyv, pos_val (val_swap hp), Bool.and_self, if_pos rfl, ec, ed, hv, ← Int.natCast_mul, make_sgn _ _ _ (by omega) (Nat.mul_pos hB (by omega)), hua, hsg]
        rw [red_cross (x := x.n.natAbs) (y := D) _ ?_ (by rw [hDd] at hxg; simpa using hxg) (by omega) (Nat.mul_pos hB (by omega)) (by omega) (by omega)]
        · rw [hDd]
          by_cases hn : x.n < 0
          · simp [hn]; omega
          · simp [hn]; omega
        · calc A * c * D = A * (D * c) := by rw [Nat.mul_assoc, Nat.mul_comm c D]
            _ = x.n.natAbs * d * B := hcr
            _ = x.n.natAbs * (B * d) := by rw [Nat.mul_assoc, Nat.mul_comm d B]
      rw [hfin]
      rfl
    · rw [if_neg he] at h
      simp [v2V] at h
abbrev F7.ones : F7 := ⟨1, 1, 1, 1, 1, 1, 1, 1, 1, 1, 1, 1, 1, 1⟩
theorem ones_at (k : Nat) (hk : k < 7) : F7.ones.n k = 1 ∧ F7.ones.d k = 1 := by
  match k, hk with
  | 0, _ => exact ⟨rfl, rfl⟩
  | 1, _ => exact ⟨rfl, rfl⟩
  | 2, _ => exact ⟨rfl, rfl⟩
  | 3, _ => exact ⟨rfl, rfl⟩
  | 4, _ => exact ⟨rfl, rfl⟩
  | 5, _ => exact ⟨rfl, rfl⟩
  | 6, _ => exact ⟨rfl, rfl⟩
theorem ones_pos : F7.ones.pos = true := by
  rw [pos_iff]
  intro i hi
  rw [(ones_at i hi).1, (ones_at i hi).2]
  decide
theorem powQ_ones (n : Int) : powQ 1 1 n = (1, 1, 0) := by
  unfold powQ; rw [powT_one, powT_one, ite_self]
theorem mul_ones : mulQ 1 1 1 1 = (1, 1, 0) := by decide
theorem fold_ones (m : D7) : ∀ k, k ≤ 7 → foldP F7.ones m k = some (1, 1) := by
  intro k
  induction k with
  | zero => intro _; rfl
  | succ k ih =>
    intro hk
    rw [foldP, ih (by omega)]
    show stepP F7.ones m k (1, 1) = _
    unfold stepP
    rw [(ones_at k (by omega)).1, (ones_at k (by omega)).2, show (1 : Int).natAbs = 1 from rfl, powQ_ones]
    simp only
    rw [if_pos trivial, mul_ones]
    simp
theorem resc_ones {x : V9} (hx : x.ok = true) : rescR x F7.ones = v2V x 0 := by
  have hxv : valQ x.n x.d = true := by unfold V9.ok at hx; simp at hx; exact hx.1
  have hxb := val_bd hxv
  have hxg : Nat.gcd x.n.natAbs x.d.natAbs = 1 := by unfold valQ at hxv; simp at hxv; exact hxv.2
  unfold rescR
  rw [hx, ones_pos, Bool.and_self, if_pos rfl, resc_some hx (fold_ones x.m 7 (Nat.le_refl 7))]
  obtain ⟨D, hDd⟩ := Int.eq_ofNat_of_zero_le (show 0 ≤ x.d by omega)
  have hfin : divQ x.n x.d 1 1 = (x.n, x.d, 0) := by
    unfold divQ
    rw [hxv, show valQ 1 1 = true by decide, Bool.and_self, if_pos rfl, hDd, Int.mul_one (D : Int)]
    have := make_sgn x.n 1 D (by omega) (by omega)
    rw [show x.n * ((1 : Nat) : Int) = x.n * 1 from rfl] at this
    rw [this, red_cross (x := x.n.natAbs) (y := D) _ (by rw [Nat.mul_one]) (by rw [hDd] at hxg; simpa using hxg) (by omega) (by omega) (by omega) (by omega)]
    by_cases hn : x.n < 0
    · simp [hn]; omega
    · simp [hn]; omega
  rw [hfin]
  rfl
end Go.Proofs.YtlfapncbkgpclaaDoor
