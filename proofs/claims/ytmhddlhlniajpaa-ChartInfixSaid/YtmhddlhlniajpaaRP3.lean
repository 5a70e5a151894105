/- The reference's check, the order of readings: plain. -/
import Derived.Test.YtmhddlhlniajpaaRP2
namespace Go.Proofs.Ytmhddlhlniajpaa
def tokI (ts : List ByteArray) (k : Int) (s : List UInt8) : Bool := decide (0 ≤ k) && tokB ts k.toNat s
/-- what the reference says of a part with one kid -/
def endOne (rs : List Rul) (ts : List ByteArray) (u : Rul) (a : Int) (y : Rd) (e : Int) : Int :=
  if u.kind = 2 ∧ tokI ts a u.sym.toList = true ∧ y.at_ = a + 1 ∧ u.right ≤ precI rs y.rule then e
  else if u.kind = 3 ∧ y.at_ = a ∧ e < (ts.length : Int) ∧ tokI ts e u.sym.toList = true ∧ u.left ≤ precI rs y.rule then e + 1 else -1
/-- and of one with two -/
def endTwo (rs : List Rul) (ts : List ByteArray) (u : Rul) (a : Int) (y z : Rd) (e f : Int) : Int :=
  if y.at_ ≠ a ∨ precI rs y.rule < u.left ∨ precI rs z.rule < u.right then -1
  else if u.kind = 1 ∧ z.at_ = e + 1 ∧ tokI ts e u.sym.toList = true then f
  else if u.kind = 4 ∧ z.at_ = e then f else -1
/-- the reference's end of a part, or -1 -/
def endR (rs : List Rul) (ts : List ByteArray) (x : Rd) : Int := match x with
  | .mk r a ks =>
    if a < 0 ∨ (ts.length : Int) ≤ a ∨ r < -1 ∨ (rs.length : Int) ≤ r then -1
    else if r = -1 then (if tokI ts a opndL = true ∧ ks.isEmpty = true then a + 1 else -1)
    else match rs[r.toNat]? with
      | none => -1
      | some u => match ks with
        | [] => -1
        | [y] => if endR rs ts y < 0 then -1 else endOne rs ts u a y (endR rs ts y)
        | [y, z] => if endR rs ts y < 0 then -1 else if endR rs ts z < 0 then -1 else endTwo rs ts u a y z (endR rs ts y) (endR rs ts z)
        | _ => -1
  termination_by x
theorem tokI_nat {ts : List ByteArray} {k : Nat} {s : List UInt8} : tokI ts k s = tokB ts k s := by
  unfold tokI
  rw [decide_eq_true (by omega), Bool.true_and, Int.toNat_natCast]
/-- a reading ends where it should -/
theorem end_of_mem {rs : List Rul} {ts : List ByteArray} : ∀ (m i j : Nat) (x : Rd), j - i ≤ m → j ≤ ts.length → x ∈ allR rs ts i j → endR rs ts x = j := by
  intro m
  induction m with
  | zero => intro i j x h _ hx; have := mem_lt hx; omega
  | succ m ih =>
    intro i j x hm hj hx
    have hij := mem_lt hx
    rcases (mem_all hij).1 hx with ⟨h1, h2, rfl⟩ | ⟨n, u, hu, h⟩
    · rw [endR, if_neg (by omega), if_pos rfl, tokI_nat, if_pos ⟨h2, rfl⟩]
      omega
    · have hn := (List.getElem?_eq_some_iff.1 hu).1
      have step : ∀ ks, endR rs ts (.mk n i ks) = match ks with
        | [] => -1
        | [y] => if endR rs ts y < 0 then -1 else endOne rs ts u i y (endR rs ts y)
        | [y, z] => if endR rs ts y < 0 then -1 else if endR rs ts z < 0 then -1 else endTwo rs ts u i y z (endR rs ts y) (endR rs ts z)
        | _ => -1 := by
        intro ks
        rw [endR, if_neg (by omega), if_neg (by omega), Int.toNat_natCast, hu]
      rcases h with ⟨hk, k, y, z, h3, h4, h5, hy, hz, rfl⟩ | ⟨hk, y, h5, hy, rfl⟩ | ⟨hk, y, h5, hy, rfl⟩ | ⟨hk, k, y, z, h3, h4, hy, hz, rfl⟩
      · rw [mem_least] at hy hz
        have ey := ih i k y (by omega) (by omega) hy.1
        have ez := ih (k + 1) j z (by omega) (by omega) hz.1
        have ay := mem_at hy.1
        have az := mem_at hz.1
        rw [step]
        dsimp only
        rw [ey, ez, if_neg (by omega), if_neg (by omega)]
        unfold endTwo
        rw [if_neg (by rintro (h | h | h); exact h ay; omega; omega), if_pos ⟨hk, by omega, by rw [tokI_nat]; exact h5⟩]
      · rw [mem_least] at hy
        have ey := ih (i + 1) j y (by omega) (by omega) hy.1
        have ay := mem_at hy.1
        rw [step]
        dsimp only
        rw [ey, if_neg (by omega)]
        unfold endOne
        rw [if_pos ⟨hk, by rw [tokI_nat]; exact h5, by omega, hy.2⟩]
      · rw [mem_least] at hy
        have ey := ih i (j - 1) y (by omega) (by omega) hy.1
        have ay := mem_at hy.1
        rw [step]
        dsimp only
        rw [ey, if_neg (by omega)]
        unfold endOne
        rw [if_neg (by omega), if_pos ⟨hk, ay, by omega, by rw [tokI_nat]; exact h5, hy.2⟩]
        omega
      · rw [mem_least] at hy hz
        have ey := ih i k y (by omega) (by omega) hy.1
        have ez := ih k j z (by omega) (by omega) hz.1
        have ay := mem_at hy.1
        have az := mem_at hz.1
        rw [step]
        dsimp only
        rw [ey, ez, if_neg (by omega), if_neg (by omega)]
        unfold endTwo
        rw [if_neg (by rintro (h | h | h); exact h ay; omega; omega), if_neg (by omega), if_pos ⟨hk, by omega⟩]
/-- what has an end is a reading -/
theorem mem_of_end {rs : List Rul} {ts : List ByteArray} : ∀ (m : Nat) (x : Rd), sizeR x ≤ m → 0 ≤ endR rs ts x → ∃ i j : Nat, x.at_ = i ∧ endR rs ts x = j ∧ j ≤ ts.length ∧ x ∈ allR rs ts i j := by
  intro m
  induction m with
  | zero => intro x h; obtain ⟨r, a, ks⟩ := x; simp only [sizeR] at h; omega
  | succ m ih =>
    intro x hm h0
    obtain ⟨r, a, ks⟩ := x
    rw [endR] at h0 ⊢
    by_cases hb : a < 0 ∨ (ts.length : Int) ≤ a ∨ r < -1 ∨ (rs.length : Int) ≤ r
    · rw [if_pos hb] at h0; omega
    rw [if_neg hb] at h0 ⊢
    obtain ⟨i, rfl⟩ : ∃ i : Nat, a = i := ⟨a.toNat, by omega⟩
    by_cases hr : r = -1
    · subst hr
      rw [if_pos rfl] at h0 ⊢
      by_cases ht : tokI ts i opndL = true ∧ ks.isEmpty = true
      · rw [if_pos ht] at h0 ⊢
        refine ⟨i, i + 1, rfl, by omega, by omega, (mem_all (by omega)).2 (.inl ⟨rfl, by rw [← tokI_nat]; exact ht.1, ?_⟩)⟩
        rw [List.isEmpty_iff.1 ht.2]
      · rw [if_neg ht] at h0; omega
    rw [if_neg hr] at h0 ⊢
    obtain ⟨n, rfl⟩ : ∃ n : Nat, r = n := ⟨r.toNat, by omega⟩
    rw [Int.toNat_natCast] at h0 ⊢
    obtain ⟨u, hu⟩ : ∃ u, rs[n]? = some u := ⟨_, List.getElem?_eq_getElem (by omega)⟩
    rw [hu] at h0 ⊢
    dsimp only at h0 ⊢
    match ks, hm with
    | [], _ => dsimp only at h0; omega
    | y :: z :: c :: l, _ => dsimp only at h0; omega
    | [y], hm =>
      dsimp only at h0 ⊢
      by_cases hy : endR rs ts y < 0
      · rw [if_pos hy] at h0; omega
      rw [if_neg hy] at h0 ⊢
      obtain ⟨i', j', ay, ey, hj, my⟩ := ih y (by simp only [sizeR, sizeL] at hm; omega) (by omega)
      have hlt := mem_lt my
      rw [ey] at h0 ⊢
      unfold endOne at h0 ⊢
      by_cases h2 : u.kind = 2 ∧ tokI ts i u.sym.toList = true ∧ y.at_ = i + 1 ∧ u.right ≤ precI rs y.rule
      · rw [if_pos h2]
        obtain rfl : i' = i + 1 := by omega
        refine ⟨i, j', rfl, rfl, hj, (mem_all (by omega)).2 (.inr ⟨n, u, hu, .inr (.inl ⟨h2.1, y, by rw [← tokI_nat]; exact h2.2.1, mem_least.2 ⟨my, h2.2.2.2⟩, rfl⟩)⟩)⟩
      · rw [if_neg h2] at h0 ⊢
        by_cases h3 : u.kind = 3 ∧ y.at_ = i ∧ (j' : Int) < (ts.length : Int) ∧ tokI ts j' u.sym.toList = true ∧ u.left ≤ precI rs y.rule
        · rw [if_pos h3]
          obtain rfl : i' = i := by omega
          refine ⟨i', j' + 1, rfl, by omega, by omega, (mem_all (by omega)).2 (.inr ⟨n, u, hu, .inr (.inr (.inl ⟨h3.1, y, by rw [← tokI_nat]; exact h3.2.2.2.1, mem_least.2 ⟨my, h3.2.2.2.2⟩, rfl⟩))⟩)⟩
        · rw [if_neg h3] at h0; omega
    | [y, z], hm =>
      dsimp only at h0 ⊢
      by_cases hy : endR rs ts y < 0
      · rw [if_pos hy] at h0; omega
      rw [if_neg hy] at h0 ⊢
      by_cases hz : endR rs ts z < 0
      · rw [if_pos hz] at h0; omega
      rw [if_neg hz] at h0 ⊢
      obtain ⟨i', j', ay, ey, hj, my⟩ := ih y (by simp only [sizeR, sizeL] at hm; omega) (by omega)
      obtain ⟨i2, j2, az, ez, hj2, mz⟩ := ih z (by simp only [sizeR, sizeL] at hm; omega) (by omega)
      have hlt := mem_lt my
      have hlt2 := mem_lt mz
      rw [ey, ez] at h0 ⊢
      unfold endTwo at h0 ⊢
      by_cases h2 : y.at_ ≠ i ∨ precI rs y.rule < u.left ∨ precI rs z.rule < u.right
      · rw [if_pos h2] at h0; omega
      rw [if_neg h2] at h0 ⊢
      have hay : y.at_ = i := Classical.byContradiction fun h => h2 (.inl h)
      have hly : u.left ≤ precI rs y.rule := by omega
      have hlz : u.right ≤ precI rs z.rule := by omega
      obtain rfl : i' = i := by omega
      by_cases h3 : u.kind = 1 ∧ z.at_ = j' + 1 ∧ tokI ts j' u.sym.toList = true
      · rw [if_pos h3]
        obtain rfl : i2 = j' + 1 := by omega
        exact ⟨i', j2, rfl, rfl, hj2, (mem_all (by omega)).2 (.inr ⟨n, u, hu, .inl ⟨h3.1, j', y, z, hlt, by omega, by rw [← tokI_nat]; exact h3.2.2, mem_least.2 ⟨my, hly⟩, mem_least.2 ⟨mz, hlz⟩, rfl⟩⟩)⟩
      · rw [if_neg h3] at h0 ⊢
        by_cases h4 : u.kind = 4 ∧ z.at_ = j'
        · rw [if_pos h4]
          obtain rfl : i2 = j' := by omega
          exact ⟨i', j2, rfl, rfl, hj2, (mem_all (by omega)).2 (.inr ⟨n, u, hu, .inr (.inr (.inr ⟨h4.1, i2, y, z, hlt, by omega, mem_least.2 ⟨my, hly⟩, mem_least.2 ⟨mz, hlz⟩, rfl⟩))⟩)⟩
        · rw [if_neg h4] at h0; omega
/-- the reference's check: exactly the readings -/
theorem end_mem {rs : List Rul} {ts : List ByteArray} (x : Rd) : (x.at_ = 0 ∧ endR rs ts x = (ts.length : Int) ∧ 0 < ts.length) ↔ x ∈ allR rs ts 0 ts.length := by
  constructor
  · rintro ⟨h1, h2, h3⟩
    obtain ⟨i, j, ha, he, _, hm⟩ := mem_of_end (rs := rs) (ts := ts) (sizeR x) x (Nat.le_refl _) (by omega)
    obtain rfl : i = 0 := by omega
    obtain rfl : j = ts.length := by omega
    exact hm
  · intro h
    exact ⟨mem_at h, end_of_mem _ 0 _ x (Nat.le_refl _) (Nat.le_refl _) h, mem_lt h⟩
theorem prec_nonneg {rs : List Rul} (hv : validB rs = true) {ts : List ByteArray} {i j : Nat} {x : Rd} (h : x ∈ allR rs ts i j) : 0 ≤ precI rs x.rule ∧ precI rs x.rule ≤ 101 := by
  rcases (mem_all (mem_lt h)).1 h with ⟨_, _, rfl⟩ | ⟨n, u, hu, h⟩
  · show 0 ≤ precI rs (-1) ∧ precI rs (-1) ≤ 101
    unfold precI
    rw [if_pos (by omega)]
    omega
  · rw [(rule_at h).2, precI_nat hu]
    have ho := valid_own hv hu
    unfold ownB at ho
    simp only [Bool.and_eq_true, inR, decide_eq_true_eq] at ho
    omega
/-- the program's check of all tokens -/
theorem chk_all {rs : List Rul} (hv : validB rs = true) {ts : List ByteArray} (x : Rd) : chkR rs ts x 0 ts.length 0 = true ↔ x ∈ allR rs ts 0 ts.length := by
  rw [chk_mem hv _ x 0 ts.length 0 (Nat.le_refl _), mem_least]
  exact ⟨fun h => h.1, fun h => ⟨h, (prec_nonneg hv h).1⟩⟩
end Go.Proofs.Ytmhddlhlniajpaa
