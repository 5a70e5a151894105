/- FP, FM, FQ, FN in one text. -/
import Derived.Test.YtgoafobhhmeppaaGreatL2
namespace Go.Proofs.YtgoafobhhmeppaaGreat
structure Gly where
  nm : ByteArray
  ww : Int
  hh : Int
  dd : Int
  ic : Int
  ac : Int
abbrev Gly.c (g : Gly) : Array Value := #[.string g.nm, .int .i64 g.ww, .int .i64 g.hh, .int .i64 g.dd, .int .i64 g.ic, .int .i64 g.ac]
structure Prt where
  nm : ByteArray
  ext : Bool
structure Stc where
  nm : ByteArray
  sizes : List ByteArray
  parts : List Prt
  ov : Int
/-- a name -/
def namB (s : ByteArray) : Bool := (s.data.toList.all fun c => decide (32 ≤ c.toNat) && decide (c.toNat ≤ 126)) && (decide (1 ≤ s.size) && decide (s.size ≤ 16))
def glyB (g : Gly) : Bool := namB g.nm && (inAll 0 20000 [g.ww] && inAll (-20000) 20000 [g.hh, g.dd, g.ic, g.ac])
theorem glyB_iff (g : Gly) : glyB g = true ↔ namB g.nm = true ∧ (0 ≤ g.ww ∧ g.ww ≤ 20000) ∧ (-20000 ≤ g.hh ∧ g.hh ≤ 20000) ∧ (-20000 ≤ g.dd ∧ g.dd ≤ 20000) ∧ (-20000 ≤ g.ic ∧ g.ic ≤ 20000) ∧ (-20000 ≤ g.ac ∧ g.ac ≤ 20000) := by
  unfold glyB inAll
  simp only [List.all_cons, List.all_nil, Bool.and_true, Bool.and_eq_true, decide_eq_true_eq, and_assoc]
/-- the first k glyphs are as required -/
def GlysOk (gs : List Gly) : Prop := ∀ (k : Nat) (g : Gly), gs[k]? = some g → glyB g = true ∧ ∀ (j : Nat) (h : Gly), j < k → gs[j]? = some h → h.nm ≠ g.nm
/-- the height of the glyph with a name -/
def hgt (gs : List Gly) (s : ByteArray) : Option Int := (gs.find? (fun g => decide (g.nm = s))).map (fun g => g.hh + g.dd)
theorem hgt_nil (s : ByteArray) : hgt [] s = none := rfl
theorem hgt_snoc (gs : List Gly) (g : Gly) (s : ByteArray) : hgt (gs ++ [g]) s = (hgt gs s).or (if g.nm = s then some (g.hh + g.dd) else none) := by
  unfold hgt
  rw [List.find?_append]
  cases h : gs.find? (fun g => decide (g.nm = s)) with
  | some x => rfl
  | none =>
    rw [Option.none_or]
    by_cases e : g.nm = s
    · rw [if_pos e]; simp [e]
    · rw [if_neg e]; simp [e]
theorem hgt_some {gs : List Gly} {s : ByteArray} {h : Int} (hh : hgt gs s = some h) : ∃ (k : Nat) (g : Gly), gs[k]? = some g ∧ g.nm = s ∧ h = g.hh + g.dd := by
  unfold hgt at hh
  obtain ⟨g, hg, rfl⟩ := Option.map_eq_some_iff.1 hh
  have h1 := List.find?_some hg
  obtain ⟨k, hk⟩ := List.getElem?_of_mem (List.mem_of_find?_eq_some hg)
  exact ⟨k, g, hk, of_decide_eq_true h1, rfl⟩
theorem hgt_none {gs : List Gly} {s : ByteArray} (hh : hgt gs s = none) : ∀ (k : Nat) (g : Gly), gs[k]? = some g → g.nm ≠ s := fun k g hg e => by
  unfold hgt at hh
  rw [Option.map_eq_none_iff, List.find?_eq_none] at hh
  exact hh g (List.mem_of_getElem? hg) (decide_eq_true e)
theorem hgt_bd {gs : List Gly} {s : ByteArray} {h : Int} (hg : GlysOk gs) (hh : hgt gs s = some h) : -40000 ≤ h ∧ h ≤ 40000 := by
  obtain ⟨k, g, hk, _, rfl⟩ := hgt_some hh
  have := (glyB_iff g).1 (hg k g hk).1
  omega
/-- the sizes of a stretch: glyphs, each greater than the one before -/
def SizesOk (gs : List Gly) (xs : List ByteArray) : Prop := ∀ (k : Nat) (s : ByteArray), xs[k]? = some s → ∃ h, hgt gs s = some h ∧ ∀ (j : Nat) (t : ByteArray) (u : Int), k = j + 1 → xs[j]? = some t → hgt gs t = some u → u < h
def PartsOk (gs : List Gly) (ps : List Prt) (ov : Int) : Prop := (ps = [] ∧ ov = 0) ∨ (ps ≠ [] ∧ (∃ (k : Nat) (p : Prt), ps[k]? = some p ∧ p.ext = true) ∧ 0 ≤ ov ∧ ∀ (k : Nat) (p : Prt), ps[k]? = some p → ∃ h, hgt gs p.nm = some h ∧ ov < h)
def StcOk (gs : List Gly) (s : Stc) : Prop := namB s.nm = true ∧ 1 ≤ s.sizes.length ∧ s.sizes.length ≤ 16 ∧ s.parts.length ≤ 8 ∧ SizesOk gs s.sizes ∧ PartsOk gs s.parts s.ov
def StcsOk (gs : List Gly) (ss : List Stc) : Prop := ∀ (k : Nat) (s : Stc), ss[k]? = some s → StcOk gs s ∧ ∀ (j : Nat) (t : Stc), j < k → ss[j]? = some t → t.nm ≠ s.nm
def FontOk (gs : List Gly) (ss : List Stc) (p : Nat → Int) : Prop := gs.length ≤ 400 ∧ ss.length ≤ 40 ∧ paramsB p = true ∧ GlysOk gs ∧ StcsOk gs ss
theorem bool_of (P : Prop) : ∃ b : Bool, b = true ↔ P := by
  by_cases h : P
  · exact ⟨true, ⟨fun _ => h, fun _ => rfl⟩⟩
  · exact ⟨false, ⟨fun e => (by cases e), fun e => absurd e h⟩⟩
theorem no_of {b : Bool} {P : Prop} (h : b = true ↔ P) (hn : ¬ P) : b = false := by
  cases b with
  | true => exact absurd (h.1 rfl) hn
  | false => rfl
/-- what the program's map of heights holds, of the first glyphs -/
theorem glys_take {gs : List Gly} {k : Nat} (h : GlysOk gs) : GlysOk (gs.take k) := fun i g hi => by
  rw [List.getElem?_take] at hi
  split at hi
  · obtain ⟨h1, h2⟩ := h i g hi
    exact ⟨h1, fun j x hj hx => by
      rw [List.getElem?_take] at hx
      split at hx
      · exact h2 j x hj hx
      · cases hx⟩
  · cases hi
theorem glys_snoc {gs : List Gly} {k : Nat} {g : Gly} (h : GlysOk (gs.take k)) (hg : gs[k]? = some g) (hb : glyB g = true) (hn : hgt (gs.take k) g.nm = none) : GlysOk (gs.take (k + 1)) := fun i x hi => by
  rw [List.getElem?_take] at hi
  split at hi
  · next hlt =>
    rcases Nat.lt_or_ge i k with h1 | h1
    · obtain ⟨h2, h3⟩ := h i x (by rw [List.getElem?_take, if_pos h1]; exact hi)
      refine ⟨h2, fun j y hj hy => ?_⟩
      rw [List.getElem?_take] at hy
      split at hy
      · exact h3 j y hj (by rw [List.getElem?_take, if_pos (by omega)]; exact hy)
      · cases hy
    · obtain rfl : i = k := by omega
      rw [hg] at hi
      obtain rfl := Option.some.inj hi
      refine ⟨hb, fun j y hj hy => ?_⟩
      rw [List.getElem?_take] at hy
      split at hy
      · exact hgt_none hn j y (by rw [List.getElem?_take, if_pos hj]; exact hy)
      · cases hy
  · cases hi
theorem glys_dup {gs : List Gly} {k : Nat} {g : Gly} {h : Int} (hg : gs[k]? = some g) (hn : hgt (gs.take k) g.nm = some h) : ¬ GlysOk gs := fun ho => by
  obtain ⟨j, x, hj, hx, _⟩ := hgt_some hn
  rw [List.getElem?_take] at hj
  split at hj
  · next hlt => exact (ho k g hg).2 j x hlt hj hx
  · cases hj
theorem glys_bad {gs : List Gly} {k : Nat} {g : Gly} (hg : gs[k]? = some g) (hb : glyB g = false) : ¬ GlysOk gs := fun ho => by
  have := (ho k g hg).1
  rw [hb] at this
  cases this
section
open Go.RowKit
theorem fadd_blk (a : Addr) (n : Nat) : (a.add n).block = a.block := by unfold Addr.add; split <;> rfl
theorem fadd_cel {w : World} {a : Addr} {n j : Nat} {v : Option Value} (h : w.cell? (a.add (n + (j + 1))) = v) : w.cell? ⟨(a.add n).block, (a.add n).off + (j + 1), none⟩ = v := by
  rw [← Addr.add_add] at h
  unfold Addr.add at h ⊢
  simpa using h
/-- glyphs -/
def GlysAt (w : World) (A : Option Addr) (gs : List Gly) : Prop := ∀ (i : Nat) (g : Gly), gs[i]? = some g → g.nm.size ≤ 9223372036854775807 ∧ ∃ ad : Addr, A = some ad ∧ ad.block < w.heap.size ∧ ∀ j, j < 6 → w.cell? (ad.add (i * 6 + j)) = g.c[j]?
theorem GlysAt.keep {w w' : World} {A : Option Addr} {gs : List Gly} (hb : Below w.heap.size w w') (h : GlysAt w A gs) : GlysAt w' A gs := fun i g hi => by
  obtain ⟨h1, ad, h2, h3, h4⟩ := h i g hi
  exact ⟨h1, ad, h2, Nat.lt_of_lt_of_le h3 hb.size, fun j hj => (hb.cell (by rw [fadd_blk]; exact h3)).trans (h4 j hj)⟩
/-- the cells of one glyph, as the walk spells them -/
structure GlyAt (w : World) (p : Addr) (g : Gly) : Prop where
  lt : p.block < w.heap.size
  d0 : w.cell? p = some (.string g.nm)
  d1 : w.cell? ⟨p.block, p.off + 1, none⟩ = some (.int .i64 g.ww)
  d2 : w.cell? ⟨p.block, p.off + 2, none⟩ = some (.int .i64 g.hh)
  d3 : w.cell? ⟨p.block, p.off + 3, none⟩ = some (.int .i64 g.dd)
  d4 : w.cell? ⟨p.block, p.off + 4, none⟩ = some (.int .i64 g.ic)
  d5 : w.cell? ⟨p.block, p.off + 5, none⟩ = some (.int .i64 g.ac)
theorem GlyAt.keep {w w' : World} {p : Addr} {g : Gly} (hb : Below w.heap.size w w') (h : GlyAt w p g) : GlyAt w' p g :=
  ⟨Nat.lt_of_lt_of_le h.lt hb.size, (hb.cell h.lt).trans h.d0, (hb.cell (p := ⟨p.block, p.off + 1, none⟩) h.lt).trans h.d1, (hb.cell (p := ⟨p.block, p.off + 2, none⟩) h.lt).trans h.d2, (hb.cell (p := ⟨p.block, p.off + 3, none⟩) h.lt).trans h.d3, (hb.cell (p := ⟨p.block, p.off + 4, none⟩) h.lt).trans h.d4, (hb.cell (p := ⟨p.block, p.off + 5, none⟩) h.lt).trans h.d5⟩
theorem GlysAt.at_ {w : World} {A : Option Addr} {gs : List Gly} (h : GlysAt w A gs) {i : Nat} {g : Gly} (hi : gs[i]? = some g) : ∃ ad : Addr, A = some ad ∧ g.nm.size ≤ 9223372036854775807 ∧ GlyAt w (ad.add (i * 6)) g := by
  obtain ⟨h1, ad, h2, h3, h4⟩ := h i g hi
  exact ⟨ad, h2, h1, by rw [fadd_blk]; exact h3, h4 0 (by omega), fadd_cel (j := 0) (h4 1 (by omega)), fadd_cel (j := 1) (h4 2 (by omega)), fadd_cel (j := 2) (h4 3 (by omega)), fadd_cel (j := 3) (h4 4 (by omega)), fadd_cel (j := 4) (h4 5 (by omega))⟩
/-- strings -/
def StrA (w : World) (A : Option Addr) (xs : List ByteArray) : Prop := ∀ (i : Nat) (s : ByteArray), xs[i]? = some s → s.size ≤ 9223372036854775807 ∧ ∃ ad : Addr, A = some ad ∧ ad.block < w.heap.size ∧ w.cell? (ad.add i) = some (.string s)
theorem StrA.keep {w w' : World} {A : Option Addr} {xs : List ByteArray} (hb : Below w.heap.size w w') (h : StrA w A xs) : StrA w' A xs := fun i g hi => by
  obtain ⟨h1, ad, h2, h3, h4⟩ := h i g hi
  exact ⟨h1, ad, h2, Nat.lt_of_lt_of_le h3 hb.size, (hb.cell (by rw [fadd_blk]; exact h3)).trans h4⟩
/-- parts -/
def PrtA (w : World) (A : Option Addr) (ps : List Prt) : Prop := ∀ (i : Nat) (p : Prt), ps[i]? = some p → p.nm.size ≤ 9223372036854775807 ∧ ∃ ad : Addr, A = some ad ∧ (ad.add (i * 2)).block < w.heap.size ∧ w.cell? (ad.add (i * 2)) = some (.string p.nm) ∧ w.cell? ⟨(ad.add (i * 2)).block, (ad.add (i * 2)).off + 1, none⟩ = some (.bool p.ext)
theorem PrtA.keep {w w' : World} {A : Option Addr} {ps : List Prt} (hb : Below w.heap.size w w') (h : PrtA w A ps) : PrtA w' A ps := fun i g hi => by
  obtain ⟨h1, ad, h2, h3, h4, h5⟩ := h i g hi
  exact ⟨h1, ad, h2, Nat.lt_of_lt_of_le h3 hb.size, (hb.cell h3).trans h4, (hb.cell (p := ⟨(ad.add (i * 2)).block, (ad.add (i * 2)).off + 1, none⟩) h3).trans h5⟩
/-- the cells of a stretch and what they lead to -/
abbrev Stc.c (s : Stc) (A1 : Option Addr) (c1 : Nat) (A2 : Option Addr) (c2 : Nat) : Array Value := #[.string s.nm, .slice A1 s.sizes.length c1, .slice A2 s.parts.length c2, .int .i64 s.ov]
structure StcIn (w : World) (s : Stc) (A1 : Option Addr) (c1 : Nat) (A2 : Option Addr) (c2 : Nat) : Prop where
  nm : s.nm.size ≤ 9223372036854775807
  n1 : s.sizes.length ≤ c1 ∧ c1 ≤ 9223372036854775807
  n2 : s.parts.length ≤ c2 ∧ c2 ≤ 9223372036854775807
  k1 : StrA w A1 s.sizes
  k2 : PrtA w A2 s.parts
theorem StcIn.keep {w w' : World} {s : Stc} {A1 : Option Addr} {c1 : Nat} {A2 : Option Addr} {c2 : Nat} (hb : Below w.heap.size w w') (h : StcIn w s A1 c1 A2 c2) : StcIn w' s A1 c1 A2 c2 := ⟨h.nm, h.n1, h.n2, h.k1.keep hb, h.k2.keep hb⟩
def StcsAt (w : World) (A : Option Addr) (ss : List Stc) : Prop := ∀ (i : Nat) (s : Stc), ss[i]? = some s → ∃ ad : Addr, A = some ad ∧ ad.block < w.heap.size ∧ ∃ A1 c1 A2 c2, StcIn w s A1 c1 A2 c2 ∧ ∀ j, j < 4 → w.cell? (ad.add (i * 4 + j)) = (s.c A1 c1 A2 c2)[j]?
theorem StcsAt.keep {w w' : World} {A : Option Addr} {ss : List Stc} (hb : Below w.heap.size w w') (h : StcsAt w A ss) : StcsAt w' A ss := fun i g hi => by
  obtain ⟨ad, h2, h3, A1, c1, A2, c2, h4, h5⟩ := h i g hi
  exact ⟨ad, h2, Nat.lt_of_lt_of_le h3 hb.size, A1, c1, A2, c2, h4.keep hb, fun j hj => (hb.cell (by rw [fadd_blk]; exact h3)).trans (h5 j hj)⟩
structure StcAt (w : World) (p : Addr) (s : Stc) (A1 : Option Addr) (c1 : Nat) (A2 : Option Addr) (c2 : Nat) : Prop where
  lt : p.block < w.heap.size
  d0 : w.cell? p = some (.string s.nm)
  d1 : w.cell? ⟨p.block, p.off + 1, none⟩ = some (.slice A1 s.sizes.length c1)
  d2 : w.cell? ⟨p.block, p.off + 2, none⟩ = some (.slice A2 s.parts.length c2)
  d3 : w.cell? ⟨p.block, p.off + 3, none⟩ = some (.int .i64 s.ov)
  inn : StcIn w s A1 c1 A2 c2
theorem StcAt.keep {w w' : World} {p : Addr} {s : Stc} {A1 : Option Addr} {c1 : Nat} {A2 : Option Addr} {c2 : Nat} (hb : Below w.heap.size w w') (h : StcAt w p s A1 c1 A2 c2) : StcAt w' p s A1 c1 A2 c2 :=
  ⟨Nat.lt_of_lt_of_le h.lt hb.size, (hb.cell h.lt).trans h.d0, (hb.cell (p := ⟨p.block, p.off + 1, none⟩) h.lt).trans h.d1, (hb.cell (p := ⟨p.block, p.off + 2, none⟩) h.lt).trans h.d2, (hb.cell (p := ⟨p.block, p.off + 3, none⟩) h.lt).trans h.d3, h.inn.keep hb⟩
theorem StcsAt.at_ {w : World} {A : Option Addr} {ss : List Stc} (h : StcsAt w A ss) {i : Nat} {s : Stc} (hi : ss[i]? = some s) : ∃ ad : Addr, A = some ad ∧ ∃ A1 c1 A2 c2, StcAt w (ad.add (i * 4)) s A1 c1 A2 c2 := by
  obtain ⟨ad, h2, h3, A1, c1, A2, c2, h4, h5⟩ := h i s hi
  exact ⟨ad, h2, A1, c1, A2, c2, by rw [fadd_blk]; exact h3, h5 0 (by omega), fadd_cel (j := 0) (h5 1 (by omega)), fadd_cel (j := 1) (h5 2 (by omega)), fadd_cel (j := 2) (h5 3 (by omega)), h4⟩
/-- what a font leads to -/
structure FontAt (A1 : Option Addr) (c1 : Nat) (A2 : Option Addr) (c2 : Nat) (gs : List Gly) (ss : List Stc) (w : World) : Prop where
  n1 : gs.length ≤ c1 ∧ c1 ≤ 9223372036854775807
  n2 : ss.length ≤ c2 ∧ c2 ≤ 9223372036854775807
  k1 : GlysAt w A1 gs
  k2 : StcsAt w A2 ss
theorem FontAt.keep {w w' : World} {A1 : Option Addr} {c1 : Nat} {A2 : Option Addr} {c2 : Nat} {gs : List Gly} {ss : List Stc} (h : FontAt A1 c1 A2 c2 gs ss w) (hb : Below w.heap.size w w') : FontAt A1 c1 A2 c2 gs ss w' := ⟨h.n1, h.n2, h.k1.keep hb, h.k2.keep hb⟩
end
theorem take_at {α : Type} {xs : List α} {k i : Nat} {s : α} (h : (xs.take k)[i]? = some s) : i < k ∧ xs[i]? = some s := by
  rw [List.getElem?_take] at h
  split at h
  · exact ⟨‹_›, h⟩
  · cases h
theorem at_take {α : Type} {xs : List α} {k i : Nat} {s : α} (hk : i < k) (h : xs[i]? = some s) : (xs.take k)[i]? = some s := by
  rw [List.getElem?_take, if_pos hk]; exact h
theorem sizes_none {gs : List Gly} {xs : List ByteArray} {k : Nat} {s : ByteArray} (hs : xs[k]? = some s) (hh : hgt gs s = none) : ¬ SizesOk gs xs := fun h => by
  obtain ⟨x, hx, _⟩ := h k s hs
  rw [hh] at hx
  cases hx
/-- the height of the size before -/
def LastIs (d0 : Int) (gs : List Gly) (xs : List ByteArray) (k : Nat) (last : Int) : Prop := (k = 0 ∧ last = d0) ∨ ∃ (j : Nat) (t : ByteArray), k = j + 1 ∧ xs[j]? = some t ∧ hgt gs t = some last
theorem sizes_le {d0 : Int} {gs : List Gly} {xs : List ByteArray} {k : Nat} {s : ByteArray} {h last : Int} (hs : xs[k]? = some s) (hh : hgt gs s = some h) (hl : LastIs d0 gs xs k last) (hk : 0 < k) (hle : h ≤ last) : ¬ SizesOk gs xs := fun ho => by
  rcases hl with ⟨e, _⟩ | ⟨j, t, rfl, ht, hu⟩
  · omega
  · obtain ⟨x, hx, h2⟩ := ho (j + 1) s hs
    rw [hh] at hx
    obtain rfl := Option.some.inj hx
    have := h2 j t last rfl ht hu
    omega
theorem sizes_snoc {d0 : Int} {gs : List Gly} {xs : List ByteArray} {k : Nat} {s : ByteArray} {h last : Int} (ho : SizesOk gs (xs.take k)) (hs : xs[k]? = some s) (hh : hgt gs s = some h) (hl : LastIs d0 gs xs k last) (hlt : 0 < k → last < h) : SizesOk gs (xs.take (k + 1)) ∧ LastIs d0 gs xs (k + 1) h := by
  refine ⟨fun i x hi => ?_, .inr ⟨k, s, rfl, hs, hh⟩⟩
  obtain ⟨hik, hx⟩ := take_at hi
  rcases Nat.lt_or_ge i k with h1 | h1
  · obtain ⟨y, hy, h2⟩ := ho i x (at_take h1 hx)
    exact ⟨y, hy, fun j t u hj ht hu => h2 j t u hj (at_take (by omega) (take_at ht).2) hu⟩
  · obtain rfl : i = k := by omega
    rw [hs] at hx
    obtain rfl := Option.some.inj hx
    refine ⟨h, hh, fun j t u hj ht hu => ?_⟩
    rcases hl with ⟨e, _⟩ | ⟨j', t', e, ht', hu'⟩
    · omega
    · obtain rfl : j = j' := by omega
      rw [(take_at ht).2] at ht'
      obtain rfl := Option.some.inj ht'
      rw [hu] at hu'
      obtain rfl := Option.some.inj hu'
      exact hlt (by omega)
theorem sizes_all {gs : List Gly} {xs : List ByteArray} (h : SizesOk gs (xs.take xs.length)) : SizesOk gs xs := by rwa [List.take_of_length_le (Nat.le_refl _)] at h
theorem sizes_zero {gs : List Gly} {xs : List ByteArray} : SizesOk gs (xs.take 0) := fun i x hi => by simp at hi
theorem last_bd {gs : List Gly} {xs : List ByteArray} {k : Nat} {last : Int} (hg : GlysOk gs) (hl : LastIs (-60000) gs xs k last) : -60000 ≤ last ∧ last ≤ 40000 := by
  rcases hl with ⟨_, e⟩ | ⟨j, t, _, _, hu⟩
  · omega
  · have := hgt_bd hg hu; omega
theorem last_bd0 {gs : List Gly} {xs : List ByteArray} {k : Nat} {last : Int} (hg : GlysOk gs) (hl : LastIs 0 gs xs k last) : -40000 ≤ last ∧ last ≤ 40000 := by
  rcases hl with ⟨_, e⟩ | ⟨j, t, _, _, hu⟩
  · omega
  · exact hgt_bd hg hu
/-- the first parts are glyphs, and their least height -/
def LeastIs (gs : List Gly) (ps : List Prt) (k : Nat) (least : Int) : Prop := least ≤ 60000 ∧ -40000 ≤ least ∧ ∀ i : Int, i ≤ least ↔ i ≤ 60000 ∧ ∀ (j : Nat) (p : Prt), j < k → ps[j]? = some p → ∃ h, hgt gs p.nm = some h ∧ i ≤ h
def ExtIs (ps : List Prt) (k : Nat) (e : Bool) : Prop := e = true ↔ ∃ (j : Nat) (p : Prt), j < k ∧ ps[j]? = some p ∧ p.ext = true
theorem least_zero (gs : List Gly) (ps : List Prt) : LeastIs gs ps 0 60000 := ⟨Int.le_refl _, by omega, fun i => ⟨fun h => ⟨h, fun j p hj => by omega⟩, fun h => h.1⟩⟩
theorem ext_zero (ps : List Prt) : ExtIs ps 0 false := ⟨fun h => (by cases h), fun ⟨j, p, hj, _⟩ => by omega⟩
theorem least_snoc {gs : List Gly} {ps : List Prt} {k : Nat} {p : Prt} {least h : Int} (hg : GlysOk gs) (hl : LeastIs gs ps k least) (hp : ps[k]? = some p) (hh : hgt gs p.nm = some h) : LeastIs gs ps (k + 1) (min least h) := by
  have hb := hgt_bd hg hh
  obtain ⟨h1, h2, h3⟩ := hl
  refine ⟨by omega, by omega, fun i => ⟨fun hi => ?_, fun hi => ?_⟩⟩
  · obtain ⟨h4, h5⟩ := (h3 i).1 (by omega)
    refine ⟨h4, fun j q hj hq => ?_⟩
    rcases Nat.lt_or_ge j k with h6 | h6
    · exact h5 j q h6 hq
    · obtain rfl : j = k := by omega
      rw [hp] at hq
      obtain rfl := Option.some.inj hq
      exact ⟨h, hh, by omega⟩
  · have h4 := (h3 i).2 ⟨hi.1, fun j q hj hq => hi.2 j q (by omega) hq⟩
    obtain ⟨x, hx, h5⟩ := hi.2 k p (by omega) hp
    rw [hh] at hx
    obtain rfl := Option.some.inj hx
    omega
theorem ext_snoc {ps : List Prt} {k : Nat} {p : Prt} {e : Bool} (he : ExtIs ps k e) (hp : ps[k]? = some p) : ExtIs ps (k + 1) (e || p.ext) := by
  constructor
  · intro h
    rw [Bool.or_eq_true] at h
    rcases h with h | h
    · obtain ⟨j, q, hj, hq, h2⟩ := he.1 h
      exact ⟨j, q, by omega, hq, h2⟩
    · exact ⟨k, p, by omega, hp, h⟩
  · rintro ⟨j, q, hj, hq, h2⟩
    rw [Bool.or_eq_true]
    rcases Nat.lt_or_ge j k with h6 | h6
    · exact .inl (he.2 ⟨j, q, h6, hq, h2⟩)
    · obtain rfl : j = k := by omega
      rw [hp] at hq
      obtain rfl := Option.some.inj hq
      exact .inr h2
theorem ext_all {ps : List Prt} {e : Bool} (he : ExtIs ps ps.length e) : e = true ↔ ∃ (k : Nat) (p : Prt), ps[k]? = some p ∧ p.ext = true :=
  ⟨fun h => let ⟨j, p, _, h1, h2⟩ := he.1 h; ⟨j, p, h1, h2⟩, fun ⟨k, p, h1, h2⟩ => he.2 ⟨k, p, (List.getElem?_eq_some_iff.1 h1).1, h1, h2⟩⟩
theorem parts_none {gs : List Gly} {ps : List Prt} {ov : Int} {k : Nat} {p : Prt} (hp : ps[k]? = some p) (hh : hgt gs p.nm = none) : ¬ PartsOk gs ps ov := fun h => by
  rcases h with ⟨rfl, _⟩ | ⟨_, _, _, h⟩
  · simp at hp
  · obtain ⟨x, hx, _⟩ := h k p hp
    rw [hh] at hx
    cases hx
theorem parts_end {gs : List Gly} {ps : List Prt} {ov least : Int} {e : Bool} (hg : GlysOk gs) (hne : ps ≠ []) (hl : LeastIs gs ps ps.length least) (he : ExtIs ps ps.length e) : ((e && (decide (0 ≤ ov) && decide (ov ≤ least - 1))) = true) ↔ PartsOk gs ps ov := by
  rw [Bool.and_eq_true, Bool.and_eq_true, decide_eq_true_eq, decide_eq_true_eq, ext_all he]
  have hl3 := hl.2.2 (ov + 1)
  constructor
  · rintro ⟨h1, h2, h3⟩
    refine .inr ⟨hne, h1, h2, fun k p hp => ?_⟩
    obtain ⟨x, hx, h4⟩ := (hl3.1 (by omega)).2 k p (List.getElem?_eq_some_iff.1 hp).1 hp
    exact ⟨x, hx, by omega⟩
  · rintro (⟨h1, _⟩ | ⟨_, h1, h2, h3⟩)
    · exact absurd h1 hne
    · refine ⟨h1, h2, ?_⟩
      have : ov + 1 ≤ least := by
        refine hl3.2 ⟨?_, fun j p _ hp => ?_⟩
        · obtain ⟨k, p, hp, _⟩ := h1
          obtain ⟨x, hx, h4⟩ := h3 k p hp
          have := hgt_bd hg hx
          omega
        · obtain ⟨x, hx, h4⟩ := h3 j p hp
          exact ⟨x, hx, by omega⟩
      omega
theorem parts_nil {gs : List Gly} {ov : Int} : PartsOk gs [] ov ↔ ov = 0 := ⟨fun h => by
  rcases h with ⟨_, h⟩ | ⟨h, _⟩
  · exact h
  · exact absurd rfl h, fun h => .inl ⟨rfl, h⟩⟩
/-- the first parts as the reference asks -/
def PartTo (gs : List Gly) (ps : List Prt) (ov : Int) (k : Nat) : Prop := ∀ (j : Nat) (p : Prt), j < k → ps[j]? = some p → ∃ h, hgt gs p.nm = some h ∧ ov < h
theorem part_snoc {gs : List Gly} {ps : List Prt} {ov h : Int} {k : Nat} {p : Prt} (ho : PartTo gs ps ov k) (hp : ps[k]? = some p) (hh : hgt gs p.nm = some h) (hlt : ov < h) : PartTo gs ps ov (k + 1) := fun j q hj hq => by
  rcases Nat.lt_or_ge j k with h6 | h6
  · exact ho j q h6 hq
  · obtain rfl : j = k := by omega
    rw [hp] at hq
    obtain rfl := Option.some.inj hq
    exact ⟨h, hh, hlt⟩
theorem part_low {gs : List Gly} {ps : List Prt} {ov h : Int} {k : Nat} {p : Prt} (hp : ps[k]? = some p) (hh : hgt gs p.nm = some h) (hle : h ≤ ov) : ¬ PartsOk gs ps ov := fun ho => by
  rcases ho with ⟨rfl, _⟩ | ⟨_, _, _, ho⟩
  · simp at hp
  · obtain ⟨x, hx, h4⟩ := ho k p hp
    rw [hh] at hx
    obtain rfl := Option.some.inj hx
    omega
theorem part_end {gs : List Gly} {ps : List Prt} {ov : Int} {e : Bool} (hne : ps ≠ []) (ho : PartTo gs ps ov ps.length) (he : ExtIs ps ps.length e) : ((e && decide (0 ≤ ov)) = true) ↔ PartsOk gs ps ov := by
  rw [Bool.and_eq_true, decide_eq_true_eq, ext_all he]
  constructor
  · rintro ⟨h1, h2⟩
    exact .inr ⟨hne, h1, h2, fun k p hp => ho k p (List.getElem?_eq_some_iff.1 hp).1 hp⟩
  · rintro (⟨h1, _⟩ | ⟨_, h1, h2, _⟩)
    · exact absurd h1 hne
    · exact ⟨h1, h2⟩
theorem stcs_snoc {gs : List Gly} {ss : List Stc} {k : Nat} {s : Stc} (ho : StcsOk gs (ss.take k)) (hs : ss[k]? = some s) (h1 : StcOk gs s) (h2 : ∀ (j : Nat) (t : Stc), j < k → ss[j]? = some t → t.nm ≠ s.nm) : StcsOk gs (ss.take (k + 1)) := fun i x hi => by
  obtain ⟨hik, hx⟩ := take_at hi
  rcases Nat.lt_or_ge i k with h3 | h3
  · obtain ⟨h4, h5⟩ := ho i x (at_take h3 hx)
    exact ⟨h4, fun j t hj ht => h5 j t hj (at_take (by omega) (take_at ht).2)⟩
  · obtain rfl : i = k := by omega
    rw [hs] at hx
    obtain rfl := Option.some.inj hx
    exact ⟨h1, fun j t hj ht => h2 j t hj (take_at ht).2⟩
theorem stcs_zero {gs : List Gly} {ss : List Stc} : StcsOk gs (ss.take 0) := fun i x hi => by simp at hi
theorem stcs_all {gs : List Gly} {ss : List Stc} (h : StcsOk gs (ss.take ss.length)) : StcsOk gs ss := by rwa [List.take_of_length_le (Nat.le_refl _)] at h
theorem stcs_bad {gs : List Gly} {ss : List Stc} {k : Nat} {s : Stc} (hs : ss[k]? = some s) (h : ¬ StcOk gs s) : ¬ StcsOk gs ss := fun ho => h (ho k s hs).1
theorem stcs_dup {gs : List Gly} {ss : List Stc} {k j : Nat} {s t : Stc} (hs : ss[k]? = some s) (hj : j < k) (ht : ss[j]? = some t) (h : t.nm = s.nm) : ¬ StcsOk gs ss := fun ho => (ho k s hs).2 j t hj ht h
/-- names -/
theorem namB_all {s : ByteArray} (h : ∀ (j : Nat) (hj : j < s.size), 32 ≤ s[j].toNat ∧ s[j].toNat ≤ 126) : namB s = (decide (1 ≤ s.size) && decide (s.size ≤ 16)) := by
  unfold namB
  have : (s.data.toList.all fun c => decide (32 ≤ c.toNat) && decide (c.toNat ≤ 126)) = true := by
    rw [List.all_eq_true]
    intro c hc
    obtain ⟨j, hj⟩ := List.getElem?_of_mem hc
    have hlt : j < s.size := by
      have := (List.getElem?_eq_some_iff.1 hj).1
      simpa using this
    have e : s.data.toList[j]? = some s[j] := by
      rw [List.getElem?_eq_getElem (by simpa using hlt)]
      simp [ByteArray.getElem_eq_getElem_data]
    rw [e] at hj
    obtain rfl := Option.some.inj hj
    have := h j hlt
    simp only [Bool.and_eq_true, decide_eq_true_eq]
    exact this
  rw [this, Bool.true_and]
theorem namB_bad {s : ByteArray} {k : Nat} (hk : k < s.size) (h : s[k].toNat < 32 ∨ 126 < s[k].toNat) : namB s = false := by
  have e : s.data.toList[k]? = some s[k] := by
    rw [List.getElem?_eq_getElem (by simpa using hk)]
    simp [ByteArray.getElem_eq_getElem_data]
  have : (s.data.toList.all fun c => decide (32 ≤ c.toNat) && decide (c.toNat ≤ 126)) = false := by
    rw [Bool.eq_false_iff]
    intro ha
    have h2 := List.all_eq_true.1 ha s[k] (List.mem_of_getElem? e)
    simp only [Bool.and_eq_true, decide_eq_true_eq] at h2
    omega
  unfold namB
  rw [this, Bool.false_and]
section
open Go.RowKit
set_option maxHeartbeats 1000000 in
theorem named_any (s : ByteArray) (w : World) (hs : s.size ≤ 9223372036854775807) : Calls Tryz.prog 31 #[.string s] w fun e w' => e = .returned (.bool (namB s)) ∧ w = w' := by
  go_enter Tryz.func31, Tryz.ntmps31
  go_wp2_with fail
  go_loop [3] (fun i => ∃ k : Nat, k ≤ s.size ∧ i = .int .i64 k ∧ Hid (∀ (j : Nat) (hj : j < s.size), j < k → 32 ≤ s[j].toNat ∧ s[j].toNat ≤ 126)) (fun i => s.size - (intOf i).toNat)
  case atStart => exact ⟨0, by omega, rfl, Lib.hid (fun j _ h => by omega)⟩
  case round =>
    obtain ⟨k, hk, rfl, HJ⟩ := hrel
    by_cases hlt : k < s.size
    · by_cases h1 : s[k].toNat < 32
      · have HQ := Lib.hid (namB_bad hlt (.inl h1))
        go_wp2_with fail
        go_ret
        exact ⟨ret_bool HQ.out.symm, rfl⟩
      · by_cases h2 : 126 < s[k].toNat
        · have HQ := Lib.hid (namB_bad hlt (.inr h2))
          go_wp2_with fail
          go_ret
          exact ⟨ret_bool HQ.out.symm, rfl⟩
        · have HN := Lib.hid (show 32 ≤ s[k].toNat ∧ s[k].toNat ≤ 126 by omega)
          go_wp2_with fail
          go_round
          case rel => exact ⟨k + 1, by omega, by go_num, Lib.hid (fun j hj h => by
            rcases Nat.lt_or_ge j k with h3 | h3
            · exact HJ.out j hj h3
            · obtain rfl : j = k := by omega
              exact HN.out)⟩
          case measure => simp [intOf]; omega
    · obtain rfl : k = s.size := by omega
      have HQ := Lib.hid (namB_all (fun j hj => HJ.out j hj hj))
      clear HJ
      by_cases h1 : 1 ≤ s.size
      · have g1 : (1 : Int) ≤ (s.size : Int) := by omega
        rw [decide_eq_true h1, Bool.true_and] at HQ
        by_cases h2 : s.size ≤ 16
        · have g2 : (s.size : Int) ≤ 16 := by omega
          rw [decide_eq_true h2] at HQ
          clear h1 h2
          go_wp2_with fail
          go_ret
          exact ⟨ret_bool HQ.out.symm, rfl⟩
        · have g2 : ¬ (s.size : Int) ≤ 16 := by omega
          rw [decide_eq_false h2] at HQ
          clear h1 h2
          go_wp2_with fail
          go_ret
          exact ⟨ret_bool HQ.out.symm, rfl⟩
      · have g1 : ¬ (1 : Int) ≤ (s.size : Int) := by omega
        rw [decide_eq_false h1, Bool.false_and] at HQ
        clear h1
        go_wp2_with fail
        go_ret
        exact ⟨ret_bool HQ.out.symm, rfl⟩
set_option maxHeartbeats 1000000 in
theorem rname05_any (s : ByteArray) (w : World) (hs : s.size ≤ 9223372036854775807) : Calls Tryz.prog 65 #[.string s] w fun e w' => e = .returned (.bool (namB s)) ∧ w = w' := by
  go_enter Tryz.func65, Tryz.ntmps65
  go_wp2_with fail
  go_loop [3] (fun i => ∃ k : Nat, k ≤ s.size ∧ i = .int .i64 k ∧ Hid (∀ (j : Nat) (hj : j < s.size), j < k → 32 ≤ s[j].toNat ∧ s[j].toNat ≤ 126)) (fun i => s.size - (intOf i).toNat)
  case atStart => exact ⟨0, by omega, rfl, Lib.hid (fun j _ h => by omega)⟩
  case round =>
    obtain ⟨k, hk, rfl, HJ⟩ := hrel
    by_cases hlt : k < s.size
    · by_cases h1 : s[k].toNat < 32
      · have HQ := Lib.hid (namB_bad hlt (.inl h1))
        go_wp2_with fail
        go_ret
        exact ⟨ret_bool HQ.out.symm, rfl⟩
      · by_cases h2 : 126 < s[k].toNat
        · have HQ := Lib.hid (namB_bad hlt (.inr h2))
          go_wp2_with fail
          go_ret
          exact ⟨ret_bool HQ.out.symm, rfl⟩
        · have HN := Lib.hid (show 32 ≤ s[k].toNat ∧ s[k].toNat ≤ 126 by omega)
          go_wp2_with fail
          go_round
          case rel => exact ⟨k + 1, by omega, by go_num, Lib.hid (fun j hj h => by
            rcases Nat.lt_or_ge j k with h3 | h3
            · exact HJ.out j hj h3
            · obtain rfl : j = k := by omega
              exact HN.out)⟩
          case measure => simp [intOf]; omega
    · obtain rfl : k = s.size := by omega
      have HQ := Lib.hid (namB_all (fun j hj => HJ.out j hj hj))
      clear HJ
      by_cases h1 : 1 ≤ s.size
      · have g1 : (1 : Int) ≤ (s.size : Int) := by omega
        rw [decide_eq_true h1, Bool.true_and] at HQ
        by_cases h2 : s.size ≤ 16
        · have g2 : (s.size : Int) ≤ 16 := by omega
          rw [decide_eq_true h2] at HQ
          clear h1 h2
          go_wp2_with fail
          go_ret
          exact ⟨ret_bool HQ.out.symm, rfl⟩
        · have g2 : ¬ (s.size : Int) ≤ 16 := by omega
          rw [decide_eq_false h2] at HQ
          clear h1 h2
          go_wp2_with fail
          go_ret
          exact ⟨ret_bool HQ.out.symm, rfl⟩
      · have g1 : ¬ (1 : Int) ≤ (s.size : Int) := by omega
        rw [decide_eq_false h1, Bool.false_and] at HQ
        clear h1
        go_wp2_with fail
        go_ret
        exact ⟨ret_bool HQ.out.symm, rfl⟩
set_option maxHeartbeats 1000000 in
theorem rwithin_any (n lo hi : Int) (w : World) : Calls Tryz.prog 64 #[.int .i64 n, .int .i64 lo, .int .i64 hi] w fun e w' => e = .returned (.bool (decide (lo ≤ n) && decide (n ≤ hi))) ∧ w = w' := by
  by_cases h1 : lo ≤ n
  · have HQ := Lib.hid (decide_eq_true h1)
    go_enter Tryz.func64, Tryz.ntmps64
    go_wp2_with fail
    go_ret
    exact ⟨ret_bool (by rw [HQ.out, Bool.true_and]), rfl⟩
  · have HQ := Lib.hid (decide_eq_false h1)
    go_enter Tryz.func64, Tryz.ntmps64
    go_wp2_with fail
    go_ret
    exact ⟨ret_bool (by rw [HQ.out, Bool.false_and]), rfl⟩
theorem inAll_cons (lo hi x : Int) (xs : List Int) : inAll lo hi (x :: xs) = ((decide (lo ≤ x) && decide (x ≤ hi)) && inAll lo hi xs) := rfl
/-- the loop of the reference over numbers in a row: where it stands -/
def NumTo (lo hi : Int) (xs : List Int) (k : Nat) : Prop := ∀ (j : Nat) (x : Int), j < k → xs[j]? = some x → lo ≤ x ∧ x ≤ hi
theorem numTo_all {lo hi : Int} {xs : List Int} (h : NumTo lo hi xs xs.length) : inAll lo hi xs = true := inAll_ok fun j x hx => h j x (List.getElem?_eq_some_iff.1 hx).1 hx
theorem numTo_snoc {lo hi x : Int} {xs : List Int} {k : Nat} (h : NumTo lo hi xs k) (hx : xs[k]? = some x) (h1 : lo ≤ x ∧ x ≤ hi) : NumTo lo hi xs (k + 1) := fun j y hj hy => by
  rcases Nat.lt_or_ge j k with h3 | h3
  · exact h j y h3 hy
  · obtain rfl : j = k := by omega
    rw [hx] at hy
    obtain rfl := Option.some.inj hy
    exact h1
set_option maxRecDepth 100000 in
set_option maxHeartbeats 1000000 in
theorem rmetrics_any (g : Gly) (w : World) : Calls Tryz.prog 66 #[.agg g.c] w fun e w' => e = .returned (.bool (inAll (-20000) 20000 [g.ww, g.hh, g.dd, g.ic, g.ac])) ∧ Below w.heap.size w w' := by
  have HB := Lib.hid ((bel_alloc w (.cells g.c 70)).alloc (by simp) (.cells #[.int .i64 g.ww, .int .i64 g.hh, .int .i64 g.dd, .int .i64 g.ic, .int .i64 g.ac] 3))
  have K1 := Lib.hid (Blk.new (w.alloc (.cells g.c 70)) 3 #[.int .i64 g.ww, .int .i64 g.hh, .int .i64 g.dd, .int .i64 g.ic, .int .i64 g.ac])
  rw [show (w.alloc (.cells g.c 70)).heap.size = w.heap.size + 1 by simp] at K1
  go_enter Tryz.func66, Tryz.ntmps66
  go_wp2_with fail
  generalize (w.alloc (.cells _ 70)).alloc (.cells _ 3) = w1 at *
  have HI := Lib.hid (ints_blk (xs := [g.ww, g.hh, g.dd, g.ic, g.ac]) K1.out rfl)
  have HL := Lib.hid (show [g.ww, g.hh, g.dd, g.ic, g.ac].length = 5 from rfl)
  clear K1
  generalize hxs : [g.ww, g.hh, g.dd, g.ic, g.ac] = xs at *
  have HXE := Lib.hid hxs
  clear hxs
  go_loop [4] (fun i => ∃ k : Nat, k ≤ 5 ∧ i = .int .i64 k ∧ Hid (NumTo (-20000) 20000 xs k)) (fun i => 5 - (intOf i).toNat)
  case atStart => exact ⟨0, by omega, rfl, Lib.hid (fun j _ h => by omega)⟩
  case round =>
    obtain ⟨k, hk, rfl, HJ⟩ := hrel
    by_cases hlt : k < 5
    · obtain ⟨x, hx⟩ : ∃ x, xs[k]? = some x := ⟨_, List.getElem?_eq_getElem (by rw [HL.out]; exact hlt)⟩
      obtain ⟨gx, hgx, hgl, d0⟩ := HI.out k x hx
      obtain rfl : w.heap.size + 1 = gx := by simpa using hgx
      have HX := Lib.hid hx
      clear hx hgx
      go_wp2_with fail
      refine (rwithin_any x (-20000) 20000 w1).mono ?_
      rintro e w2 ⟨rfl, rfl⟩
      by_cases hr : -20000 ≤ x ∧ x ≤ 20000
      · have HN := Lib.hid (numTo_snoc HJ.out HX.out hr)
        rw [decide_eq_true hr.1, decide_eq_true hr.2]
        clear hr
        go_wp2_with fail
        go_round
        case rel => exact ⟨k + 1, by omega, by go_num, HN⟩
        case measure => simp [intOf]; omega
      · have HQ := Lib.hid (inAll_no HX.out (show x < -20000 ∨ 20000 < x by omega))
        rw [show (decide (-20000 ≤ x) && decide (x ≤ 20000)) = false by rw [← Bool.decide_and]; exact decide_eq_false hr]
        clear hr
        go_wp2_with fail
        go_ret
        exact ⟨ret_bool (by rw [HXE.out]; exact HQ.out.symm), HB.out⟩
    · obtain rfl : k = 5 := by omega
      have HQ := Lib.hid (numTo_all (by rw [HL.out]; exact HJ.out))
      go_wp2_with fail
      go_ret
      exact ⟨ret_bool (by rw [HXE.out]; exact HQ.out.symm), HB.out⟩
set_option maxHeartbeats 1000000 in
theorem rheight_any (g : Gly) (w : World) (h1 : -20000 ≤ g.hh ∧ g.hh ≤ 20000) (h2 : -20000 ≤ g.dd ∧ g.dd ≤ 20000) : Calls Tryz.prog 68 #[.agg g.c] w fun e w' => e = .returned (.int .i64 (g.hh + g.dd)) ∧ Below w.heap.size w w' := by
  have hb := Lib.hid (bel_alloc w (.cells g.c 70))
  obtain ⟨a1, a2⟩ := h1
  obtain ⟨b1, b2⟩ := h2
  go_enter Tryz.func68, Tryz.ntmps68
  go_wp2_with fail
  go_ret
  exact ⟨rfl, hb.out⟩
end
end Go.Proofs.YtgoafobhhmeppaaGreat
