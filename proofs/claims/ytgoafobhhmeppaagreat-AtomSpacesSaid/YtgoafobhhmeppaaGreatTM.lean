/- Trees of nodes in memory. -/
import Derived.Test.YtgoafobhhmeppaaGreatAR
import Derived.Test.YtgoafobhhmeppaaGreatGS1
namespace Go.Proofs.YtgoafobhhmeppaaGreat
open Go.RowKit
/-- the four cells of a node with its kids -/
inductive NodAt (w : World) : Tre → Array Value → Prop
  | mk (k : Int) (s : ByteArray) (c : Int) (ks : List Tre) (A : Option Addr) (cap : Nat) (ad : Addr) (cs : Nat → Array Value) (hs : s.size ≤ 9223372036854775807) (hn : ks.length ≤ cap) (hc : cap ≤ 9223372036854775807)
      (hA : ks = [] ∨ (A = some ad ∧ ad.block < w.heap.size)) (hcell : ∀ i, i < ks.length → ∀ j, j < 4 → w.cell? (ad.add (i * 4 + j)) = (cs i)[j]?)
      (hk : ∀ (i : Nat) (h : i < ks.length), NodAt w ks[i] (cs i)) : NodAt w (.mk k s c ks) #[.int .i64 k, .string s, .int .i64 c, .slice A ks.length cap]
/-- nodes in a row -/
def KidsAt (w : World) (A : Option Addr) (ts : List Tre) : Prop := ∀ (i : Nat) (t : Tre), ts[i]? = some t → ∃ ad : Addr, A = some ad ∧ ad.block < w.heap.size ∧ ∃ c, NodAt w t c ∧ ∀ j, j < 4 → w.cell? (ad.add (i * 4 + j)) = c[j]?
theorem add_blk (a : Addr) (n : Nat) : (a.add n).block = a.block := by unfold Addr.add; split <;> rfl
theorem NodAt.keep {w w' : World} (hb : Below w.heap.size w w') {t : Tre} {c : Array Value} (h : NodAt w t c) : NodAt w' t c := by
  induction h with
  | mk k s c ks A cap ad cs hs hn hc hA hcell hk ih =>
    refine .mk k s c ks A cap ad cs hs hn hc (hA.imp id fun ⟨h1, h2⟩ => ⟨h1, Nat.lt_of_lt_of_le h2 hb.size⟩) (fun i hi j hj => ?_) ih
    rcases hA with h | ⟨h1, h2⟩
    · subst h; simp at hi
    · rw [hb.cell (by rw [add_blk]; exact h2)]; exact hcell i hi j hj
theorem KidsAt.keep {w w' : World} (hb : Below w.heap.size w w') {A : Option Addr} {ts : List Tre} (h : KidsAt w A ts) : KidsAt w' A ts := fun i t hi => by
  obtain ⟨ad, h1, h2, c, h3, h4⟩ := h i t hi
  exact ⟨ad, h1, Nat.lt_of_lt_of_le h2 hb.size, c, h3.keep hb, fun j hj => by rw [hb.cell (by rw [add_blk]; exact h2)]; exact h4 j hj⟩
theorem NodAt.form {w : World} {t : Tre} {c : Array Value} (h : NodAt w t c) : ∃ A cap, c = #[.int .i64 t.kind, .string t.text, .int .i64 t.cols, .slice A t.kids.length cap] ∧ t.text.size ≤ 9223372036854775807 ∧ t.kids.length ≤ cap ∧ cap ≤ 9223372036854775807 ∧ KidsAt w A t.kids := by
  cases h with
  | mk k s c ks A cap ad cs hs hn hc hA hcell hk =>
    refine ⟨A, cap, rfl, hs, hn, hc, fun i t hi => ?_⟩
    obtain ⟨hl, rfl⟩ := List.getElem?_eq_some_iff.1 hi
    rcases hA with h | ⟨h1, h2⟩
    · rw [show (Tre.mk k s c ks).kids = ks from rfl] at hl
      subst h
      simp at hl
    · exact ⟨ad, h1, h2, cs i, hk i hl, hcell i hl⟩
theorem NodAt.of {w : World} {k : Int} {s : ByteArray} {c : Int} {ks : List Tre} {A : Option Addr} {cap : Nat} (hs : s.size ≤ 9223372036854775807) (hn : ks.length ≤ cap) (hc : cap ≤ 9223372036854775807) (h : KidsAt w A ks) : NodAt w (.mk k s c ks) #[.int .i64 k, .string s, .int .i64 c, .slice A ks.length cap] := by
  cases ks with
  | nil => exact .mk k s c [] A cap ⟨0, 0, none⟩ (fun _ => #[]) hs hn hc (.inl rfl) (fun i hi => by simp at hi) (fun i hi => by simp at hi)
  | cons t ts =>
    obtain ⟨ad, hA, hlt, _⟩ := h 0 t rfl
    have hx : ∀ i, ∃ cc : Array Value, ∀ (hi : i < (t :: ts).length), NodAt w (t :: ts)[i] cc ∧ ∀ j, j < 4 → w.cell? (ad.add (i * 4 + j)) = cc[j]? := fun i => by
      by_cases hi : i < (t :: ts).length
      · obtain ⟨ad', hA', _, cc, h1, h2⟩ := h i _ (List.getElem?_eq_getElem hi)
        obtain rfl := Option.some.inj (hA.symm.trans hA')
        exact ⟨cc, fun _ => ⟨h1, h2⟩⟩
      · exact ⟨#[], fun h => absurd h hi⟩
    exact .mk k s c (t :: ts) A cap ad (fun i => (hx i).choose) hs hn hc (.inr ⟨hA, hlt⟩) (fun i hi => ((hx i).choose_spec hi).2) (fun i hi => ((hx i).choose_spec hi).1)
theorem add_cel {w : World} {a : Addr} {n j : Nat} {v : Option Value} (h : w.cell? (a.add (n + (j + 1))) = v) : w.cell? ⟨(a.add n).block, (a.add n).off + (j + 1), none⟩ = v := by
  rw [← Addr.add_add] at h
  unfold Addr.add at h ⊢
  simpa using h
/-- the four cells of a kid, as a walk spells them -/
theorem KidsAt.at_ {w : World} {A : Option Addr} {ts : List Tre} (h : KidsAt w A ts) {i : Nat} {t : Tre} (hi : ts[i]? = some t) :
    ∃ ad A2 cap2, A = some ad ∧ ad.block < w.heap.size ∧ t.text.size ≤ 9223372036854775807 ∧ t.kids.length ≤ cap2 ∧ cap2 ≤ 9223372036854775807 ∧ KidsAt w A2 t.kids ∧ NodAt w t #[.int .i64 t.kind, .string t.text, .int .i64 t.cols, .slice A2 t.kids.length cap2] ∧ w.cell? (ad.add (i * 4)) = some (.int .i64 t.kind) ∧ w.cell? ⟨(ad.add (i * 4)).block, (ad.add (i * 4)).off + 1, none⟩ = some (.string t.text) ∧ w.cell? ⟨(ad.add (i * 4)).block, (ad.add (i * 4)).off + 2, none⟩ = some (.int .i64 t.cols) ∧ w.cell? ⟨(ad.add (i * 4)).block, (ad.add (i * 4)).off + 3, none⟩ = some (.slice A2 t.kids.length cap2) := by
  obtain ⟨ad, h1, h2, c, h3, h4⟩ := h i t hi
  obtain ⟨A2, cap2, rfl, hs, hn, hc, hk⟩ := h3.form
  exact ⟨ad, A2, cap2, h1, h2, hs, hn, hc, hk, h3, h4 0 (by omega), add_cel (j := 0) (h4 1 (by omega)), add_cel (j := 1) (h4 2 (by omega)), add_cel (j := 2) (h4 3 (by omega))⟩
end Go.Proofs.YtgoafobhhmeppaaGreat
