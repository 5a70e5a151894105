/- Terms in memory. -/
import Derived.Test.YtpokelkneblafaaGreatDoorSM
import Derived.Test.YtpokelkneblafaaGreatDoorGS1
namespace Go.Proofs.YtpokelkneblafaaGreatDoor
open Go.RowKit
abbrev trmC (k : Int) (a v : ByteArray) (A : Option Addr) (n cap : Nat) (f : ByteArray) : Array Value := #[.int .i64 k, .string a, .string v, .slice A n cap, .string f]
/-- the five cells of a term with its arguments -/
inductive MAt (w : World) : Trm → Array Value → Prop
  | mk (k : Int) (a v f : ByteArray) (ts : List Trm) (A : Option Addr) (cap : Nat) (ad : Addr) (cs : Nat → Array Value) (ha : a.size ≤ 9223372036854775807) (hv : v.size ≤ 9223372036854775807) (hf : f.size ≤ 9223372036854775807) (hn : ts.length ≤ cap) (hc : cap ≤ 9223372036854775807)
      (hA : ts = [] ∨ (A = some ad ∧ ad.block < w.heap.size)) (hcell : ∀ i, i < ts.length → ∀ j, j < 5 → w.cell? (ad.add (i * 5 + j)) = (cs i)[j]?)
      (hk : ∀ (i : Nat) (h : i < ts.length), MAt w ts[i] (cs i)) : MAt w (.mk k a v f ts) (trmC k a v A ts.length cap f)
/-- terms in a row -/
def ArgsAt (w : World) (A : Option Addr) (ts : List Trm) : Prop := ∀ (i : Nat) (t : Trm), ts[i]? = some t → ∃ ad : Addr, A = some ad ∧ ad.block < w.heap.size ∧ ∃ c, MAt w t c ∧ ∀ j, j < 5 → w.cell? (ad.add (i * 5 + j)) = c[j]?
theorem add_blk (a : Addr) (n : Nat) : (a.add n).block = a.block := by unfold Addr.add; split <;> rfl
theorem MAt.keep {w w' : World} (hb : Below w.heap.size w w') {t : Trm} {c : Array Value} (h : MAt w t c) : MAt w' t c := by
  induction h with
  | mk k a v f ts A cap ad cs ha hv hf hn hc hA hcell hk ih =>
    refine .mk k a v f ts A cap ad cs ha hv hf hn hc (hA.imp id fun ⟨h1, h2⟩ => ⟨h1, Nat.lt_of_lt_of_le h2 hb.size⟩) (fun i hi j hj => ?_) ih
    rcases hA with h | ⟨h1, h2⟩
    · subst h; simp at hi
    · rw [hb.cell (by rw [add_blk]; exact h2)]; exact hcell i hi j hj
theorem ArgsAt.keep {w w' : World} (hb : Below w.heap.size w w') {A : Option Addr} {ts : List Trm} (h : ArgsAt w A ts) : ArgsAt w' A ts := fun i t hi => by
  obtain ⟨ad, h1, h2, c, h3, h4⟩ := h i t hi
  exact ⟨ad, h1, Nat.lt_of_lt_of_le h2 hb.size, c, h3.keep hb, fun j hj => by rw [hb.cell (by rw [add_blk]; exact h2)]; exact h4 j hj⟩
theorem MAt.form {w : World} {t : Trm} {c : Array Value} (h : MAt w t c) : ∃ A cap, c = trmC t.kind t.nam t.vr A t.args.length cap t.form ∧ t.nam.size ≤ 9223372036854775807 ∧ t.vr.size ≤ 9223372036854775807 ∧ t.form.size ≤ 9223372036854775807 ∧ t.args.length ≤ cap ∧ cap ≤ 9223372036854775807 ∧ ArgsAt w A t.args := by
  cases h with
  | mk k a v f ts A cap ad cs ha hv hf hn hc hA hcell hk =>
    refine ⟨A, cap, rfl, ha, hv, hf, hn, hc, fun i t hi => ?_⟩
    obtain ⟨hl, rfl⟩ := List.getElem?_eq_some_iff.1 hi
    rcases hA with h | ⟨h1, h2⟩
    · rw [show (Trm.mk k a v f ts).args = ts from rfl] at hl
      subst h
      simp at hl
    · exact ⟨ad, h1, h2, cs i, hk i hl, hcell i hl⟩
theorem MAt.of {w : World} {k : Int} {a v f : ByteArray} {ts : List Trm} {A : Option Addr} {cap : Nat} (ha : a.size ≤ 9223372036854775807) (hv : v.size ≤ 9223372036854775807) (hf : f.size ≤ 9223372036854775807) (hn : ts.length ≤ cap) (hc : cap ≤ 9223372036854775807) (h : ArgsAt w A ts) : MAt w (.mk k a v f ts) (trmC k a v A ts.length cap f) := by
  cases ts with
  | nil => exact .mk k a v f [] A cap ⟨0, 0, none⟩ (fun _ => #[]) ha hv hf hn hc (.inl rfl) (fun i hi => by simp at hi) (fun i hi => by simp at hi)
  | cons t ts =>
    obtain ⟨ad, hA, hlt, _⟩ := h 0 t rfl
    have hx : ∀ i, ∃ cc : Array Value, ∀ (hi : i < (t :: ts).length), MAt w (t :: ts)[i] cc ∧ ∀ j, j < 5 → w.cell? (ad.add (i * 5 + j)) = cc[j]? := fun i => by
      by_cases hi : i < (t :: ts).length
      · obtain ⟨ad', hA', _, cc, h1, h2⟩ := h i _ (List.getElem?_eq_getElem hi)
        obtain rfl := Option.some.inj (hA.symm.trans hA')
        exact ⟨cc, fun _ => ⟨h1, h2⟩⟩
      · exact ⟨#[], fun h => absurd h hi⟩
    exact .mk k a v f (t :: ts) A cap ad (fun i => (hx i).choose) ha hv hf hn hc (.inr ⟨hA, hlt⟩) (fun i hi => ((hx i).choose_spec hi).2) (fun i hi => ((hx i).choose_spec hi).1)
theorem add_cel {w : World} {a : Addr} {n j : Nat} {v : Option Value} (h : w.cell? (a.add (n + (j + 1))) = v) : w.cell? ⟨(a.add n).block, (a.add n).off + (j + 1), none⟩ = v := by
  rw [← Addr.add_add] at h
  unfold Addr.add at h ⊢
  simpa using h
/-- a term at an address -/
def PtM (w : World) (p : Addr) (t : Trm) (A : Option Addr) (cap : Nat) : Prop :=
  p.block < w.heap.size ∧ w.cell? p = some (.int .i64 t.kind) ∧ w.cell? ⟨p.block, p.off + 1, none⟩ = some (.string t.nam) ∧ w.cell? ⟨p.block, p.off + 2, none⟩ = some (.string t.vr) ∧ w.cell? ⟨p.block, p.off + 3, none⟩ = some (.slice A t.args.length cap) ∧ w.cell? ⟨p.block, p.off + 4, none⟩ = some (.string t.form)
    ∧ t.nam.size ≤ 9223372036854775807 ∧ t.vr.size ≤ 9223372036854775807 ∧ t.form.size ≤ 9223372036854775807 ∧ t.args.length ≤ cap ∧ cap ≤ 9223372036854775807 ∧ ArgsAt w A t.args
theorem PtM.keep {w w' : World} (hb : Below w.heap.size w w') {p : Addr} {t : Trm} {A : Option Addr} {cap : Nat} (h : PtM w p t A cap) : PtM w' p t A cap := by
  obtain ⟨h1, c0, c1, c2, c3, c4, h2, h3, h4, h5, h6, h7⟩ := h
  exact ⟨Nat.lt_of_lt_of_le h1 hb.size, (hb.cell h1).trans c0, (hb.cell (p := ⟨p.block, p.off + 1, none⟩) h1).trans c1, (hb.cell (p := ⟨p.block, p.off + 2, none⟩) h1).trans c2, (hb.cell (p := ⟨p.block, p.off + 3, none⟩) h1).trans c3, (hb.cell (p := ⟨p.block, p.off + 4, none⟩) h1).trans c4, h2, h3, h4, h5, h6, h7.keep hb⟩
theorem PtM.box {w : World} {g : Nat} {t : Trm} {A : Option Addr} {cap : Nat} (hK : Blk w g 25 (trmC t.kind t.nam t.vr A t.args.length cap t.form)) (ha : t.nam.size ≤ 9223372036854775807) (hv : t.vr.size ≤ 9223372036854775807) (hf : t.form.size ≤ 9223372036854775807) (hn : t.args.length ≤ cap) (hc : cap ≤ 9223372036854775807) (h : ArgsAt w A t.args) : PtM w ⟨g, 0, none⟩ t A cap :=
  ⟨hK.lt, hK.cell 0, hK.cell 1, hK.cell 2, hK.cell 3, hK.cell 4, ha, hv, hf, hn, hc, h⟩
theorem PtM.whole {w : World} {p : Addr} {t : Trm} {A : Option Addr} {cap : Nat} (h : PtM w p t A cap) : MAt w t (trmC t.kind t.nam t.vr A t.args.length cap t.form) := by
  obtain ⟨h1, c0, c1, c2, c3, c4, h2, h3, h4, h5, h6, h7⟩ := h
  obtain ⟨k, a, v, f, ts⟩ := t
  exact MAt.of h2 h3 h4 h5 h6 h7
/-- an argument at its place -/
theorem ArgsAt.at_ {w : World} {A : Option Addr} {ts : List Trm} (h : ArgsAt w A ts) {i : Nat} {t : Trm} (hi : ts[i]? = some t) :
    ∃ ad A2 cap2, A = some ad ∧ ad.block < w.heap.size ∧ PtM w (ad.add (i * 5)) t A2 cap2 := by
  obtain ⟨ad, h1, h2, c, h3, h4⟩ := h i t hi
  obtain ⟨A2, cap2, rfl, ha, hv, hf, hn, hc, hk⟩ := h3.form
  exact ⟨ad, A2, cap2, h1, h2, by rw [add_blk]; exact h2, h4 0 (by omega), add_cel (j := 0) (h4 1 (by omega)), add_cel (j := 1) (h4 2 (by omega)), add_cel (j := 2) (h4 3 (by omega)), add_cel (j := 3) (h4 4 (by omega)), ha, hv, hf, hn, hc, hk⟩
theorem ret_int {k : IntKind} {a b : Int} (h : a = b) : Ending.returned (.int k a) = .returned (.int k b) := by rw [h]
end Go.Proofs.YtpokelkneblafaaGreatDoor
