/- The 27 units: plain. -/
import Derived.Test.YtlfapncbkgpclaaDoorQ7
namespace Go.Proofs.YtlfapncbkgpclaaDoor
open Go.RowKit
/-- a unit: a name and a value -/
structure Un where
  nm : ByteArray
  v : V9
abbrev Un.c (u : Un) : Array Value := #[.string u.nm, .int .i64 u.v.n, .int .i64 u.v.d, .int .i64 u.v.m.a0, .int .i64 u.v.m.a1, .int .i64 u.v.m.a2, .int .i64 u.v.m.a3, .int .i64 u.v.m.a4, .int .i64 u.v.m.a5, .int .i64 u.v.m.a6]
def units : List Un := [⟨⟨#[109]⟩, 1, 1, ⟨1, 0, 0, 0, 0, 0, 0⟩⟩, ⟨⟨#[107, 103]⟩, 1, 1, ⟨0, 1, 0, 0, 0, 0, 0⟩⟩, ⟨⟨#[115]⟩, 1, 1, ⟨0, 0, 1, 0, 0, 0, 0⟩⟩, ⟨⟨#[65]⟩, 1, 1, ⟨0, 0, 0, 1, 0, 0, 0⟩⟩, ⟨⟨#[75]⟩, 1, 1, ⟨0, 0, 0, 0, 1, 0, 0⟩⟩, ⟨⟨#[109, 111, 108]⟩, 1, 1, ⟨0, 0, 0, 0, 0, 1, 0⟩⟩, ⟨⟨#[99, 100]⟩, 1, 1, ⟨0, 0, 0, 0, 0, 0, 1⟩⟩, ⟨⟨#[107, 109]⟩, 1000, 1, ⟨1, 0, 0, 0, 0, 0, 0⟩⟩, ⟨⟨#[99, 109]⟩, 1, 100, ⟨1, 0, 0, 0, 0, 0, 0⟩⟩, ⟨⟨#[109, 109]⟩, 1, 1000, ⟨1, 0, 0, 0, 0, 0, 0⟩⟩, ⟨⟨#[103]⟩, 1, 1000, ⟨0, 1, 0, 0, 0, 0, 0⟩⟩, ⟨⟨#[116]⟩, 1000, 1, ⟨0, 1, 0, 0, 0, 0, 0⟩⟩, ⟨⟨#[109, 115]⟩, 1, 1000, ⟨0, 0, 1, 0, 0, 0, 0⟩⟩, ⟨⟨#[109, 105, 110]⟩, 60, 1, ⟨0, 0, 1, 0, 0, 0, 0⟩⟩, ⟨⟨#[104]⟩, 3600, 1, ⟨0, 0, 1, 0, 0, 0, 0⟩⟩, ⟨⟨#[100]⟩, 86400, 1, ⟨0, 0, 1, 0, 0, 0, 0⟩⟩, ⟨⟨#[72, 122]⟩, 1, 1, ⟨0, 0, -1, 0, 0, 0, 0⟩⟩, ⟨⟨#[78]⟩, 1, 1, ⟨1, 1, -2, 0, 0, 0, 0⟩⟩, ⟨⟨#[80, 97]⟩, 1, 1, ⟨-1, 1, -2, 0, 0, 0, 0⟩⟩, ⟨⟨#[74]⟩, 1, 1, ⟨2, 1, -2, 0, 0, 0, 0⟩⟩, ⟨⟨#[87]⟩, 1, 1, ⟨2, 1, -3, 0, 0, 0, 0⟩⟩, ⟨⟨#[67]⟩, 1, 1, ⟨0, 0, 1, 1, 0, 0, 0⟩⟩, ⟨⟨#[86]⟩, 1, 1, ⟨2, 1, -3, -1, 0, 0, 0⟩⟩, ⟨⟨#[111, 104, 109]⟩, 1, 1, ⟨2, 1, -3, -2, 0, 0, 0⟩⟩, ⟨⟨#[107, 87, 104]⟩, 3600000, 1, ⟨2, 1, -2, 0, 0, 0, 0⟩⟩, ⟨⟨#[108]⟩, 1, 1000, ⟨3, 0, 0, 0, 0, 0, 0⟩⟩, ⟨⟨#[37]⟩, 1, 100, ⟨0, 0, 0, 0, 0, 0, 0⟩⟩]
def unitsL : List Value := units.flatMap fun u => u.c.toList
theorem flat_at : ∀ (l : List Un) (k j : Nat) (u : Un), l[k]? = some u → j < 10 → (l.flatMap fun u => u.c.toList)[k * 10 + j]? = u.c[j]?
  | [], k, j, u, h, _ => by simp at h
  | x :: r, 0, j, u, h, hj => by
    obtain rfl : x = u := by simpa using h
    rw [List.flatMap_cons, List.getElem?_append_left (by simp; omega)]
    simp
  | x :: r, k + 1, j, u, h, hj => by
    have ih := flat_at r k j u (by simpa using h) hj
    rw [List.flatMap_cons, List.getElem?_append_right (by simp; omega)]
    rw [← ih]
    congr 1
    simp
    omega
theorem units_at (k j : Nat) (u : Un) (h : units[k]? = some u) (hj : j < 10) : unitsL[k * 10 + j]? = u.c[j]? := flat_at units k j u h hj
theorem units_len : units.length = 27 := rfl
/-- units in memory: the cells of a list from an address on -/
def UnAt (w : World) (g : Nat) (us : List Un) : Prop := g < w.heap.size ∧ ∀ (k j : Nat) (u : Un) (x : Value), us[k]? = some u → u.c[j]? = some x → w.cell? ⟨g, k * 10 + j, none⟩ = some x
theorem UnAt.keep {w w' : World} {g : Nat} {us : List Un} (h : UnAt w g us) (hb : Below w.heap.size w w') : UnAt w' g us :=
  ⟨Nat.lt_of_lt_of_le h.1 hb.size, fun k j u x h1 h2 => (hb.cell (p := ⟨g, k * 10 + j, none⟩) h.1).trans (h.2 k j u x h1 h2)⟩
theorem UnAt.drew {w : World} {g : Nat} {us : List Un} (h : UnAt w g us) : UnAt w.drew g us := h
theorem UnAt.of_blk {w : World} {g t : Nat} {cs : Array Value} (h : w.heap[g]? = some (.cells cs t (0, 0))) (hc : cs.toList = unitsL) : UnAt w g units := by
  refine ⟨(Array.getElem?_eq_some_iff.1 h).1, fun k j u x h1 h2 => ?_⟩
  have hj : j < 10 := by
    have := (Array.getElem?_eq_some_iff.1 h2).1
    simpa using this
  rw [cell_of_row w g (k * 10 + j) cs t (0, 0) h, ← Array.getElem?_toList, hc, units_at k j u h1 hj, h2]
def AllPost (w : World) (e : Ending) (w' : World) : Prop := ∃ g cap, e = .returned (.slice (some ⟨g, 0, none⟩) 27 cap) ∧ 27 ≤ cap ∧ UnAt w' g units ∧ Below w.heap.size w w'
end Go.Proofs.YtlfapncbkgpclaaDoor
