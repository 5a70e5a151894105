/- Lemmas on dimensions of seven exponents, on worlds with one dimension that is turned place by place. -/
import Derived.Test.YtlfapncbkgpclaaDoorU0
namespace Go.Proofs.YtlfapncbkgpclaaDoor
open Go.RowKit

/-- the first k exponents of c, the others of a -/
def D7.mix (k : Nat) (a c : D7) : D7 := ⟨if 0 < k then c.a0 else a.a0, if 1 < k then c.a1 else a.a1, if 2 < k then c.a2 else a.a2, if 3 < k then c.a3 else a.a3, if 4 < k then c.a4 else a.a4, if 5 < k then c.a5 else a.a5, if 6 < k then c.a6 else a.a6⟩
theorem mix0 (a c : D7) : D7.mix 0 a c = a := by simp [D7.mix]
theorem mix7 (a c : D7) (k : Nat) (h : ¬ k < 7) : D7.mix k a c = c := by
  simp [D7.mix, show 0 < k by omega, show 1 < k by omega, show 2 < k by omega, show 3 < k by omega, show 4 < k by omega, show 5 < k by omega, show 6 < k by omega]
theorem mix_at (a c : D7) (k : Nat) (hk : k < 7) : (D7.mix k a c).at k = a.at k := by
  match k, hk with
  | 0, _ => simp [D7.mix, D7.at]
  | 1, _ => simp [D7.mix, D7.at]
  | 2, _ => simp [D7.mix, D7.at]
  | 3, _ => simp [D7.mix, D7.at]
  | 4, _ => simp [D7.mix, D7.at]
  | 5, _ => simp [D7.mix, D7.at]
  | 6, _ => simp [D7.mix, D7.at]
theorem mix_set (a c : D7) (k : Nat) (hk : k < 7) : (D7.mix k a c).c.setIfInBounds k (.int .i64 (c.at k)) = (D7.mix (k + 1) a c).c := by
  match k, hk with
  | 0, _ => simp [D7.mix, D7.at]
  | 1, _ => simp [D7.mix, D7.at]
  | 2, _ => simp [D7.mix, D7.at]
  | 3, _ => simp [D7.mix, D7.at]
  | 4, _ => simp [D7.mix, D7.at]
  | 5, _ => simp [D7.mix, D7.at]
  | 6, _ => simp [D7.mix, D7.at]
abbrev D7.zero : D7 := ⟨0, 0, 0, 0, 0, 0, 0⟩
abbrev zc : Array Value := #[.int .i64 0, .int .i64 0, .int .i64 0, .int .i64 0, .int .i64 0, .int .i64 0, .int .i64 0]
def D7.add (a b : D7) : D7 := ⟨a.a0 + b.a0, a.a1 + b.a1, a.a2 + b.a2, a.a3 + b.a3, a.a4 + b.a4, a.a5 + b.a5, a.a6 + b.a6⟩
def D7.sub (a b : D7) : D7 := ⟨a.a0 - b.a0, a.a1 - b.a1, a.a2 - b.a2, a.a3 - b.a3, a.a4 - b.a4, a.a5 - b.a5, a.a6 - b.a6⟩
def D7.mul (a : D7) (n : Int) : D7 := ⟨a.a0 * n, a.a1 * n, a.a2 * n, a.a3 * n, a.a4 * n, a.a5 * n, a.a6 * n⟩
def D7.half (a : D7) : D7 := ⟨a.a0.tdiv 2, a.a1.tdiv 2, a.a2.tdiv 2, a.a3.tdiv 2, a.a4.tdiv 2, a.a5.tdiv 2, a.a6.tdiv 2⟩
theorem add_at (a b : D7) (k : Nat) : (a.add b).at k = a.at k + b.at k := by
  match k with
  | 0 | 1 | 2 | 3 | 4 | 5 | 6 => rfl
  | k + 7 => rfl
theorem sub_at (a b : D7) (k : Nat) : (a.sub b).at k = a.at k - b.at k := by
  match k with
  | 0 | 1 | 2 | 3 | 4 | 5 | 6 => rfl
  | k + 7 => rfl
theorem mul_at (a : D7) (n : Int) (k : Nat) (hk : k < 7) : (a.mul n).at k = a.at k * n := by
  match k, hk with
  | 0, _ | 1, _ | 2, _ | 3, _ | 4, _ | 5, _ | 6, _ => rfl
theorem half_at (a : D7) (k : Nat) (hk : k < 7) : (a.half).at k = (a.at k).tdiv 2 := by
  match k, hk with
  | 0, _ | 1, _ | 2, _ | 3, _ | 4, _ | 5, _ | 6, _ => rfl
theorem ok_at {d : D7} (h : d.ok = true) (k : Nat) (hk : k < 7) : -100 ≤ d.at k ∧ d.at k ≤ 100 := by
  have := (ok_iff d).1 h k hk
  simpa [in100] using this
/-- all exponents are even -/
def D7.even (d : D7) : Bool := d.a0.tmod 2 == 0 && d.a1.tmod 2 == 0 && d.a2.tmod 2 == 0 && d.a3.tmod 2 == 0 && d.a4.tmod 2 == 0 && d.a5.tmod 2 == 0 && d.a6.tmod 2 == 0
theorem even_iff (d : D7) : d.even = true ↔ ∀ j, j < 7 → (d.at j).tmod 2 = 0 := by
  constructor
  · intro h j hj
    simp only [D7.even, Bool.and_eq_true, beq_iff_eq] at h
    match j, hj with
    | 0, _ => simp [D7.at, h]
    | 1, _ => simp [D7.at, h]
    | 2, _ => simp [D7.at, h]
    | 3, _ => simp [D7.at, h]
    | 4, _ => simp [D7.at, h]
    | 5, _ => simp [D7.at, h]
    | 6, _ => simp [D7.at, h]
  · intro h
    have h0 := h 0 (by omega)
    have h1 := h 1 (by omega)
    have h2 := h 2 (by omega)
    have h3 := h 3 (by omega)
    have h4 := h 4 (by omega)
    have h5 := h 5 (by omega)
    have h6 := h 6 (by omega)
    simp only [D7.at] at h0 h1 h2 h3 h4 h5 h6
    simp [D7.even, *]
theorem not_even (d : D7) (k : Nat) (hk : k < 7) (h : ¬ (d.at k).tmod 2 = 0) : d.even = false := by
  rw [Bool.eq_false_iff]
  exact fun ho => h ((even_iff d).1 ho k hk)

def okV (r : D7) : Value := .tuple #[r.v, .int .i64 0]
def errV (n : Int) : Value := .tuple #[D7.zero.v, .int .i64 n]
/-- a result, checked -/
def chk (r : D7) : Value := if r.ok then okV r else errV 2
theorem chk_ok {r : D7} (h : r.ok = true) : chk r = .tuple #[r.v, .int .i64 0] := by simp [chk, h, okV]
theorem chk_range {r : D7} (h : r.ok = false) : chk r = .tuple #[D7.zero.v, .int .i64 2] := by simp [chk, h, errV]
theorem below_drewN {B : Nat} {a w : World} (h : Below B a w) (n : Nat) : Below B a (w.drewN n) := ⟨h.os, h.tape, h.output, h.size, h.block⟩

/-- a world with a new block that holds x, further new blocks, and n draws -/
def XW (w : World) (x : D7) (os : List Obj) (n : Nat) : World := (os.foldl World.alloc (w.alloc (.cells x.c 23))).drewN n
theorem alls_size (os : List Obj) : ∀ w : World, (os.foldl World.alloc w).heap.size = w.heap.size + os.length := by
  induction os with
  | nil => intro w; rfl
  | cons o r ih => intro w; rw [List.foldl_cons, ih, World.size_alloc, List.length_cons]; omega
theorem alls_blk (os : List Obj) : ∀ {w : World} {g : Nat} {t : TypeId} {cs : Array Value}, Blk w g t cs → Blk (os.foldl World.alloc w) g t cs := by
  induction os with
  | nil => intro w g t cs h; exact h
  | cons o r ih => intro w g t cs h; exact ih (h.alloc o)
theorem alls_set (os : List Obj) : ∀ (w : World) (n i : Nat) (v : Value), n < w.heap.size → (os.foldl World.alloc w).setCell ⟨n, i, none⟩ v = os.foldl World.alloc (w.setCell ⟨n, i, none⟩ v) := by
  induction os with
  | nil => intro w n i v _; rfl
  | cons o r ih =>
    intro w n i v h
    rw [List.foldl_cons, List.foldl_cons, ih _ _ _ _ (by rw [World.size_alloc]; omega), World.setCell_alloc_past _ _ _ _ h]
theorem xw0 (w : World) (x : D7) (os : List Obj) (n : Nat) : Blk (XW w x os n) w.heap.size 23 x.c := (alls_blk os (Blk.new w 23 x.c)).drewN n
theorem xw1 (w : World) (x b : D7) (os : List Obj) (n : Nat) : Blk (XW w x (.cells b.c 23 :: os) n) (w.heap.size + 1) 23 b.c := by
  have := Blk.new (w.alloc (.cells x.c 23)) 23 b.c
  rw [World.size_alloc] at this
  exact (alls_blk os this).drewN n
theorem xw_set (w : World) (x c : D7) (os : List Obj) (k n : Nat) (hk : k < 7) : (XW w (D7.mix k x c) os n).setCell ⟨w.heap.size, k, none⟩ (.int .i64 (c.at k)) = XW w (D7.mix (k + 1) x c) os n := by
  unfold XW
  rw [← mix_set x c k hk, ← World.setCell_alloc_at _ _ _ _ _ rfl, ← alls_set os _ _ _ _ (by rw [World.size_alloc]; omega)]
  rfl
theorem xw_set_drew (w : World) (x c : D7) (os : List Obj) (k n : Nat) (hk : k < 7) : ((XW w (D7.mix k x c) os n).setCell ⟨w.heap.size, k, none⟩ (.int .i64 (c.at k))).drew = XW w (D7.mix (k + 1) x c) os (n + 1) := by
  rw [xw_set w x c os k n hk]
  rfl
end Go.Proofs.YtlfapncbkgpclaaDoor
