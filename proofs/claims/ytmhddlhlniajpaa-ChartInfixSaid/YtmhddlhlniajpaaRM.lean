/- Memory of the chart: tokens, numbers, readings that others share, the finder of rules. -/
import Derived.Test.YtmhddlhlniajpaaGS3
import Derived.Test.YtmhddlhlniajpaaC3
import Derived.Test.YtmhddlhlniajpaaRP1
import Derived.Laws.EntriesVeiled
import Derived.Maps.AppendAt
import Derived.Deep.AppendLies
import Derived.RegionTactic
namespace Go.Proofs.Ytmhddlhlniajpaa
open Go.RowKit
theorem own_below {w w' : World} {base : Nat} {e : TypeId} {size : Nat} {v : Value} {n : Nat} {xs : List Value} (h : w.ownsRow base e size v n xs) (hb : Below w.heap.size w w') : w'.ownsRow base e size v n xs :=
  h.kept (row := none) ⟨hb.os, hb.tape, hb.output, hb.size, fun i hi _ => hb.block i hi⟩ (by cases v.ownBlock <;> simp)
theorem own_more {w : World} {base base' : Nat} {e : TypeId} {size : Nat} {v : Value} {n : Nat} {xs : List Value} (h : w.ownsRow base e size v n xs) (hB : base' ≤ base) : w.ownsRow base' e size v n xs :=
  ⟨h.1, h.2.imp id fun ⟨g, cap, cur, h1, h2, h3⟩ => ⟨g, cap, cur, h1, Nat.le_trans hB h2, h3⟩⟩
theorem cells_new (w : World) (cs : List Value) (t : TypeId) : ∀ j u, cs[j]? = some u → (w.alloc (.cells cs.toArray t)).cell? ((⟨w.heap.size, 0, none⟩ : Addr).add j) = some u := by
  intro j u hj
  rw [show (⟨w.heap.size, 0, none⟩ : Addr).add j = ⟨w.heap.size, j, none⟩ by unfold Addr.add; simp; omega, Blk.cell (Blk.new w t _)]
  simpa using hj
theorem ret_int {k : IntKind} {a b : Int} (h : a = b) : Ending.returned (.int k a) = .returned (.int k b) := by rw [h]
theorem ret_val {a b : Value} (h : a = b) : Ending.returned a = .returned b := by rw [h]
/-- tokens in a row -/
def ToksAt (w : World) (A : Option Addr) (ts : List ByteArray) : Prop := ∀ (j : Nat) (s : ByteArray), ts[j]? = some s → s.size ≤ 9223372036854775807 ∧ ∃ ad : Addr, A = some ad ∧ ad.block < w.heap.size ∧ w.cell? (ad.add j) = some (.string s)
theorem ToksAt.keep {w w' : World} {A : Option Addr} {ts : List ByteArray} (h : ToksAt w A ts) (hb : Below w.heap.size w w') : ToksAt w' A ts := fun j s hj => by
  obtain ⟨hf, ad, hA, hlt, hc⟩ := h j s hj
  exact ⟨hf, ad, hA, Nat.lt_of_lt_of_le hlt hb.size, (hb.cell (by rw [add_block]; exact hlt)).trans hc⟩
theorem ToksAt.drew {w : World} {A : Option Addr} {ts : List ByteArray} (h : ToksAt w A ts) : ToksAt w.drew A ts := h
theorem ToksAt.alloc {w : World} {A : Option Addr} {ts : List ByteArray} (h : ToksAt w A ts) (o : Obj) : ToksAt (w.alloc o) A ts := h.keep (bel_alloc w o)
/-- numbers that a call has made -/
def OwnI (w : World) (B : Nat) (v : Value) (xs : List Int) : Prop := w.ownsRow B 3 1 v xs.length (xs.map (Value.int .i64))
theorem OwnI.keep {w w' : World} {B : Nat} {v : Value} {xs : List Int} (h : OwnI w B v xs) (hb : Below w.heap.size w w') : OwnI w' B v xs := own_below h hb
theorem OwnI.more {w : World} {B B' : Nat} {v : Value} {xs : List Int} (h : OwnI w B v xs) (hB : B' ≤ B) : OwnI w B' v xs := own_more h hB
theorem OwnI.nil (w : World) (B : Nat) : OwnI w B (.slice none 0 0) [] := World.ownsRow_nil _ _ _ _
/-- numbers in a row that may be nil -/
def IntsO (w : World) (A : Option Addr) (xs : List Int) : Prop := ∀ (j : Nat) (x : Int), xs[j]? = some x → ∃ g : Nat, A = some ⟨g, 0, none⟩ ∧ (∃ cs, Blk w g 3 cs) ∧ w.cell? ⟨g, j, none⟩ = some (.int .i64 x)
theorem OwnI.form {w : World} {B : Nat} {v : Value} {xs : List Int} (h : OwnI w B v xs) : ∃ A cap, v = .slice A xs.length cap ∧ xs.length ≤ cap ∧ cap ≤ 9223372036854775807 ∧ IntsO w A xs := by
  obtain ⟨h1, h2⟩ := h
  rcases h2 with ⟨rfl, h0⟩ | ⟨g, cap, cur, rfl, hg, hb, hn, hc, hs, ht⟩
  · obtain rfl : xs = [] := List.length_eq_zero_iff.1 h0
    exact ⟨none, 0, rfl, by simp, by omega, fun j p hj => by simp at hj⟩
  · have hb' : Blk w g 3 cur := hb
    refine ⟨_, cap, rfl, hn, by unfold maxLen at hc; omega, fun j p hj => ⟨g, rfl, ⟨_, hb'⟩, ?_⟩⟩
    rw [hb'.cell]
    have h3 : (xs.map (Value.int .i64))[j]? = some (.int .i64 p) := by simp [hj]
    rw [← ht, List.getElem?_take] at h3
    split at h3
    · simpa using h3
    · cases h3
theorem IntsO.keep {w w' : World} {A : Option Addr} {xs : List Int} (h : IntsO w A xs) (hb : Below w.heap.size w w') : IntsO w' A xs := fun j p hj => by
  obtain ⟨g, h1, ⟨cs, h2⟩, h3⟩ := h j p hj
  exact ⟨g, h1, ⟨cs, _root_.Go.Proofs.Ytmhddlhlniajpaa.keep hb h2⟩, (hb.cell (p := ⟨g, j, none⟩) h2.lt).trans h3⟩
theorem ints_snoc {w : World} {B n : Nat} {v : Value} {xs : List Int} {c : Int} (hn : xs.length = n) (h : w.ownsRow B 3 1 v (n + 1) ((xs.map (Value.int .i64)) ++ [.int .i64 c])) : OwnI w B v (xs ++ [c]) := by
  unfold OwnI
  rw [List.length_append, hn, List.map_append, List.map_cons, List.map_nil]
  exact h
theorem info_int : (Try.prog.info? 3).map (fun i => (i.zero, i.size, i.bytes)) = some (some (.int .i64 0), 1, 8) := by kernel_rfl
theorem info_ptr : (Try.prog.info? 57).map (fun i => (i.zero, i.size, i.bytes)) = some (some (.pointer none), 1, 8) := by kernel_rfl
abbrev ptrV (g : Nat) : Value := .pointer (some ⟨g, 0, none⟩)
abbrev shC (rs : List Rul) (r a : Int) (k0 k1 : Value) : Array Value := #[.int .i64 r, .int .i64 a, .int .i64 (precI rs r), k0, k1]
/-- a reading whose kids belong to other readings, too -/
inductive ShAt (rs : List Rul) (w : World) : Nat → Rd → Prop
  | leaf (g : Nat) (r a : Int) (hb : Blk w g 90 (shC rs r a (.pointer none) (.pointer none))) : ShAt rs w g (.mk r a [])
  | one (g : Nat) (r a : Int) (g0 : Nat) (x : Rd) (hb : Blk w g 90 (shC rs r a (ptrV g0) (.pointer none))) (hx : ShAt rs w g0 x) : ShAt rs w g (.mk r a [x])
  | two (g : Nat) (r a : Int) (g0 g1 : Nat) (x y : Rd) (hb : Blk w g 90 (shC rs r a (ptrV g0) (ptrV g1))) (hx : ShAt rs w g0 x) (hy : ShAt rs w g1 y) : ShAt rs w g (.mk r a [x, y])
theorem ShAt.map {rs : List Rul} {w w' : World} (hk : ∀ g cs, Blk w g 90 cs → Blk w' g 90 cs) {g : Nat} {x : Rd} (h : ShAt rs w g x) : ShAt rs w' g x := by
  induction h with
  | leaf g r a hb => exact .leaf g r a (hk _ _ hb)
  | one g r a g0 x hb _ ih => exact .one g r a g0 x (hk _ _ hb) ih
  | two g r a g0 g1 x y hb _ _ ih1 ih2 => exact .two g r a g0 g1 x y (hk _ _ hb) ih1 ih2
theorem ShAt.keep {rs : List Rul} {w w' : World} {g : Nat} {x : Rd} (h : ShAt rs w g x) (hb : Below w.heap.size w w') : ShAt rs w' g x := h.map fun _ _ h => _root_.Go.Proofs.Ytmhddlhlniajpaa.keep hb h
theorem ShAt.blk {rs : List Rul} {w : World} {g : Nat} {x : Rd} (h : ShAt rs w g x) : ∃ k0 k1, Blk w g 90 (shC rs x.rule x.at_ k0 k1) := by
  cases h with
  | leaf _ r a hb => exact ⟨_, _, hb⟩
  | one _ r a g0 x hb _ => exact ⟨_, _, hb⟩
  | two _ r a g0 g1 x y hb _ _ => exact ⟨_, _, hb⟩
theorem blk_type {w : World} {g : Nat} {t t' : TypeId} {cs cs' : Array Value} (h : Blk w g t cs) (h' : Blk w g t' cs') : t = t' := by
  unfold Blk at h h'
  rw [h] at h'
  simp only [Option.some.injEq, Obj.cells.injEq] at h'
  exact h'.2.1
/-- all that turns is a block of another type, and new blocks -/
theorem ShAt.grown {rs : List Rul} {w w' : World} {row : Option Nat} {g : Nat} {x : Rd} (h : ShAt rs w g x) (hg : w.grownBy w' row) (hr : ∀ b, row = some b → ∃ t cs, Blk w b t cs ∧ t ≠ 90) : ShAt rs w' g x :=
  h.map fun b cs hb => hb.grown hg fun e => by
    obtain ⟨t, cs', h1, h2⟩ := hr b e.symm
    exact h2 (blk_type h1 hb)
/-- shared readings in a row of pointers -/
def Shs (rs : List Rul) (w : World) (bs : List Nat) (xs : List Rd) : Prop := bs.length = xs.length ∧ ∀ (j b : Nat) (x : Rd), bs[j]? = some b → xs[j]? = some x → ShAt rs w b x
theorem Shs.keep {rs : List Rul} {w w' : World} {bs : List Nat} {xs : List Rd} (h : Shs rs w bs xs) (hb : Below w.heap.size w w') : Shs rs w' bs xs := ⟨h.1, fun j b x h1 h2 => (h.2 j b x h1 h2).keep hb⟩
theorem Shs.map {rs : List Rul} {w w' : World} {bs : List Nat} {xs : List Rd} (h : Shs rs w bs xs) (hk : ∀ g cs, Blk w g 90 cs → Blk w' g 90 cs) : Shs rs w' bs xs := ⟨h.1, fun j b x h1 h2 => (h.2 j b x h1 h2).map hk⟩
theorem Shs.nil {rs : List Rul} {w : World} : Shs rs w [] [] := ⟨rfl, fun j b x h => by simp at h⟩
theorem Shs.snoc {rs : List Rul} {w : World} {bs : List Nat} {xs : List Rd} {b : Nat} {x : Rd} (h : Shs rs w bs xs) (hx : ShAt rs w b x) : Shs rs w (bs ++ [b]) (xs ++ [x]) := by
  refine ⟨by simp [h.1], fun j b' x' h1 h2 => ?_⟩
  rcases Nat.lt_or_ge j bs.length with hj | hj
  · rw [List.getElem?_append_left hj] at h1
    rw [List.getElem?_append_left (by rw [← h.1]; exact hj)] at h2
    exact h.2 j b' x' h1 h2
  · rw [List.getElem?_append_right hj] at h1
    rw [List.getElem?_append_right (by rw [← h.1]; exact hj), ← h.1] at h2
    by_cases e : j - bs.length = 0
    · rw [e] at h1 h2
      obtain rfl : b = b' := by simpa using h1
      obtain rfl : x = x' := by simpa using h2
      exact hx
    · rw [List.getElem?_eq_none (by simp; omega)] at h1; cases h1
theorem Shs.append {rs : List Rul} {w : World} {bs cs : List Nat} {xs ys : List Rd} (h : Shs rs w bs xs) (h' : Shs rs w cs ys) : Shs rs w (bs ++ cs) (xs ++ ys) := by
  refine ⟨by simp [h.1, h'.1], fun j b' x' h1 h2 => ?_⟩
  rcases Nat.lt_or_ge j bs.length with hj | hj
  · rw [List.getElem?_append_left hj] at h1
    rw [List.getElem?_append_left (by rw [← h.1]; exact hj)] at h2
    exact h.2 j b' x' h1 h2
  · rw [List.getElem?_append_right hj] at h1
    rw [List.getElem?_append_right (by rw [← h.1]; exact hj), ← h.1] at h2
    exact h'.2 _ b' x' h1 h2
theorem Shs.take {rs : List Rul} {w : World} {bs : List Nat} {xs : List Rd} (h : Shs rs w bs xs) (n : Nat) : Shs rs w (bs.take n) (xs.take n) := by
  refine ⟨by simp [h.1], fun j b x h1 h2 => ?_⟩
  rw [List.getElem?_take] at h1 h2
  split at h1
  · rw [if_pos ‹_›] at h2; exact h.2 j b x h1 h2
  · cases h1
abbrev PTR : TypeId := 57
/-- a slice of pointers that a call has made -/
def OwnP (w : World) (B : Nat) (v : Value) (bs : List Nat) : Prop := w.ownsRow B 57 1 v bs.length (bs.map ptrV)
theorem OwnP.keep {w w' : World} {B : Nat} {v : Value} {bs : List Nat} (h : OwnP w B v bs) (hb : Below w.heap.size w w') : OwnP w' B v bs := own_below h hb
theorem OwnP.more {w : World} {B B' : Nat} {v : Value} {bs : List Nat} (h : OwnP w B v bs) (hB : B' ≤ B) : OwnP w B' v bs := own_more h hB
theorem OwnP.nil (w : World) (B : Nat) : OwnP w B (.slice none 0 0) [] := World.ownsRow_nil _ _ _ _
theorem ptrs_snoc {w : World} {B n : Nat} {v : Value} {bs : List Nat} {b : Nat} (hn : bs.length = n) (h : w.ownsRow B 57 1 v (n + 1) ((bs.map ptrV) ++ [ptrV b])) : OwnP w B v (bs ++ [b]) := by
  unfold OwnP
  rw [List.length_append, hn, List.map_append, List.map_cons, List.map_nil]
  exact h
/-- a slice of pointers, to be read -/
def PtrsO (w : World) (A : Option Addr) (bs : List Nat) : Prop := ∀ (j b : Nat), bs[j]? = some b → ∃ g : Nat, A = some ⟨g, 0, none⟩ ∧ (∃ cs, Blk w g 57 cs) ∧ w.cell? ⟨g, j, none⟩ = some (ptrV b)
theorem OwnP.form {w : World} {B : Nat} {v : Value} {bs : List Nat} (h : OwnP w B v bs) : ∃ A cap, v = .slice A bs.length cap ∧ bs.length ≤ cap ∧ cap ≤ 9223372036854775807 ∧ PtrsO w A bs := by
  obtain ⟨h1, h2⟩ := h
  rcases h2 with ⟨rfl, h0⟩ | ⟨g, cap, cur, rfl, hg, hb, hn, hc, hs, ht⟩
  · obtain rfl : bs = [] := List.length_eq_zero_iff.1 h0
    exact ⟨none, 0, rfl, by simp, by omega, fun j p hj => by simp at hj⟩
  · have hb' : Blk w g 57 cur := hb
    refine ⟨_, cap, rfl, hn, by unfold maxLen at hc; omega, fun j p hj => ⟨g, rfl, ⟨_, hb'⟩, ?_⟩⟩
    rw [hb'.cell]
    have h3 : (bs.map ptrV)[j]? = some (ptrV p) := by simp [hj]
    rw [← ht, List.getElem?_take] at h3
    split at h3
    · simpa using h3
    · cases h3
theorem PtrsO.keep {w w' : World} {A : Option Addr} {bs : List Nat} (h : PtrsO w A bs) (hb : Below w.heap.size w w') : PtrsO w' A bs := fun j p hj => by
  obtain ⟨g, h1, ⟨cs, h2⟩, h3⟩ := h j p hj
  exact ⟨g, h1, ⟨cs, _root_.Go.Proofs.Ytmhddlhlniajpaa.keep hb h2⟩, (hb.cell (p := ⟨g, j, none⟩) h2.lt).trans h3⟩
theorem PtrsO.set_ {w : World} {A : Option Addr} {bs : List Nat} (h : PtrsO w A bs) {p : Addr} {t : TypeId} {cs : Array Value} (hp : Blk w p.block t cs) (ht : t ≠ 57) (u : Value) : PtrsO (w.setCell p u) A bs := fun j b hj => by
  obtain ⟨g, h1, ⟨cs', h2⟩, h3⟩ := h j b hj
  have hne : g ≠ p.block := fun e => by rw [e] at h2; exact ht (blk_type hp h2)
  exact ⟨g, h1, ⟨cs', h2.far hne u⟩, (World.cell?_setCell_other w p ⟨g, j, none⟩ u (fun e => hne (by rw [e]))).trans h3⟩
theorem Shs.set_ {rs : List Rul} {w : World} {bs : List Nat} {xs : List Rd} (h : Shs rs w bs xs) {p : Addr} {t : TypeId} {cs : Array Value} (hp : Blk w p.block t cs) (ht : t ≠ 90) (u : Value) : Shs rs (w.setCell p u) bs xs :=
  h.map fun g cs' hb => hb.far (fun e => by rw [e] at hb; exact ht (blk_type hp hb)) u
theorem IntsO.set_ {w : World} {A : Option Addr} {xs : List Int} (h : IntsO w A xs) {p : Addr} {t : TypeId} {cs : Array Value} (hp : Blk w p.block t cs) (ht : t ≠ 3) (u : Value) : IntsO (w.setCell p u) A xs := fun j b hj => by
  obtain ⟨g, h1, ⟨cs', h2⟩, h3⟩ := h j b hj
  have hne : g ≠ p.block := fun e => by rw [e] at h2; exact ht (blk_type hp h2)
  exact ⟨g, h1, ⟨cs', h2.far hne u⟩, (World.cell?_setCell_other w p ⟨g, j, none⟩ u (fun e => hne (by rw [e]))).trans h3⟩
/-- where the finder's parts lie -/
structure Fin where
  R : Option Addr
  cR : Nat
  T : Option Addr
  cT : Nat
  I : Option Addr
  cI : Nat
  P : Option Addr
  cP : Nat
  Q : Option Addr
  cQ : Nat
abbrev Fin.c (F : Fin) (n m : Nat) (jx : Int) : Array Value := #[.slice F.R n F.cR, .slice F.T m F.cT, .slice F.I m F.cI, .slice F.P m F.cP, .slice F.Q m F.cQ, .int .i64 jx]
def findsL (rs : List Rul) (ts : List ByteArray) (kind : Int) : List Int := ts.map fun t => findI rs kind t.toList
theorem finds_len {rs : List Rul} {ts : List ByteArray} {kind : Int} : (findsL rs ts kind).length = ts.length := by unfold findsL; simp
theorem finds_at {rs : List Rul} {ts : List ByteArray} {kind : Int} {k : Nat} (hk : k < ts.length) : (findsL rs ts kind)[k]? = some (findI rs kind (tokL ts k)) := by
  unfold findsL tokL
  rw [List.getElem?_map, List.getD_eq_getElem?_getD, List.getElem?_eq_getElem hk]
  rfl
structure FinAt (w : World) (F : Fin) (rs : List Rul) (ts : List ByteArray) : Prop where
  rules : RulsAt w F.R rs
  toks : ToksAt w F.T ts
  inf : IntsO w F.I (findsL rs ts 1)
  pre : IntsO w F.P (findsL rs ts 2)
  post : IntsO w F.Q (findsL rs ts 3)
theorem FinAt.keep {w w' : World} {F : Fin} {rs : List Rul} {ts : List ByteArray} (h : FinAt w F rs ts) (hb : Below w.heap.size w w') : FinAt w' F rs ts := ⟨h.rules.keep hb, h.toks.keep hb, h.inf.keep hb, h.pre.keep hb, h.post.keep hb⟩
theorem FinAt.drew {w : World} {F : Fin} {rs : List Rul} {ts : List ByteArray} (h : FinAt w F rs ts) : FinAt w.drew F rs ts := ⟨h.rules, h.toks, h.inf, h.pre, h.post⟩
theorem IntsO.num {w : World} {A : Option Addr} {xs : List Int} (h : IntsO w A xs) {k : Nat} {x : Int} (hx : xs[k]? = some x) : ∃ g : Nat, A = some ⟨g, 0, none⟩ ∧ w.cell? ⟨g, k, none⟩ = some (.int .i64 x) := by
  obtain ⟨g, h1, _, h2⟩ := h k x hx
  exact ⟨g, h1, h2⟩
end Go.Proofs.Ytmhddlhlniajpaa
