/- Readings in memory · A shared reading in new memory -/
import Derived.Test.YthpioplpfmlgcaaGreatDoorH2330fffa
namespace Go.Proofs.YthpioplpfmlgcaaGreatDoor.Ch
open Go.RowKit
abbrev rdC (r a : Int) (A : Option Addr) (n cap : Nat) : Array Value := #[.int .i64 r, .int .i64 a, .slice A n cap]
/-- the three cells of a reading with its kids; ok: in which blocks the kids may lie -/
inductive RdAt (ok : Nat → Prop) (w : World) : Rd → Array Value → Prop
  | mk (r a : Int) (ks : List Rd) (A : Option Addr) (cap : Nat) (ad : Addr) (cs : Nat → Array Value) (hn : ks.length ≤ cap) (hc : cap ≤ 9223372036854775807)
      (hA : ks = [] ∨ (A = some ad ∧ ad.block < w.heap.size ∧ ok ad.block)) (hcell : ∀ i, i < ks.length → ∀ j, j < 3 → w.cell? (ad.add (i * 3 + j)) = (cs i)[j]?)
      (hk : ∀ (i : Nat) (h : i < ks.length), RdAt ok w ks[i] (cs i)) : RdAt ok w (.mk r a ks) (rdC r a A ks.length cap)
/-- readings in a row -/
def RdsAt (ok : Nat → Prop) (w : World) (A : Option Addr) (ks : List Rd) : Prop := ∀ (i : Nat) (x : Rd), ks[i]? = some x → ∃ ad : Addr, A = some ad ∧ ad.block < w.heap.size ∧ ok ad.block ∧ ∃ c, RdAt ok w x c ∧ ∀ j, j < 3 → w.cell? (ad.add (i * 3 + j)) = c[j]?
theorem RdAt.map {ok ok' : Nat → Prop} {w w' : World} (hs : w.heap.size ≤ w'.heap.size) (hok : ∀ b, b < w.heap.size → ok b → ok' b) (hc : ∀ p : Addr, p.block < w.heap.size → ok p.block → w'.cell? p = w.cell? p) {x : Rd} {c : Array Value} (h : RdAt ok w x c) : RdAt ok' w' x c := by
  induction h with
  | mk r a ks A cap ad cs hn hcap hA hcell hk ih =>
    refine .mk r a ks A cap ad cs hn hcap (hA.imp id fun ⟨h1, h2, h3⟩ => ⟨h1, Nat.lt_of_lt_of_le h2 hs, hok _ h2 h3⟩) (fun i hi j hj => ?_) ih
    rcases hA with h | ⟨h1, h2, h3⟩
    · subst h; simp at hi
    · rw [hc _ (by rw [add_block]; exact h2) (by rw [add_block]; exact h3)]; exact hcell i hi j hj
theorem RdAt.keep {ok : Nat → Prop} {w w' : World} {x : Rd} {c : Array Value} (h : RdAt ok w x c) (hb : Below w.heap.size w w') : RdAt ok w' x c := h.map hb.size (fun _ _ h => h) fun _ hp _ => hb.cell hp
theorem RdAt.any {ok ok' : Nat → Prop} {w : World} {x : Rd} {c : Array Value} (h : RdAt ok w x c) (hok : ∀ b, b < w.heap.size → ok b → ok' b) : RdAt ok' w x c := h.map (Nat.le_refl _) hok fun _ _ _ => rfl
theorem RdAt.grown {ok ok' : Nat → Prop} {w w' : World} {row : Option Nat} {x : Rd} {c : Array Value} (h : RdAt ok w x c) (hg : w.grownBy w' row) (hr : ∀ b, b < w.heap.size → ok b → some b ≠ row) (hok : ∀ b, b < w.heap.size → ok b → ok' b) : RdAt ok' w' x c :=
  h.map hg.size hok fun _ hp ho => World.cell?_of_block (hg.block _ hp (hr _ hp ho))
theorem RdsAt.map {ok ok' : Nat → Prop} {w w' : World} (hs : w.heap.size ≤ w'.heap.size) (hok : ∀ b, b < w.heap.size → ok b → ok' b) (hc : ∀ p : Addr, p.block < w.heap.size → ok p.block → w'.cell? p = w.cell? p) {A : Option Addr} {ks : List Rd} (h : RdsAt ok w A ks) : RdsAt ok' w' A ks := fun i x hi => by
  obtain ⟨ad, h1, h2, h3, c, h4, h5⟩ := h i x hi
  exact ⟨ad, h1, Nat.lt_of_lt_of_le h2 hs, hok _ h2 h3, c, h4.map hs hok hc, fun j hj => by rw [hc _ (by rw [add_block]; exact h2) (by rw [add_block]; exact h3)]; exact h5 j hj⟩
theorem RdsAt.keep {ok : Nat → Prop} {w w' : World} {A : Option Addr} {ks : List Rd} (h : RdsAt ok w A ks) (hb : Below w.heap.size w w') : RdsAt ok w' A ks := h.map hb.size (fun _ _ h => h) fun _ hp _ => hb.cell hp
theorem RdsAt.any {ok ok' : Nat → Prop} {w : World} {A : Option Addr} {ks : List Rd} (h : RdsAt ok w A ks) (hok : ∀ b, b < w.heap.size → ok b → ok' b) : RdsAt ok' w A ks := h.map (Nat.le_refl _) hok fun _ _ _ => rfl
theorem RdAt.size {ok : Nat → Prop} {w : World} {x : Rd} {c : Array Value} (h : RdAt ok w x c) : c.size = 3 := by cases h; rfl
theorem RdAt.form {ok : Nat → Prop} {w : World} {x : Rd} {c : Array Value} (h : RdAt ok w x c) : ∃ A cap, c = rdC x.rule x.at_ A x.kids.length cap ∧ x.kids.length ≤ cap ∧ cap ≤ 9223372036854775807 ∧ RdsAt ok w A x.kids := by
  cases h with
  | mk r a ks A cap ad cs hn hcap hA hcell hk =>
    refine ⟨A, cap, rfl, hn, hcap, fun i x hi => ?_⟩
    obtain ⟨hl, rfl⟩ := List.getElem?_eq_some_iff.1 hi
    have hl : i < ks.length := hl
    rcases hA with h | ⟨h1, h2, h3⟩
    · subst h; simp at hl
    · exact ⟨ad, h1, h2, h3, cs i, hk i hl, hcell i hl⟩
theorem RdAt.of {ok : Nat → Prop} {w : World} {r a : Int} {ks : List Rd} {A : Option Addr} {cap : Nat} (hn : ks.length ≤ cap) (hc : cap ≤ 9223372036854775807) (hk : RdsAt ok w A ks) : RdAt ok w (.mk r a ks) (rdC r a A ks.length cap) := by
  by_cases h0 : ks = []
  · subst h0
    exact .mk r a [] A cap ⟨0, 0, none⟩ (fun _ => #[]) hn hc (.inl rfl) (fun i hi => by simp at hi) (fun i hi => by simp at hi)
  · have h1 : 0 < ks.length := List.length_pos_iff.2 h0
    obtain ⟨ad, hA, hlt, hok, _⟩ := hk 0 ks[0] (List.getElem?_eq_getElem h1)
    have ex : ∀ i, ∃ c, ∀ h : i < ks.length, RdAt ok w ks[i] c ∧ ∀ j, j < 3 → w.cell? (ad.add (i * 3 + j)) = c[j]? := fun i => by
      by_cases h : i < ks.length
      · obtain ⟨ad', hA', _, _, c, h2, h3⟩ := hk i ks[i] (List.getElem?_eq_getElem h)
        obtain rfl : ad = ad' := by rw [hA] at hA'; exact Option.some.inj hA'
        exact ⟨c, fun _ => ⟨h2, h3⟩⟩
      · exact ⟨#[], fun h' => absurd h' h⟩
    obtain ⟨cs, hcs⟩ := Classical.axiomOfChoice ex
    exact .mk r a ks A cap ad cs hn hc (.inr ⟨hA, hlt, hok⟩) (fun i hi => (hcs i hi).2) (fun i hi => (hcs i hi).1)
/-- a list of readings that a call has made -/
def OwnR (ok : Nat → Prop) (w : World) (B : Nat) (v : Value) (xs : List Rd) : Prop := ∃ css : List (Array Value), w.ownsRow B 60 3 v xs.length (css.flatMap (·.toList)) ∧ css.length = xs.length ∧ (∀ (j : Nat) c x, css[j]? = some c → xs[j]? = some x → RdAt ok w x c)
theorem flat3 : ∀ (l : List (Array Value)) (k j : Nat) (c : Array Value), (∀ c ∈ l, c.size = 3) → l[k]? = some c → j < 3 → (l.flatMap (·.toList))[k * 3 + j]? = c[j]?
  | [], k, j, c, _, h, _ => by simp at h
  | x :: r, 0, j, c, hs, h, hj => by
    obtain rfl : x = c := by simpa using h
    have := hs x List.mem_cons_self
    rw [List.flatMap_cons, List.getElem?_append_left (by simp; omega)]
    simp
  | x :: r, k + 1, j, c, hs, h, hj => by
    have ih := flat3 r k j c (fun c hc => hs c (List.mem_cons_of_mem _ hc)) (by simpa using h) hj
    have := hs x List.mem_cons_self
    rw [List.flatMap_cons, List.getElem?_append_right (by simp; omega), ← ih]
    congr 1
    simp
    omega
theorem OwnR.nil (ok : Nat → Prop) (w : World) (B : Nat) : OwnR ok w B (.slice none 0 0) [] := ⟨[], World.ownsRow_nil _ _ _ _, rfl, fun j c x h => by simp at h⟩
theorem OwnR.size {ok : Nat → Prop} {w : World} {xs : List Rd} {css : List (Array Value)} (hl : css.length = xs.length) (h : ∀ (j : Nat) c x, css[j]? = some c → xs[j]? = some x → RdAt ok w x c) : ∀ c ∈ css, c.size = 3 := fun c hc => by
  obtain ⟨j, hj⟩ := List.mem_iff_getElem?.1 hc
  have hj2 := (List.getElem?_eq_some_iff.1 hj).1
  exact (h j c xs[j] hj (List.getElem?_eq_getElem (by omega))).size
theorem OwnR.keep {ok : Nat → Prop} {w w' : World} {B : Nat} {v : Value} {xs : List Rd} (h : OwnR ok w B v xs) (hb : Below w.heap.size w w') : OwnR ok w' B v xs := by
  obtain ⟨css, h1, h2, h3⟩ := h
  exact ⟨css, own_below h1 hb, h2, fun j c x hj hx => (h3 j c x hj hx).keep hb⟩
theorem OwnR.more {ok : Nat → Prop} {w : World} {B B' : Nat} {v : Value} {xs : List Rd} (h : OwnR ok w B v xs) (hB : B' ≤ B) : OwnR ok w B' v xs := by
  obtain ⟨css, h1, h2⟩ := h
  exact ⟨css, own_more h1 hB, h2⟩
theorem OwnR.any {ok ok' : Nat → Prop} {w : World} {B : Nat} {v : Value} {xs : List Rd} (h : OwnR ok w B v xs) (hok : ∀ b, b < w.heap.size → ok b → ok' b) : OwnR ok' w B v xs := by
  obtain ⟨css, h1, h2, h3⟩ := h
  exact ⟨css, h1, h2, fun j c x hj hx => (h3 j c x hj hx).any hok⟩
theorem OwnR.formP {ok P : Nat → Prop} {w : World} {B : Nat} {v : Value} {xs : List Rd} (h : OwnR ok w B v xs) (hB : ∀ b, B ≤ b → P b) (hok : ∀ b, ok b → P b) : ∃ A cap, v = .slice A xs.length cap ∧ xs.length ≤ cap ∧ cap ≤ 9223372036854775807 ∧ RdsAt P w A xs := by
  obtain ⟨css, ho, hl, hr⟩ := h
  have hsz := OwnR.size hl hr
  rcases ho.2 with ⟨rfl, h0⟩ | ⟨g, cap, cur, rfl, hg, hb, hn, hc, hs, ht⟩
  · obtain rfl : xs = [] := List.length_eq_zero_iff.1 h0
    exact ⟨none, 0, rfl, by simp, by omega, fun j p hj => by simp at hj⟩
  · have hb' : Blk w g 60 cur := hb
    refine ⟨_, cap, rfl, hn, by unfold maxLen at hc; omega, fun i x hi => ⟨⟨g, 0, none⟩, rfl, hb'.lt, hB g hg, ?_⟩⟩
    have hil := (List.getElem?_eq_some_iff.1 hi).1
    obtain ⟨c, hci⟩ : ∃ c, css[i]? = some c := ⟨_, List.getElem?_eq_getElem (by omega)⟩
    refine ⟨c, (hr i c x hci hi).any fun b _ h => hok b h, fun j hj => ?_⟩
    have h3 := flat3 css i j c hsz hci hj
    have hjc : j < c.size := by rw [hsz c (List.mem_of_getElem? hci)]; exact hj
    have h4 : c[j]? = some c[j] := Array.getElem?_eq_getElem hjc
    rw [show (⟨g, 0, none⟩ : Addr).add (i * 3 + j) = ⟨g, i * 3 + j, none⟩ by unfold Addr.add; split <;> simp_all, hb'.cell]
    rw [h4] at h3 ⊢
    rw [← ht, List.getElem?_take] at h3
    split at h3
    · rw [← Array.getElem?_toList]; exact h3
    · cases h3
theorem OwnR.form {ok : Nat → Prop} {w : World} {B : Nat} {v : Value} {xs : List Rd} (h : OwnR ok w B v xs) : ∃ A cap, v = .slice A xs.length cap ∧ xs.length ≤ cap ∧ cap ≤ 9223372036854775807 ∧ RdsAt (fun _ => True) w A xs := h.formP (fun _ _ => trivial) fun _ _ => trivial
theorem OwnR.lt {ok : Nat → Prop} {w : World} {B : Nat} {v : Value} {xs : List Rd} (h : OwnR ok w B v xs) : ∀ r, v.ownBlock = some r → B ≤ r ∧ r < w.heap.size := by
  obtain ⟨css, ho, _⟩ := h
  exact World.ownsRow.lt ho
/-- one more reading -/
theorem OwnR.snoc {ok ok' : Nat → Prop} {w w' : World} {B : Nat} {v v' : Value} {xs : List Rd} {css : List (Array Value)} {x : Rd} {c : Array Value} (hl : css.length = xs.length) (h : ∀ (j : Nat) c x, css[j]? = some c → xs[j]? = some x → RdAt ok w x c) (hx : RdAt ok w x c) (ho : w'.ownsRow B 60 3 v' (xs.length + 1) (css.flatMap (·.toList) ++ c.toList)) (hg : w.grownBy w' v.ownBlock) (hr : ∀ b, b < w.heap.size → ok b → some b ≠ v.ownBlock) (hok : ∀ b, b < w.heap.size → ok b → ok' b) : OwnR ok' w' B v' (xs ++ [x]) := by
  refine ⟨css ++ [c], ?_, by simp [hl], fun j d y hj hy => ?_⟩
  · rw [List.length_append, List.flatMap_append]
    simpa using ho
  · rcases Nat.lt_or_ge j css.length with hlt | hge
    · rw [List.getElem?_append_left hlt] at hj
      rw [List.getElem?_append_left (by omega)] at hy
      exact (h j d y hj hy).grown hg hr hok
    · rw [List.getElem?_append_right hge] at hj
      rw [List.getElem?_append_right (by omega), ← hl] at hy
      by_cases e : j - css.length = 0
      · rw [e] at hj hy
        obtain rfl : c = d := by simpa using hj
        obtain rfl : x = y := by simpa using hy
        exact hx.grown hg hr hok
      · rw [List.getElem?_eq_none (by simp; omega)] at hj; cases hj
/-- a list whose kids lie in no block of its own: the invariant of appending -/
def AppR (P : Nat → Prop) (w : World) (B : Nat) (v : Value) (xs : List Rd) : Prop := OwnR (fun b => v.ownBlock ≠ some b ∧ P b) w B v xs
theorem AppR.nil (P : Nat → Prop) (w : World) (B : Nat) : AppR P w B (.slice none 0 0) [] := OwnR.nil _ _ _
theorem AppR.keep {P : Nat → Prop} {w w' : World} {B : Nat} {v : Value} {xs : List Rd} (h : AppR P w B v xs) (hb : Below w.heap.size w w') : AppR P w' B v xs := OwnR.keep h hb
theorem AppR.push {P : Nat → Prop} {w w' : World} {B : Nat} {v v' : Value} {xs : List Rd} {css : List (Array Value)} {x : Rd} {c : Array Value} (hl : css.length = xs.length) (h : ∀ (j : Nat) c x, css[j]? = some c → xs[j]? = some x → RdAt (fun b => v.ownBlock ≠ some b ∧ P b) w x c) (hx : RdAt (fun b => v.ownBlock ≠ some b ∧ P b) w x c) (ho : w'.ownsRow B 60 3 v' (xs.length + 1) (css.flatMap (·.toList) ++ c.toList)) (hg : w.grownBy w' v.ownBlock) (hv : v'.ownBlock = v.ownBlock ∨ v'.ownBlock = some w.heap.size) : AppR P w' B v' (xs ++ [x]) :=
  OwnR.snoc hl h hx ho hg (fun b _ hb e => hb.1 e.symm) (fun b hb hok => ⟨by
    rcases hv with e | e
    · rw [e]; exact hok.1
    · rw [e]; intro h2; have := Option.some.inj h2; omega, hok.2⟩)
theorem AppR.set_ {P : Nat → Prop} {w : World} {B : Nat} {v : Value} {xs : List Rd} (h : AppR P w B v xs) {p : Addr} (hp : ¬ P p.block) (hpB : p.block < B) (u : Value) : AppR P (w.setCell p u) B v xs := by
  obtain ⟨css, h1, h2, h3⟩ := h
  refine ⟨css, World.ownsRow.kept h1 (grown_set w p u) ?_, h2, fun j c x hj hx => (h3 j c x hj hx).map (grown_set w p u).size (fun _ _ h => h) fun q _ ho => World.cell?_setCell_other w p q u (fun e => hp (by rw [e]; exact ho.2))⟩
  cases hv : v.ownBlock with
  | none => exact .inl rfl
  | some b =>
    refine .inr fun e => ?_
    have := (World.ownsRow.lt h1 b hv).1
    have := Option.some.inj e
    omega
theorem AppR.form {P : Nat → Prop} {w : World} {B : Nat} {v : Value} {xs : List Rd} (h : AppR P w B v xs) (hB : ∀ b, B ≤ b → P b) : ∃ A cap, v = .slice A xs.length cap ∧ xs.length ≤ cap ∧ cap ≤ 9223372036854775807 ∧ RdsAt P w A xs := OwnR.formP h hB fun _ hb => hb.2
theorem reads_agg {w : World} {g : Nat} {t : TypeId} {c : Array Value} {n : Nat} (h : Blk w g t c) (hn : c.size = n) : Reads w w.heap.size n (some ⟨g, 0, none⟩) 1 c.toList :=
  ⟨by simp [hn], fun _ => ⟨⟨g, 0, none⟩, rfl, h.lt, fun j v hj => by
    have e : (⟨g, 0, none⟩ : Addr).add j = ⟨g, j, none⟩ := by unfold Addr.add; split <;> simp_all
    rw [e, h.cell]
    simpa using hj⟩⟩
theorem rd_one {ok : Nat → Prop} {w : World} {x : Rd} {c : Array Value} (h : RdAt ok w x c) : ∀ u ∈ c.toList, u.oneCell' = true := by
  obtain ⟨A, cap, rfl, _⟩ := h.form
  intro u hu
  simp at hu
  rcases hu with rfl | rfl | rfl <;> rfl
theorem info_rd : (Tryz.prog.info? 60).map (fun i => (i.zero, i.size, i.bytes)) = some (some (.agg #[.int .i64 0, .int .i64 0, .slice none 0 0]), 3, 40) := by kernel_rfl
end Go.Proofs.YthpioplpfmlgcaaGreatDoor.Ch
namespace Go.Proofs.YthpioplpfmlgcaaGreatDoor.Ch
open Go.RowKit
/-- the kids of a shared reading, as the loop over them sees them -/
theorem ShAt.kids {rs : List Rul} {w : World} {g : Nat} {x : Rd} (h : ShAt rs w g x) : ∃ kv : Nat → Value, Blk w g 176 (shC rs x.rule x.at_ (kv 0) (kv 1)) ∧ x.kids.length ≤ 2 ∧ ∀ k, k < 2 → (x.kids.length ≤ k ∧ kv k = .pointer none) ∨ ∃ b y, x.kids[k]? = some y ∧ kv k = ptrV b ∧ ShAt rs w b y := by
  cases h with
  | leaf _ r a hb =>
    refine ⟨fun _ => .pointer none, hb, by simp [Rd.kids], fun k _ => .inl ⟨by simp [Rd.kids], rfl⟩⟩
  | one _ r a g0 x hb hx =>
    refine ⟨fun k => if k = 0 then ptrV g0 else .pointer none, hb, by simp [Rd.kids], fun k hk => ?_⟩
    by_cases e : k = 0
    · subst e
      exact .inr ⟨g0, x, rfl, rfl, hx⟩
    · exact .inl ⟨by simp [Rd.kids]; omega, if_neg e⟩
  | two _ r a g0 g1 x y hb hx hy =>
    refine ⟨fun k => if k = 0 then ptrV g0 else ptrV g1, hb, by simp [Rd.kids], fun k hk => ?_⟩
    by_cases e : k = 0
    · subst e
      exact .inr ⟨g0, x, rfl, rfl, hx⟩
    · obtain rfl : k = 1 := by omega
      exact .inr ⟨g1, y, rfl, rfl, hy⟩
theorem size_kid {ks : List Rd} {k : Nat} {y : Rd} (h : ks[k]? = some y) : sizeR y ≤ sizeL ks := by
  induction ks generalizing k with
  | nil => simp at h
  | cons a ks ih =>
    rw [sizeL]
    cases k with
    | zero => simp at h; subst h; omega
    | succ k => have := ih (k := k) (by simpa using h); omega
def ExportP (x : Rd) (w : World) (e : Ending) (w' : World) : Prop := ∃ c, e = .returned (.agg c) ∧ RdAt (fun b => w.heap.size ≤ b) w' x c ∧ Below w.heap.size w w'
abbrev rdZ : Array Value := #[.int .i64 0, .int .i64 0, .slice none 0 0]
/-- the world while the new reading is begun -/
def InvX (w1 : World) (r a : Int) : List Bool → Unit → World → Prop
  | [ba, bs], _, wq => Below w1.heap.size w1 wq ∧ (ba = false → wq.heap.size = w1.heap.size) ∧ (ba = true → Blk wq w1.heap.size 60 (if bs then #[.int .i64 r, .int .i64 a, .slice none 0 0] else rdZ))
  | _, _, _ => False
/-- and while a kid is appended -/
def InvY (wr : World) (B gB : Nat) (r a : Int) (v : Value) (xs : List Rd) (y : Rd) : List Bool → Array Value × Nat × Value → World → Prop
  | [be, bb, ba, bs], gx, wq => Below B wr wq ∧ Blk wq B 60 rdZ ∧ Blk wq gB 60 #[.int .i64 r, .int .i64 a, if bs then gx.2.2 else v] ∧ (ba = false → AppR (fun b => B < b ∧ b ≠ gB) wq (gB + 1) v xs) ∧ (be = true → ba = false → RdAt (fun b => v.ownBlock ≠ some b ∧ B < b ∧ b ≠ gB) wq y gx.1) ∧ (bb = true → ba = false → Blk wq gx.2.1 60 gx.1) ∧
      (ba = true → AppR (fun b => B < b ∧ b ≠ gB) wq (gB + 1) gx.2.2 (xs ++ [y]))
  | _, _, _ => False
theorem index_two0 (a b : Value) (w : World) : (Instr.index 174 (.agg #[a, b]) (.int .i64 0)).run Tryz.prog w = .ok a w := by kernel_rfl
theorem index_two1 (a b : Value) (w : World) : (Instr.index 174 (.agg #[a, b]) (.int .i64 1)).run Tryz.prog w = .ok b w := by kernel_rfl
theorem InvY.keep {wr : World} {B gB : Nat} {r a : Int} {v : Value} {xs : List Rd} {y : Rd} {be bb ba bs : Bool} {gx : Array Value × Nat × Value} {wq w' : World} (h : InvY wr B gB r a v xs y [be, bb, ba, bs] gx wq) (hs : B ≤ wq.heap.size) (hb : Below wq.heap.size wq w') : InvY wr B gB r a v xs y [be, bb, ba, bs] gx w' := by
  obtain ⟨h1, h2, h3, h4, h5, h6, h7⟩ := h
  exact ⟨h1.trans (hb.mono hs), _root_.Go.Proofs.YthpioplpfmlgcaaGreatDoor.keep hb h2, _root_.Go.Proofs.YthpioplpfmlgcaaGreatDoor.keep hb h3, fun e => (h4 e).keep hb, fun e e' => (h5 e e').keep hb, fun e e' => _root_.Go.Proofs.YthpioplpfmlgcaaGreatDoor.keep hb (h6 e e'), fun e => (h7 e).keep hb⟩
set_option maxRecDepth 100000 in
set_option maxHeartbeats 4000000 in
theorem export_any (rs : List Rul) : ∀ (m : Nat) (b : Nat) (x : Rd) (w : World), sizeR x ≤ m → ShAt rs w b x → Calls Tryz.prog 88 #[ptrV b] w (ExportP x w) := by
  intro m
  induction m with
  | zero => intro b x w h; obtain ⟨r, a, ks⟩ := x; simp only [sizeR] at h; omega
  | succ m ih =>
    intro b x w hm hS
    have IH := Lib.hid ih
    clear ih
    obtain ⟨i0, hi, hz0, hz1, hz2⟩ := info_parts info_rd
    have hba := bel_alloc w (.cells rdZ 60)
    obtain ⟨kv, hK, hkl, hkd⟩ := hS.kids
    have HK0 := Lib.hid hK
    have HK := Lib.hid (keep hba hK)
    have HKD := Lib.hid hkd
    have HKL := Lib.hid hkl
    have HM := Lib.hid hm
    have HB := Lib.hid hba
    have K0 := Lib.hid (Blk.new w 60 rdZ)
    have HS1 := Lib.hid (World.size_alloc w (.cells rdZ 60))
    clear hba hK hkd hkl hm hS
    go_enter Tryz.func88, Tryz.ntmps88
    go_upto_region 1 with (fail)
    generalize w.alloc (.cells rdZ 60) = w1 at *
    refine region_ghost (X := Unit) (by kernel_rfl) _ (fun gx => [.pointer (some ⟨b, 0, none⟩), .pointer (some ⟨b, 0, none⟩), .pointer (some ⟨b, 0, none⟩), .int .i64 x.rule, .pointer (some ⟨b, 0, none⟩), .pointer (some ⟨b, 0, none⟩), .pointer (some ⟨b, 1, none⟩), .int .i64 x.at_, .agg #[.int .i64 x.rule, .int .i64 x.at_, .slice none 0 0], .pointer (some ⟨w.heap.size + 1, 0, none⟩), undef]) [true, true, true, true, true, true, true, true, true, true, true] [9, 10] (InvX w1 x.rule x.at_) () (by kernel_rfl) (fun gx => by simp [fin, finOn, dstAt, List.range, List.range.loop, Act.put]; rfl) (fun _ => by kernel_rfl) (by kernel_rfl) ⟨below_drew (Below.refl _ _), (fun _ => rfl), fun h => by cases h⟩ ?_ ?_
    · refine ⟨fun L gx wq hL hb ha hI => ?_, fun L gx wq hL hb ha hI => ?_, fun L gx wq hL hb ha hI => ?_, fun L gx wq hL hb ha hI => ?_, fun L gx wq hL hb ha hI => ?_, fun L gx wq hL hb ha hI => ?_, fun L gx wq hL hb ha hI => ?_, fun L gx wq hL hb ha hI => ?_, fun L gx wq hL hb ha hI => ?_, fun L gx wq hL hb ha hI => ?_, fun L gx wq hL hb ha hI => ?_, trivial⟩
      · exact Gives.plain (v := .pointer (some ⟨b, 0, none⟩)) (w' := wq) (by kernel_rfl) rfl hI
      · exact Gives.plain (v := .pointer (some ⟨b, 0, none⟩)) (w' := wq) (by simp [go_sem]) rfl hI
      · exact Gives.plain (v := .pointer (some ⟨b, 0, none⟩)) (w' := wq) (by simp [go_sem]) rfl hI
      · have cJ := (keep hI.1 HK.out).cell 0
        exact Gives.plain (v := .int .i64 x.rule) (w' := wq) (by simp [go_sem, cJ]) rfl hI
      · exact Gives.plain (v := .pointer (some ⟨b, 0, none⟩)) (w' := wq) (by kernel_rfl) rfl hI
      · exact Gives.plain (v := .pointer (some ⟨b, 0, none⟩)) (w' := wq) (by simp [go_sem]) rfl hI
      · exact Gives.plain (v := .pointer (some ⟨b, 1, none⟩)) (w' := wq) (by simp [go_sem]) rfl hI
      · have cJ := (keep hI.1 HK.out).cell 1
        exact Gives.plain (v := .int .i64 x.at_) (w' := wq) (by simp [go_sem, cJ]) rfl hI
      · exact Gives.plain (v := .agg #[.int .i64 x.rule, .int .i64 x.at_, .slice none 0 0]) (w' := wq) (by simp [go_sem]) rfl hI
      · have e9 : L 9 = false := hL
        have e10 : L 10 = false := ha 10 (by kernel_rfl)
        simp only [List.map, e9, e10] at hI ⊢
        obtain ⟨hb1, hsz, _⟩ := hI
        have hsz := hsz rfl
        have hba := bel_alloc wq (.cells rdZ 60)
        exact Gives.value (v := .pointer (some ⟨wq.heap.size, 0, none⟩)) (w' := wq.alloc (.cells rdZ 60)) (by simp [go_sem]) ⟨(), by rw [hsz, HS1.out]; rfl, KeepsV.same, hb1.trans (hba.mono hb1.size), (fun h => by cases h), fun _ => by rw [← hsz]; exact Blk.new _ _ _⟩
      · have e9 : L 9 = true := hb 9 (by kernel_rfl)
        have e10 : L 10 = false := hL
        simp only [List.map, e9, e10] at hI ⊢
        obtain ⟨hb1, _, hk⟩ := hI
        have hk : Blk wq (w.heap.size + 1) 60 rdZ := by rw [← HS1.out]; exact hk rfl
        have c0 := hk.cell 0
        have c1 := hk.cell 1
        have c2 := hk.cell 2
        have fK := fun i => hk.frozen i
        exact Gives.skip (w' := ((wq.setCell ⟨w.heap.size + 1, 0, none⟩ (.int .i64 x.rule)).setCell ⟨w.heap.size + 1, 1, none⟩ (.int .i64 x.at_)).setCell ⟨w.heap.size + 1, 2, none⟩ (.slice none 0 0)) (by simp [go_sem, c0, c1, c2, fK]) ⟨(), rfl, KeepsV.same, ((hb1.setCell (p := ⟨w.heap.size + 1, 0, none⟩) (by rw [HS1.out]; exact Nat.le_refl _) _).setCell (p := ⟨w.heap.size + 1, 1, none⟩) (by rw [HS1.out]; exact Nat.le_refl _) _).setCell (p := ⟨w.heap.size + 1, 2, none⟩) (by rw [HS1.out]; exact Nat.le_refl _) _, (fun h => by cases h), fun _ => by rw [HS1.out]; exact ((hk.set_ 0 _).set_ 1 _).set_ 2 _⟩
    · intro gx wq hI
      obtain ⟨hb1, _, hk⟩ := hI
      have K1 : Hid (Blk wq (w.heap.size + 1) 60 #[.int .i64 x.rule, .int .i64 x.at_, .slice none 0 0]) := Lib.hid (by rw [← HS1.out]; exact hk rfl)
      have HKQ := Lib.hid (keep hb1 HK.out)
      have K0 := Lib.hid (keep hb1 K0.out)
      have HB := Lib.hid (HB.out.trans (hb1.mono HB.out.size))
      clear hb1 hk HK HS1
      have c3 := HKQ.out.cell 3
      have c4 := HKQ.out.cell 4
      go_wp2_with fail
      clear c3 c4
      go_loopw [19] (fun i wr => ∃ (k : Nat) (v : Value), k ≤ 2 ∧ i = .int .i64 k ∧ Hid (AppR (fun b => w.heap.size < b ∧ b ≠ w.heap.size + 1) wr (w.heap.size + 1 + 1) v (x.kids.take k)) ∧ Hid (Blk wr (w.heap.size + 1) 60 #[.int .i64 x.rule, .int .i64 x.at_, v]) ∧ Hid (Blk wr w.heap.size 60 rdZ) ∧ Hid (Below w.heap.size w wr)) (fun i _ => 2 - (intOf i).toNat)
      case atStart => exact ⟨0, _, by omega, rfl, by rw [List.take_zero]; exact AppR.nil _ _ _, K1, K0, HB⟩
      case round =>
        clear K1 K0 HB
        obtain ⟨k, v, hk2, rfl, HO, K1, K0, HB⟩ := hrel
        by_cases hlt : k < 2
        · rcases HKD.out k hlt with ⟨hkn, hkv⟩ | ⟨b', y, hy, hkv, hsy⟩
          · have HTK := Lib.hid (show x.kids.take (k + 1) = x.kids.take k by rw [List.take_of_length_le (by omega), List.take_of_length_le hkn])
            rw [← HTK.out] at HO
            have hk01 : k = 0 ∨ k = 1 := by omega
            clear hkn
            rcases hk01 with rfl | rfl
            · rw [hkv, show ((0 : Nat) : Int) = 0 from rfl]
              have hix := index_two0 (.pointer none) (kv 1)
              clear hkv
              go_wp2_with fail
              go_roundw
              case rel => exact ⟨1, _, by omega, rfl, HO, K1, K0, HB⟩
              case measure => simp [intOf]
            · rw [hkv, show ((1 : Nat) : Int) = 1 from rfl]
              have hix := index_two1 (kv 0) (.pointer none)
              clear hkv
              go_wp2_with fail
              go_roundw
              case rel => exact ⟨2, _, by omega, rfl, HO, K1, K0, HB⟩
              case measure => simp [intOf]
          · have HTK := Lib.hid (show x.kids.take (k + 1) = x.kids.take k ++ [y] by rw [List.take_add_one, hy]; rfl)
            have HS0Y := Lib.hid hsy
            have HSZ := Lib.hid (show sizeR y ≤ m by
              have h1 := HM.out
              obtain ⟨r9, a9, ks9⟩ := x
              rw [sizeR] at h1
              have h2 := size_kid (show ks9[k]? = some y from hy)
              omega)
            have HXL := Lib.hid (show (x.kids.take k).length ≤ 2 by rw [List.length_take]; omega)
            have hk01 : k = 0 ∨ k = 1 := by omega
            clear hy hsy
            rcases hk01 with rfl | rfl
            · rw [hkv, show ((0 : Nat) : Int) = 0 from rfl]
              have hix := index_two0 (ptrV b') (kv 1)
              clear hkv
              go_upto_region 6 with (fail)
              clear hix
              refine region_ghost (X := Array Value × Nat × Value) (by kernel_rfl) _ (fun gx => [.pointer (some ⟨w.heap.size + 1, 2, none⟩), v, ptrV b', .agg gx.1, .slice (some ⟨gx.2.1, 0, none⟩) 1 1, gx.2.2, .pointer (some ⟨w.heap.size + 1, 2, none⟩), undef]) [true, true, true, true, true, true, true, true] [3, 4, 5, 7] (InvY w w.heap.size (w.heap.size + 1) x.rule x.at_ v (x.kids.take 0) y) (#[], 0, .nilFunc) (by kernel_rfl) (fun gx => by simp [fin, finOn, dstAt, List.range, List.range.loop, Act.put]; rfl) (fun _ => by kernel_rfl) (by kernel_rfl) ⟨below_drew HB.out, K0.out.drew, K1.out.drew, (fun _ => HO.out.keep (below_drew (Below.refl _ _))), (fun h => by cases h), (fun h => by cases h), fun h => by cases h⟩ ?_ ?_
              · refine ⟨fun L gx wq hL hb ha hI => ?_, fun L gx wq hL hb ha hI => ?_, fun L gx wq hL hb ha hI => ?_, fun L gx wq hL hb ha hI => ?_, fun L gx wq hL hb ha hI => ?_, fun L gx wq hL hb ha hI => ?_, fun L gx wq hL hb ha hI => ?_, fun L gx wq hL hb ha hI => ?_, trivial⟩
                · exact Gives.plain (v := .pointer (some ⟨w.heap.size + 1, 2, none⟩)) (w' := wq) (by simp [go_sem]) rfl hI
                · have e7 : L 7 = false := ha 7 (by kernel_rfl)
                  have cJ := hI.2.2.1.cell 2
                  simp only [e7] at cJ
                  exact Gives.plain (v := v) (w' := wq) (by simp [go_sem, cJ]) rfl hI
                · exact Gives.plain (v := ptrV b') (w' := wq) (by kernel_rfl) rfl hI
                · have e3 : L 3 = false := hL
                  have e4 : L 4 = false := ha 4 (by kernel_rfl)
                  have e5 : L 5 = false := ha 5 (by kernel_rfl)
                  simp only [List.map, e3, e4, e5] at hI ⊢
                  have hsz : w.heap.size ≤ wq.heap.size := by have := hI.2.1.lt; omega
                  refine Gives.call (f := 88) (args := #[ptrV b']) (w' := wq) (by kernel_rfl) ((IH.out b' y wq HSZ.out (HS0Y.out.keep hI.1)).mono ?_)
                  rintro e wa ⟨c, rfl, hc, hb5⟩
                  have hK := hI.keep hsz hb5
                  exact ⟨_, rfl, (c, gx.2), rfl, (KeepsV.of_same ⟨.inr (.inr rfl), .inr (.inr rfl), .inr (.inr rfl), .inl rfl, (by first | exact .inr (.inr rfl) | exact .inr (.inl (by kernel_rfl))), (by first | exact .inr (.inr rfl) | exact .inr (.inl (by kernel_rfl))), .inr (.inr rfl), .inr (.inr rfl), trivial⟩), hK.1, hK.2.1, hK.2.2.1, hK.2.2.2.1, (fun _ _ => hc.any fun b _ hb => ⟨fun h => by have := ((hI.2.2.2.1 rfl).lt b h).2; omega, by have := hI.2.1.lt; omega, by have := hI.2.2.1.lt; omega⟩), (fun h => by cases h), fun h => by cases h⟩
                · have e3 : L 3 = true := hb 3 (by kernel_rfl)
                  have e4 : L 4 = false := hL
                  have e5 : L 5 = false := ha 5 (by kernel_rfl)
                  simp only [List.map, e3, e4, e5] at hI ⊢
                  have hsz : w.heap.size ≤ wq.heap.size := by have := hI.2.1.lt; omega
                  have hK := hI.keep hsz (bel_alloc wq (.cells gx.1 60))
                  have hz := (hI.2.2.2.2.1 rfl rfl).size
                  obtain ⟨gc, gb, gv⟩ := gx
                  obtain ⟨A8, c8, rfl, _⟩ := (hI.2.2.2.2.1 rfl rfl).form
                  exact Gives.value (v := .slice (some ⟨wq.heap.size, 0, none⟩) 1 1) (w' := wq.alloc (.cells (rdC y.rule y.at_ A8 y.kids.length c8) 60)) (by simp [go_sem]) ⟨(_, wq.heap.size, gv), rfl, (KeepsV.of_same ⟨.inr (.inr rfl), .inr (.inr rfl), .inr (.inr rfl), (by first | exact .inr (.inr rfl) | exact .inr (.inl (by kernel_rfl))), .inl rfl, (by first | exact .inr (.inr rfl) | exact .inr (.inl (by kernel_rfl))), .inr (.inr rfl), .inr (.inr rfl), trivial⟩), hK.1, hK.2.1, hK.2.2.1, hK.2.2.2.1, hK.2.2.2.2.1, (fun _ _ => Blk.new _ _ _), fun h => by cases h⟩
                · have e3 : L 3 = true := hb 3 (by kernel_rfl)
                  have e4 : L 4 = true := hb 4 (by kernel_rfl)
                  have e5 : L 5 = false := hL
                  have e7 : L 7 = false := ha 7 (by kernel_rfl)
                  simp only [List.map, e3, e4, e5, e7] at hI ⊢
                  obtain ⟨h1, h2, h3, h4, h5, h6, _⟩ := hI
                  obtain ⟨css, ho, hl, hr⟩ := h4 rfl
                  have hxl := HXL.out
                  have hrow : ∀ b, v.ownBlock = some b → w.heap.size + 1 + 1 ≤ b := fun b hb => ((h4 rfl).lt b hb).1
                  exact gives_append (.tmp 25) (.tmp 28) 53 rfl (w.heap.size + 1 + 1) 60 i0 (.agg #[.int .i64 0, .int .i64 0, .slice none 0 0]) 3 40 Tryz.underlying53 hi hz0 hz1 hz2 rfl (by decide) v _ _ rfl ho wq.heap.size (some ⟨gx.2.1, 0, none⟩) 1 1 gx.1.toList rfl (reads_agg (h6 rfl rfl) (h5 rfl rfl).size) (rd_one (h5 rfl rfl)) (by unfold maxLen; omega) (by omega) (by have := h3.lt; omega) (fun v' w' g2 g3 g4 => ⟨(gx.1, gx.2.1, v'), rfl, (KeepsV.of_same ⟨.inr (.inr rfl), .inr (.inr rfl), .inr (.inr rfl), (by first | exact .inr (.inr rfl) | exact .inr (.inl (by kernel_rfl))), (by first | exact .inr (.inr rfl) | exact .inr (.inl (by kernel_rfl))), .inl rfl, .inr (.inr rfl), .inr (.inr rfl), trivial⟩), h1.grown g3 (by have := h2.lt; omega) (fun b hb => by have := hrow b hb; omega), h2.grown g3 (fun e => by have := hrow _ e.symm; omega), h3.grown g3 (fun e => by have := hrow _ e.symm; omega), (fun h => by cases h), (fun _ h => by cases h), (fun _ h => by cases h), fun _ => AppR.push hl hr (h5 rfl rfl) g2 g3 g4⟩)
                · exact Gives.plain (v := .pointer (some ⟨w.heap.size + 1, 2, none⟩)) (w' := wq) (by simp [go_sem]) rfl hI
                · have e3 : L 3 = true := hb 3 (by kernel_rfl)
                  have e4 : L 4 = true := hb 4 (by kernel_rfl)
                  have e5 : L 5 = true := hb 5 (by kernel_rfl)
                  have e7 : L 7 = false := hL
                  simp only [List.map, e3, e4, e5, e7] at hI ⊢
                  obtain ⟨gc, gb, gv⟩ := gx
                  obtain ⟨h1, h2, h3, _, _, _, h7⟩ := hI
                  have h3 : Blk wq (w.heap.size + 1) 60 #[.int .i64 x.rule, .int .i64 x.at_, v] := h3
                  obtain ⟨A5, c5, e9, _⟩ := (h7 rfl).form (fun b hb => ⟨by omega, by omega⟩)
                  dsimp only at e9
                  subst e9
                  have cJ := h3.cell 2
                  have fJ := h3.frozen 2
                  have hfar : ∀ b, (Value.slice A5 (x.kids.take 0 ++ [y]).length c5).ownBlock = some b → w.heap.size + 1 + 1 ≤ b := fun b hb => ((h7 rfl).lt b hb).1
                  exact Gives.skip (w' := wq.setCell ⟨w.heap.size + 1, 2, none⟩ (.slice A5 (x.kids.take 0 ++ [y]).length c5)) (by simp [go_sem, cJ, fJ]) ⟨_, rfl, KeepsV.same, h1.setCell (p := ⟨w.heap.size + 1, 2, none⟩) (by show w.heap.size ≤ w.heap.size + 1; omega) _, h2.far (by show w.heap.size ≠ w.heap.size + 1; omega) _, h3.set_ 2 _, (fun h => by cases h), (fun _ h => by cases h), (fun _ h => by cases h), fun _ => (h7 rfl).set_ (p := ⟨w.heap.size + 1, 2, none⟩) (fun h => h.2 rfl) (by show w.heap.size + 1 < _; omega) _⟩
              · intro gx wq hI
                obtain ⟨h1, h2, h3, _, _, _, h7⟩ := hI
                have HB := Lib.hid h1
                have K0 := Lib.hid h2
                have K1 := Lib.hid h3
                have HO := Lib.hid (h7 rfl)
                rw [← HTK.out] at HO
                clear h1 h2 h3 h7
                go_wp2_with fail
                go_roundw
                case rel => exact ⟨1, _, by omega, rfl, HO, K1, K0, HB⟩
                case measure => simp [intOf]
            · rw [hkv, show ((1 : Nat) : Int) = 1 from rfl]
              have hix := index_two1 (kv 0) (ptrV b')
              clear hkv
              go_upto_region 6 with (fail)
              clear hix
              refine region_ghost (X := Array Value × Nat × Value) (by kernel_rfl) _ (fun gx => [.pointer (some ⟨w.heap.size + 1, 2, none⟩), v, ptrV b', .agg gx.1, .slice (some ⟨gx.2.1, 0, none⟩) 1 1, gx.2.2, .pointer (some ⟨w.heap.size + 1, 2, none⟩), undef]) [true, true, true, true, true, true, true, true] [3, 4, 5, 7] (InvY w w.heap.size (w.heap.size + 1) x.rule x.at_ v (x.kids.take 1) y) (#[], 0, .nilFunc) (by kernel_rfl) (fun gx => by simp [fin, finOn, dstAt, List.range, List.range.loop, Act.put]; rfl) (fun _ => by kernel_rfl) (by kernel_rfl) ⟨below_drew HB.out, K0.out.drew, K1.out.drew, (fun _ => HO.out.keep (below_drew (Below.refl _ _))), (fun h => by cases h), (fun h => by cases h), fun h => by cases h⟩ ?_ ?_
              · refine ⟨fun L gx wq hL hb ha hI => ?_, fun L gx wq hL hb ha hI => ?_, fun L gx wq hL hb ha hI => ?_, fun L gx wq hL hb ha hI => ?_, fun L gx wq hL hb ha hI => ?_, fun L gx wq hL hb ha hI => ?_, fun L gx wq hL hb ha hI => ?_, fun L gx wq hL hb ha hI => ?_, trivial⟩
                · exact Gives.plain (v := .pointer (some ⟨w.heap.size + 1, 2, none⟩)) (w' := wq) (by simp [go_sem]) rfl hI
                · have e7 : L 7 = false := ha 7 (by kernel_rfl)
                  have cJ := hI.2.2.1.cell 2
                  simp only [e7] at cJ
                  exact Gives.plain (v := v) (w' := wq) (by simp [go_sem, cJ]) rfl hI
                · exact Gives.plain (v := ptrV b') (w' := wq) (by kernel_rfl) rfl hI
                · have e3 : L 3 = false := hL
                  have e4 : L 4 = false := ha 4 (by kernel_rfl)
                  have e5 : L 5 = false := ha 5 (by kernel_rfl)
                  simp only [List.map, e3, e4, e5] at hI ⊢
                  have hsz : w.heap.size ≤ wq.heap.size := by have := hI.2.1.lt; omega
                  refine Gives.call (f := 88) (args := #[ptrV b']) (w' := wq) (by kernel_rfl) ((IH.out b' y wq HSZ.out (HS0Y.out.keep hI.1)).mono ?_)
                  rintro e wa ⟨c, rfl, hc, hb5⟩
                  have hK := hI.keep hsz hb5
                  exact ⟨_, rfl, (c, gx.2), rfl, (KeepsV.of_same ⟨.inr (.inr rfl), .inr (.inr rfl), .inr (.inr rfl), .inl rfl, (by first | exact .inr (.inr rfl) | exact .inr (.inl (by kernel_rfl))), (by first | exact .inr (.inr rfl) | exact .inr (.inl (by kernel_rfl))), .inr (.inr rfl), .inr (.inr rfl), trivial⟩), hK.1, hK.2.1, hK.2.2.1, hK.2.2.2.1, (fun _ _ => hc.any fun b _ hb => ⟨fun h => by have := ((hI.2.2.2.1 rfl).lt b h).2; omega, by have := hI.2.1.lt; omega, by have := hI.2.2.1.lt; omega⟩), (fun h => by cases h), fun h => by cases h⟩
                · have e3 : L 3 = true := hb 3 (by kernel_rfl)
                  have e4 : L 4 = false := hL
                  have e5 : L 5 = false := ha 5 (by kernel_rfl)
                  simp only [List.map, e3, e4, e5] at hI ⊢
                  have hsz : w.heap.size ≤ wq.heap.size := by have := hI.2.1.lt; omega
                  have hK := hI.keep hsz (bel_alloc wq (.cells gx.1 60))
                  have hz := (hI.2.2.2.2.1 rfl rfl).size
                  obtain ⟨gc, gb, gv⟩ := gx
                  obtain ⟨A8, c8, rfl, _⟩ := (hI.2.2.2.2.1 rfl rfl).form
                  exact Gives.value (v := .slice (some ⟨wq.heap.size, 0, none⟩) 1 1) (w' := wq.alloc (.cells (rdC y.rule y.at_ A8 y.kids.length c8) 60)) (by simp [go_sem]) ⟨(_, wq.heap.size, gv), rfl, (KeepsV.of_same ⟨.inr (.inr rfl), .inr (.inr rfl), .inr (.inr rfl), (by first | exact .inr (.inr rfl) | exact .inr (.inl (by kernel_rfl))), .inl rfl, (by first | exact .inr (.inr rfl) | exact .inr (.inl (by kernel_rfl))), .inr (.inr rfl), .inr (.inr rfl), trivial⟩), hK.1, hK.2.1, hK.2.2.1, hK.2.2.2.1, hK.2.2.2.2.1, (fun _ _ => Blk.new _ _ _), fun h => by cases h⟩
                · have e3 : L 3 = true := hb 3 (by kernel_rfl)
                  have e4 : L 4 = true := hb 4 (by kernel_rfl)
                  have e5 : L 5 = false := hL
                  have e7 : L 7 = false := ha 7 (by kernel_rfl)
                  simp only [List.map, e3, e4, e5, e7] at hI ⊢
                  obtain ⟨h1, h2, h3, h4, h5, h6, _⟩ := hI
                  obtain ⟨css, ho, hl, hr⟩ := h4 rfl
                  have hxl := HXL.out
                  have hrow : ∀ b, v.ownBlock = some b → w.heap.size + 1 + 1 ≤ b := fun b hb => ((h4 rfl).lt b hb).1
                  exact gives_append (.tmp 25) (.tmp 28) 53 rfl (w.heap.size + 1 + 1) 60 i0 (.agg #[.int .i64 0, .int .i64 0, .slice none 0 0]) 3 40 Tryz.underlying53 hi hz0 hz1 hz2 rfl (by decide) v _ _ rfl ho wq.heap.size (some ⟨gx.2.1, 0, none⟩) 1 1 gx.1.toList rfl (reads_agg (h6 rfl rfl) (h5 rfl rfl).size) (rd_one (h5 rfl rfl)) (by unfold maxLen; omega) (by omega) (by have := h3.lt; omega) (fun v' w' g2 g3 g4 => ⟨(gx.1, gx.2.1, v'), rfl, (KeepsV.of_same ⟨.inr (.inr rfl), .inr (.inr rfl), .inr (.inr rfl), (by first | exact .inr (.inr rfl) | exact .inr (.inl (by kernel_rfl))), (by first | exact .inr (.inr rfl) | exact .inr (.inl (by kernel_rfl))), .inl rfl, .inr (.inr rfl), .inr (.inr rfl), trivial⟩), h1.grown g3 (by have := h2.lt; omega) (fun b hb => by have := hrow b hb; omega), h2.grown g3 (fun e => by have := hrow _ e.symm; omega), h3.grown g3 (fun e => by have := hrow _ e.symm; omega), (fun h => by cases h), (fun _ h => by cases h), (fun _ h => by cases h), fun _ => AppR.push hl hr (h5 rfl rfl) g2 g3 g4⟩)
                · exact Gives.plain (v := .pointer (some ⟨w.heap.size + 1, 2, none⟩)) (w' := wq) (by simp [go_sem]) rfl hI
                · have e3 : L 3 = true := hb 3 (by kernel_rfl)
                  have e4 : L 4 = true := hb 4 (by kernel_rfl)
                  have e5 : L 5 = true := hb 5 (by kernel_rfl)
                  have e7 : L 7 = false := hL
                  simp only [List.map, e3, e4, e5, e7] at hI ⊢
                  obtain ⟨gc, gb, gv⟩ := gx
                  obtain ⟨h1, h2, h3, _, _, _, h7⟩ := hI
                  have h3 : Blk wq (w.heap.size + 1) 60 #[.int .i64 x.rule, .int .i64 x.at_, v] := h3
                  obtain ⟨A5, c5, e9, _⟩ := (h7 rfl).form (fun b hb => ⟨by omega, by omega⟩)
                  dsimp only at e9
                  subst e9
                  have cJ := h3.cell 2
                  have fJ := h3.frozen 2
                  have hfar : ∀ b, (Value.slice A5 (x.kids.take 1 ++ [y]).length c5).ownBlock = some b → w.heap.size + 1 + 1 ≤ b := fun b hb => ((h7 rfl).lt b hb).1
                  exact Gives.skip (w' := wq.setCell ⟨w.heap.size + 1, 2, none⟩ (.slice A5 (x.kids.take 1 ++ [y]).length c5)) (by simp [go_sem, cJ, fJ]) ⟨_, rfl, KeepsV.same, h1.setCell (p := ⟨w.heap.size + 1, 2, none⟩) (by show w.heap.size ≤ w.heap.size + 1; omega) _, h2.far (by show w.heap.size ≠ w.heap.size + 1; omega) _, h3.set_ 2 _, (fun h => by cases h), (fun _ h => by cases h), (fun _ h => by cases h), fun _ => (h7 rfl).set_ (p := ⟨w.heap.size + 1, 2, none⟩) (fun h => h.2 rfl) (by show w.heap.size + 1 < _; omega) _⟩
              · intro gx wq hI
                obtain ⟨h1, h2, h3, _, _, _, h7⟩ := hI
                have HB := Lib.hid h1
                have K0 := Lib.hid h2
                have K1 := Lib.hid h3
                have HO := Lib.hid (h7 rfl)
                rw [← HTK.out] at HO
                clear h1 h2 h3 h7
                go_wp2_with fail
                go_roundw
                case rel => exact ⟨2, _, by omega, rfl, HO, K1, K0, HB⟩
                case measure => simp [intOf]
        · obtain rfl : k = 2 := by omega
          rw [List.take_of_length_le HKL.out] at HO
          obtain ⟨A5, cap5, rfl, hl5, hc5, hR5⟩ := HO.out.form (fun b hb => ⟨by omega, by omega⟩)
          have HR5 := Lib.hid hR5
          have c1 := fun i => K1.out.cell i
          have c0 := fun i => K0.out.cell i
          have f1 := fun i => K1.out.frozen i
          have f0 := fun i => K0.out.frozen i
          go_wp2_with fail
          have hwf := ((K0.out.set_ 0 (.int .i64 x.rule)).set_ 1 (.int .i64 x.at_)).set_ 2 (.slice A5 x.kids.length cap5)
          have hbf := ((HB.out.setCell (p := ⟨w.heap.size, 0, none⟩) (Nat.le_refl _) (.int .i64 x.rule)).setCell (p := ⟨w.heap.size, 1, none⟩) (Nat.le_refl _) (.int .i64 x.at_)).setCell (p := ⟨w.heap.size, 2, none⟩) (Nat.le_refl _) (.slice A5 x.kids.length cap5)
          have hrf : RdsAt (fun b => w.heap.size ≤ b) (((wr.setCell ⟨w.heap.size, 0, none⟩ (.int .i64 x.rule)).setCell ⟨w.heap.size, 1, none⟩ (.int .i64 x.at_)).setCell ⟨w.heap.size, 2, none⟩ (.slice A5 x.kids.length cap5)) A5 x.kids := by
            refine HR5.out.map (Nat.le_trans (grown_set _ _ _).size (Nat.le_trans (grown_set _ _ _).size (grown_set _ _ _).size)) (fun b _ h => by omega) fun q _ hq => ?_
            have hne : ∀ o, q ≠ ⟨w.heap.size, o, none⟩ := fun o e => by rw [e] at hq; exact Nat.lt_irrefl _ hq.1
            rw [World.cell?_setCell_other _ _ _ _ (fun e => hne 2 e.symm), World.cell?_setCell_other _ _ _ _ (fun e => hne 1 e.symm), World.cell?_setCell_other _ _ _ _ (fun e => hne 0 e.symm)]
          generalize ((wr.setCell ⟨w.heap.size, 0, none⟩ (.int .i64 x.rule)).setCell ⟨w.heap.size, 1, none⟩ (.int .i64 x.at_)).setCell ⟨w.heap.size, 2, none⟩ (.slice A5 x.kids.length cap5) = wf at *
          have dC := fun i => hwf.cell i
          refine bodyPost_ret (v := .agg (rdC x.rule x.at_ A5 x.kids.length cap5)) (by simp [results, Tryz.results88, go_sem, dC]) rfl ⟨_, rfl, ?_, hbf⟩
          obtain ⟨r9, a9, ks9⟩ := x
          exact RdAt.of hl5 hc5 hrf
end Go.Proofs.YthpioplpfmlgcaaGreatDoor.Ch
