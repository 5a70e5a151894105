/- Readings in memory. -/
import Derived.Test.YtmhddlhlniajpaaTF
namespace Go.Proofs.Ytmhddlhlniajpaa
open Go.RowKit
abbrev rdC (r a : Int) (A : Option Addr) (n cap : Nat) : Array Value := #[.int .i64 r, .int .i64 a, .slice A n cap]
/-- the three cells of a reading with its kids; ok: in which blocks the kids may lie -/
inductive RdAt (ok : Nat → Prop) (w : World) : Rd → Array Value → Prop
  | mk (r a : Int) (ks : List Rd) (A : Option Addr) (cap : Nat) (ad : Addr) (cs : Nat → Array Value) (hn : ks.length ≤ cap) (hc : cap ≤ 9223372036854775807)
      (hA : ks = [] ∨ (A = some ad ∧ ad.block < w.heap.size ∧ ok ad.block)) (hcell : ∀ i, i < ks.length → ∀ j, j < 3 → w.cell? (ad.add (i * 3 + j)) = (cs i)[j]?)
      (hk : ∀ (i : Nat) (h : i < ks.length), RdAt ok w ks[i] (cs i)) : RdAt ok w (.mk r a ks) (rdC r a A ks.length cap)
/-- readings in a row -/
def RdsAt (ok : Nat → Prop) (w : World) (A : Option Addr) (ks : List Rd) : Prop := ∀ (i : Nat) (x : Rd), ks[i]? = some x → ∃ ad : Addr, A = some ad ∧ ad.block < w.heap.size ∧ ok ad.block ∧ ∃ c, RdAt ok w x c ∧ ∀ j, j < 3 → w.cell? (ad.add (i * 3 + j)) = c[j]?
theorem RdAt.map {ok ok' : Nat → Prop} {w w' : World} (hs : w.heap.size ≤ w'.heap.size) (hok : ∀ b, b < w.heap.size → ok b → ok' b) (hc : ∀ p : Addr, p.block < w.heap.size → ok p.block → w'.cell? p = w.cell? p) {x : Rd} {c : Array Value} (h : RdAt ok w x c) : RdAt ok' w' x c := by
  induction h with
  | mk r a ks A cap ad cs hn hcap hA hcell hk ih =>
    refine .mk r a ks A cap ad cs hn hcap (hA.imp id fun ⟨h1, h2, h3⟩ => ⟨h1, Nat.lt_of_lt_of_le h2 hs, hok _ h2 h3⟩) (fun i hi j hj => ?_) ih
    rcases hA with h | ⟨h1, h2, h3⟩
    · subst h; simp at hi
    · rw [hc _ (by rw [add_block]; exact h2) (by rw [add_block]; exact h3)]; exact hcell i hi j hj
theorem RdAt.keep {ok : Nat → Prop} {w w' : World} {x : Rd} {c : Array Value} (h : RdAt ok w x c) (hb : Below w.heap.size w w') : RdAt ok w' x c := h.map hb.size (fun _ _ h => h) fun _ hp _ => hb.cell hp
theorem RdAt.any {ok ok' : Nat → Prop} {w : World} {x : Rd} {c : Array Value} (h : RdAt ok w x c) (hok : ∀ b, b < w.heap.size → ok b → ok' b) : RdAt ok' w x c := h.map (Nat.le_refl _) hok fun _ _ _ => rfl
theorem RdAt.grown {ok ok' : Nat → Prop} {w w' : World} {row : Option Nat} {x : Rd} {c : Array Value} (h : RdAt ok w x c) (hg : w.grownBy w' row) (hr : ∀ b, b < w.heap.size → ok b → some b ≠ row) (hok : ∀ b, b < w.heap.size → ok b → ok' b) : RdAt ok' w' x c :=
  h.map hg.size hok fun _ hp ho => World.cell?_of_block (hg.block _ hp (hr _ hp ho))
theorem RdsAt.map {ok ok' : Nat → Prop} {w w' : World} (hs : w.heap.size ≤ w'.heap.size) (hok : ∀ b, b < w.heap.size → ok b → ok' b) (hc : ∀ p : Addr, p.block < w.heap.size → ok p.block → w'.cell? p = w.cell? p) {A : Option Addr} {ks : List Rd} (h : RdsAt ok w A ks) : RdsAt ok' w' A ks := fun i x hi => by
  obtain ⟨ad, h1, h2, h3, c, h4, h5⟩ := h i x hi
  exact ⟨ad, h1, Nat.lt_of_lt_of_le h2 hs, hok _ h2 h3, c, h4.map hs hok hc, fun j hj => by rw [hc _ (by rw [add_block]; exact h2) (by rw [add_block]; exact h3)]; exact h5 j hj⟩
theorem RdsAt.keep {ok : Nat → Prop} {w w' : World} {A : Option Addr} {ks : List Rd} (h : RdsAt ok w A ks) (hb : Below w.heap.size w w') : RdsAt ok w' A ks := h.map hb.size (fun _ _ h => h) fun _ hp _ => hb.cell hp
theorem RdsAt.any {ok ok' : Nat → Prop} {w : World} {A : Option Addr} {ks : List Rd} (h : RdsAt ok w A ks) (hok : ∀ b, b < w.heap.size → ok b → ok' b) : RdsAt ok' w A ks := h.map (Nat.le_refl _) hok fun _ _ _ => rfl
theorem RdAt.size {ok : Nat → Prop} {w : World} {x : Rd} {c : Array Value} (h : RdAt ok w x c) : c.size = 3 := by cases h; rfl
theorem RdAt.form {ok : Nat → Prop} {w : World} {x : Rd} {c : Array Value} (h : RdAt ok w x c) : ∃ A cap, c = rdC x.rule x.at_ A x.kids.length cap ∧ x.kids.length ≤ cap ∧ cap ≤ 9223372036854775807 ∧ RdsAt ok w A x.kids := by
  cases h with
  | mk r a ks A cap ad cs hn hcap hA hcell hk =>
    refine ⟨A, cap, rfl, hn, hcap, fun i x hi => ?_⟩
    obtain ⟨hl, rfl⟩ := List.getElem?_eq_some_iff.1 hi
    have hl : i < ks.length := hl
    rcases hA with h | ⟨h1, h2, h3⟩
    · subst h; simp at hl
    · exact ⟨ad, h1, h2, h3, cs i, hk i hl, hcell i hl⟩
theorem RdAt.of {ok : Nat → Prop} {w : World} {r a : Int} {ks : List Rd} {A : Option Addr} {cap : Nat} (hn : ks.length ≤ cap) (hc : cap ≤ 9223372036854775807) (hk : RdsAt ok w A ks) : RdAt ok w (.mk r a ks) (rdC r a A ks.length cap) := by
  by_cases h0 : ks = []
  · subst h0
    exact .mk r a [] A cap ⟨0, 0, none⟩ (fun _ => #[]) hn hc (.inl rfl) (fun i hi => by simp at hi) (fun i hi => by simp at hi)
  · have h1 : 0 < ks.length := List.length_pos_iff.2 h0
    obtain ⟨ad, hA, hlt, hok, _⟩ := hk 0 ks[0] (List.getElem?_eq_getElem h1)
    have ex : ∀ i, ∃ c, ∀ h : i < ks.length, RdAt ok w ks[i] c ∧ ∀ j, j < 3 → w.cell? (ad.add (i * 3 + j)) = c[j]? := fun i => by
      by_cases h : i < ks.length
      · obtain ⟨ad', hA', _, _, c, h2, h3⟩ := hk i ks[i] (List.getElem?_eq_getElem h)
        obtain rfl : ad = ad' := by rw [hA] at hA'; exact Option.some.inj hA'
        exact ⟨c, fun _ => ⟨h2, h3⟩⟩
      · exact ⟨#[], fun h' => absurd h' h⟩
    obtain ⟨cs, hcs⟩ := Classical.axiomOfChoice ex
    exact .mk r a ks A cap ad cs hn hc (.inr ⟨hA, hlt, hok⟩) (fun i hi => (hcs i hi).2) (fun i hi => (hcs i hi).1)
/-- a list of readings that a call has made -/
def OwnR (ok : Nat → Prop) (w : World) (B : Nat) (v : Value) (xs : List Rd) : Prop := ∃ css : List (Array Value), w.ownsRow B 34 3 v xs.length (css.flatMap (·.toList)) ∧ css.length = xs.length ∧ (∀ (j : Nat) c x, css[j]? = some c → xs[j]? = some x → RdAt ok w x c)
theorem flat3 : ∀ (l : List (Array Value)) (k j : Nat) (c : Array Value), (∀ c ∈ l, c.size = 3) → l[k]? = some c → j < 3 → (l.flatMap (·.toList))[k * 3 + j]? = c[j]?
  | [], k, j, c, _, h, _ => by simp at h
  | x :: r, 0, j, c, hs, h, hj => by
    obtain rfl : x = c := by simpa using h
    have := hs x List.mem_cons_self
    rw [List.flatMap_cons, List.getElem?_append_left (by simp; omega)]
    simp
  | x :: r, k + 1, j, c, hs, h, hj => by
    have ih := flat3 r k j c (fun c hc => hs c (List.mem_cons_of_mem _ hc)) (by simpa using h) hj
    have := hs x List.mem_cons_self
    rw [List.flatMap_cons, List.getElem?_append_right (by simp; omega), ← ih]
    congr 1
    simp
    omega
theorem OwnR.nil (ok : Nat → Prop) (w : World) (B : Nat) : OwnR ok w B (.slice none 0 0) [] := ⟨[], World.ownsRow_nil _ _ _ _, rfl, fun j c x h => by simp at h⟩
theorem OwnR.size {ok : Nat → Prop} {w : World} {xs : List Rd} {css : List (Array Value)} (hl : css.length = xs.length) (h : ∀ (j : Nat) c x, css[j]? = some c → xs[j]? = some x → RdAt ok w x c) : ∀ c ∈ css, c.size = 3 := fun c hc => by
  obtain ⟨j, hj⟩ := List.mem_iff_getElem?.1 hc
  have hj2 := (List.getElem?_eq_some_iff.1 hj).1
  exact (h j c xs[j] hj (List.getElem?_eq_getElem (by omega))).size
theorem OwnR.keep {ok : Nat → Prop} {w w' : World} {B : Nat} {v : Value} {xs : List Rd} (h : OwnR ok w B v xs) (hb : Below w.heap.size w w') : OwnR ok w' B v xs := by
  obtain ⟨css, h1, h2, h3⟩ := h
  exact ⟨css, own_below h1 hb, h2, fun j c x hj hx => (h3 j c x hj hx).keep hb⟩
theorem OwnR.more {ok : Nat → Prop} {w : World} {B B' : Nat} {v : Value} {xs : List Rd} (h : OwnR ok w B v xs) (hB : B' ≤ B) : OwnR ok w B' v xs := by
  obtain ⟨css, h1, h2⟩ := h
  exact ⟨css, own_more h1 hB, h2⟩
theorem OwnR.any {ok ok' : Nat → Prop} {w : World} {B : Nat} {v : Value} {xs : List Rd} (h : OwnR ok w B v xs) (hok : ∀ b, b < w.heap.size → ok b → ok' b) : OwnR ok' w B v xs := by
  obtain ⟨css, h1, h2, h3⟩ := h
  exact ⟨css, h1, h2, fun j c x hj hx => (h3 j c x hj hx).any hok⟩
theorem OwnR.formP {ok P : Nat → Prop} {w : World} {B : Nat} {v : Value} {xs : List Rd} (h : OwnR ok w B v xs) (hB : ∀ b, B ≤ b → P b) (hok : ∀ b, ok b → P b) : ∃ A cap, v = .slice A xs.length cap ∧ xs.length ≤ cap ∧ cap ≤ 9223372036854775807 ∧ RdsAt P w A xs := by
  obtain ⟨css, ho, hl, hr⟩ := h
  have hsz := OwnR.size hl hr
  rcases ho.2 with ⟨rfl, h0⟩ | ⟨g, cap, cur, rfl, hg, hb, hn, hc, hs, ht⟩
  · obtain rfl : xs = [] := List.length_eq_zero_iff.1 h0
    exact ⟨none, 0, rfl, by simp, by omega, fun j p hj => by simp at hj⟩
  · have hb' : Blk w g 34 cur := hb
    refine ⟨_, cap, rfl, hn, by unfold maxLen at hc; omega, fun i x hi => ⟨⟨g, 0, none⟩, rfl, hb'.lt, hB g hg, ?_⟩⟩
    have hil := (List.getElem?_eq_some_iff.1 hi).1
    obtain ⟨c, hci⟩ : ∃ c, css[i]? = some c := ⟨_, List.getElem?_eq_getElem (by omega)⟩
    refine ⟨c, (hr i c x hci hi).any fun b _ h => hok b h, fun j hj => ?_⟩
    have h3 := flat3 css i j c hsz hci hj
    have hjc : j < c.size := by rw [hsz c (List.mem_of_getElem? hci)]; exact hj
    have h4 : c[j]? = some c[j] := Array.getElem?_eq_getElem hjc
    rw [show (⟨g, 0, none⟩ : Addr).add (i * 3 + j) = ⟨g, i * 3 + j, none⟩ by unfold Addr.add; split <;> simp_all, hb'.cell]
    rw [h4] at h3 ⊢
    rw [← ht, List.getElem?_take] at h3
    split at h3
    · rw [← Array.getElem?_toList]; exact h3
    · cases h3
theorem OwnR.form {ok : Nat → Prop} {w : World} {B : Nat} {v : Value} {xs : List Rd} (h : OwnR ok w B v xs) : ∃ A cap, v = .slice A xs.length cap ∧ xs.length ≤ cap ∧ cap ≤ 9223372036854775807 ∧ RdsAt (fun _ => True) w A xs := h.formP (fun _ _ => trivial) fun _ _ => trivial
theorem OwnR.lt {ok : Nat → Prop} {w : World} {B : Nat} {v : Value} {xs : List Rd} (h : OwnR ok w B v xs) : ∀ r, v.ownBlock = some r → B ≤ r ∧ r < w.heap.size := by
  obtain ⟨css, ho, _⟩ := h
  exact World.ownsRow.lt ho
/-- one more reading -/
theorem OwnR.snoc {ok ok' : Nat → Prop} {w w' : World} {B : Nat} {v v' : Value} {xs : List Rd} {css : List (Array Value)} {x : Rd} {c : Array Value} (hl : css.length = xs.length) (h : ∀ (j : Nat) c x, css[j]? = some c → xs[j]? = some x → RdAt ok w x c) (hx : RdAt ok w x c) (ho : w'.ownsRow B 34 3 v' (xs.length + 1) (css.flatMap (·.toList) ++ c.toList)) (hg : w.grownBy w' v.ownBlock) (hr : ∀ b, b < w.heap.size → ok b → some b ≠ v.ownBlock) (hok : ∀ b, b < w.heap.size → ok b → ok' b) : OwnR ok' w' B v' (xs ++ [x]) := by
  refine ⟨css ++ [c], ?_, by simp [hl], fun j d y hj hy => ?_⟩
  · rw [List.length_append, List.flatMap_append]
    simpa using ho
  · rcases Nat.lt_or_ge j css.length with hlt | hge
    · rw [List.getElem?_append_left hlt] at hj
      rw [List.getElem?_append_left (by omega)] at hy
      exact (h j d y hj hy).grown hg hr hok
    · rw [List.getElem?_append_right hge] at hj
      rw [List.getElem?_append_right (by omega), ← hl] at hy
      by_cases e : j - css.length = 0
      · rw [e] at hj hy
        obtain rfl : c = d := by simpa using hj
        obtain rfl : x = y := by simpa using hy
        exact hx.grown hg hr hok
      · rw [List.getElem?_eq_none (by simp; omega)] at hj; cases hj
/-- a list whose kids lie in no block of its own: the invariant of appending -/
def AppR (P : Nat → Prop) (w : World) (B : Nat) (v : Value) (xs : List Rd) : Prop := OwnR (fun b => v.ownBlock ≠ some b ∧ P b) w B v xs
theorem AppR.nil (P : Nat → Prop) (w : World) (B : Nat) : AppR P w B (.slice none 0 0) [] := OwnR.nil _ _ _
theorem AppR.keep {P : Nat → Prop} {w w' : World} {B : Nat} {v : Value} {xs : List Rd} (h : AppR P w B v xs) (hb : Below w.heap.size w w') : AppR P w' B v xs := OwnR.keep h hb
theorem AppR.push {P : Nat → Prop} {w w' : World} {B : Nat} {v v' : Value} {xs : List Rd} {css : List (Array Value)} {x : Rd} {c : Array Value} (hl : css.length = xs.length) (h : ∀ (j : Nat) c x, css[j]? = some c → xs[j]? = some x → RdAt (fun b => v.ownBlock ≠ some b ∧ P b) w x c) (hx : RdAt (fun b => v.ownBlock ≠ some b ∧ P b) w x c) (ho : w'.ownsRow B 34 3 v' (xs.length + 1) (css.flatMap (·.toList) ++ c.toList)) (hg : w.grownBy w' v.ownBlock) (hv : v'.ownBlock = v.ownBlock ∨ v'.ownBlock = some w.heap.size) : AppR P w' B v' (xs ++ [x]) :=
  OwnR.snoc hl h hx ho hg (fun b _ hb e => hb.1 e.symm) (fun b hb hok => ⟨by
    rcases hv with e | e
    · rw [e]; exact hok.1
    · rw [e]; intro h2; have := Option.some.inj h2; omega, hok.2⟩)
theorem AppR.set_ {P : Nat → Prop} {w : World} {B : Nat} {v : Value} {xs : List Rd} (h : AppR P w B v xs) {p : Addr} (hp : ¬ P p.block) (hpB : p.block < B) (u : Value) : AppR P (w.setCell p u) B v xs := by
  obtain ⟨css, h1, h2, h3⟩ := h
  refine ⟨css, World.ownsRow.kept h1 (grown_set w p u) ?_, h2, fun j c x hj hx => (h3 j c x hj hx).map (grown_set w p u).size (fun _ _ h => h) fun q _ ho => World.cell?_setCell_other w p q u (fun e => hp (by rw [e]; exact ho.2))⟩
  cases hv : v.ownBlock with
  | none => exact .inl rfl
  | some b =>
    refine .inr fun e => ?_
    have := (World.ownsRow.lt h1 b hv).1
    have := Option.some.inj e
    omega
theorem AppR.form {P : Nat → Prop} {w : World} {B : Nat} {v : Value} {xs : List Rd} (h : AppR P w B v xs) (hB : ∀ b, B ≤ b → P b) : ∃ A cap, v = .slice A xs.length cap ∧ xs.length ≤ cap ∧ cap ≤ 9223372036854775807 ∧ RdsAt P w A xs := OwnR.formP h hB fun _ hb => hb.2
theorem reads_agg {w : World} {g : Nat} {t : TypeId} {c : Array Value} {n : Nat} (h : Blk w g t c) (hn : c.size = n) : Reads w w.heap.size n (some ⟨g, 0, none⟩) 1 c.toList :=
  ⟨by simp [hn], fun _ => ⟨⟨g, 0, none⟩, rfl, h.lt, fun j v hj => by
    have e : (⟨g, 0, none⟩ : Addr).add j = ⟨g, j, none⟩ := by unfold Addr.add; split <;> simp_all
    rw [e, h.cell]
    simpa using hj⟩⟩
theorem rd_one {ok : Nat → Prop} {w : World} {x : Rd} {c : Array Value} (h : RdAt ok w x c) : ∀ u ∈ c.toList, u.oneCell' = true := by
  obtain ⟨A, cap, rfl, _⟩ := h.form
  intro u hu
  simp at hu
  rcases hu with rfl | rfl | rfl <;> rfl
theorem info_rd : (Try.prog.info? 34).map (fun i => (i.zero, i.size, i.bytes)) = some (some (.agg #[.int .i64 0, .int .i64 0, .slice none 0 0]), 3, 40) := by kernel_rfl
end Go.Proofs.Ytmhddlhlniajpaa
