/- Terms that a call has made: their cells lie in named blocks; worlds that only one block's turning tells apart. -/
import Derived.Test.YthpioplpfmlgcaaGreatDoorH09685d45
import Derived.Test.YthpioplpfmlgcaaGreatDoorHfc86ff91
namespace Go.Proofs.YthpioplpfmlgcaaGreatDoor.Sp
open Go.Proofs.YthpioplpfmlgcaaGreatDoor.At
open Go.Proofs.YthpioplpfmlgcaaGreatDoor.Ch
open Go.RowKit
theorem own_below {w w' : World} {base : Nat} {e : TypeId} {size : Nat} {v : Value} {n : Nat} {xs : List Value} (h : w.ownsRow base e size v n xs) (hb : Below w.heap.size w w') : w'.ownsRow base e size v n xs :=
  h.kept (row := none) ⟨hb.os, hb.tape, hb.output, hb.size, fun i hi _ => hb.block i hi⟩ (by cases v.ownBlock <;> simp)
theorem own_more {w : World} {base base' : Nat} {e : TypeId} {size : Nat} {v : Value} {n : Nat} {xs : List Value} (h : w.ownsRow base e size v n xs) (hB : base' ≤ base) : w.ownsRow base' e size v n xs :=
  ⟨h.1, h.2.imp id fun ⟨g, cap, cur, h1, h2, h3⟩ => ⟨g, cap, cur, h1, Nat.le_trans hB h2, h3⟩⟩
theorem grown_set (w : World) (p : Addr) (u : Value) : w.grownBy (w.setCell p u) (some p.block) :=
  ⟨rfl, rfl, rfl, by simp [World.setCell], fun k _ hk => Below.heap_setCell _ _ _ _ (fun e => hk (by simp [e]))⟩
theorem info_parts {P : Program} {t : TypeId} {z : Value} {a b : Nat} (h : (P.info? t).map (fun i => (i.zero, i.size, i.bytes)) = some (some z, a, b)) : ∃ i, P.info? t = some i ∧ i.zero = some z ∧ i.size = a ∧ i.bytes = b := by
  cases hi : P.info? t with
  | none => rw [hi] at h; cases h
  | some i =>
    rw [hi] at h
    simp only [Option.map_some, Option.some.injEq, Prod.mk.injEq] at h
    exact ⟨i, rfl, h.1, h.2.1, h.2.2⟩
/-- a world behind a call that turns one old block only -/
structure Gr (gp : Nat) (w w' : World) : Prop where
  os : w'.os = w.os
  tape : w'.tape = w.tape
  output : w'.output = w.output
  size : w.heap.size ≤ w'.heap.size
  block : ∀ k, k < w.heap.size → k ≠ gp → w'.heap[k]? = w.heap[k]?
theorem Gr.refl (gp : Nat) (w : World) : Gr gp w w := ⟨rfl, rfl, rfl, Nat.le_refl _, fun _ _ _ => rfl⟩
theorem Gr.trans {gp : Nat} {a b c : World} (h : Gr gp a b) (k : Gr gp b c) : Gr gp a c :=
  ⟨k.os.trans h.os, k.tape.trans h.tape, k.output.trans h.output, Nat.le_trans h.size k.size, fun i hi hn => (k.block i (Nat.lt_of_lt_of_le hi h.size) hn).trans (h.block i hi hn)⟩
theorem Gr.below {gp : Nat} {a b c : World} (h : Gr gp a b) (k : Below b.heap.size b c) : Gr gp a c :=
  ⟨k.os.trans h.os, k.tape.trans h.tape, k.output.trans h.output, Nat.le_trans h.size k.size, fun i hi hn => (k.block i (Nat.lt_of_lt_of_le hi h.size)).trans (h.block i hi hn)⟩
theorem Gr.grown {gp : Nat} {a b c : World} {row : Option Nat} (h : Gr gp a b) (k : b.grownBy c row) (hr : ∀ r, row = some r → a.heap.size ≤ r ∨ r = gp) : Gr gp a c :=
  ⟨k.os.trans h.os, k.tape.trans h.tape, k.output.trans h.output, Nat.le_trans h.size k.size, fun i hi hn => (k.block i (Nat.lt_of_lt_of_le hi h.size) (fun e => by rcases hr i e.symm with h' | h' <;> omega)).trans (h.block i hi hn)⟩
theorem Gr.set {gp : Nat} {a b : World} (h : Gr gp a b) {p : Addr} (hp : a.heap.size ≤ p.block ∨ p.block = gp) (u : Value) : Gr gp a (b.setCell p u) :=
  h.grown (grown_set b p u) fun r e => by have := Option.some.inj e; omega
theorem Gr.own {gp : Nat} {a b : World} (h : Gr gp a b) : a.grownBy b (some gp) := ⟨h.os, h.tape, h.output, h.size, fun i hi hn => h.block i hi (fun e => hn (by rw [e]))⟩
theorem Gr.blk {gp : Nat} {a b : World} (h : Gr gp a b) {g : Nat} {t : TypeId} {cs : Array Value} (hK : Blk a g t cs) (hn : g ≠ gp) : Blk b g t cs := (h.block g hK.lt hn).trans hK
theorem Gr.down {gp B : Nat} {a b : World} (h : Gr gp a b) (h1 : B ≤ a.heap.size) (h2 : B ≤ gp) : Below B a b := ⟨h.os, h.tape, h.output, h.size, fun i hi => h.block i (by omega) (by omega)⟩
/-- the five cells of a term with its arguments; ok: in which blocks the arguments may lie -/
inductive TmAt (ok : Nat → Prop) (w : World) : Trm → Array Value → Prop
  | mk (k : Int) (a v f : ByteArray) (ks : List Trm) (A : Option Addr) (cap : Nat) (ad : Addr) (cs : Nat → Array Value) (ha : a.size ≤ 9223372036854775807) (hv : v.size ≤ 9223372036854775807) (hf : f.size ≤ 9223372036854775807) (hn : ks.length ≤ cap) (hc : cap ≤ 9223372036854775807)
      (hA : ks = [] ∨ (A = some ad ∧ ad.block < w.heap.size ∧ ok ad.block)) (hcell : ∀ i, i < ks.length → ∀ j, j < 5 → w.cell? (ad.add (i * 5 + j)) = (cs i)[j]?)
      (hk : ∀ (i : Nat) (h : i < ks.length), TmAt ok w ks[i] (cs i)) : TmAt ok w (.mk k a v f ks) (trmC k a v A ks.length cap f)
/-- readings in a row -/
def TmsAt (ok : Nat → Prop) (w : World) (A : Option Addr) (ks : List Trm) : Prop := ∀ (i : Nat) (x : Trm), ks[i]? = some x → ∃ ad : Addr, A = some ad ∧ ad.block < w.heap.size ∧ ok ad.block ∧ ∃ c, TmAt ok w x c ∧ ∀ j, j < 5 → w.cell? (ad.add (i * 5 + j)) = c[j]?
theorem TmAt.map {ok ok' : Nat → Prop} {w w' : World} (hs : w.heap.size ≤ w'.heap.size) (hok : ∀ b, b < w.heap.size → ok b → ok' b) (hc : ∀ p : Addr, p.block < w.heap.size → ok p.block → w'.cell? p = w.cell? p) {x : Trm} {c : Array Value} (h : TmAt ok w x c) : TmAt ok' w' x c := by
  induction h with
  | mk k a v f ks A cap ad cs ha hv hf hn hcap hA hcell hk ih =>
    refine .mk k a v f ks A cap ad cs ha hv hf hn hcap (hA.imp id fun ⟨h1, h2, h3⟩ => ⟨h1, Nat.lt_of_lt_of_le h2 hs, hok _ h2 h3⟩) (fun i hi j hj => ?_) ih
    rcases hA with h | ⟨h1, h2, h3⟩
    · subst h; simp at hi
    · rw [hc _ (by rw [add_blk]; exact h2) (by rw [add_blk]; exact h3)]; exact hcell i hi j hj
theorem TmAt.keep {ok : Nat → Prop} {w w' : World} {x : Trm} {c : Array Value} (h : TmAt ok w x c) (hb : Below w.heap.size w w') : TmAt ok w' x c := h.map hb.size (fun _ _ h => h) fun _ hp _ => hb.cell hp
theorem TmAt.any {ok ok' : Nat → Prop} {w : World} {x : Trm} {c : Array Value} (h : TmAt ok w x c) (hok : ∀ b, b < w.heap.size → ok b → ok' b) : TmAt ok' w x c := h.map (Nat.le_refl _) hok fun _ _ _ => rfl
theorem TmAt.grown {ok ok' : Nat → Prop} {w w' : World} {row : Option Nat} {x : Trm} {c : Array Value} (h : TmAt ok w x c) (hg : w.grownBy w' row) (hr : ∀ b, b < w.heap.size → ok b → some b ≠ row) (hok : ∀ b, b < w.heap.size → ok b → ok' b) : TmAt ok' w' x c :=
  h.map hg.size hok fun _ hp ho => World.cell?_of_block (hg.block _ hp (hr _ hp ho))
theorem TmsAt.map {ok ok' : Nat → Prop} {w w' : World} (hs : w.heap.size ≤ w'.heap.size) (hok : ∀ b, b < w.heap.size → ok b → ok' b) (hc : ∀ p : Addr, p.block < w.heap.size → ok p.block → w'.cell? p = w.cell? p) {A : Option Addr} {ks : List Trm} (h : TmsAt ok w A ks) : TmsAt ok' w' A ks := fun i x hi => by
  obtain ⟨ad, h1, h2, h3, c, h4, h5⟩ := h i x hi
  exact ⟨ad, h1, Nat.lt_of_lt_of_le h2 hs, hok _ h2 h3, c, h4.map hs hok hc, fun j hj => by rw [hc _ (by rw [add_blk]; exact h2) (by rw [add_blk]; exact h3)]; exact h5 j hj⟩
theorem TmsAt.keep {ok : Nat → Prop} {w w' : World} {A : Option Addr} {ks : List Trm} (h : TmsAt ok w A ks) (hb : Below w.heap.size w w') : TmsAt ok w' A ks := h.map hb.size (fun _ _ h => h) fun _ hp _ => hb.cell hp
theorem TmsAt.any {ok ok' : Nat → Prop} {w : World} {A : Option Addr} {ks : List Trm} (h : TmsAt ok w A ks) (hok : ∀ b, b < w.heap.size → ok b → ok' b) : TmsAt ok' w A ks := h.map (Nat.le_refl _) hok fun _ _ _ => rfl
theorem TmAt.size {ok : Nat → Prop} {w : World} {x : Trm} {c : Array Value} (h : TmAt ok w x c) : c.size = 5 := by cases h; rfl
theorem TmAt.form {ok : Nat → Prop} {w : World} {x : Trm} {c : Array Value} (h : TmAt ok w x c) : ∃ A cap, c = trmC x.kind x.nam x.vr A x.args.length cap x.form ∧ x.nam.size ≤ 9223372036854775807 ∧ x.vr.size ≤ 9223372036854775807 ∧ x.form.size ≤ 9223372036854775807 ∧ x.args.length ≤ cap ∧ cap ≤ 9223372036854775807 ∧ TmsAt ok w A x.args := by
  cases h with
  | mk k a v f ks A cap ad cs ha hv hf hn hcap hA hcell hk =>
    refine ⟨A, cap, rfl, ha, hv, hf, hn, hcap, fun i x hi => ?_⟩
    obtain ⟨hl, rfl⟩ := List.getElem?_eq_some_iff.1 hi
    have hl : i < ks.length := hl
    rcases hA with h | ⟨h1, h2, h3⟩
    · subst h; simp at hl
    · exact ⟨ad, h1, h2, h3, cs i, hk i hl, hcell i hl⟩
theorem TmAt.of {ok : Nat → Prop} {w : World} {k : Int} {a v f : ByteArray} {ks : List Trm} {A : Option Addr} {cap : Nat} (ha : a.size ≤ 9223372036854775807) (hv : v.size ≤ 9223372036854775807) (hf : f.size ≤ 9223372036854775807) (hn : ks.length ≤ cap) (hc : cap ≤ 9223372036854775807) (hk : TmsAt ok w A ks) : TmAt ok w (.mk k a v f ks) (trmC k a v A ks.length cap f) := by
  by_cases h0 : ks = []
  · subst h0
    exact .mk k a v f [] A cap ⟨0, 0, none⟩ (fun _ => #[]) ha hv hf hn hc (.inl rfl) (fun i hi => by simp at hi) (fun i hi => by simp at hi)
  · have h1 : 0 < ks.length := List.length_pos_iff.2 h0
    obtain ⟨ad, hA, hlt, hok, _⟩ := hk 0 ks[0] (List.getElem?_eq_getElem h1)
    have ex : ∀ i, ∃ c, ∀ h : i < ks.length, TmAt ok w ks[i] c ∧ ∀ j, j < 5 → w.cell? (ad.add (i * 5 + j)) = c[j]? := fun i => by
      by_cases h : i < ks.length
      · obtain ⟨ad', hA', _, _, c, h2, h3⟩ := hk i ks[i] (List.getElem?_eq_getElem h)
        obtain rfl : ad = ad' := by rw [hA] at hA'; exact Option.some.inj hA'
        exact ⟨c, fun _ => ⟨h2, h3⟩⟩
      · exact ⟨#[], fun h' => absurd h' h⟩
    obtain ⟨cs, hcs⟩ := Classical.axiomOfChoice ex
    exact .mk k a v f ks A cap ad cs ha hv hf hn hc (.inr ⟨hA, hlt, hok⟩) (fun i hi => (hcs i hi).2) (fun i hi => (hcs i hi).1)
theorem TmAt.mat {ok : Nat → Prop} {w : World} {x : Trm} {c : Array Value} (h : TmAt ok w x c) : MAt w x c := by
  induction h with
  | mk k a v f ks A cap ad cs ha hv hf hn hc hA hcell hk ih =>
    exact .mk k a v f ks A cap ad cs ha hv hf hn hc (hA.imp id fun ⟨h1, h2, _⟩ => ⟨h1, h2⟩) hcell ih
theorem TmAt.zero (ok : Nat → Prop) (w : World) (k : Int) (a : ByteArray) (ha : a.size ≤ 9223372036854775807) : TmAt ok w (.mk k a ⟨#[]⟩ ⟨#[]⟩ []) (trmC k a ⟨#[]⟩ none 0 0 ⟨#[]⟩) :=
  TmAt.of (ks := []) ha (by decide) (by decide) (Nat.le_refl _) (by omega) fun i x h => by simp at h
/-- a list of readings that a call has made -/
def OwnT (ok : Nat → Prop) (w : World) (B : Nat) (v : Value) (xs : List Trm) : Prop := ∃ css : List (Array Value), w.ownsRow B 31 5 v xs.length (css.flatMap (·.toList)) ∧ css.length = xs.length ∧ (∀ (j : Nat) c x, css[j]? = some c → xs[j]? = some x → TmAt ok w x c)
theorem flat5 : ∀ (l : List (Array Value)) (k j : Nat) (c : Array Value), (∀ c ∈ l, c.size = 5) → l[k]? = some c → j < 5 → (l.flatMap (·.toList))[k * 5 + j]? = c[j]?
  | [], k, j, c, _, h, _ => by simp at h
  | x :: r, 0, j, c, hs, h, hj => by
    obtain rfl : x = c := by simpa using h
    have := hs x List.mem_cons_self
    rw [List.flatMap_cons, List.getElem?_append_left (by simp; omega)]
    simp
  | x :: r, k + 1, j, c, hs, h, hj => by
    have ih := flat5 r k j c (fun c hc => hs c (List.mem_cons_of_mem _ hc)) (by simpa using h) hj
    have := hs x List.mem_cons_self
    rw [List.flatMap_cons, List.getElem?_append_right (by simp; omega), ← ih]
    congr 1
    simp
    omega
theorem OwnT.nil (ok : Nat → Prop) (w : World) (B : Nat) : OwnT ok w B (.slice none 0 0) [] := ⟨[], World.ownsRow_nil _ _ _ _, rfl, fun j c x h => by simp at h⟩
theorem OwnT.size {ok : Nat → Prop} {w : World} {xs : List Trm} {css : List (Array Value)} (hl : css.length = xs.length) (h : ∀ (j : Nat) c x, css[j]? = some c → xs[j]? = some x → TmAt ok w x c) : ∀ c ∈ css, c.size = 5 := fun c hc => by
  obtain ⟨j, hj⟩ := List.mem_iff_getElem?.1 hc
  have hj2 := (List.getElem?_eq_some_iff.1 hj).1
  exact (h j c xs[j] hj (List.getElem?_eq_getElem (by omega))).size
theorem OwnT.keep {ok : Nat → Prop} {w w' : World} {B : Nat} {v : Value} {xs : List Trm} (h : OwnT ok w B v xs) (hb : Below w.heap.size w w') : OwnT ok w' B v xs := by
  obtain ⟨css, h1, h2, h3⟩ := h
  exact ⟨css, own_below h1 hb, h2, fun j c x hj hx => (h3 j c x hj hx).keep hb⟩
theorem OwnT.more {ok : Nat → Prop} {w : World} {B B' : Nat} {v : Value} {xs : List Trm} (h : OwnT ok w B v xs) (hB : B' ≤ B) : OwnT ok w B' v xs := by
  obtain ⟨css, h1, h2⟩ := h
  exact ⟨css, own_more h1 hB, h2⟩
theorem OwnT.any {ok ok' : Nat → Prop} {w : World} {B : Nat} {v : Value} {xs : List Trm} (h : OwnT ok w B v xs) (hok : ∀ b, b < w.heap.size → ok b → ok' b) : OwnT ok' w B v xs := by
  obtain ⟨css, h1, h2, h3⟩ := h
  exact ⟨css, h1, h2, fun j c x hj hx => (h3 j c x hj hx).any hok⟩
theorem OwnT.formP {ok P : Nat → Prop} {w : World} {B : Nat} {v : Value} {xs : List Trm} (h : OwnT ok w B v xs) (hB : ∀ b, B ≤ b → P b) (hok : ∀ b, ok b → P b) : ∃ A cap, v = .slice A xs.length cap ∧ xs.length ≤ cap ∧ cap ≤ 9223372036854775807 ∧ TmsAt P w A xs := by
  obtain ⟨css, ho, hl, hr⟩ := h
  have hsz := OwnT.size hl hr
  rcases ho.2 with ⟨rfl, h0⟩ | ⟨g, cap, cur, rfl, hg, hb, hn, hc, hs, ht⟩
  · obtain rfl : xs = [] := List.length_eq_zero_iff.1 h0
    exact ⟨none, 0, rfl, by simp, by omega, fun j p hj => by simp at hj⟩
  · have hb' : Blk w g 31 cur := hb
    refine ⟨_, cap, rfl, hn, by unfold maxLen at hc; omega, fun i x hi => ⟨⟨g, 0, none⟩, rfl, hb'.lt, hB g hg, ?_⟩⟩
    have hil := (List.getElem?_eq_some_iff.1 hi).1
    obtain ⟨c, hci⟩ : ∃ c, css[i]? = some c := ⟨_, List.getElem?_eq_getElem (by omega)⟩
    refine ⟨c, (hr i c x hci hi).any fun b _ h => hok b h, fun j hj => ?_⟩
    have h3 := flat5 css i j c hsz hci hj
    have hjc : j < c.size := by rw [hsz c (List.mem_of_getElem? hci)]; exact hj
    have h4 : c[j]? = some c[j] := Array.getElem?_eq_getElem hjc
    rw [show (⟨g, 0, none⟩ : Addr).add (i * 5 + j) = ⟨g, i * 5 + j, none⟩ by unfold Addr.add; split <;> simp_all, hb'.cell]
    rw [h4] at h3 ⊢
    rw [← ht, List.getElem?_take] at h3
    split at h3
    · rw [← Array.getElem?_toList]; exact h3
    · cases h3
theorem OwnT.form {ok : Nat → Prop} {w : World} {B : Nat} {v : Value} {xs : List Trm} (h : OwnT ok w B v xs) : ∃ A cap, v = .slice A xs.length cap ∧ xs.length ≤ cap ∧ cap ≤ 9223372036854775807 ∧ TmsAt (fun _ => True) w A xs := h.formP (fun _ _ => trivial) fun _ _ => trivial
theorem OwnT.lt {ok : Nat → Prop} {w : World} {B : Nat} {v : Value} {xs : List Trm} (h : OwnT ok w B v xs) : ∀ r, v.ownBlock = some r → B ≤ r ∧ r < w.heap.size := by
  obtain ⟨css, ho, _⟩ := h
  exact World.ownsRow.lt ho
/-- one more reading -/
theorem OwnT.snoc {ok ok' : Nat → Prop} {w w' : World} {B : Nat} {v v' : Value} {xs : List Trm} {css : List (Array Value)} {x : Trm} {c : Array Value} (hl : css.length = xs.length) (h : ∀ (j : Nat) c x, css[j]? = some c → xs[j]? = some x → TmAt ok w x c) (hx : TmAt ok w x c) (ho : w'.ownsRow B 31 5 v' (xs.length + 1) (css.flatMap (·.toList) ++ c.toList)) (hg : w.grownBy w' v.ownBlock) (hr : ∀ b, b < w.heap.size → ok b → some b ≠ v.ownBlock) (hok : ∀ b, b < w.heap.size → ok b → ok' b) : OwnT ok' w' B v' (xs ++ [x]) := by
  refine ⟨css ++ [c], ?_, by simp [hl], fun j d y hj hy => ?_⟩
  · rw [List.length_append, List.flatMap_append]
    simpa using ho
  · rcases Nat.lt_or_ge j css.length with hlt | hge
    · rw [List.getElem?_append_left hlt] at hj
      rw [List.getElem?_append_left (by omega)] at hy
      exact (h j d y hj hy).grown hg hr hok
    · rw [List.getElem?_append_right hge] at hj
      rw [List.getElem?_append_right (by omega), ← hl] at hy
      by_cases e : j - css.length = 0
      · rw [e] at hj hy
        obtain rfl : c = d := by simpa using hj
        obtain rfl : x = y := by simpa using hy
        exact hx.grown hg hr hok
      · rw [List.getElem?_eq_none (by simp; omega)] at hj; cases hj
/-- a list whose kids lie in no block of its own: the invariant of appending -/
def AppT (P : Nat → Prop) (w : World) (B : Nat) (v : Value) (xs : List Trm) : Prop := OwnT (fun b => v.ownBlock ≠ some b ∧ P b) w B v xs
theorem AppT.nil (P : Nat → Prop) (w : World) (B : Nat) : AppT P w B (.slice none 0 0) [] := OwnT.nil _ _ _
theorem AppT.keep {P : Nat → Prop} {w w' : World} {B : Nat} {v : Value} {xs : List Trm} (h : AppT P w B v xs) (hb : Below w.heap.size w w') : AppT P w' B v xs := OwnT.keep h hb
theorem AppT.push {P : Nat → Prop} {w w' : World} {B : Nat} {v v' : Value} {xs : List Trm} {css : List (Array Value)} {x : Trm} {c : Array Value} (hl : css.length = xs.length) (h : ∀ (j : Nat) c x, css[j]? = some c → xs[j]? = some x → TmAt (fun b => v.ownBlock ≠ some b ∧ P b) w x c) (hx : TmAt (fun b => v.ownBlock ≠ some b ∧ P b) w x c) (ho : w'.ownsRow B 31 5 v' (xs.length + 1) (css.flatMap (·.toList) ++ c.toList)) (hg : w.grownBy w' v.ownBlock) (hv : v'.ownBlock = v.ownBlock ∨ v'.ownBlock = some w.heap.size) : AppT P w' B v' (xs ++ [x]) :=
  OwnT.snoc hl h hx ho hg (fun b _ hb e => hb.1 e.symm) (fun b hb hok => ⟨by
    rcases hv with e | e
    · rw [e]; exact hok.1
    · rw [e]; intro h2; have := Option.some.inj h2; omega, hok.2⟩)
theorem AppT.set_ {P : Nat → Prop} {w : World} {B : Nat} {v : Value} {xs : List Trm} (h : AppT P w B v xs) {p : Addr} (hp : ¬ P p.block) (hpB : p.block < B) (u : Value) : AppT P (w.setCell p u) B v xs := by
  obtain ⟨css, h1, h2, h3⟩ := h
  refine ⟨css, World.ownsRow.kept h1 (grown_set w p u) ?_, h2, fun j c x hj hx => (h3 j c x hj hx).map (grown_set w p u).size (fun _ _ h => h) fun q _ ho => World.cell?_setCell_other w p q u (fun e => hp (by rw [e]; exact ho.2))⟩
  cases hv : v.ownBlock with
  | none => exact .inl rfl
  | some b =>
    refine .inr fun e => ?_
    have := (World.ownsRow.lt h1 b hv).1
    have := Option.some.inj e
    omega
theorem AppT.form {P : Nat → Prop} {w : World} {B : Nat} {v : Value} {xs : List Trm} (h : AppT P w B v xs) (hB : ∀ b, B ≤ b → P b) : ∃ A cap, v = .slice A xs.length cap ∧ xs.length ≤ cap ∧ cap ≤ 9223372036854775807 ∧ TmsAt P w A xs := OwnT.formP h hB fun _ hb => hb.2
theorem reads_agg {w : World} {g : Nat} {t : TypeId} {c : Array Value} {n : Nat} (h : Blk w g t c) (hn : c.size = n) : Reads w w.heap.size n (some ⟨g, 0, none⟩) 1 c.toList :=
  ⟨by simp [hn], fun _ => ⟨⟨g, 0, none⟩, rfl, h.lt, fun j v hj => by
    have e : (⟨g, 0, none⟩ : Addr).add j = ⟨g, j, none⟩ := by unfold Addr.add; split <;> simp_all
    rw [e, h.cell]
    simpa using hj⟩⟩
theorem tm_one {ok : Nat → Prop} {w : World} {x : Trm} {c : Array Value} (h : TmAt ok w x c) : ∀ u ∈ c.toList, u.oneCell' = true := by
  obtain ⟨A, cap, rfl, _⟩ := h.form
  intro u hu
  simp at hu
  rcases hu with rfl | rfl | rfl | rfl | rfl <;> rfl
theorem info_tm : (Tryz.prog.info? 31).map (fun i => (i.zero, i.size, i.bytes)) = some (some (.agg #[.int .i64 0, .string ⟨#[]⟩, .string ⟨#[]⟩, .slice none 0 0, .string ⟨#[]⟩]), 5, 80) := by kernel_rfl
theorem TmAt.ext {ok : Nat → Prop} {w : World} {x : Trm} {c : Array Value} (h : TmAt ok w x c) : ∃ k a v A n cap f, c = #[.int .i64 k, .string a, .string v, .slice A n cap, .string f] := by
  obtain ⟨A, cap, rfl, _⟩ := h.form
  exact ⟨_, _, _, _, _, _, _, rfl⟩
end Go.Proofs.YthpioplpfmlgcaaGreatDoor.Sp
