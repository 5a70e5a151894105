/- What the reference's all needs besides: appending a list of readings, and the state of a region with five calls. -/
import Derived.Test.YtmhddlhlniajpaaPA
import Derived.Test.YtmhddlhlniajpaaC4
import Derived.Test.YtmhddlhlniajpaaRP9
namespace Go.Proofs.Ytmhddlhlniajpaa
open Go.RowKit
theorem AppR.any {P Q : Nat → Prop} {w : World} {B : Nat} {v : Value} {xs : List Rd} (h : AppR P w B v xs) (hok : ∀ b, b < w.heap.size → P b → Q b) : AppR Q w B v xs := OwnR.any h fun b hb h => ⟨h.1, hok b hb h.2⟩
theorem AppR.more {P : Nat → Prop} {w : World} {B B' : Nat} {v : Value} {xs : List Rd} (h : AppR P w B v xs) (hB : B' ≤ B) : AppR P w B' v xs := OwnR.more h hB
theorem AppR.lt {P : Nat → Prop} {w : World} {B : Nat} {v : Value} {xs : List Rd} (h : AppR P w B v xs) : ∀ r, v.ownBlock = some r → B ≤ r ∧ r < w.heap.size := OwnR.lt h
/-- all readings of another list are appended -/
theorem AppR.pushAll {P : Nat → Prop} {w w' : World} {B : Nat} {v v' : Value} {xs ys : List Rd} {css dss : List (Array Value)} (hl : css.length = xs.length) (h : ∀ (j : Nat) c x, css[j]? = some c → xs[j]? = some x → RdAt (fun b => v.ownBlock ≠ some b ∧ P b) w x c) (hl2 : dss.length = ys.length) (h2 : ∀ (j : Nat) c x, dss[j]? = some c → ys[j]? = some x → RdAt (fun b => v.ownBlock ≠ some b ∧ P b) w x c) (ho : w'.ownsRow B 34 3 v' (xs.length + ys.length) (css.flatMap (·.toList) ++ dss.flatMap (·.toList))) (hg : w.grownBy w' v.ownBlock) (hv : v'.ownBlock = v.ownBlock ∨ v'.ownBlock = some w.heap.size) : AppR P w' B v' (xs ++ ys) := by
  have hok : ∀ b, b < w.heap.size → (v.ownBlock ≠ some b ∧ P b) → (v'.ownBlock ≠ some b ∧ P b) := fun b hb hok => ⟨by
    rcases hv with e | e
    · rw [e]; exact hok.1
    · rw [e]; intro h2; have := Option.some.inj h2; omega, hok.2⟩
  have hr : ∀ b, b < w.heap.size → (v.ownBlock ≠ some b ∧ P b) → some b ≠ v.ownBlock := fun b _ hb e => hb.1 e.symm
  refine ⟨css ++ dss, ?_, by simp [hl, hl2], fun j d y hj hy => ?_⟩
  · rw [List.length_append, List.flatMap_append]
    exact ho
  · rcases Nat.lt_or_ge j css.length with hlt | hge
    · rw [List.getElem?_append_left hlt] at hj
      rw [List.getElem?_append_left (by omega)] at hy
      exact (h j d y hj hy).grown hg hr hok
    · rw [List.getElem?_append_right hge] at hj
      rw [List.getElem?_append_right (by omega), ← hl] at hy
      exact (h2 _ d y hj hy).grown hg hr hok
theorem rd_ones {ok : Nat → Prop} {w : World} {css : List (Array Value)} {xs : List Rd} (hl : css.length = xs.length) (h : ∀ (j : Nat) c x, css[j]? = some c → xs[j]? = some x → RdAt ok w x c) : ∀ u ∈ css.flatMap (·.toList), u.oneCell' = true := by
  intro u hu
  obtain ⟨c, hc, hu⟩ := List.mem_flatMap.1 hu
  obtain ⟨j, hj⟩ := List.mem_iff_getElem?.1 hc
  have hj2 := (List.getElem?_eq_some_iff.1 hj).1
  exact rd_one (h j c xs[j] hj (List.getElem?_eq_getElem (by omega))) u hu
/-- the five values that calls give, and the appended list -/
structure GA where
  a : Value
  b : Value
  c : Value
  d : Value
  e : Value
  f : Value
/-- between the operations: what is done so far; z: the heap's size ahead of the region; w0: the world at the entry -/
def InvA (w0 w5 : World) (u9 : Value) (X1 X2 X3 X4 X5 X0 : List Rd) (L : List Bool) (g : GA) (wq : World) : Prop :=
  (L[5]? = some false → Below w5.heap.size w5 wq ∧ (L[0]? = some true → AppR (fun b => w5.heap.size ≤ b) wq w5.heap.size g.a X1) ∧ (L[1]? = some true → AppR (fun b => w5.heap.size ≤ b) wq w5.heap.size g.b X2) ∧ (L[2]? = some true → AppR (fun b => w5.heap.size ≤ b) wq w5.heap.size g.c X3) ∧ (L[3]? = some true → AppR (fun b => w5.heap.size ≤ b) wq w5.heap.size g.d X4) ∧ (L[4]? = some true → AppR (fun b => w5.heap.size ≤ b) wq w5.heap.size g.e X5)) ∧
  (L[5]? = some true → AppR (fun b => w0.heap.size ≤ b) wq w0.heap.size g.f (X0 ++ X5) ∧ Below w0.heap.size w0 wq ∧ ∀ b t c, Blk w5 b t c → u9.ownBlock ≠ some b → Blk wq b t c ∧ g.f.ownBlock ≠ some b)
section
variable {w0 w5 wq wa : World} {X1 X2 X3 X4 X5 X0 : List Rd} {l0 l1 l2 l3 l4 l5 : Bool} {g : GA} {v u9 : Value}
theorem InvA.start : InvA w0 w5 u9 X1 X2 X3 X4 X5 X0 [false, false, false, false, false, false] g w5.drew :=
  ⟨fun _ => ⟨below_drew (Below.refl _ _), fun h => (by cases h), fun h => (by cases h), fun h => (by cases h), fun h => (by cases h), fun h => (by cases h)⟩, fun h => by cases h⟩
theorem InvA.below {L : List Bool} (h : InvA w0 w5 u9 X1 X2 X3 X4 X5 X0 L g wq) (h5 : L[5]? = some false) : Below w5.heap.size w5 wq := (h.1 h5).1
theorem InvA.s0 (e5 : l5 = false) (h : InvA w0 w5 u9 X1 X2 X3 X4 X5 X0 [l0, l1, l2, l3, l4, l5] g wq) (hb : Below wq.heap.size wq wa) (ho : AppR (fun b => wq.heap.size ≤ b) wa wq.heap.size v X1) : InvA w0 w5 u9 X1 X2 X3 X4 X5 X0 [true, l1, l2, l3, l4, l5] {g with a := v} wa := by
  subst e5
  obtain ⟨h0, _, h2, h3, h4, h5⟩ := h.1 rfl
  have hs := h0.size
  exact ⟨fun _ => ⟨h0.trans (hb.mono hs), fun _ => (ho.any fun b _ h => Nat.le_trans hs h).more hs, fun e => (h2 e).keep hb, fun e => (h3 e).keep hb, fun e => (h4 e).keep hb, fun e => (h5 e).keep hb⟩, fun e => by cases e⟩
theorem InvA.s1 (e5 : l5 = false) (h : InvA w0 w5 u9 X1 X2 X3 X4 X5 X0 [l0, l1, l2, l3, l4, l5] g wq) (hb : Below wq.heap.size wq wa) (ho : AppR (fun b => w5.heap.size ≤ b ∧ b < wq.heap.size) wa wq.heap.size v X2) : InvA w0 w5 u9 X1 X2 X3 X4 X5 X0 [l0, true, l2, l3, l4, l5] {g with b := v} wa := by
  subst e5
  obtain ⟨h0, h1, _, h3, h4, h5⟩ := h.1 rfl
  have hs := h0.size
  exact ⟨fun _ => ⟨h0.trans (hb.mono hs), fun e => (h1 e).keep hb, fun _ => (ho.any fun b _ h => h.1).more hs, fun e => (h3 e).keep hb, fun e => (h4 e).keep hb, fun e => (h5 e).keep hb⟩, fun e => by cases e⟩
theorem InvA.s2 (e5 : l5 = false) (h : InvA w0 w5 u9 X1 X2 X3 X4 X5 X0 [l0, l1, l2, l3, l4, l5] g wq) (hb : Below wq.heap.size wq wa) (ho : AppR (fun b => wq.heap.size ≤ b) wa wq.heap.size v X3) : InvA w0 w5 u9 X1 X2 X3 X4 X5 X0 [l0, l1, true, l3, l4, l5] {g with c := v} wa := by
  subst e5
  obtain ⟨h0, h1, h2, _, h4, h5⟩ := h.1 rfl
  have hs := h0.size
  exact ⟨fun _ => ⟨h0.trans (hb.mono hs), fun e => (h1 e).keep hb, fun e => (h2 e).keep hb, fun _ => (ho.any fun b _ h => Nat.le_trans hs h).more hs, fun e => (h4 e).keep hb, fun e => (h5 e).keep hb⟩, fun e => by cases e⟩
theorem InvA.s3 (e5 : l5 = false) (h : InvA w0 w5 u9 X1 X2 X3 X4 X5 X0 [l0, l1, l2, l3, l4, l5] g wq) (hb : Below wq.heap.size wq wa) (ho : AppR (fun b => w5.heap.size ≤ b ∧ b < wq.heap.size) wa wq.heap.size v X4) : InvA w0 w5 u9 X1 X2 X3 X4 X5 X0 [l0, l1, l2, true, l4, l5] {g with d := v} wa := by
  subst e5
  obtain ⟨h0, h1, h2, h3, _, h5⟩ := h.1 rfl
  have hs := h0.size
  exact ⟨fun _ => ⟨h0.trans (hb.mono hs), fun e => (h1 e).keep hb, fun e => (h2 e).keep hb, fun e => (h3 e).keep hb, fun _ => (ho.any fun b _ h => h.1).more hs, fun e => (h5 e).keep hb⟩, fun e => by cases e⟩
theorem InvA.s4 (e5 : l5 = false) (h : InvA w0 w5 u9 X1 X2 X3 X4 X5 X0 [l0, l1, l2, l3, l4, l5] g wq) (hb : Below wq.heap.size wq wa) (ho : AppR (fun b => (w5.heap.size ≤ b ∧ b < wq.heap.size) ∨ wq.heap.size ≤ b) wa wq.heap.size v X5) : InvA w0 w5 u9 X1 X2 X3 X4 X5 X0 [l0, l1, l2, l3, true, l5] {g with e := v} wa := by
  subst e5
  obtain ⟨h0, h1, h2, h3, h4, _⟩ := h.1 rfl
  have hs := h0.size
  exact ⟨fun _ => ⟨h0.trans (hb.mono hs), fun e => (h1 e).keep hb, fun e => (h2 e).keep hb, fun e => (h3 e).keep hb, fun e => (h4 e).keep hb, fun _ => (ho.any fun b _ h => h.elim (·.1) (Nat.le_trans hs)).more hs⟩, fun e => by cases e⟩
theorem InvA.list {g' : Value} {X : List Rd} {B : Nat} {ok : Nat → Prop} (h : AppR ok wq B g' X) (hB : ∀ b, B ≤ b → ok b) : ∃ A cap, g' = .slice A X.length cap ∧ RdsAt ok wq A X := by
  obtain ⟨A, cap, h1, _, _, h2⟩ := h.form hB
  exact ⟨A, cap, h1, h2⟩
/-- the append at the end of the region -/
theorem InvA.append {F : Act} {o : Oper} {R : Value → World → Prop} {i0 : TypeInfo} (s x : Operand) (ho' : o.op = .call { callee := .builtin .append, args := #[s, x], argTypes := #[26, 26] })
    (hi : Try.prog.info? 34 = some i0) (hz0 : i0.zero = some (.agg #[.int .i64 0, .int .i64 0, .slice none 0 0])) (hz1 : i0.size = 3) (hz2 : i0.bytes = 40)
    (hs : F.eval s = u9) (hx : F.eval x = g.e)
    (h : InvA w0 w5 u9 X1 X2 X3 X4 X5 X0 [true, true, true, true, true, false] g wq) (hO : AppR (fun b => w0.heap.size ≤ b) w5 w0.heap.size u9 X0) (hB : Below w0.heap.size w0 w5) (hn : X0.length + X5.length ≤ 3000000000000)
    (hR : ∀ v' w', InvA w0 w5 u9 X1 X2 X3 X4 X5 X0 [true, true, true, true, true, true] {g with f := v'} w' → R v' w') : Gives Try.prog (execOp F.eval o) wq R := by
  obtain ⟨h0, _, _, _, _, h5⟩ := h.1 rfl
  have hO5 := h5 rfl
  obtain ⟨A, cap, he, hcap, hcap2, _⟩ := hO5.form (fun b h => h)
  obtain ⟨dss, hd, hld, hrd⟩ := hO5
  obtain ⟨css, hc, hlc, hrc⟩ := hO.keep h0
  have hs5 := hB.size
  have hsq := h0.size
  have hlt := hO.lt
  rw [he] at hx hd
  refine gives_append s x 26 ho' w0.heap.size 34 i0 (.agg #[.int .i64 0, .int .i64 0, .slice none 0 0]) 3 40 Try.underlying26 hi hz0 hz1 hz2 rfl (by decide) u9 _ _ hs hc wq.heap.size A X5.length cap _ hx (Reads.of_own hd) (rd_ones hld hrd) (by unfold maxLen; omega) (by omega) (by omega) ?_
  intro v' w' g2 g3 g4
  refine hR v' w' ⟨fun e => (by cases e), fun _ => ⟨AppR.pushAll hlc hrc hld (fun j c y hj hy => (hrd j c y hj hy).any fun b hb h => ⟨fun e => ?_, ?_⟩) g2 g3 g4, (hB.trans (h0.mono hs5)).grown g3 (by omega) fun b hb => (hlt b hb).1, fun b t c hbk hne => ⟨(keep h0 hbk).grown g3 (fun e => hne e.symm), fun e => ?_⟩⟩⟩
  · have := (hlt b e).2
    have := h.2
    omega
  · have := h.2
    omega
  · rcases g4 with e4 | e4
    · rw [e4] at e; exact hne e
    · rw [e4] at e
      have := Option.some.inj e
      have := hbk.lt
      omega
end
theorem pair_bound {a b : Nat} (ha : a ≤ 1376256) (hb : b ≤ 1376256) : a * b + b ≤ 3000000000000 := by
  have := Nat.mul_le_mul ha hb
  omega
theorem part_len {g : Nat → List Rd} {a t N : Nat} (h : t ≤ N) : ((List.range' a t).flatMap g).length ≤ ((List.range' a N).flatMap g).length := by
  obtain ⟨d, rfl⟩ : ∃ d, N = t + d := ⟨N - t, by omega⟩
  induction d with
  | zero => simp
  | succ d ih =>
    rw [← Nat.add_assoc, part_next, List.length_append]
    have := ih (by omega)
    omega
theorem RdsAt.one {P : Nat → Prop} {w : World} {ad : Addr} {l : List Rd} {k : Nat} {x : Rd} (h : RdsAt P w (some ad) l) (hx : l[k]? = some x) : RdsAt P w (some (ad.add (k * 3))) [x] := fun i z hi => by
  obtain ⟨ad', e, h1, h2, c, h3, h4⟩ := h k x hx
  obtain rfl := Option.some.inj e
  match i, hi with
  | 0, hi =>
    obtain rfl : x = z := by simpa using hi
    refine ⟨_, rfl, by rw [add_block]; exact h1, by rw [add_block]; exact h2, c, h3, fun j hj => ?_⟩
    rw [add_of_add, Nat.zero_mul, Nat.zero_add]
    exact h4 j hj
/-- readings beside the list that grows -/
theorem RdsAt.push {P : Nat → Prop} {w w' : World} {v v' : Value} {A : Option Addr} {l : List Rd} (h : RdsAt (fun b => v.ownBlock ≠ some b ∧ P b) w A l) (hg : w.grownBy w' v.ownBlock) (hv : v'.ownBlock = v.ownBlock ∨ v'.ownBlock = some w.heap.size) : RdsAt (fun b => v'.ownBlock ≠ some b ∧ P b) w' A l :=
  h.map hg.size (fun b hb hok => ⟨by
    rcases hv with e | e
    · rw [e]; exact hok.1
    · rw [e]; intro h2; have := Option.some.inj h2; omega, hok.2⟩) fun p hp ho => World.cell?_of_block (hg.block _ hp fun e => ho.1 e.symm)
end Go.Proofs.Ytmhddlhlniajpaa
