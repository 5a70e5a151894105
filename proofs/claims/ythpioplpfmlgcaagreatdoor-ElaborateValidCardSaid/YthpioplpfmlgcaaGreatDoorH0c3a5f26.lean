/- Parts in memory; terms of readings, plain · The array of the parts, the array of the rules; the parts of items, plain · The form of a rule; the variable that a subscript binds -/
import Derived.Test.YthpioplpfmlgcaaGreatDoorH57c59f2c
import Derived.Laws.MakeOwn
import Derived.Test.YthpioplpfmlgcaaGreatDoorH09685d45
namespace Go.Proofs.YthpioplpfmlgcaaGreatDoor.El
open Go.Proofs.YthpioplpfmlgcaaGreatDoor.At
open Go.Proofs.YthpioplpfmlgcaaGreatDoor.Ch
open Go.Proofs.YthpioplpfmlgcaaGreatDoor.Sp
open Go.Proofs.YthpioplpfmlgcaaGreatDoor.Sy
open Go.RowKit
/-- parts in a row -/
def PartsAt (ok : Nat → Prop) (w : World) (ad : Addr) (ps : List Prt) : Prop := ad.block < w.heap.size ∧ ∀ (q : Nat) (p : Prt), ps[q]? = some p → ∃ c, PrtAt ok w p c ∧ ∀ j, j < 8 → w.cell? (ad.add (q * 8 + j)) = c[j]?
theorem PrtAt.keep {ok : Nat → Prop} {w w' : World} {p : Prt} {c : Array Value} (h : PrtAt ok w p c) (hb : Below w.heap.size w w') : PrtAt ok w' p c := by
  obtain ⟨k, a, v, f, A0, n0, c0, A, cap, rfl, h1, h2, h3, h4, h5⟩ := h
  exact ⟨k, a, v, f, A0, n0, c0, A, cap, rfl, h1.keep hb, h2, h3, h4.keep hb, h5⟩
theorem PrtAt.any {ok ok' : Nat → Prop} {w : World} {p : Prt} {c : Array Value} (h : PrtAt ok w p c) (hok : ∀ b, b < w.heap.size → ok b → ok' b) : PrtAt ok' w p c := by
  obtain ⟨k, a, v, f, A0, n0, c0, A, cap, rfl, h1, h2, h3, h4, h5⟩ := h
  exact ⟨k, a, v, f, A0, n0, c0, A, cap, rfl, h1.any hok, h2, h3, h4.any hok, h5⟩
theorem PartsAt.keep {ok : Nat → Prop} {w w' : World} {ad : Addr} {ps : List Prt} (h : PartsAt ok w ad ps) (hb : Below w.heap.size w w') : PartsAt ok w' ad ps :=
  ⟨Nat.lt_of_lt_of_le h.1 hb.size, fun q p hp => by
    obtain ⟨c, h1, h2⟩ := h.2 q p hp
    exact ⟨c, h1.keep hb, fun j hj => by rw [hb.cell (by rw [block_of_add]; exact h.1)]; exact h2 j hj⟩⟩
theorem PartsAt.grown {ok : Nat → Prop} {w w' : World} {ad : Addr} {ps : List Prt} {g : Nat} (h : PartsAt ok w ad ps) (hg : w.grownBy w' (some g)) (h1 : ad.block ≠ g) (h2 : ∀ b, ok b → b ≠ g) : PartsAt ok w' ad ps :=
  ⟨Nat.lt_of_lt_of_le h.1 hg.size, fun q p hp => by
    obtain ⟨c, ⟨k, a, v, f, A0, n0, c0, A, cap, rfl, t1, t2, t3, t4, t5⟩, hc⟩ := h.2 q p hp
    refine ⟨_, ⟨k, a, v, f, A0, n0, c0, A, cap, rfl, t1.grown hg (fun b _ hb e => h2 b hb (Option.some.inj e)) (fun _ _ h => h), t2, t3, t4.map hg.size (fun _ _ h => h) (fun p _ hb => World.cell?_of_block (hg.block _ ‹_› fun e => h2 _ hb (Option.some.inj e))), t5⟩, fun j hj => ?_⟩
    rw [← hc j hj]
    exact World.cell?_of_block (hg.block _ (by rw [block_of_add]; exact h.1) fun e => h1 (by rw [block_of_add] at e; exact Option.some.inj e))⟩
/-- a part at its place, as a walk spells it -/
theorem PartsAt.at_ {ok : Nat → Prop} {w : World} {ad : Addr} {ps : List Prt} (h : PartsAt ok w ad ps) {q : Nat} {p : Prt} (hp : ps[q]? = some p) : ∃ k a v f A0 n0 c0 A cap,
    TmAt ok w p.opnd #[.int .i64 k, .string a, .string v, .slice A0 n0 c0, .string f] ∧ p.scr.length ≤ cap ∧ cap ≤ 9223372036854775807 ∧ TmsAt ok w A p.scr ∧ p.fin.size ≤ 1000 ∧ p.vr.size ≤ 1000 ∧ p.scr.length ≤ 1000 ∧
    w.cell? (ad.add (q * 8)) = some (.int .i64 k) ∧ w.cell? ⟨(ad.add (q * 8)).block, (ad.add (q * 8)).off + 1, none⟩ = some (.string a) ∧ w.cell? ⟨(ad.add (q * 8)).block, (ad.add (q * 8)).off + 2, none⟩ = some (.string v) ∧ w.cell? ⟨(ad.add (q * 8)).block, (ad.add (q * 8)).off + 3, none⟩ = some (.slice A0 n0 c0) ∧ w.cell? ⟨(ad.add (q * 8)).block, (ad.add (q * 8)).off + 4, none⟩ = some (.string f) ∧ w.cell? ⟨(ad.add (q * 8)).block, (ad.add (q * 8)).off + 5, none⟩ = some (.slice A p.scr.length cap) ∧ w.cell? ⟨(ad.add (q * 8)).block, (ad.add (q * 8)).off + 6, none⟩ = some (.string p.fin) ∧ w.cell? ⟨(ad.add (q * 8)).block, (ad.add (q * 8)).off + 7, none⟩ = some (.string p.vr) := by
  obtain ⟨c, ⟨k, a, v, f, A0, n0, c0, A, cap, rfl, h1, h2, h3, h4, h5, h6, h7⟩, hc⟩ := h.2 q p hp
  exact ⟨k, a, v, f, A0, n0, c0, A, cap, h1, h2, h3, h4, h5, h6, h7, hc 0 (by omega), Sp.add_cel (j := 0) (hc 1 (by omega)), Sp.add_cel (j := 1) (hc 2 (by omega)), Sp.add_cel (j := 2) (hc 3 (by omega)), Sp.add_cel (j := 3) (hc 4 (by omega)), Sp.add_cel (j := 4) (hc 5 (by omega)), Sp.add_cel (j := 5) (hc 6 (by omega)), Sp.add_cel (j := 6) (hc 7 (by omega))⟩
theorem trmL_take {rs : List Rul} {ps : List Prt} : ∀ {ks : List Rd} {es : List Int} {t : Nat} {y : Rd} {e : Int}, ks[t]? = some y → es[t]? = some e → trmL rs ps (ks.take (t + 1)) (es.take (t + 1)) = trmL rs ps (ks.take t) (es.take t) ++ [trmR rs ps y e]
  | [], _, _, _, _, h, _ => by simp at h
  | _ :: _, [], _, _, _, _, h => by simp at h
  | k :: ks, e0 :: es, 0, y, e, h, h' => by
    simp only [List.getElem?_cons_zero, Option.some.injEq] at h h'
    subst h h'
    simp [trmL]
  | k :: ks, e0 :: es, t + 1, y, e, h, h' => by
    simp only [List.getElem?_cons_succ] at h h'
    rw [List.take_succ_cons, List.take_succ_cons, List.take_succ_cons, List.take_succ_cons, trmL, trmL, trmL_take h h', List.cons_append]
theorem trmL_len {rs : List Rul} {ps : List Prt} : ∀ {ks : List Rd} {es : List Int}, (trmL rs ps ks es).length ≤ ks.length
  | [], es => by cases es <;> simp [trmL]
  | _ :: _, [] => by simp [trmL]
  | k :: ks, e :: es => by
    rw [trmL, List.length_cons, List.length_cons]
    have := trmL_len (rs := rs) (ps := ps) (ks := ks) (es := es)
    omega
theorem trm_eq (rs : List Rul) (ps : List Prt) (r a : Int) (ks : List Rd) (e : Int) : trmR rs ps (.mk r a ks) e = if r < 0 then (match ps[a.toNat]? with
      | some p => p.opnd
      | none => zerT) else mkOp (nameR rs r) (kndR rs r) (if 0 ≤ opI rs (.mk r a ks) e then ps[(opI rs (.mk r a ks) e).toNat]? else none) (trmL rs ps ks (endsI rs (.mk r a ks) e)) := by
  rw [trmR]
  rfl
/-- the cells of a list of terms, read as a slice -/
theorem tms_cells {ok : Nat → Prop} {w : World} {A : Option Addr} {ks : List Trm} (h : TmsAt ok w A ks) : ∃ css : List (Array Value), css.length = ks.length ∧ (∀ (j : Nat) c x, css[j]? = some c → ks[j]? = some x → TmAt ok w x c) ∧ Reads w w.heap.size 5 A ks.length (css.flatMap (·.toList)) := by
  have ex : ∀ i : Nat, ∃ c : Array Value, ∀ x, ks[i]? = some x → TmAt ok w x c ∧ ∃ ad : Addr, A = some ad ∧ ad.block < w.heap.size ∧ ∀ j, j < 5 → w.cell? (ad.add (i * 5 + j)) = c[j]? := fun i => by
    cases hx : ks[i]? with
    | none => exact ⟨#[], fun x h => by cases h⟩
    | some x =>
      obtain ⟨ad, h1, h2, _, c, h4, h5⟩ := h i x hx
      refine ⟨c, fun y hy => ?_⟩
      cases hy
      exact ⟨h4, ad, h1, h2, h5⟩
  obtain ⟨cs, hcs⟩ := Classical.axiomOfChoice ex
  have hlen : ((List.range ks.length).map cs).length = ks.length := by simp
  have hget : ∀ (j : Nat) c, ((List.range ks.length).map cs)[j]? = some c → j < ks.length ∧ c = cs j := fun j c hj => by
    rw [List.getElem?_map] at hj
    rcases Nat.lt_or_ge j ks.length with hl | hl
    · rw [List.getElem?_range hl] at hj
      exact ⟨hl, (Option.some.inj hj).symm⟩
    · rw [List.getElem?_eq_none (by simpa using hl)] at hj; cases hj
  have hsz : ∀ c ∈ (List.range ks.length).map cs, c.size = 5 := fun c hc => by
    obtain ⟨j, hj⟩ := List.mem_iff_getElem?.1 hc
    obtain ⟨hl, rfl⟩ := hget j c hj
    exact (hcs j _ (List.getElem?_eq_getElem hl)).1.size
  refine ⟨(List.range ks.length).map cs, hlen, fun j c x hj hx => ?_, ?_, fun hn => ?_⟩
  · obtain ⟨_, rfl⟩ := hget j c hj
    exact (hcs j x hx).1
  · have key : ∀ l : List (Array Value), (∀ c ∈ l, c.size = 5) → (l.flatMap (·.toList)).length = l.length * 5 := by
      intro l
      induction l with
      | nil => intro _; rfl
      | cons c l ih =>
        intro h
        rw [List.flatMap_cons, List.length_append, ih fun c hc => h c (List.mem_cons_of_mem _ hc), List.length_cons, Array.length_toList, h c List.mem_cons_self]
        omega
    rw [key _ hsz, hlen]
  · obtain ⟨_, ad, hA, hlt, _⟩ := hcs 0 _ (List.getElem?_eq_getElem hn)
    refine ⟨ad, hA, hlt, fun j u hj => ?_⟩
    have hjl : j < ((List.range ks.length).map cs).length * 5 := by
      have h1 := (List.getElem?_eq_some_iff.1 hj).1
      have key : ∀ l : List (Array Value), (∀ c ∈ l, c.size = 5) → (l.flatMap (·.toList)).length = l.length * 5 := by
        intro l
        induction l with
        | nil => intro _; rfl
        | cons c l ih =>
          intro h
          rw [List.flatMap_cons, List.length_append, ih fun c hc => h c (List.mem_cons_of_mem _ hc), List.length_cons, Array.length_toList, h c List.mem_cons_self]
          omega
      rw [key _ hsz] at h1
      exact h1
    rw [hlen] at hjl
    have hq : j / 5 < ks.length := by omega
    obtain ⟨_, ad', hA', _, hc'⟩ := hcs (j / 5) _ (List.getElem?_eq_getElem hq)
    obtain rfl : ad = ad' := Option.some.inj (hA.symm.trans hA')
    have h5 := hc' (j % 5) (Nat.mod_lt _ (by omega))
    have hce : ((List.range ks.length).map cs)[j / 5]? = some (cs (j / 5)) := by rw [List.getElem?_map, List.getElem?_range hq]; rfl
    have h6 := Sp.flat5 _ (j / 5) (j % 5) (cs (j / 5)) hsz hce (Nat.mod_lt _ (by omega))
    rw [show j / 5 * 5 + j % 5 = j by omega] at h5 h6
    rw [h5, ← h6, hj]
/-- a list of terms copied behind nothing -/
theorem _root_.Go.Proofs.YthpioplpfmlgcaaGreatDoor.Sp.AppT.copy {ok P : Nat → Prop} {w w' : World} {B : Nat} {v : Value} {ks : List Trm} {css : List (Array Value)} (hl : css.length = ks.length) (hc : ∀ (j : Nat) c x, css[j]? = some c → ks[j]? = some x → TmAt ok w x c) (ho : w'.ownsRow B 31 5 v ks.length (css.flatMap (·.toList))) (hb : Below w.heap.size w w') (hok : ∀ b, b < w.heap.size → ok b → P b ∧ b < B) : AppT P w' B v ks := by
  refine ⟨css, ho, hl, fun j c x hj hx => ((hc j c x hj hx).any (ok' := fun b => P b ∧ b < B) hok |>.keep hb).any fun b _ h => ⟨fun e => ?_, h.1⟩⟩
  have := (World.ownsRow.lt ho b e).1
  omega
end Go.Proofs.YthpioplpfmlgcaaGreatDoor.El
namespace Go.Proofs.YthpioplpfmlgcaaGreatDoor.El
open Go.Proofs.YthpioplpfmlgcaaGreatDoor.At
open Go.Proofs.YthpioplpfmlgcaaGreatDoor.Ch
open Go.Proofs.YthpioplpfmlgcaaGreatDoor.Sp
open Go.Proofs.YthpioplpfmlgcaaGreatDoor.Sy
open Go.RowKit
/-- cells of a block written in a row -/
def setsAt (w : World) (g : Nat) : Nat → List Value → World
  | _, [] => w
  | b, u :: us => setsAt (w.setCell ⟨g, b, none⟩ u) g (b + 1) us
def putsAt (cs : Array Value) : Nat → List Value → Array Value
  | _, [] => cs
  | b, u :: us => putsAt (cs.setIfInBounds b u) (b + 1) us
theorem putsAt_size : ∀ (us : List Value) (cs : Array Value) (b : Nat), (putsAt cs b us).size = cs.size
  | [], _, _ => rfl
  | u :: us, cs, b => by rw [putsAt, putsAt_size us]; simp
theorem putsAt_get : ∀ (us : List Value) (cs : Array Value) (b i : Nat), b + us.length ≤ cs.size → (putsAt cs b us)[i]? = if b ≤ i ∧ i < b + us.length then us[i - b]? else cs[i]?
  | [], cs, b, i, h => by
    rw [putsAt, if_neg]
    simp
  | u :: us, cs, b, i, h => by
    rw [List.length_cons] at h
    rw [putsAt, putsAt_get us _ _ i (by simp; omega), List.length_cons]
    by_cases h1 : b + 1 ≤ i ∧ i < b + 1 + us.length
    · rw [if_pos h1, if_pos (by omega), show i - b = (i - (b + 1)) + 1 by omega, List.getElem?_cons_succ]
    · rw [if_neg h1]
      by_cases h2 : i = b
      · subst h2
        rw [if_pos (by omega), Nat.sub_self, List.getElem?_cons_zero, Array.getElem?_setIfInBounds_self_of_lt (by omega)]
      · rw [if_neg (by omega), Array.getElem?_setIfInBounds_ne (by omega)]
theorem setsAt_blk {t : TypeId} : ∀ (us : List Value) (w : World) (g b : Nat) (cs : Array Value), Blk w g t cs → Blk (setsAt w g b us) g t (putsAt cs b us)
  | [], _, _, _, _, h => h
  | u :: us, _, g, b, _, h => setsAt_blk us _ g (b + 1) _ (h.set_ b u)
theorem setsAt_grown : ∀ (us : List Value) (w : World) (g b : Nat), w.grownBy (setsAt w g b us) (some g)
  | [], _, _, _ => ⟨rfl, rfl, rfl, Nat.le_refl _, fun _ _ _ => rfl⟩
  | u :: us, w, g, b => grown_two (grown_set' w ⟨g, b, none⟩ u) (setsAt_grown us _ g (b + 1))
/-- parts in a block of their own -/
def PArr (ok : Nat → Prop) (w : World) (gp : Nat) (ps : List Prt) : Prop := ∃ cs, Blk w gp 113 cs ∧ cs.size = ps.length * 8 ∧ ∀ (q : Nat) (p : Prt), ps[q]? = some p → ∃ c, PrtAt ok w p c ∧ ∀ j, j < 8 → cs[q * 8 + j]? = c[j]?
theorem PArr.keep {ok : Nat → Prop} {w w' : World} {gp : Nat} {ps : List Prt} (h : PArr ok w gp ps) (hb : Below w.heap.size w w') : PArr ok w' gp ps := by
  obtain ⟨cs, h1, h2, h3⟩ := h
  refine ⟨cs, _root_.Go.Proofs.YthpioplpfmlgcaaGreatDoor.keep hb h1, h2, fun q p hp => ?_⟩
  obtain ⟨c, h4, h5⟩ := h3 q p hp
  exact ⟨c, h4.keep hb, h5⟩
theorem PArr.any {ok ok' : Nat → Prop} {w : World} {gp : Nat} {ps : List Prt} (h : PArr ok w gp ps) (hok : ∀ b, b < w.heap.size → ok b → ok' b) : PArr ok' w gp ps := by
  obtain ⟨cs, h1, h2, h3⟩ := h
  refine ⟨cs, h1, h2, fun q p hp => ?_⟩
  obtain ⟨c, h4, h5⟩ := h3 q p hp
  exact ⟨c, h4.any hok, h5⟩
theorem PArr.at_ {ok : Nat → Prop} {w : World} {gp : Nat} {ps : List Prt} (h : PArr ok w gp ps) : PartsAt ok w ⟨gp, 0, none⟩ ps := by
  obtain ⟨cs, h1, h2, h3⟩ := h
  refine ⟨h1.lt, fun q p hp => ?_⟩
  obtain ⟨c, h4, h5⟩ := h3 q p hp
  refine ⟨c, h4, fun j hj => ?_⟩
  rw [show (⟨gp, 0, none⟩ : Addr).add (q * 8 + j) = ⟨gp, q * 8 + j, none⟩ by unfold Addr.add; split <;> simp_all, h1.cell, h5 j hj]
theorem PrtAt.grown {ok : Nat → Prop} {w w' : World} {g : Nat} {p : Prt} {c : Array Value} (h : PrtAt ok w p c) (hg : w.grownBy w' (some g)) (h2 : ∀ b, ok b → b ≠ g) : PrtAt ok w' p c := by
  obtain ⟨k, a, v, f, A0, n0, c0, A, cap, rfl, t1, t2, t3, t4, t5⟩ := h
  exact ⟨k, a, v, f, A0, n0, c0, A, cap, rfl, t1.grown hg (fun b _ hb e => h2 b hb (Option.some.inj e)) (fun _ _ h => h), t2, t3, t4.map hg.size (fun _ _ h => h) (fun p _ hb => World.cell?_of_block (hg.block _ ‹_› fun e => h2 _ hb (Option.some.inj e))), t5⟩
theorem PrtAt.size {ok : Nat → Prop} {w : World} {p : Prt} {c : Array Value} (h : PrtAt ok w p c) : c.size = 8 := by
  obtain ⟨k, a, v, f, A0, n0, c0, A, cap, rfl, _⟩ := h
  rfl
/-- one part is written: some of its first cells, the rest as they are -/
theorem PArr.put {ok : Nat → Prop} {w : World} {gp : Nat} {ps : List Prt} (h : PArr ok w gp ps) {q : Nat} (hq : q < ps.length) (us : List Value) (hl : us.length ≤ 8) {p : Prt} (hp : ∀ p0 c0, ps[q]? = some p0 → PrtAt ok w p0 c0 → ∃ c, PrtAt ok w p c ∧ ∀ j, j < 8 → c[j]? = if j < us.length then us[j]? else c0[j]?) (hok : ∀ b, ok b → b ≠ gp) : PArr ok (setsAt w gp (q * 8) us) gp (ps.set q p) := by
  obtain ⟨cs, h1, h2, h3⟩ := h
  have hg := setsAt_grown us w gp (q * 8)
  have hb : q * 8 + us.length ≤ cs.size := by rw [h2]; omega
  refine ⟨putsAt cs (q * 8) us, setsAt_blk us w gp (q * 8) cs h1, by rw [putsAt_size, h2, List.length_set], fun r x hr => ?_⟩
  obtain ⟨p0, hp0⟩ : ∃ p0, ps[q]? = some p0 := ⟨_, List.getElem?_eq_getElem hq⟩
  obtain ⟨c0, hc0, hc1⟩ := h3 q p0 hp0
  by_cases hrq : r = q
  · subst hrq
    rw [List.getElem?_set_self hq] at hr
    obtain rfl := Option.some.inj hr
    obtain ⟨c, hc2, hc3⟩ := hp p0 c0 hp0 hc0
    refine ⟨c, hc2.grown hg hok, fun j hj => ?_⟩
    rw [putsAt_get us cs _ _ hb, hc3 j hj]
    by_cases hju : j < us.length
    · rw [if_pos (by omega), if_pos hju, show r * 8 + j - r * 8 = j by omega]
    · rw [if_neg (by omega), if_neg hju, hc1 j hj]
  · rw [List.getElem?_set_ne (fun e => hrq e.symm)] at hr
    obtain ⟨cr, hcr, hcr1⟩ := h3 r x hr
    refine ⟨cr, hcr.grown hg hok, fun j hj => ?_⟩
    rw [putsAt_get us cs _ _ hb, if_neg (by omega), hcr1 j hj]
/-- an operand's term is written over the zero part -/
theorem PArr.putT {ok : Nat → Prop} {w : World} {gp : Nat} {ps : List Prt} (h : PArr ok w gp ps) {q : Nat} (hq : ps[q]? = some zerP) {t : Trm} {tk : Int} {ta tv tf : ByteArray} {tA : Option Addr} {tn tc : Nat} (ht : TmAt ok w t #[.int .i64 tk, .string ta, .string tv, .slice tA tn tc, .string tf]) (hok : ∀ b, ok b → b ≠ gp) : PArr ok (setsAt w gp (q * 8) [.int .i64 tk, .string ta, .string tv, .slice tA tn tc, .string tf]) gp (ps.set q ⟨t, [], ⟨#[]⟩, ⟨#[]⟩⟩) := by
  refine h.put (List.getElem?_eq_some_iff.1 hq).1 _ (by simp) (fun p0 c0 hp0 hc0 => ?_) hok
  rw [hq] at hp0
  obtain rfl := Option.some.inj hp0
  obtain ⟨k, a, v, f, A0, n0, e0, A, cap, rfl, _, h2, h3, h4, h5⟩ := hc0
  refine ⟨_, ⟨tk, ta, tv, tf, tA, tn, tc, A, cap, rfl, ht, h2, h3, h4, h5⟩, fun j hj => ?_⟩
  match j, hj with
  | 0, _ | 1, _ | 2, _ | 3, _ | 4, _ | 5, _ | 6, _ | 7, _ => rfl
  | j + 8, hj => omega
/-- an operator's part is written -/
theorem PArr.putP {ok : Nat → Prop} {w : World} {gp : Nat} {ps : List Prt} (h : PArr ok w gp ps) {q : Nat} (hq : q < ps.length) {p : Prt} {c0 c1 c2 c3 c4 c5 c6 c7 : Value} (hp : PrtAt ok w p #[c0, c1, c2, c3, c4, c5, c6, c7]) (hok : ∀ b, ok b → b ≠ gp) : PArr ok (setsAt w gp (q * 8) [c0, c1, c2, c3, c4, c5, c6, c7]) gp (ps.set q p) := by
  refine h.put hq _ (by simp) (fun p0 d0 _ _ => ⟨_, hp, fun j hj => ?_⟩) hok
  match j, hj with
  | 0, _ | 1, _ | 2, _ | 3, _ | 4, _ | 5, _ | 6, _ | 7, _ => rfl
  | j + 8, hj => omega
/-- the parts so far -/
def PSoFar (tot : Mea (List Prt)) (xs : List Prt) (rest : Mea (List Prt)) : Prop := tot = rest.then_ fun ts => .ok (xs ++ ts)
theorem PSoFar.start (m : Mea (List Prt)) : PSoFar m [] m := by
  unfold PSoFar
  cases m <;> rfl
theorem PSoFar.bad {tot : Mea (List Prt)} {xs : List Prt} {m : Mea Prt} {F : Prt → Mea (List Prt)} {er : Int} {p : List Int} (h : PSoFar tot xs (m.then_ F)) (hm : m = .bad er p) : tot = .bad er p := by
  unfold PSoFar at h
  rw [h, hm]
  rfl
theorem PSoFar.next {tot : Mea (List Prt)} {xs : List Prt} {m : Mea Prt} {r : Mea (List Prt)} {t : Prt} (h : PSoFar tot xs (m.then_ fun t => r.then_ fun ts => .ok (t :: ts))) (hm : m = .ok t) : PSoFar tot (xs ++ [t]) r := by
  unfold PSoFar at *
  rw [h, hm]
  cases r with
  | ok ts => simp [Mea.then_]
  | bad e p => rfl
theorem PSoFar.end {tot : Mea (List Prt)} {xs : List Prt} (h : PSoFar tot xs (.ok [])) : tot = .ok xs := by
  unfold PSoFar at h
  rw [h]
  simp [Mea.then_]
theorem parts_next {rs : List Rul} {M : List Tre → List Int → Nat → Mea Trm} {path : List Int} {kd : Nat → Int} {k i : Nat} {l : List Tre} {ts : List ByteArray} {n : Tre} {t : ByteArray} (hn : l[i]? = some n) (ht : ts[i]? = some t) : partsF rs M path kd k (l.drop i) (ts.drop i) i = (if t.data.toList = [35] then opndF M n (path ++ [((k + i : Nat) : Int)]) else scrF rs M n (path ++ [((k + i : Nat) : Int)]) (decide (kd i = 2))).then_ fun p => (partsF rs M path kd k (l.drop (i + 1)) (ts.drop (i + 1)) (i + 1)).then_ fun ps => .ok (p :: ps) := by
  obtain ⟨hl, rfl⟩ := List.getElem?_eq_some_iff.1 hn
  obtain ⟨hl2, rfl⟩ := List.getElem?_eq_some_iff.1 ht
  rw [List.drop_eq_getElem_cons hl, List.drop_eq_getElem_cons hl2, partsF]
theorem parts_end {rs : List Rul} {M : List Tre → List Int → Nat → Mea Trm} {path : List Int} {kd : Nat → Int} {k : Nat} {l : List Tre} {ts : List ByteArray} : partsF rs M path kd k (l.drop l.length) (ts.drop l.length) l.length = .ok [] := by
  rw [List.drop_length]
  cases ts.drop l.length <;> simp [partsF]
theorem set_done {done : List Prt} {m : Nat} {p : Prt} : (done ++ List.replicate (m + 1) zerP).set done.length p = (done ++ [p]) ++ List.replicate m zerP := by
  rw [List.replicate_succ, List.set_append_right _ _ (Nat.le_refl _), Nat.sub_self, List.set_cons_zero, List.append_assoc]
  rfl
theorem get_done {done : List Prt} {m : Nat} : (done ++ List.replicate (m + 1) zerP)[done.length]? = some zerP := by
  rw [List.getElem?_append_right (Nat.le_refl _), Nat.sub_self]
  rfl
theorem made_ints (n : Nat) : madeCells #[.int .i64 0] n = (ints (List.replicate n 0)).toArray := by
  refine Array.ext (by simp [madeCells, ints]) fun i h1 h2 => ?_
  simp [madeCells, ints, Nat.mod_one]
theorem made_parts (ok : Nat → Prop) (w : World) (n : Nat) : PArr ok (w.alloc (.cells (madeCells zerPC (n * 8)) 113)) w.heap.size (List.replicate n zerP) := by
  refine ⟨_, Blk.new w _ _, by rw [size_madeCells, List.length_replicate], fun q p hq => ?_⟩
  have hqn : q < n := by have := (List.getElem?_eq_some_iff.1 hq).1; simpa using this
  have hpz : p = zerP := by
    rw [List.getElem?_replicate, if_pos hqn] at hq
    exact (Option.some.inj hq).symm
  subst hpz
  refine ⟨zerPC, ⟨_, _, _, _, _, _, _, _, _, rfl, zer_at _ _, Nat.le_refl _, by decide, (fun i x h => by simp [zerP] at h), by decide, by decide, by decide⟩, fun j hj => ?_⟩
  have hi : q * 8 + j < (madeCells zerPC (n * 8)).size := by rw [size_madeCells]; omega
  rw [Array.getElem?_eq_getElem hi]
  have h8 : zerPC.size = 8 := rfl
  have hm : (q * 8 + j) % 8 = j := by omega
  have hz : zerPC[j]? = some zerPC[j]! := by
    rw [Array.getElem?_eq_getElem (by rw [h8]; exact hj), getElem!_pos]
  rw [hz]
  congr 1
  simp only [madeCells, Array.getElem_map, Array.getElem_range, h8, hm]
end Go.Proofs.YthpioplpfmlgcaaGreatDoor.El
namespace Go.Proofs.YthpioplpfmlgcaaGreatDoor.El
open Go.Proofs.YthpioplpfmlgcaaGreatDoor.At
open Go.Proofs.YthpioplpfmlgcaaGreatDoor.Ch
open Go.Proofs.YthpioplpfmlgcaaGreatDoor.Sp
open Go.Proofs.YthpioplpfmlgcaaGreatDoor.Sy
open Go.RowKit
set_option maxHeartbeats 800000 in
theorem form_any (k : Int) (w : World) : Calls Tryz.prog 106 #[.int .i64 k] w fun e w' => e = .returned (.string (formS k)) ∧ w' = w := by
  by_cases h1 : k = 1
  · subst h1
    go_enter Tryz.func106, Tryz.ntmps106
    go_wp2_with fail
    go_ret
    exact ⟨rfl, rfl⟩
  have q1 : (k == 1) = false := beq_eq_false_iff_ne.2 h1
  by_cases h2 : k = 2
  · subst h2
    go_enter Tryz.func106, Tryz.ntmps106
    go_wp2_with fail
    go_ret
    exact ⟨rfl, rfl⟩
  have q2 : (k == 2) = false := beq_eq_false_iff_ne.2 h2
  by_cases h3 : k = 3
  · subst h3
    go_enter Tryz.func106, Tryz.ntmps106
    go_wp2_with fail
    go_ret
    exact ⟨rfl, rfl⟩
  have q3 : (k == 3) = false := beq_eq_false_iff_ne.2 h3
  have HF := Lib.hid (show formS k = juxS by unfold formS; rw [if_neg h1, if_neg h2, if_neg h3])
  clear h1 h2 h3
  go_enter Tryz.func106, Tryz.ntmps106
  go_wp2_with fail
  go_ret
  exact ⟨by rw [HF.out]; rfl, rfl⟩
end Go.Proofs.YthpioplpfmlgcaaGreatDoor.El
