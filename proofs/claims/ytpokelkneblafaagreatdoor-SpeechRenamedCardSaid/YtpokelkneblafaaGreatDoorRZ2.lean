/- Renaming a bound variable by the reference. -/
import Derived.Test.YtpokelkneblafaaGreatDoorSB
import Derived.BigQuiet
namespace Go.Proofs.YtpokelkneblafaaGreatDoor
open Go.RowKit
/-- numbers in a row -/
def PthAt (w : World) (A : Option Addr) (ps : List Int) : Prop := ∀ (j : Nat) (p : Int), ps[j]? = some p → ∃ ad : Addr, A = some ad ∧ ad.block < w.heap.size ∧ w.cell? (ad.add j) = some (.int .i64 p)
theorem PthAt.keep {w w' : World} {A : Option Addr} {ps : List Int} (h : PthAt w A ps) (hb : Below w.heap.size w w') : PthAt w' A ps := fun j p hj => by
  obtain ⟨ad, h1, h2, h3⟩ := h j p hj
  exact ⟨ad, h1, Nat.lt_of_lt_of_le h2 hb.size, by rw [hb.cell (by rw [add_blk]; exact h2)]; exact h3⟩
/-- behind Rename -/
def RenP (ok : Nat → Prop) (t : Trm) (w : World) (e : Ending) (w' : World) : Prop := ∃ c t', e = .returned (.agg c) ∧ TmAt (fun b => ok b ∨ w.heap.size ≤ b) w' t' c ∧ RenC t t' ∧ Below w.heap.size w w'
/-- the boxes of the call -/
structure RnS (ok : Nat → Prop) (w : World) (c : Array Value) (A : Option Addr) (ts : List Trm) (g2 : Nat) (x : World) : Prop where
  l2 : g2 = w.heap.size + 1
  bel : Below w.heap.size w x
  k0 : Blk x w.heap.size 25 c
  k2 : Blk x g2 25 zerC
  arg : TmsAt ok x A ts
section
variable {ok : Nat → Prop} {w x x' : World} {c : Array Value} {A : Option Addr} {ts : List Trm} {g2 : Nat}
theorem RnS.keep (h : RnS ok w c A ts g2 x) (hb : Below x.heap.size x x') : RnS ok w c A ts g2 x' := ⟨h.l2, h.bel.trans (hb.mono h.bel.size), _root_.Go.Proofs.YtpokelkneblafaaGreatDoor.keep hb h.k0, _root_.Go.Proofs.YtpokelkneblafaaGreatDoor.keep hb h.k2, h.arg.keep hb⟩
theorem RnS.grow (h : RnS ok w c A ts g2 x) (hok : ∀ b, ok b → b < w.heap.size) {row : Option Nat} (hg : x.grownBy x' row) (hr : ∀ r, row = some r → w.heap.size + 2 ≤ r) : RnS ok w c A ts g2 x' := by
  have h2 := h.l2
  exact ⟨h2, h.bel.grown hg h.bel.size fun r e => by have := hr r e; omega, h.k0.grown hg fun e => by have := hr _ e.symm; omega, h.k2.grown hg fun e => by have := hr _ e.symm; omega,
    h.arg.map hg.size (fun _ _ h => h) fun p hp ho => World.cell?_of_block (hg.block _ hp fun e => by have := hr _ e.symm; have := hok _ ho; omega)⟩
theorem RnS.start (hk : TmsAt ok w A ts) : RnS ok w c A ts (w.heap.size + 1) ((w.alloc (.cells c 25)).alloc (.cells zerC 25)) := by
  have B1 := bel_alloc w (.cells c 25)
  have B2 := bel_alloc (w.alloc (.cells c 25)) (.cells zerC 25)
  have s1 : (w.alloc (.cells c 25)).heap.size = w.heap.size + 1 := by simp
  have hb := B1.trans (B2.mono B1.size)
  refine ⟨rfl, hb, _root_.Go.Proofs.YtpokelkneblafaaGreatDoor.keep B2 (Blk.new w _ c), ?_, hk.keep hb⟩
  rw [← s1]
  exact Blk.new _ _ _
end
/-- terms in a row that the call has made -/
def RowT (ok : Nat → Prop) (x : World) (gR : Nat) (ts : List Trm) : Prop := ∃ cur : Array Value, Blk x gR 25 cur ∧ ∀ (j : Nat) y, ts[j]? = some y → ∃ c, TmAt ok x y c ∧ ∀ i, i < 5 → cur[j * 5 + i]? = c[i]?
theorem RowT.grown {ok ok' : Nat → Prop} {x x' : World} {gR : Nat} {ts : List Trm} {row : Option Nat} (h : RowT ok x gR ts) (hg : x.grownBy x' row) (h1 : some gR ≠ row) (h2 : ∀ b, b < x.heap.size → ok b → some b ≠ row) (h3 : ∀ b, b < x.heap.size → ok b → ok' b) : RowT ok' x' gR ts := by
  obtain ⟨cur, hK, hc⟩ := h
  exact ⟨cur, hK.grown hg h1, fun j y hy => by
    obtain ⟨c, p, q⟩ := hc j y hy
    exact ⟨c, p.grown hg h2 h3, q⟩⟩
theorem RowT.keep {ok : Nat → Prop} {x x' : World} {gR : Nat} {ts : List Trm} (h : RowT ok x gR ts) (hb : Below x.heap.size x x') : RowT ok x' gR ts := by
  obtain ⟨cur, hK, hc⟩ := h
  exact ⟨cur, _root_.Go.Proofs.YtpokelkneblafaaGreatDoor.keep hb hK, fun j y hy => by
    obtain ⟨c, p, q⟩ := hc j y hy
    exact ⟨c, p.keep hb, q⟩⟩
theorem RowT.any {ok ok' : Nat → Prop} {x : World} {gR : Nat} {ts : List Trm} (h : RowT ok x gR ts) (h3 : ∀ b, b < x.heap.size → ok b → ok' b) : RowT ok' x gR ts := by
  obtain ⟨cur, hK, hc⟩ := h
  exact ⟨cur, hK, fun j y hy => by
    obtain ⟨c, p, q⟩ := hc j y hy
    exact ⟨c, p.any h3, q⟩⟩
theorem RowT.tms {ok : Nat → Prop} {x : World} {gR : Nat} {ts : List Trm} (h : RowT ok x gR ts) (hg : ok gR) : TmsAt ok x (some ⟨gR, 0, none⟩) ts := fun j y hy => by
  obtain ⟨cur, hK, hc⟩ := h
  obtain ⟨c, p, q⟩ := hc j y hy
  refine ⟨⟨gR, 0, none⟩, rfl, hK.lt, hg, c, p, fun i hi => ?_⟩
  rw [show (⟨gR, 0, none⟩ : Addr).add (j * 5 + i) = ⟨gR, j * 5 + i, none⟩ by unfold Addr.add; split <;> simp_all, hK.cell]
  exact q i hi
theorem tms_flat {ok : Nat → Prop} {w : World} {A : Option Addr} : ∀ {ts : List Trm}, TmsAt ok w A ts → ∃ css : List (Array Value), css.length = ts.length ∧ (∀ (j : Nat) c x, css[j]? = some c → ts[j]? = some x → TmAt ok w x c ∧ ∀ i, i < 5 → ∀ ad, A = some ad → w.cell? (ad.add (j * 5 + i)) = c[i]?) := fun {ts} h => by
  have ex : ∀ i : Nat, ∃ c, ∀ x, ts[i]? = some x → TmAt ok w x c ∧ ∀ m, m < 5 → ∀ ad, A = some ad → w.cell? (ad.add (i * 5 + m)) = c[m]? := fun i => by
    cases hi : ts[i]? with
    | none => exact ⟨#[], fun x e => by cases e⟩
    | some x =>
      obtain ⟨ad, h1, _, _, c, h2, h3⟩ := h i x hi
      exact ⟨c, fun y e => by
        obtain rfl := Option.some.inj e
        exact ⟨h2, fun m hm ad' e' => by rw [h1] at e'; obtain rfl := Option.some.inj e'; exact h3 m hm⟩⟩
  obtain ⟨f, hf⟩ := Classical.axiomOfChoice ex
  exact ⟨(List.range ts.length).map f, by simp, fun j c x hc hx => by
    rw [List.getElem?_map, List.getElem?_range (List.getElem?_eq_some_iff.1 hx).1] at hc
    obtain rfl : f j = c := by simpa using hc
    exact hf j x hx⟩
theorem tms_reads {ok : Nat → Prop} {w : World} {A : Option Addr} {ts : List Trm} {css : List (Array Value)} (h : TmsAt ok w A ts) (hl : css.length = ts.length) (hc : ∀ (j : Nat) c x, css[j]? = some c → ts[j]? = some x → TmAt ok w x c ∧ ∀ i, i < 5 → ∀ ad, A = some ad → w.cell? (ad.add (j * 5 + i)) = c[i]?) : Reads w w.heap.size 5 A ts.length (css.flatMap (·.toList)) := by
  have hsz : ∀ c ∈ css, c.size = 5 := OwnT.size (ok := ok) (w := w) (xs := ts) hl fun j c x h1 h2 => (hc j c x h1 h2).1
  have hfl : (css.flatMap (·.toList)).length = ts.length * 5 := by
    rw [← hl]
    clear hc hl
    induction css with
    | nil => rfl
    | cons c r ih =>
      rw [List.flatMap_cons, List.length_append, ih fun c hc => hsz c (List.mem_cons_of_mem _ hc), List.length_cons]
      have := hsz c List.mem_cons_self
      simp
      omega
  refine ⟨hfl, fun h0 => ?_⟩
  obtain ⟨ad, h1, h2, _⟩ := h 0 ts[0] (List.getElem?_eq_getElem h0)
  refine ⟨ad, h1, h2, fun j u hj => ?_⟩
  have hlt := (List.getElem?_eq_some_iff.1 hj).1
  have hk : j / 5 < ts.length := by omega
  have hf := flat5 css (j / 5) (j % 5) (css[j / 5]'(by omega)) hsz (List.getElem?_eq_getElem _) (by omega)
  rw [show j / 5 * 5 + j % 5 = j by omega, hj] at hf
  have := (hc (j / 5) _ _ (List.getElem?_eq_getElem (by omega)) (List.getElem?_eq_getElem hk)).2 (j % 5) (by omega) ad h1
  rw [show j / 5 * 5 + j % 5 = j by omega] at this
  rw [this, ← hf]
theorem flat_one {ok : Nat → Prop} {w : World} {ts : List Trm} {css : List (Array Value)} (hl : css.length = ts.length) (hc : ∀ (j : Nat) c x, css[j]? = some c → ts[j]? = some x → TmAt ok w x c) : ∀ u ∈ css.flatMap (·.toList), u.oneCell' = true := fun u hu => by
  obtain ⟨c, h1, h2⟩ := List.mem_flatMap.1 hu
  obtain ⟨j, hj⟩ := List.mem_iff_getElem?.1 h1
  have hjl := (List.getElem?_eq_some_iff.1 hj).1
  exact tm_one (hc j c ts[j] hj (List.getElem?_eq_getElem (by omega))) u h2
/-- the row that an append to an empty one has made -/
theorem row_of_own {ok : Nat → Prop} {x : World} {B n : Nat} {v : Value} {ts : List Trm} {css : List (Array Value)} (h0 : 0 < ts.length) (hn : n = ts.length) (ho : x.ownsRow B 25 5 v n (css.flatMap (·.toList))) (hl : css.length = ts.length) (hc : ∀ (j : Nat) c y, css[j]? = some c → ts[j]? = some y → TmAt ok x y c) : ∃ gR cap, v = .slice (some ⟨gR, 0, none⟩) ts.length cap ∧ B ≤ gR ∧ ts.length ≤ cap ∧ cap ≤ 9223372036854775807 ∧ RowT ok x gR ts := by
  subst hn
  have hsz := OwnT.size hl hc
  rcases ho.2 with ⟨_, h1⟩ | ⟨g, cap, cur, rfl, hg, hb, hn, hcc, hs, ht⟩
  · omega
  · have hb' : Blk x g 25 cur := hb
    refine ⟨g, cap, rfl, hg, hn, by unfold maxLen at hcc; omega, cur, hb', fun j y hy => ?_⟩
    have hjl := (List.getElem?_eq_some_iff.1 hy).1
    refine ⟨css[j]'(by omega), hc j _ y (List.getElem?_eq_getElem (by omega)) hy, fun i hi => ?_⟩
    have h3 := flat5 css j i (css[j]'(by omega)) hsz (List.getElem?_eq_getElem _) hi
    have hjc : i < (css[j]'(by omega)).size := by rw [hsz _ (List.getElem_mem _)]; exact hi
    rw [Array.getElem?_eq_getElem hjc] at h3 ⊢
    rw [← ht, List.getElem?_take] at h3
    split at h3
    · rw [← Array.getElem?_toList]; exact h3
    · cases h3
/-- one term of the row is replaced -/
theorem RowT.put {ok : Nat → Prop} {x : World} {gR : Nat} {ts : List Trm} {i : Nat} {t' : Trm} {c0 c1 c2 c3 c4 : Value} (h : RowT ok x gR ts) (hok : ¬ ok gR) (hi : i < ts.length) (ht : TmAt ok x t' #[c0, c1, c2, c3, c4]) : RowT ok (((((x.setCell ⟨gR, i * 5, none⟩ c0).setCell ⟨gR, i * 5 + 1, none⟩ c1).setCell ⟨gR, i * 5 + 2, none⟩ c2).setCell ⟨gR, i * 5 + 3, none⟩ c3).setCell ⟨gR, i * 5 + 4, none⟩ c4) gR (ts.set i t') := by
  obtain ⟨cur, hK, hc⟩ := h
  have hg := grown_trans (grown_trans (grown_trans (grown_trans (grown_set x ⟨gR, i * 5, none⟩ c0) (grown_set _ ⟨gR, i * 5 + 1, none⟩ c1)) (grown_set _ ⟨gR, i * 5 + 2, none⟩ c2)) (grown_set _ ⟨gR, i * 5 + 3, none⟩ c3)) (grown_set _ ⟨gR, i * 5 + 4, none⟩ c4)
  have hno : ∀ b, b < x.heap.size → ok b → some b ≠ some gR := fun b _ hb e => hok (Option.some.inj e ▸ hb)
  obtain ⟨c, hcT, hcq⟩ := hc i ts[i] (List.getElem?_eq_getElem hi)
  have hsz : i * 5 + 4 < cur.size := by
    have h4 := hcq 4 (by omega)
    rw [Array.getElem?_eq_getElem (show 4 < c.size by rw [hcT.size]; omega)] at h4
    exact (Array.getElem?_eq_some_iff.1 h4).1
  refine ⟨_, ((((hK.set_ (i * 5) c0).set_ (i * 5 + 1) c1).set_ (i * 5 + 2) c2).set_ (i * 5 + 3) c3).set_ (i * 5 + 4) c4, fun j y hy => ?_⟩
  by_cases hj : i = j
  · subst hj
    rw [List.getElem?_set_self hi] at hy
    obtain rfl := Option.some.inj hy
    refine ⟨_, ht.grown hg hno fun _ _ h => h, fun m hm => ?_⟩
    have : m = 0 ∨ m = 1 ∨ m = 2 ∨ m = 3 ∨ m = 4 := by omega
    rcases this with rfl | rfl | rfl | rfl | rfl <;> simp [Array.getElem?_setIfInBounds] <;> omega
  · rw [List.getElem?_set_ne hj] at hy
    obtain ⟨d, p, q⟩ := hc j y hy
    refine ⟨d, p.grown hg hno fun _ _ h => h, fun m hm => ?_⟩
    rw [← q m hm, Array.getElem?_setIfInBounds_ne (by omega), Array.getElem?_setIfInBounds_ne (by omega), Array.getElem?_setIfInBounds_ne (by omega), Array.getElem?_setIfInBounds_ne (by omega), Array.getElem?_setIfInBounds_ne (by omega)]
theorem row_cells {ok : Nat → Prop} {x : World} {gR : Nat} {ts : List Trm} {i : Nat} (h : RowT ok x gR ts) (hi : i < ts.length) : ∃ d0 d1 d2 d3 d4, x.cell? ⟨gR, i * 5, none⟩ = some d0 ∧ x.cell? ⟨gR, i * 5 + 1, none⟩ = some d1 ∧ x.cell? ⟨gR, i * 5 + 2, none⟩ = some d2 ∧ x.cell? ⟨gR, i * 5 + 3, none⟩ = some d3 ∧ x.cell? ⟨gR, i * 5 + 4, none⟩ = some d4 ∧ ∀ m, x.frozen? ⟨gR, m, none⟩ = false := by
  obtain ⟨cur, hK, hc⟩ := h
  obtain ⟨c, hcT, hcq⟩ := hc i ts[i] (List.getElem?_eq_getElem hi)
  obtain ⟨k, a, v, A, n, cap, f, rfl⟩ := hcT.ext
  exact ⟨_, _, _, _, _, (hK.cell _).trans (hcq 0 (by omega)), (hK.cell _).trans (hcq 1 (by omega)), (hK.cell _).trans (hcq 2 (by omega)), (hK.cell _).trans (hcq 3 (by omega)), (hK.cell _).trans (hcq 4 (by omega)), fun m => hK.frozen m⟩
open Go.RowKit
/-- while one term of the row is replaced; Bs: what stays beside it -/
def InvX (Bs : World → Prop) (okR : Nat → Prop) (gR i : Nat) (ts : List Trm) (C : Trm → Prop) : List Bool → Trm × Array Value → World → Prop
  | [be, bs], gx, wq => Bs wq ∧ (bs = false → RowT okR wq gR ts) ∧ (be = true → C gx.1) ∧ (be = true → bs = false → TmAt okR wq gx.1 gx.2) ∧ (bs = true → RowT okR wq gR (ts.set i gx.1))
  | _, _, _ => False
/-- the boxes of the call with that of the result -/
structure RnB (ok : Nat → Prop) (w : World) (c : Array Value) (A : Option Addr) (ts : List Trm) (g2 g7 : Nat) (co : Array Value) (x : World) : Prop where
  sb : RnS ok w c A ts g2 x
  k7 : Blk x g7 25 co
  l7 : w.heap.size + 2 ≤ g7
section
variable {ok : Nat → Prop} {w x x' : World} {c co : Array Value} {A : Option Addr} {ts : List Trm} {g2 g7 : Nat}
theorem RnB.keep (h : RnB ok w c A ts g2 g7 co x) (hb : Below x.heap.size x x') : RnB ok w c A ts g2 g7 co x' := ⟨h.sb.keep hb, _root_.Go.Proofs.YtpokelkneblafaaGreatDoor.keep hb h.k7, h.l7⟩
theorem RnB.grow (h : RnB ok w c A ts g2 g7 co x) (hok : ∀ b, ok b → b < w.heap.size) {row : Option Nat} (hg : x.grownBy x' row) (hr : ∀ r, row = some r → g7 < r) : RnB ok w c A ts g2 g7 co x' := by
  have h7 := h.l7
  exact ⟨h.sb.grow hok hg fun r e => by have := hr r e; omega, h.k7.grown hg fun e => by have := hr _ e.symm; omega, h7⟩
end
/-- and with that of the last argument -/
structure RnD (ok : Nat → Prop) (w : World) (c : Array Value) (A : Option Addr) (ts : List Trm) (g2 g7 : Nat) (co : Array Value) (g9 : Nat) (cs : Array Value) (s : Trm) (gR : Nat) (x : World) : Prop where
  rb : RnB ok w c A ts g2 g7 co x
  k9 : Blk x g9 25 cs
  tm : TmAt ok x s cs
  ne : gR ≠ g9
  lR : g7 < gR
section
variable {ok : Nat → Prop} {w x x' : World} {c co cs : Array Value} {A : Option Addr} {ts : List Trm} {g2 g7 g9 gR : Nat} {s : Trm}
theorem RnD.keep (h : RnD ok w c A ts g2 g7 co g9 cs s gR x) (hb : Below x.heap.size x x') : RnD ok w c A ts g2 g7 co g9 cs s gR x' := ⟨h.rb.keep hb, _root_.Go.Proofs.YtpokelkneblafaaGreatDoor.keep hb h.k9, h.tm.keep hb, h.ne, h.lR⟩
theorem RnD.grow (h : RnD ok w c A ts g2 g7 co g9 cs s gR x) (hok : ∀ b, ok b → b < w.heap.size) (hg : x.grownBy x' (some gR)) : RnD ok w c A ts g2 g7 co g9 cs s gR x' := by
  have h7 := h.rb.l7
  have hR := h.lR
  exact ⟨h.rb.grow hok hg fun r e => by have h9 := Option.some.inj e; omega, h.k9.grown hg fun e => h.ne (Option.some.inj e).symm, h.tm.grown hg (fun b _ hb e => by have h9 := Option.some.inj e; have := hok b hb; omega) fun _ _ h => h, h.ne, hR⟩
end
theorem own_start (w : World) (B : Nat) (hB : B ≤ w.heap.size) : (w.alloc (.cells #[] 25)).ownsRow B 25 5 (.slice (some ⟨w.heap.size, 0, none⟩) 0 0) 0 [] :=
  ⟨rfl, .inr ⟨w.heap.size, 0, #[], rfl, hB, Blk.new w _ _, Nat.le_refl _, by unfold maxLen; omega, rfl, rfl⟩⟩
/-- what Rename does at a path -/
def RenOk (ps : List Int) : Prop := ∀ (ok : Nat → Prop) (t : Trm) (c : Array Value) (AP : Option Addr) (cp : Nat) (pick : Int) (w : World), cntM t ≤ 200 → formM t = true → 0 ≤ pick → pick ≤ 255 → ps.length ≤ 1000 → ps.length ≤ cp → cp ≤ 9223372036854775807 → (∀ b, ok b → b < w.heap.size) → TmAt ok w t c → PthAt w AP ps →
  Calls Tryz.prog 12 #[.agg c, .slice AP ps.length cp, .int .i64 pick] w (RenP ok t w)
set_option maxRecDepth 100000 in
set_option maxHeartbeats 8000000 in
theorem rename_cons (p : Int) (r : List Int) (ih : RenOk r) : RenOk (p :: r) := by
    intro ok t c AP cp pick w hz hm hp0 hp1 hpl hcp hcp2 hok hT hP
    obtain ⟨i0, hi, hz0, hz1, hz2⟩ := info_parts info_tm
    obtain ⟨A, cap, rfl, ha, hv, hf, hl, hc, hk⟩ := hT.form
    obtain ⟨k, a, vr, f, ts⟩ := t
    dsimp only [Trm.kind, Trm.nam, Trm.vr, Trm.form, Trm.args] at ha hv hf hl hk ⊢
    have HM := Lib.hid hm
    have HOK := Lib.hid hok
    have HARG := Lib.hid hk
    have HZ0 := Lib.hid (show cntL ts ≤ 200 by rw [cntM] at hz; omega)
    have HL : ts.length ≤ 200 := by have := len_cntL ts; have := HZ0.out; omega
    have HSZ := Lib.hid (And.intro ha (And.intro hv (And.intro hf (And.intro hl hc))))
    have S1 := Lib.hid (RnS.start (c := trmC k a vr A ts.length cap f) hk)
    have HPK := Lib.hid (And.intro hp0 hp1)
    have IH := Lib.hid ih
    have HPL := Lib.hid (show r.length + 1 ≤ 1000 from hpl)
    have HCP := Lib.hid (show r.length + 1 ≤ cp ∧ cp ≤ 9223372036854775807 from ⟨hcp, hcp2⟩)
    obtain ⟨ad, rfl, hadl, hcl0⟩ := hP 0 p rfl
    have HP0 := Lib.hid (show ∀ wx : World, Below w.heap.size w wx → wx.cell? (ad.add 0) = some (.int .i64 p) ∧ wx.cell? ad = some (.int .i64 p) from fun wx hb => by
      have h1 : wx.cell? (ad.add 0) = some (.int .i64 p) := by rw [hb.cell (by rw [add_blk]; exact hadl)]; exact hcl0
      have h2 : ad.add 0 = ad := by unfold Addr.add; cases ad; split <;> simp_all
      exact ⟨h1, h2 ▸ h1⟩)
    have HPR0 : PthAt w (if cp = 1 then some ad else some ⟨ad.block, ad.off + 1, none⟩) r := fun j q hj => by
      have hjl := (List.getElem?_eq_some_iff.1 hj).1
      have hcq : r.length + 1 ≤ cp := hcp
      rw [if_neg (by omega)]
      obtain ⟨ad', h1, h2, h3⟩ := hP (j + 1) q (by simpa using hj)
      obtain rfl := Option.some.inj h1
      refine ⟨_, rfl, h2, ?_⟩
      rw [show (⟨ad.block, ad.off + 1, none⟩ : Addr).add j = ad.add (j + 1) by unfold Addr.add; by_cases h : j = 0 <;> simp [h]; omega]
      exact h3
    generalize hAQ : (if cp = 1 then some ad else some (⟨ad.block, ad.off + 1, none⟩ : Addr)) = AQ at HPR0
    have HAQ := Lib.hid hAQ
    have HPR := Lib.hid HPR0
    clear hAQ HPR0
    clear ih hz hm hp0 hp1 hpl hcp hcp2 hok hT hP hk ha hv hf hl hc hadl hcl0
    rw [show (p :: r).length = r.length + 1 from rfl]
    go_enter Tryz.func12, Tryz.ntmps12
    go_upto_region 1 with (fail)
    generalize (w.alloc (.cells (trmC k a vr A ts.length cap f) 25)).alloc (.cells zerC 25) = w1 at *
    generalize w.heap.size + 1 = g2 at *
    have hr0 : (0 : Int) < (r.length : Int) + 1 := by omega
    have hr1 : (0 : Int) ≤ (r.length : Int) := by omega
    obtain ⟨u0, u1⟩ := HP0.out w1 S1.out.bel
    have x3 := S1.out.k0.cell 3
    by_cases h1 : p < 0
    · go_upto_region 2 with (fail)
      go_quiet (fail)
      replace S1 := Lib.hid (S1.out.keep (below_drewN (Below.refl _ w1) nq))
      clear u0 u1 x3 hr0 hr1 h1
      generalize w1.drewN nq = w2 at *
      have b0 := S1.out.k0.cell 0
      have b1 := S1.out.k0.cell 1
      have b2 := S1.out.k0.cell 2
      have b3 := S1.out.k0.cell 3
      have b4 := S1.out.k0.cell 4
      have e0 := fun i => S1.out.k2.cell i
      have f0 := fun i => S1.out.k2.frozen i
      go_wp2_with fail
      have hwf := set5 S1.out.k2 (.int .i64 k) (.string a) (.string vr) (.slice A ts.length cap) (.string f)
      have hgr := grown5 w2 g2 (.int .i64 k) (.string a) (.string vr) (.slice A ts.length cap) (.string f)
      have hgf := S1.out.bel.grown hgr S1.out.bel.size (fun r e => by have h9 : g2 = r := Option.some.inj e; have := S1.out.l2; omega)
      have hta := S1.out.arg.map (ok' := fun b => ok b ∨ w.heap.size ≤ b) hgr.size (fun b _ h => .inl h) fun p hp ho => World.cell?_of_block (hgr.block _ hp fun e => by
        have h9 := Option.some.inj e
        have := S1.out.l2
        have := HOK.out _ ho
        omega)
      have hres := TmAt.of (k := k) HSZ.out.1 HSZ.out.2.1 HSZ.out.2.2.1 HSZ.out.2.2.2.1 HSZ.out.2.2.2.2 hta
      clear b0 b1 b2 b3 b4
      clear e0 f0 hgr
      generalize ((((w2.setCell ⟨g2, 0, none⟩ (.int .i64 k)).setCell ⟨g2, 1, none⟩ (.string a)).setCell ⟨g2, 2, none⟩ (.string vr)).setCell ⟨g2, 3, none⟩ (.slice A ts.length cap)).setCell ⟨g2, 4, none⟩ (.string f) = wf at *
      have dC := fun i => hwf.cell i
      exact bodyPost_ret (v := .agg (trmC k a vr A ts.length cap f)) (by simp [results, Tryz.results12, go_sem, dC]) rfl ⟨_, _, rfl, hres, RenC.refl HM.out, hgf⟩
    by_cases h2 : (ts.length : Int) ≤ p
    · go_upto_region 2 with (fail)
      go_quiet (fail)
      replace S1 := Lib.hid (S1.out.keep (below_drewN (Below.refl _ w1) nq))
      clear u0 u1 x3 hr0 hr1 h1 h2
      generalize w1.drewN nq = w2 at *
      have b0 := S1.out.k0.cell 0
      have b1 := S1.out.k0.cell 1
      have b2 := S1.out.k0.cell 2
      have b3 := S1.out.k0.cell 3
      have b4 := S1.out.k0.cell 4
      have e0 := fun i => S1.out.k2.cell i
      have f0 := fun i => S1.out.k2.frozen i
      go_wp2_with fail
      have hwf := set5 S1.out.k2 (.int .i64 k) (.string a) (.string vr) (.slice A ts.length cap) (.string f)
      have hgr := grown5 w2 g2 (.int .i64 k) (.string a) (.string vr) (.slice A ts.length cap) (.string f)
      have hgf := S1.out.bel.grown hgr S1.out.bel.size (fun r e => by have h9 : g2 = r := Option.some.inj e; have := S1.out.l2; omega)
      have hta := S1.out.arg.map (ok' := fun b => ok b ∨ w.heap.size ≤ b) hgr.size (fun b _ h => .inl h) fun p hp ho => World.cell?_of_block (hgr.block _ hp fun e => by
        have h9 := Option.some.inj e
        have := S1.out.l2
        have := HOK.out _ ho
        omega)
      have hres := TmAt.of (k := k) HSZ.out.1 HSZ.out.2.1 HSZ.out.2.2.1 HSZ.out.2.2.2.1 HSZ.out.2.2.2.2 hta
      clear b0 b1 b2 b3 b4
      clear e0 f0 hgr
      generalize ((((w2.setCell ⟨g2, 0, none⟩ (.int .i64 k)).setCell ⟨g2, 1, none⟩ (.string a)).setCell ⟨g2, 2, none⟩ (.string vr)).setCell ⟨g2, 3, none⟩ (.slice A ts.length cap)).setCell ⟨g2, 4, none⟩ (.string f) = wf at *
      have dC := fun i => hwf.cell i
      exact bodyPost_ret (v := .agg (trmC k a vr A ts.length cap f)) (by simp [results, Tryz.results12, go_sem, dC]) rfl ⟨_, _, rfl, hres, RenC.refl HM.out, hgf⟩
    obtain ⟨i, rfl⟩ : ∃ i : Nat, p = (i : Int) := ⟨p.toNat, by omega⟩
    have hlt : i < ts.length := by omega
    obtain ⟨y0, hy0⟩ : ∃ y0, ts[i]? = some y0 := ⟨_, List.getElem?_eq_getElem hlt⟩
    obtain ⟨adA, hA, hadl, _, cy0, hty, hcy⟩ := HARG.out i y0 hy0
    subst hA
    obtain ⟨ky, ay, vy, Ay, ny, cy, fy, rfl⟩ := hty.ext
    have HTY := Lib.hid hty
    have HCY := Lib.hid hcy
    have HAD := Lib.hid hadl
    have HY := Lib.hid hy0
    have HCN := Lib.hid (show cntM y0 ≤ 200 by have := cnt_arg hy0; have := HZ0.out; omega)
    have HFY := Lib.hid (formML_at (by have := HM.out; rw [formM, Bool.and_eq_true] at this; exact this.2) hy0)
    clear hty hcy hadl hy0
    go_upto_region 2 with (fail)
    go_quiet (fail)
    replace S1 := Lib.hid (S1.out.keep (below_drewN (Below.refl _ w1) nq))
    clear u0 u1 x3 hr0 hr1 h1 h2
    generalize w1.drewN nq = w2 at *
    have b0 := S1.out.k0.cell 0
    have b1 := S1.out.k0.cell 1
    have b2 := S1.out.k0.cell 2
    have b3 := S1.out.k0.cell 3
    have b4 := S1.out.k0.cell 4
    go_upto_region 5 with (fail)
    have hba := bel_alloc w2 (.cells (trmC k a vr (some adA) ts.length cap f) 25)
    have RB := Lib.hid (show RnB ok w (trmC k a vr (some adA) ts.length cap f) (some adA) ts g2 w2.heap.size (trmC k a vr (some adA) ts.length cap f) (w2.alloc (.cells (trmC k a vr (some adA) ts.length cap f) 25)) from ⟨S1.out.keep hba, Blk.new w2 _ _, by have := S1.out.k2.lt; have := S1.out.l2; omega⟩)
    clear hba S1 b0 b1 b2 b3 b4
    generalize w2.alloc (.cells (trmC k a vr (some adA) ts.length cap f) 25) = w3 at *
    generalize w2.heap.size = g7 at *
    have hba := bel_alloc w3 (.cells #[] 25)
    have HS := Lib.hid (RB.out.keep hba)
    obtain ⟨css, hcl, hcc⟩ := tms_flat HS.out.sb.arg
    have ho := own_start w3 (g7 + 1) (by have := RB.out.k7.lt; omega)
    have x3 := HS.out.sb.k0.cell 3
    have HSZ7 := Lib.hid (show g7 < w3.heap.size from RB.out.k7.lt)
    clear hba
    go_wp2_with (at_builtin; refine wpList_append_any _ rfl (.tmp 30) (.tmp 32) 23 rfl (g7 + 1) 25 i0 (.agg #[.int .i64 0, .string ⟨#[]⟩, .string ⟨#[]⟩, .slice none 0 0, .string ⟨#[]⟩]) 5 80 Tryz.underlying23 hi hz0 hz1 hz2 rfl (by decide) _ 0 [] rfl ho _ (some adA) ts.length cap (css.flatMap (·.toList)) rfl (tms_reads HS.out.sb.arg hcl hcc) (flat_one hcl fun j c x h1 h2 => (hcc j c x h1 h2).1) (by unfold maxLen; omega) (by omega) (by have := HSZ7.out; simp; omega) ?_); intro v' w' q2 q3 _
    have hrow : ∀ r, (Value.slice (some ⟨w3.heap.size, 0, none⟩) 0 0).ownBlock = some r → g7 < r := fun r hr => by
      obtain rfl : w3.heap.size = r := by simpa [Value.ownBlock] using hr
      exact HSZ7.out
    obtain ⟨gR, cR, rfl, hgR, hcR, hcR2, hR⟩ := row_of_own (ok := ok) (by omega) (by simp) (show w'.ownsRow (g7 + 1) 25 5 v' (0 + ts.length) (css.flatMap (·.toList)) from by simpa using q2) hcl (fun j c y h1 h2 => (hcc j c y h1 h2).1.grown q3 (fun b _ hb e => by have := hrow b e.symm; have := HOK.out b hb; have := RB.out.l7; omega) fun _ _ h => h)
    have HR := Lib.hid hR
    have RB2 := Lib.hid (HS.out.grow HOK.out q3 hrow)
    have HGR := Lib.hid (And.intro hgR (And.intro hcR hcR2))
    clear ho hcl hcc q2 q3 hrow hgR hR x3 HS hcR hcR2
    have x3 := RB2.out.k7.cell 3
    have y3 := RB2.out.k7.frozen 3
    go_upto_region 6 with (fail)
    have hgs := grown_set w' ⟨g7, 3, none⟩ (.slice (some ⟨gR, 0, none⟩) ts.length cR)
    have RB3 := Lib.hid (show RnB ok w (trmC k a vr (some adA) ts.length cap f) (some adA) ts g2 g7 #[.int .i64 k, .string a, .string vr, .slice (some ⟨gR, 0, none⟩) ts.length cR, .string f] (w'.setCell ⟨g7, 3, none⟩ (.slice (some ⟨gR, 0, none⟩) ts.length cR)) from ⟨RB2.out.sb.grow HOK.out hgs (fun r e => by have h9 : g7 = r := Option.some.inj e; have := RB2.out.l7; omega), RB2.out.k7.set_ 3 _, RB2.out.l7⟩)
    have HR3 := Lib.hid (HR.out.grown (ok' := fun b => (ok b ∨ w.heap.size + 2 ≤ b) ∧ b ≠ gR) hgs (fun e => by have h9 : gR = g7 := Option.some.inj e; have := HGR.out.1; omega) (fun b _ hb e => by have h9 : b = g7 := Option.some.inj e; have := HOK.out b hb; have := RB2.out.l7; omega) (fun b _ hb => ⟨.inl hb, by have := HOK.out b hb; have := RB2.out.l7; have := HGR.out.1; omega⟩))
    clear x3 y3 hgs RB2 HR
    generalize w'.setCell ⟨g7, 3, none⟩ (.slice (some ⟨gR, 0, none⟩) ts.length cR) = w5 at *
    refine region_ghost (X := Trm × Array Value) (by kernel_rfl) _ (fun gx => [.pointer (some ⟨g7, 3, none⟩), .slice (some ⟨gR, 0, none⟩) ts.length cR, .slice (some ad) (r.length + 1) cp, .pointer (some (ad.add 0)), .int .i64 (↑i), .pointer (some ⟨w.heap.size, 3, none⟩), .slice (some adA) ts.length cap, .slice (some ad) (r.length + 1) cp, .pointer (some (ad.add 0)), .int .i64 (↑i), .pointer (some (adA.add (i * 5))), .agg #[.int .i64 ky, .string ay, .string vy, .slice Ay ny cy, .string fy], .slice (some ad) (r.length + 1) cp, .slice AQ r.length (cp - 1), .int .i64 pick, .agg gx.2, .pointer (some ⟨gR, i * 5, none⟩), undef]) [true, true, true, true, true, true, true, true, true, true, true, true, true, true, true, true, true, true] [15, 17] (InvX (RnB ok w (trmC k a vr (some adA) ts.length cap f) (some adA) ts g2 g7 #[.int .i64 k, .string a, .string vr, .slice (some ⟨gR, 0, none⟩) ts.length cR, .string f]) (fun b => (ok b ∨ w.heap.size + 2 ≤ b) ∧ b ≠ gR) gR i ts (RenC y0)) (varM ⟨#[]⟩, #[]) (by kernel_rfl) (fun gx => by simp [fin, finOn, dstAt, List.range, List.range.loop, Act.put]; rfl) (fun _ => by kernel_rfl) (by kernel_rfl) ⟨RB3.out.keep (below_drew (Below.refl _ _)), (fun _ => HR3.out.keep (below_drew (Below.refl _ _))), (fun h => by cases h), (fun h => by cases h), fun h => by cases h⟩ ?_ ?_
    · refine ⟨fun L gx wq hL hb ha hI => ?_, fun L gx wq hL hb ha hI => ?_, fun L gx wq hL hb ha hI => ?_, fun L gx wq hL hb ha hI => ?_, fun L gx wq hL hb ha hI => ?_, fun L gx wq hL hb ha hI => ?_, fun L gx wq hL hb ha hI => ?_, fun L gx wq hL hb ha hI => ?_, fun L gx wq hL hb ha hI => ?_, fun L gx wq hL hb ha hI => ?_, fun L gx wq hL hb ha hI => ?_, fun L gx wq hL hb ha hI => ?_, fun L gx wq hL hb ha hI => ?_, fun L gx wq hL hb ha hI => ?_, fun L gx wq hL hb ha hI => ?_, fun L gx wq hL hb ha hI => ?_, fun L gx wq hL hb ha hI => ?_, fun L gx wq hL hb ha hI => ?_, trivial⟩
      · exact Gives.plain (v := .pointer (some ⟨g7, 3, none⟩)) (w' := wq) (by simp [go_sem]) rfl hI
      · have cJ := hI.1.k7.cell 3
        exact Gives.plain (v := .slice (some ⟨gR, 0, none⟩) ts.length cR) (w' := wq) (by simp [go_sem, cJ]) rfl hI
      · exact Gives.plain (v := .slice (some ad) (r.length + 1) cp) (w' := wq) (by kernel_rfl) rfl hI
      · skip
        exact Gives.plain (v := .pointer (some (ad.add 0))) (w' := wq) (by simp [go_sem]) rfl hI
      · obtain ⟨cJ, cJ2⟩ := HP0.out wq hI.1.sb.bel
        exact Gives.plain (v := .int .i64 (↑i)) (w' := wq) (by simp [go_sem, cJ2]) rfl hI
      · exact Gives.plain (v := .pointer (some ⟨w.heap.size, 3, none⟩)) (w' := wq) (by simp [go_sem]) rfl hI
      · have cJ := hI.1.sb.k0.cell 3
        dsimp only [trmC] at cJ
        exact Gives.plain (v := .slice (some adA) ts.length cap) (w' := wq) (by simp [go_sem, cJ]) rfl hI
      · exact Gives.plain (v := .slice (some ad) (r.length + 1) cp) (w' := wq) (by kernel_rfl) rfl hI
      · skip
        exact Gives.plain (v := .pointer (some (ad.add 0))) (w' := wq) (by simp [go_sem]) rfl hI
      · obtain ⟨cJ, cJ2⟩ := HP0.out wq hI.1.sb.bel
        exact Gives.plain (v := .int .i64 (↑i)) (w' := wq) (by simp [go_sem, cJ2]) rfl hI
      · skip
        exact Gives.plain (v := .pointer (some (adA.add (i * 5)))) (w' := wq) (by simp [go_sem, hlt]; try omega) rfl hI
      · obtain ⟨d0, d1, d2, d3, d4⟩ := arg_cells hI.1.sb.bel HAD.out HCY.out
        exact Gives.plain (v := .agg #[.int .i64 ky, .string ay, .string vy, .slice Ay ny cy, .string fy]) (w' := wq) (by simp [go_sem, d0, d1, d2, d3, d4]) rfl hI
      · exact Gives.plain (v := .slice (some ad) (r.length + 1) cp) (w' := wq) (by kernel_rfl) rfl hI
      · have hc1 := HCP.out
        exact Gives.plain (v := .slice AQ r.length (cp - 1)) (w' := wq) (by simp [go_sem]; rw [HAQ.out, if_pos (show (1 : Int) ≤ (r.length : Int) + 1 by omega)]) rfl hI
      · exact Gives.plain (v := .int .i64 pick) (w' := wq) (by kernel_rfl) rfl hI
      · have e1 : L 15 = false := hL
        have e2 : L 17 = false := ha 17 (by kernel_rfl)
        simp only [List.map, e1, e2] at hI ⊢
        obtain ⟨h1, h2, _, _, _⟩ := hI
        refine Gives.call (f := 12) (args := #[.agg #[.int .i64 ky, .string ay, .string vy, .slice Ay ny cy, .string fy], .slice AQ r.length (cp - 1), .int .i64 pick]) (w' := wq) (by kernel_rfl) ((IH.out ok y0 _ AQ (cp - 1) pick wq HCN.out HFY.out HPK.out.1 HPK.out.2 (by have := HPL.out; omega) (by have := HCP.out; omega) (by have := HCP.out; omega) (fun b hb => Nat.lt_of_lt_of_le (HOK.out b hb) h1.sb.bel.size) (HTY.out.keep h1.sb.bel) (HPR.out.keep h1.sb.bel)).mono ?_)
        rintro e wz ⟨c', t', rfl, hc, hC, hb⟩
        have hRl : gR < wq.heap.size := by
          obtain ⟨cur, hK, _⟩ := h2 rfl
          exact hK.lt
        exact ⟨_, rfl, (t', c'), rfl, (KeepsV.of_same ⟨.inr (.inr rfl), .inr (.inr rfl), .inr (.inr rfl), .inr (.inr rfl), .inr (.inr rfl), .inr (.inr rfl), .inr (.inr rfl), .inr (.inr rfl), .inr (.inr rfl), .inr (.inr rfl), .inr (.inr rfl), .inr (.inr rfl), .inr (.inr rfl), .inr (.inr rfl), .inr (.inr rfl), .inl rfl, .inr (.inr rfl), .inr (.inr rfl), trivial⟩), RnB.keep h1 hb, (fun _ => (h2 rfl).keep hb), (fun _ => hC), (fun _ _ => hc.any fun b _ hq => ⟨hq.elim .inl fun h => .inr (by have := h1.l7; have := HGR.out.1; omega), hq.elim (fun h => by have := HOK.out b h; have := h1.l7; have := HGR.out.1; omega) fun h => by omega⟩), fun h => by cases h⟩
      · skip
        exact Gives.plain (v := .pointer (some ⟨gR, i * 5, none⟩)) (w' := wq) (by simp [go_sem, hlt]) rfl hI
      · have e1 : L 15 = true := hb 15 (by kernel_rfl)
        have e2 : L 17 = false := hL
        simp only [List.map, e1, e2] at hI ⊢
        obtain ⟨h1, h2, h3, h4, _⟩ := hI
        obtain ⟨d0, d1, d2, d3, d4, r0, r1, r2, r3, r4, rf⟩ := row_cells (h2 rfl) hlt
        obtain ⟨Ac, cc, e8, _⟩ := (h4 rfl rfl).form
        have h5 := h4 rfl rfl
        rw [e8] at h5
        have h6 := (h2 rfl).put (fun h => h.2 rfl) hlt h5
        have h7 := grown_trans (grown_trans (grown_trans (grown_trans (grown_set wq ⟨gR, i * 5, none⟩ (.int .i64 gx.1.kind)) (grown_set _ ⟨gR, i * 5 + 1, none⟩ (.string gx.1.nam))) (grown_set _ ⟨gR, i * 5 + 2, none⟩ (.string gx.1.vr))) (grown_set _ ⟨gR, i * 5 + 3, none⟩ (.slice Ac gx.1.args.length cc))) (grown_set _ ⟨gR, i * 5 + 4, none⟩ (.string gx.1.form))
        exact Gives.skip (by simp [go_sem, e8, r0, r1, r2, r3, r4, rf]) ⟨_, rfl, KeepsV.same, (fun h g => RnB.grow h HOK.out g fun r e => by have h9 : gR = r := Option.some.inj e; have := HGR.out.1; omega) h1 h7, (fun h => by cases h), h3, (fun _ h => by cases h), fun _ => h6⟩
    · intro gx wq hI
      obtain ⟨h1, _, h3, _, h5⟩ := hI
      have RB := Lib.hid h1
      have HC3 := Lib.hid (h3 rfl)
      have HR := Lib.hid (h5 rfl)
      clear h1 h3 h5
      have RBS := Lib.hid RB.out.sb
      have b0 := RB.out.k7.cell 0
      have b1 := RB.out.k7.cell 1
      have b2 := RB.out.k7.cell 2
      have b3 := RB.out.k7.cell 3
      have b4 := RB.out.k7.cell 4
      have e0 := fun i => RBS.out.k2.cell i
      have f0 := fun i => RBS.out.k2.frozen i
      go_wp2_with fail
      have hwf := set5 RBS.out.k2 (.int .i64 k) (.string a) (.string vr) (.slice (some ⟨gR, 0, none⟩) ts.length cR) (.string f)
      have hgr := grown5 wq g2 (.int .i64 k) (.string a) (.string vr) (.slice (some ⟨gR, 0, none⟩) ts.length cR) (.string f)
      have hgf := RBS.out.bel.grown hgr RBS.out.bel.size (fun r e => by have h9 : g2 = r := Option.some.inj e; have := RBS.out.l2; omega)
      have hrw := (HR.out.grown (ok' := fun b => ok b ∨ w.heap.size ≤ b) hgr (fun e => by have h9 := Option.some.inj e; have := RBS.out.l2; have := RB.out.l7; have := HGR.out.1; omega) (fun b _ hb e => by
        have h9 := Option.some.inj e
        have := RBS.out.l2
        rcases hb.1 with h | h
        · have := HOK.out b h; omega
        · omega) (fun b _ hb => hb.1.elim .inl fun h => .inr (by omega))).tms (.inr (by have := RB.out.l7; have := HGR.out.1; omega))
      have hres := TmAt.of (k := k) HSZ.out.1 HSZ.out.2.1 HSZ.out.2.2.1 (show (ts.set i gx.1).length ≤ cR by rw [List.length_set]; exact HGR.out.2.1) HGR.out.2.2 hrw
      rw [List.length_set] at hres
      clear b0 b1 b2 b3 b4
      clear e0 f0 hgr
      generalize ((((wq.setCell ⟨g2, 0, none⟩ (.int .i64 k)).setCell ⟨g2, 1, none⟩ (.string a)).setCell ⟨g2, 2, none⟩ (.string vr)).setCell ⟨g2, 3, none⟩ (.slice (some ⟨gR, 0, none⟩) ts.length cR)).setCell ⟨g2, 4, none⟩ (.string f) = wf at *
      have dC := fun i => hwf.cell i
      exact bodyPost_ret (v := .agg (trmC k a vr (some ⟨gR, 0, none⟩) ts.length cR f)) (by simp [results, Tryz.results12, go_sem, dC]) rfl ⟨_, _, rfl, hres, ren_arg HM.out HY.out HC3.out, hgf⟩
open Go.RowKit
set_option maxRecDepth 100000 in
set_option maxHeartbeats 8000000 in
theorem rename_nil : RenOk [] := by
    intro ok t c AP cp pick w hz hm hp0 hp1 hpl hcp hcp2 hok hT hP
    obtain ⟨i0, hi, hz0, hz1, hz2⟩ := info_parts info_tm
    obtain ⟨A, cap, rfl, ha, hv, hf, hl, hc, hk⟩ := hT.form
    obtain ⟨k, a, vr, f, ts⟩ := t
    dsimp only [Trm.kind, Trm.nam, Trm.vr, Trm.form, Trm.args] at ha hv hf hl hk ⊢
    have HM := Lib.hid hm
    have HOK := Lib.hid hok
    have HARG := Lib.hid hk
    have HZ0 := Lib.hid (show cntL ts ≤ 200 by rw [cntM] at hz; omega)
    have HL : ts.length ≤ 200 := by have := len_cntL ts; have := HZ0.out; omega
    have HSZ := Lib.hid (And.intro ha (And.intro hv (And.intro hf (And.intro hl hc))))
    have S1 := Lib.hid (RnS.start (c := trmC k a vr A ts.length cap f) hk)
    have HPK := Lib.hid (And.intro hp0 hp1)
    clear hz hm hpl hcp hcp2 hok hT hP hk ha hv hf hl hc
    rw [show ([] : List Int).length = 0 from rfl]
    go_enter Tryz.func12, Tryz.ntmps12
    go_upto_region 1 with (fail)
    generalize (w.alloc (.cells (trmC k a vr A ts.length cap f) 25)).alloc (.cells zerC 25) = w1 at *
    generalize w.heap.size + 1 = g2 at *
    have x0 := S1.out.k0.cell 0
    by_cases h5 : k = 5
    case neg =>
      have q5 : (k == 5) = false := beq_eq_false_iff_ne.2 h5
      have m5 : (k != 5) = true := by rw [bne, q5]; rfl
      clear h5
      go_upto_region 9 with (fail)
      clear x0 q5 m5
      generalize w1 = w2 at *
      have b0 := S1.out.k0.cell 0
      have b1 := S1.out.k0.cell 1
      have b2 := S1.out.k0.cell 2
      have b3 := S1.out.k0.cell 3
      have b4 := S1.out.k0.cell 4
      have e0 := fun i => S1.out.k2.cell i
      have f0 := fun i => S1.out.k2.frozen i
      go_wp2_with fail
      have hwf := set5 S1.out.k2 (.int .i64 k) (.string a) (.string vr) (.slice A ts.length cap) (.string f)
      have hgr := grown5 w2 g2 (.int .i64 k) (.string a) (.string vr) (.slice A ts.length cap) (.string f)
      have hgf := S1.out.bel.grown hgr S1.out.bel.size (fun r e => by have h9 : g2 = r := Option.some.inj e; have := S1.out.l2; omega)
      have hta := S1.out.arg.map (ok' := fun b => ok b ∨ w.heap.size ≤ b) hgr.size (fun b _ h => .inl h) fun p hp ho => World.cell?_of_block (hgr.block _ hp fun e => by
        have h9 := Option.some.inj e
        have := S1.out.l2
        have := HOK.out _ ho
        omega)
      have hres := TmAt.of (k := k) HSZ.out.1 HSZ.out.2.1 HSZ.out.2.2.1 HSZ.out.2.2.2.1 HSZ.out.2.2.2.2 hta
      clear b0 b1 b2 b3 b4
      clear e0 f0 hgr
      generalize ((((w2.setCell ⟨g2, 0, none⟩ (.int .i64 k)).setCell ⟨g2, 1, none⟩ (.string a)).setCell ⟨g2, 2, none⟩ (.string vr)).setCell ⟨g2, 3, none⟩ (.slice A ts.length cap)).setCell ⟨g2, 4, none⟩ (.string f) = wf at *
      have dC := fun i => hwf.cell i
      exact bodyPost_ret (v := .agg (trmC k a vr A ts.length cap f)) (by simp [results, Tryz.results12, go_sem, dC]) rfl ⟨_, _, rfl, hres, RenC.refl HM.out, hgf⟩
    subst h5
    have HOW := Lib.hid (show idB vr.data.toList = true ∧ 0 < ts.length by
      have h := HM.out
      rw [formM, Bool.and_eq_true] at h
      have ho := h.1
      unfold ownM at ho
      rw [if_neg (by decide), if_neg (by decide), if_neg (by decide), if_neg (by decide), if_pos rfl] at ho
      simp only [Bool.and_eq_true, decide_eq_true_eq] at ho
      exact ⟨ho.2.2.1, ho.2.2.2⟩)
    have HVS := Lib.hid (show vr.size ≤ 1000000 by have := id_size HOW.out.1; omega)
    obtain ⟨m, hm1, hm2⟩ : ∃ m : Nat, pick.tmod 5 = (m : Int) ∧ m < 5 := ⟨(pick.tmod 5).toNat, by rw [Int.tmod_eq_emod_of_nonneg hp0]; omega, by rw [Int.tmod_eq_emod_of_nonneg hp0]; omega⟩
    have HREM := Lib.hid (And.intro hm1 hm2)
    obtain ⟨i, hiE⟩ : ∃ i : Nat, ts.length - 1 = i := ⟨_, rfl⟩
    have HIE := Lib.hid hiE
    have hlt : i < ts.length := by have := HOW.out.2; omega
    have HWR := Lib.hid (show IntKind.i64.wrap ((ts.length : Int) - 1) = (i : Int) by rw [IntWalk.i64_in _ (by omega)]; omega)
    obtain ⟨y0, hy0⟩ : ∃ y0, ts[i]? = some y0 := ⟨_, List.getElem?_eq_getElem hlt⟩
    obtain ⟨adA, hA, hadl, _, cy0, hty, hcy⟩ := HARG.out i y0 hy0
    subst hA
    obtain ⟨ky, ay, vy, Ay, ny, cy, fy, rfl⟩ := hty.ext
    have HTY := Lib.hid hty
    have HCY := Lib.hid hcy
    have HAD := Lib.hid hadl
    have HY := Lib.hid hy0
    have HCN := Lib.hid (show cntM y0 ≤ 200 by have := cnt_arg hy0; have := HZ0.out; omega)
    have HFY := Lib.hid (formML_at (by have := HM.out; rw [formM, Bool.and_eq_true] at this; exact this.2) hy0)
    clear hty hcy hadl hy0 hiE hm1 hm2 hp0 hp1
    have b1 := S1.out.k0.cell 1
    have b2 := S1.out.k0.cell 2
    have b3 := S1.out.k0.cell 3
    have b4 := S1.out.k0.cell 4
    go_upto_region 11 with (fail)
    have hba := bel_alloc w1 (.cells (trmC 5 a vr (some adA) ts.length cap f) 25)
    have RB := Lib.hid (show RnB ok w (trmC 5 a vr (some adA) ts.length cap f) (some adA) ts g2 w1.heap.size (trmC 5 a vr (some adA) ts.length cap f) (w1.alloc (.cells (trmC 5 a vr (some adA) ts.length cap f) 25)) from ⟨S1.out.keep hba, Blk.new w1 _ _, by have := S1.out.k2.lt; have := S1.out.l2; omega⟩)
    clear hba S1 x0 b1 b2 b3 b4
    generalize w1.alloc (.cells (trmC 5 a vr (some adA) ts.length cap f) 25) = w3 at *
    generalize w1.heap.size = g7 at *
    have hba := bel_alloc w3 (.cells #[] 25)
    have HS := Lib.hid (RB.out.keep hba)
    obtain ⟨css, hcl, hcc⟩ := tms_flat HS.out.sb.arg
    have ho := own_start w3 (g7 + 1) (by have := RB.out.k7.lt; omega)
    have x3 := HS.out.sb.k0.cell 3
    have HSZ7 := Lib.hid (show g7 < w3.heap.size from RB.out.k7.lt)
    clear hba
    go_wp2_with (at_builtin; refine wpList_append_any _ rfl (.tmp 58) (.tmp 60) 23 rfl (g7 + 1) 25 i0 (.agg #[.int .i64 0, .string ⟨#[]⟩, .string ⟨#[]⟩, .slice none 0 0, .string ⟨#[]⟩]) 5 80 Tryz.underlying23 hi hz0 hz1 hz2 rfl (by decide) _ 0 [] rfl ho _ (some adA) ts.length cap (css.flatMap (·.toList)) rfl (tms_reads HS.out.sb.arg hcl hcc) (flat_one hcl fun j c x h1 h2 => (hcc j c x h1 h2).1) (by unfold maxLen; omega) (by omega) (by have := HSZ7.out; simp; omega) ?_); intro v' w' q2 q3 _
    have hrow : ∀ r, (Value.slice (some ⟨w3.heap.size, 0, none⟩) 0 0).ownBlock = some r → g7 < r := fun r hr => by
      obtain rfl : w3.heap.size = r := by simpa [Value.ownBlock] using hr
      exact HSZ7.out
    obtain ⟨gR, cR, rfl, hgR, hcR, hcR2, hR⟩ := row_of_own (ok := ok) (by omega) (by simp) (show w'.ownsRow (g7 + 1) 25 5 v' (0 + ts.length) (css.flatMap (·.toList)) from by simpa using q2) hcl (fun j c y h1 h2 => (hcc j c y h1 h2).1.grown q3 (fun b _ hb e => by have := hrow b e.symm; have := HOK.out b hb; have := RB.out.l7; omega) fun _ _ h => h)
    have HR := Lib.hid hR
    have RB2 := Lib.hid (HS.out.grow HOK.out q3 hrow)
    have HGR := Lib.hid (And.intro hgR (And.intro hcR hcR2))
    clear ho hcl hcc q2 q3 hrow hgR hR x3 HS hcR hcR2
    have x3 := RB2.out.k7.cell 3
    have y3 := RB2.out.k7.frozen 3
    go_upto_region 12 with (fail)
    have hgs := grown_set w' ⟨g7, 3, none⟩ (.slice (some ⟨gR, 0, none⟩) ts.length cR)
    have RB3 := Lib.hid (show RnB ok w (trmC 5 a vr (some adA) ts.length cap f) (some adA) ts g2 g7 #[.int .i64 5, .string a, .string vr, .slice (some ⟨gR, 0, none⟩) ts.length cR, .string f] (w'.setCell ⟨g7, 3, none⟩ (.slice (some ⟨gR, 0, none⟩) ts.length cR)) from ⟨RB2.out.sb.grow HOK.out hgs (fun r e => by have h9 : g7 = r := Option.some.inj e; have := RB2.out.l7; omega), RB2.out.k7.set_ 3 _, RB2.out.l7⟩)
    have HR3 := Lib.hid (HR.out.grown (ok' := ok) hgs (fun e => by have h9 : gR = g7 := Option.some.inj e; have := HGR.out.1; omega) (fun b _ hb e => by have h9 : b = g7 := Option.some.inj e; have := HOK.out b hb; have := RB2.out.l7; omega) (fun _ _ h => h))
    clear x3 y3 hgs RB2 HR
    generalize w'.setCell ⟨g7, 3, none⟩ (.slice (some ⟨gR, 0, none⟩) ts.length cR) = w5 at *
    have x3 := RB3.out.sb.k0.cell 3
    have wr1 := HWR.out
    obtain ⟨d0, d1, d2, d3, d4⟩ := arg_cells RB3.out.sb.bel HAD.out HCY.out
    go_upto_region 13 with (fail)
    have hba := bel_alloc w5 (.cells #[.int .i64 ky, .string ay, .string vy, .slice Ay ny cy, .string fy] 25)
    have hR5 : gR < w5.heap.size := by
      obtain ⟨cur, hK, _⟩ := HR3.out
      exact hK.lt
    have RD := Lib.hid (show RnD ok w (trmC 5 a vr (some adA) ts.length cap f) (some adA) ts g2 g7 #[.int .i64 5, .string a, .string vr, .slice (some ⟨gR, 0, none⟩) ts.length cR, .string f] w5.heap.size #[.int .i64 ky, .string ay, .string vy, .slice Ay ny cy, .string fy] y0 gR (w5.alloc (.cells #[.int .i64 ky, .string ay, .string vy, .slice Ay ny cy, .string fy] 25)) from ⟨RB3.out.keep hba, Blk.new w5 _ _, (HTY.out.keep RB3.out.sb.bel).keep hba, by omega, by have := HGR.out.1; omega⟩)
    replace HR3 := Lib.hid (HR3.out.keep hba)
    have HG97 := Lib.hid (show g7 < w5.heap.size from RB3.out.k7.lt)
    clear x3 wr1 d0 d1 d2 d3 d4 hba hR5 RB3
    generalize w5.alloc (.cells #[.int .i64 ky, .string ay, .string vy, .slice Ay ny cy, .string fy] 25) = w6 at *
    generalize w5.heap.size = g9 at *
    have a0 := RD.out.k9.cell 0
    have a1 := RD.out.k9.cell 1
    have a2 := RD.out.k9.cell 2
    have a3 := RD.out.k9.cell 3
    have a4 := RD.out.k9.cell 4
    go_wp2_with fail
    refine (free_any 200 y0 _ w6 HCN.out (by omega) HFY.out RD.out.tm.mat).mono ?_
    rintro e w7 ⟨v7, L0, rfl, hN, hl, hm, hb⟩
    replace RD := Lib.hid (RD.out.keep hb)
    replace HR3 := Lib.hid (HR3.out.keep hb)
    have HN0 := Lib.hid hN
    have HL0 := Lib.hid (show L0.length ≤ 200 by have := HCN.out; omega)
    have HF0 := Lib.hid (show ∀ z, frM z y0 = true → z ∈ L0 from fun z h => (hm z).2 h)
    have HI0 := Lib.hid (show ∀ p ∈ L0, p.length ≤ 1000000 from fun p hp => id_len (fr_id y0 HFY.out ((hm p).1 hp)))
    clear hN hl hm hb a0 a1 a2 a3 a4
    have hl0 := HL0.out
    have hrem := HREM.out.1
    have hm5 := HREM.out.2
    go_wp2_with fail
    go_loopw [10, 11] (fun v x wr => ∃ (j : Nat) (L : List Nm), j ≤ m ∧ x = .int .i64 j ∧ L.length ≤ 200 + j ∧ Hid (NmL wr v L) ∧ Hid (∀ z, frM z y0 = true → z ∈ L) ∧ Hid (∀ p ∈ L, p.length ≤ 1000000) ∧ Hid (RnD ok w (trmC 5 a vr (some adA) ts.length cap f) (some adA) ts g2 g7 #[.int .i64 5, .string a, .string vr, .slice (some ⟨gR, 0, none⟩) ts.length cR, .string f] g9 #[.int .i64 ky, .string ay, .string vy, .slice Ay ny cy, .string fy] y0 gR wr) ∧ Hid (RowT ok wr gR ts)) (fun _ x _ => m - (intOf x).toNat)
    case atStart => exact ⟨0, L0, by omega, rfl, by omega, HN0, HF0, HI0, RD, HR3⟩
    case round =>
      clear HN0 HF0 HI0 RD HR3 hl0 HL0
      obtain ⟨j, L, hj, rfl, hLl, HN, HF, HI, RD, HR3⟩ := hrel
      obtain ⟨A1, c1, rfl, hc1, hd1, hN1⟩ := HN.out
      have HN := Lib.hid hN1
      clear hN1
      by_cases hjm : j < m
      · go_wp2_with fail
        refine (fresh_any _ L wr ⟨A1, c1, rfl, hc1, hd1, HN.out⟩ (by omega)).mono ?_
        rintro e w8 ⟨s1, rfl, hsi, hsn, hb⟩
        replace RD := Lib.hid (RD.out.keep hb)
        replace HR3 := Lib.hid (HR3.out.keep hb)
        replace HN := Lib.hid (HN.out.keep hb)
        have HSI := Lib.hid hsi
        clear hsi hsn hb
        go_wp2_with fail
        refine (with_any A1 c1 L s1 w8 HN.out hc1 hd1 (by omega) HI.out (by have := id_size HSI.out; omega)).mono ?_
        rintro e w9 ⟨v9, L9, rfl, hN9, hl9, hm9, hb⟩
        replace RD := Lib.hid (RD.out.keep hb)
        replace HR3 := Lib.hid (HR3.out.keep hb)
        have HN9 := Lib.hid hN9
        have HF9 := Lib.hid (show ∀ z, frM z y0 = true → z ∈ L9 from fun z h => (hm9 z).2 (.inl (HF.out z h)))
        have HI9 := Lib.hid (show ∀ p ∈ L9, p.length ≤ 1000000 from fun p hp => ((hm9 p).1 hp).elim (HI.out p) fun h => by rw [h]; exact id_len HSI.out)
        clear hN9 hm9 hb
        go_wp2_with fail
        go_roundw
        case rel => exact ⟨j + 1, L9, by omega, by go_num, by omega, HN9, HF9, HI9, RD, HR3⟩
        case measure => simp [intOf]; omega
      · obtain rfl : j = m := by omega
        have x2 := RD.out.rb.k7.cell 2
        have y2 := RD.out.rb.k7.frozen 2
        go_wp2_with fail
        refine (fresh_any _ L wr ⟨A1, c1, rfl, hc1, hd1, HN.out⟩ (by omega)).mono ?_
        rintro e w8 ⟨zz, rfl, hzi, hzn, hb⟩
        replace RD := Lib.hid (RD.out.keep hb)
        replace HR3 := Lib.hid (HR3.out.keep hb)
        have HZI := Lib.hid hzi
        have HZF := Lib.hid (show frM zz.data.toList y0 = false from Bool.eq_false_iff.2 fun e => hzn (HF.out _ e))
        clear hzi hzn hb x2 y2 HN HF HI
        have x2 := RD.out.rb.k7.cell 2
        have y2 := RD.out.rb.k7.frozen 2
        go_upto_region 19 with (fail)
        have hgs := grown_set w8 ⟨g7, 2, none⟩ (.string zz)
        have RD2 := Lib.hid (show RnD ok w (trmC 5 a vr (some adA) ts.length cap f) (some adA) ts g2 g7 #[.int .i64 5, .string a, .string zz, .slice (some ⟨gR, 0, none⟩) ts.length cR, .string f] g9 #[.int .i64 ky, .string ay, .string vy, .slice Ay ny cy, .string fy] y0 gR (w8.setCell ⟨g7, 2, none⟩ (.string zz)) from ⟨⟨RD.out.rb.sb.grow HOK.out hgs (fun r e => by have h9 : g7 = r := Option.some.inj e; have := RD.out.rb.l7; omega), RD.out.rb.k7.set_ 2 _, RD.out.rb.l7⟩, RD.out.k9.grown hgs (fun e => by have h9 : g9 = g7 := Option.some.inj e; have := HG97.out; omega), RD.out.tm.grown hgs (fun b _ hb e => by have h9 : b = g7 := Option.some.inj e; have := HOK.out b hb; have := RD.out.rb.l7; omega) (fun _ _ h => h), RD.out.ne, RD.out.lR⟩)
        have HR4 := Lib.hid HR3.out
        have HL7 := Lib.hid (And.intro RD.out.rb.l7 RD.out.lR)
        clear RD HR3
        have RD := RD2
        have HR3 := Lib.hid (HR4.out.grown (ok' := fun b => (ok b ∨ w.heap.size + 2 ≤ b) ∧ b ≠ gR) hgs (fun e => by have h9 : gR = g7 := Option.some.inj e; have := HL7.out.2; omega) (fun b _ hb e => by have h9 : b = g7 := Option.some.inj e; have := HOK.out b hb; have := HL7.out.1; omega) (fun b _ hb => ⟨.inl hb, by have := HOK.out b hb; have := HL7.out; omega⟩))
        clear RD2 HR4 x2 y2 hgs
        generalize w8.setCell ⟨g7, 2, none⟩ (.string zz) = w10 at *
        refine region_ghost (X := Trm × Array Value) (by kernel_rfl) _ (fun gx => [.pointer (some ⟨g7, 3, none⟩), .slice (some ⟨gR, 0, none⟩) ts.length cR, .pointer (some ⟨g7, 3, none⟩), .slice (some ⟨gR, 0, none⟩) ts.length cR, .int .i64 (ts.length : Nat), .int .i64 (↑i), .agg #[.int .i64 ky, .string ay, .string vy, .slice Ay ny cy, .string fy], .pointer (some ⟨w.heap.size, 2, none⟩), .string vr, .pointer (some ⟨g7, 2, none⟩), .string zz, .agg #[.int .i64 2, .string zz, .string ⟨#[]⟩, .slice none 0 0, .string ⟨#[]⟩], .agg gx.2, .pointer (some ⟨gR, i * 5, none⟩), undef]) [true, true, true, true, true, true, true, true, true, true, true, true, true, true, true] [12, 14] (InvX (RnD ok w (trmC 5 a vr (some adA) ts.length cap f) (some adA) ts g2 g7 #[.int .i64 5, .string a, .string zz, .slice (some ⟨gR, 0, none⟩) ts.length cR, .string f] g9 #[.int .i64 ky, .string ay, .string vy, .slice Ay ny cy, .string fy] y0 gR) (fun b => (ok b ∨ w.heap.size + 2 ≤ b) ∧ b ≠ gR) gR i ts (SubC vr.data.toList zz.data.toList y0)) (varM ⟨#[]⟩, #[]) (by kernel_rfl) (fun gx => by simp [fin, finOn, dstAt, List.range, List.range.loop, Act.put]; rfl) (fun _ => by kernel_rfl) (by kernel_rfl) ⟨RD.out.keep (below_drew (Below.refl _ _)), (fun _ => HR3.out.keep (below_drew (Below.refl _ _))), (fun h => by cases h), (fun h => by cases h), fun h => by cases h⟩ ?_ ?_
        · refine ⟨fun L gx wq hL hb ha hI => ?_, fun L gx wq hL hb ha hI => ?_, fun L gx wq hL hb ha hI => ?_, fun L gx wq hL hb ha hI => ?_, fun L gx wq hL hb ha hI => ?_, fun L gx wq hL hb ha hI => ?_, fun L gx wq hL hb ha hI => ?_, fun L gx wq hL hb ha hI => ?_, fun L gx wq hL hb ha hI => ?_, fun L gx wq hL hb ha hI => ?_, fun L gx wq hL hb ha hI => ?_, fun L gx wq hL hb ha hI => ?_, fun L gx wq hL hb ha hI => ?_, fun L gx wq hL hb ha hI => ?_, fun L gx wq hL hb ha hI => ?_, trivial⟩
          · exact Gives.plain (v := .pointer (some ⟨g7, 3, none⟩)) (w' := wq) (by simp [go_sem]) rfl hI
          · have cJ := hI.1.rb.k7.cell 3
            exact Gives.plain (v := .slice (some ⟨gR, 0, none⟩) ts.length cR) (w' := wq) (by simp [go_sem, cJ]) rfl hI
          · exact Gives.plain (v := .pointer (some ⟨g7, 3, none⟩)) (w' := wq) (by simp [go_sem]) rfl hI
          · have cJ := hI.1.rb.k7.cell 3
            exact Gives.plain (v := .slice (some ⟨gR, 0, none⟩) ts.length cR) (w' := wq) (by simp [go_sem, cJ]) rfl hI
          · exact Gives.plain (v := .int .i64 (ts.length : Nat)) (w' := wq) (by simp [go_sem]) rfl hI
          · have cJ := HWR.out
            exact Gives.plain (v := .int .i64 (↑i)) (w' := wq) (by simp [go_sem, cJ]) rfl hI
          · have a0 := hI.1.k9.cell 0
            have a1 := hI.1.k9.cell 1
            have a2 := hI.1.k9.cell 2
            have a3 := hI.1.k9.cell 3
            have a4 := hI.1.k9.cell 4
            exact Gives.plain (v := .agg #[.int .i64 ky, .string ay, .string vy, .slice Ay ny cy, .string fy]) (w' := wq) (by simp [go_sem, a0, a1, a2, a3, a4]) rfl hI
          · exact Gives.plain (v := .pointer (some ⟨w.heap.size, 2, none⟩)) (w' := wq) (by simp [go_sem]) rfl hI
          · have cJ := hI.1.rb.sb.k0.cell 2
            dsimp only [trmC] at cJ
            exact Gives.plain (v := .string vr) (w' := wq) (by simp [go_sem, cJ]) rfl hI
          · exact Gives.plain (v := .pointer (some ⟨g7, 2, none⟩)) (w' := wq) (by simp [go_sem]) rfl hI
          · have cJ := hI.1.rb.k7.cell 2
            exact Gives.plain (v := .string zz) (w' := wq) (by simp [go_sem, cJ]) rfl hI
          · exact Gives.plain (v := .agg #[.int .i64 2, .string zz, .string ⟨#[]⟩, .slice none 0 0, .string ⟨#[]⟩]) (w' := wq) (by simp [go_sem]) rfl hI
          · have e1 : L 12 = false := hL
            have e2 : L 14 = false := ha 14 (by kernel_rfl)
            simp only [List.map, e1, e2] at hI ⊢
            obtain ⟨h1, h2, _, _, _⟩ := hI
            refine Gives.call (f := 30) (args := #[.agg #[.int .i64 ky, .string ay, .string vy, .slice Ay ny cy, .string fy], .string vr, .agg #[.int .i64 2, .string zz, .string ⟨#[]⟩, .slice none 0 0, .string ⟨#[]⟩]]) (w' := wq) (by kernel_rfl) ((subst_any 200 ok y0 _ vr zz wq HCN.out (by omega) HFY.out HZI.out HVS.out (fun b hb => Nat.lt_of_lt_of_le (HOK.out b hb) h1.rb.sb.bel.size) h1.tm).mono ?_)
            rintro e wz ⟨c', t', rfl, hc, hC, hb⟩
            have hRl : gR < wq.heap.size := by
              obtain ⟨cur, hK, _⟩ := h2 rfl
              exact hK.lt
            exact ⟨_, rfl, (t', c'), rfl, (KeepsV.of_same ⟨.inr (.inr rfl), .inr (.inr rfl), .inr (.inr rfl), .inr (.inr rfl), .inr (.inr rfl), .inr (.inr rfl), .inr (.inr rfl), .inr (.inr rfl), .inr (.inr rfl), .inr (.inr rfl), .inr (.inr rfl), .inr (.inr rfl), .inl rfl, .inr (.inr rfl), .inr (.inr rfl), trivial⟩), RnD.keep h1 hb, (fun _ => (h2 rfl).keep hb), (fun _ => hC), (fun _ _ => hc.any fun b _ hq => ⟨hq.elim .inl fun h => .inr (by have := h1.rb.l7; have := h1.lR; omega), hq.elim (fun h => by have := HOK.out b h; have := h1.rb.l7; have := h1.lR; omega) fun h => by omega⟩), fun h => by cases h⟩
          · skip
            exact Gives.plain (v := .pointer (some ⟨gR, i * 5, none⟩)) (w' := wq) (by simp [go_sem, hlt]) rfl hI
          · have e1 : L 12 = true := hb 12 (by kernel_rfl)
            have e2 : L 14 = false := hL
            simp only [List.map, e1, e2] at hI ⊢
            obtain ⟨h1, h2, h3, h4, _⟩ := hI
            obtain ⟨d0, d1, d2, d3, d4, r0, r1, r2, r3, r4, rf⟩ := row_cells (h2 rfl) hlt
            obtain ⟨Ac, cc, e8, _⟩ := (h4 rfl rfl).form
            have h5 := h4 rfl rfl
            rw [e8] at h5
            have h6 := (h2 rfl).put (fun h => h.2 rfl) hlt h5
            have h7 := grown_trans (grown_trans (grown_trans (grown_trans (grown_set wq ⟨gR, i * 5, none⟩ (.int .i64 gx.1.kind)) (grown_set _ ⟨gR, i * 5 + 1, none⟩ (.string gx.1.nam))) (grown_set _ ⟨gR, i * 5 + 2, none⟩ (.string gx.1.vr))) (grown_set _ ⟨gR, i * 5 + 3, none⟩ (.slice Ac gx.1.args.length cc))) (grown_set _ ⟨gR, i * 5 + 4, none⟩ (.string gx.1.form))
            exact Gives.skip (by simp [go_sem, e8, r0, r1, r2, r3, r4, rf]) ⟨_, rfl, KeepsV.same, (fun h g => RnD.grow h HOK.out g) h1 h7, (fun h => by cases h), h3, (fun _ h => by cases h), fun _ => h6⟩
        · intro gx wq hI
          obtain ⟨h1, _, h3, _, h5⟩ := hI
          have RB := Lib.hid h1.rb
          have HC3 := Lib.hid (h3 rfl)
          have HR := Lib.hid (h5 rfl)
          clear h1 h3 h5
          have RBS := Lib.hid RB.out.sb
          have b0 := RB.out.k7.cell 0
          have b1 := RB.out.k7.cell 1
          have b2 := RB.out.k7.cell 2
          have b3 := RB.out.k7.cell 3
          have b4 := RB.out.k7.cell 4
          have e0 := fun i => RBS.out.k2.cell i
          have f0 := fun i => RBS.out.k2.frozen i
          go_wp2_with fail
          have hwf := set5 RBS.out.k2 (.int .i64 5) (.string a) (.string zz) (.slice (some ⟨gR, 0, none⟩) ts.length cR) (.string f)
          have hgr := grown5 wq g2 (.int .i64 5) (.string a) (.string zz) (.slice (some ⟨gR, 0, none⟩) ts.length cR) (.string f)
          have hgf := RBS.out.bel.grown hgr RBS.out.bel.size (fun r e => by have h9 : g2 = r := Option.some.inj e; have := RBS.out.l2; omega)
          have hrw := (HR.out.grown (ok' := fun b => ok b ∨ w.heap.size ≤ b) hgr (fun e => by have h9 := Option.some.inj e; have := RBS.out.l2; have := RB.out.l7; have := HGR.out.1; omega) (fun b _ hb e => by
            have h9 := Option.some.inj e
            have := RBS.out.l2
            rcases hb.1 with h | h
            · have := HOK.out b h; omega
            · omega) (fun b _ hb => hb.1.elim .inl fun h => .inr (by omega))).tms (.inr (by have := RB.out.l7; have := HGR.out.1; omega))
          have hres := TmAt.of (k := 5) HSZ.out.1 (show zz.size ≤ 9223372036854775807 by have := id_size HZI.out; omega) HSZ.out.2.2.1 (show (ts.set i gx.1).length ≤ cR by rw [List.length_set]; exact HGR.out.2.1) HGR.out.2.2 hrw
          rw [List.length_set] at hres
          have hren := ren_bind HM.out (by rw [HIE.out]; exact HY.out) HZF.out HZI.out HC3.out
          rw [HIE.out] at hren
          clear b0 b1 b2 b3 b4
          clear e0 f0 hgr
          generalize ((((wq.setCell ⟨g2, 0, none⟩ (.int .i64 5)).setCell ⟨g2, 1, none⟩ (.string a)).setCell ⟨g2, 2, none⟩ (.string zz)).setCell ⟨g2, 3, none⟩ (.slice (some ⟨gR, 0, none⟩) ts.length cR)).setCell ⟨g2, 4, none⟩ (.string f) = wf at *
          have dC := fun i => hwf.cell i
          exact bodyPost_ret (v := .agg (trmC 5 a zz (some ⟨gR, 0, none⟩) ts.length cR f)) (by simp [results, Tryz.results12, go_sem, dC]) rfl ⟨_, _, rfl, hres, hren, hgf⟩
theorem rename_ok : ∀ ps : List Int, RenOk ps
  | [] => rename_nil
  | p :: r => rename_cons p r (rename_ok r)
end Go.Proofs.YtpokelkneblafaaGreatDoor
