/- Substitution of a variable for a variable, by the reference. -/
import Derived.Test.YtpokelkneblafaaGreatDoorFR
import Derived.Test.YtpokelkneblafaaGreatDoorMT
import Derived.Test.YtpokelkneblafaaGreatDoorAP
import Derived.Deep.DeepCutAuto
namespace Go.Proofs.YtpokelkneblafaaGreatDoor
open Go.RowKit
abbrev zerC : Array Value := #[.int .i64 0, .string ⟨#[]⟩, .string ⟨#[]⟩, .slice none 0 0, .string ⟨#[]⟩]
abbrev varC (y : ByteArray) : Array Value := #[.int .i64 2, .string y, .string ⟨#[]⟩, .slice none 0 0, .string ⟨#[]⟩]
/-- the binder's name so far -/
def BndOk (k : Int) (vr u : ByteArray) (j n : Nat) : Prop := (j < n → u = vr) ∧ (u = vr ∨ (k = 5 ∧ idB u.data.toList = true))
def varM (y : ByteArray) : Trm := .mk 2 y ⟨#[]⟩ ⟨#[]⟩ []
/-- behind subst -/
def SubP (ok : Nat → Prop) (x y : Nm) (t : Trm) (w : World) (e : Ending) (w' : World) : Prop := ∃ c t', e = .returned (.agg c) ∧ TmAt (fun b => ok b ∨ w.heap.size ≤ b) w' t' c ∧ SubC x y t t' ∧ Below w.heap.size w w'
theorem grown_trans {a b c : World} {row : Option Nat} (h : a.grownBy b row) (k : b.grownBy c row) : a.grownBy c row :=
  ⟨k.os.trans h.os, k.tape.trans h.tape, k.output.trans h.output, Nat.le_trans h.size k.size, fun i hi hn => (k.block i (Nat.lt_of_lt_of_le hi h.size) hn).trans (h.block i hi hn)⟩
theorem grown5 (x : World) (g : Nat) (c0 c1 c2 c3 c4 : Value) : x.grownBy (((((x.setCell ⟨g, 0, none⟩ c0).setCell ⟨g, 1, none⟩ c1).setCell ⟨g, 2, none⟩ c2).setCell ⟨g, 3, none⟩ c3).setCell ⟨g, 4, none⟩ c4) (some g) :=
  grown_trans (grown_trans (grown_trans (grown_trans (grown_set x ⟨g, 0, none⟩ c0) (grown_set _ ⟨g, 1, none⟩ c1)) (grown_set _ ⟨g, 2, none⟩ c2)) (grown_set _ ⟨g, 3, none⟩ c3)) (grown_set _ ⟨g, 4, none⟩ c4)
theorem set5 {x : World} {g : Nat} {t : TypeId} {d0 d1 d2 d3 d4 : Value} (h : Blk x g t #[d0, d1, d2, d3, d4]) (c0 c1 c2 c3 c4 : Value) : Blk (((((x.setCell ⟨g, 0, none⟩ c0).setCell ⟨g, 1, none⟩ c1).setCell ⟨g, 2, none⟩ c2).setCell ⟨g, 3, none⟩ c3).setCell ⟨g, 4, none⟩ c4) g t #[c0, c1, c2, c3, c4] := ((((h.set_ 0 c0).set_ 1 c1).set_ 2 c2).set_ 3 c3).set_ 4 c4
theorem below_grown {B : Nat} {a b c : World} {row : Option Nat} (h : Below B a b) (hB : B ≤ b.heap.size) (k : b.grownBy c row) (hr : ∀ r, row = some r → B ≤ r) : Below B a c := h.grown k hB hr
theorem AppT.grownT {P : Nat → Prop} {w w' : World} {B : Nat} {v : Value} {xs : List Trm} {row : Option Nat} (h : AppT P w B v xs) (hg : w.grownBy w' row) (hv : ∀ b, v.ownBlock = some b → row ≠ some b) (hP : ∀ b, P b → some b ≠ row) : AppT P w' B v xs := by
  obtain ⟨css, h1, h2, h3⟩ := h
  refine ⟨css, World.ownsRow.kept h1 hg ?_, h2, fun j c x hj hx => (h3 j c x hj hx).grown hg (fun b _ hb => hP b hb.2) (fun _ _ h => h)⟩
  cases hq : v.ownBlock with
  | none => exact .inl rfl
  | some b => exact .inr fun e => hv b hq e.symm
theorem AppT.weak {P P' : Nat → Prop} {w : World} {B : Nat} {v : Value} {xs : List Trm} (h : AppT P w B v xs) (hP : ∀ b, b < w.heap.size → P b → P' b) : AppT P' w B v xs := OwnT.any h fun b hb ho => ⟨ho.1, hP b hb ho.2⟩
/-- the boxes of the call -/
structure SbS (ok : Nat → Prop) (w : World) (c : Array Value) (y : ByteArray) (A : Option Addr) (ts : List Trm) (g1 g2 : Nat) (x : World) : Prop where
  l1 : g1 = w.heap.size + 1
  l2 : g2 = w.heap.size + 2
  bel : Below w.heap.size w x
  k0 : Blk x w.heap.size 25 c
  k1 : Blk x g1 25 (varC y)
  k2 : Blk x g2 25 zerC
  arg : TmsAt ok x A ts
section
variable {ok : Nat → Prop} {w x x' : World} {c : Array Value} {y : ByteArray} {A : Option Addr} {ts : List Trm} {g1 g2 : Nat}
theorem SbS.keep (h : SbS ok w c y A ts g1 g2 x) (hb : Below x.heap.size x x') : SbS ok w c y A ts g1 g2 x' := ⟨h.l1, h.l2, h.bel.trans (hb.mono h.bel.size), _root_.Go.Proofs.YtpokelkneblafaaGreatDoor.keep hb h.k0, _root_.Go.Proofs.YtpokelkneblafaaGreatDoor.keep hb h.k1, _root_.Go.Proofs.YtpokelkneblafaaGreatDoor.keep hb h.k2, h.arg.keep hb⟩
theorem SbS.grow (h : SbS ok w c y A ts g1 g2 x) (hok : ∀ b, ok b → b < w.heap.size) {row : Option Nat} (hg : x.grownBy x' row) (hr : ∀ r, row = some r → w.heap.size + 3 ≤ r) : SbS ok w c y A ts g1 g2 x' := by
  have h1 := h.l1
  have h2 := h.l2
  exact ⟨h1, h2, h.bel.grown hg h.bel.size fun r e => by have := hr r e; omega, h.k0.grown hg fun e => by have := hr _ e.symm; omega, h.k1.grown hg fun e => by have := hr _ e.symm; omega, h.k2.grown hg fun e => by have := hr _ e.symm; omega,
    h.arg.map hg.size (fun _ _ h => h) fun p hp ho => World.cell?_of_block (hg.block _ hp fun e => by have := hr _ e.symm; have := hok _ ho; omega)⟩
theorem SbS.start (hk : TmsAt ok w A ts) : SbS ok w c y A ts (w.heap.size + 1) (w.heap.size + 1 + 1) (((w.alloc (.cells c 25)).alloc (.cells (varC y) 25)).alloc (.cells zerC 25)) := by
  have B1 := bel_alloc w (.cells c 25)
  have B2 := bel_alloc (w.alloc (.cells c 25)) (.cells (varC y) 25)
  have B3 := bel_alloc ((w.alloc (.cells c 25)).alloc (.cells (varC y) 25)) (.cells zerC 25)
  have s1 : (w.alloc (.cells c 25)).heap.size = w.heap.size + 1 := by simp
  have s2 : ((w.alloc (.cells c 25)).alloc (.cells (varC y) 25)).heap.size = w.heap.size + 1 + 1 := by simp
  have hb := (B1.trans (B2.mono B1.size)).trans (B3.mono (B1.trans (B2.mono B1.size)).size)
  refine ⟨rfl, by omega, hb, _root_.Go.Proofs.YtpokelkneblafaaGreatDoor.keep B3 (_root_.Go.Proofs.YtpokelkneblafaaGreatDoor.keep B2 (Blk.new w _ c)), ?_, ?_, hk.keep hb⟩
  · rw [← s1]; exact _root_.Go.Proofs.YtpokelkneblafaaGreatDoor.keep B3 (Blk.new _ _ _)
  · rw [← s2]; exact Blk.new _ _ _
end
/-- a term in a box beside them; m0: where the round began -/
structure SbT (ok : Nat → Prop) (w : World) (c : Array Value) (y : ByteArray) (A : Option Addr) (ts : List Trm) (g1 g2 m0 m1 g9 : Nat) (cs : Array Value) (s : Trm) (x : World) : Prop where
  sb : SbS ok w c y A ts g1 g2 x
  lo : w.heap.size + 3 < m0
  l9 : m0 ≤ g9
  sz : m1 ≤ x.heap.size
  k9 : Blk x g9 25 cs
  tm : TmAt (fun b => (ok b ∨ m0 ≤ b) ∧ b < m1) x s cs
section
variable {ok : Nat → Prop} {w x x' : World} {c cs : Array Value} {y : ByteArray} {A : Option Addr} {ts : List Trm} {g1 g2 m0 m1 g9 : Nat} {s : Trm}
theorem SbT.keep (h : SbT ok w c y A ts g1 g2 m0 m1 g9 cs s x) (hb : Below x.heap.size x x') : SbT ok w c y A ts g1 g2 m0 m1 g9 cs s x' := ⟨h.sb.keep hb, h.lo, h.l9, Nat.le_trans h.sz hb.size, _root_.Go.Proofs.YtpokelkneblafaaGreatDoor.keep hb h.k9, h.tm.keep hb⟩
theorem SbT.grow (h : SbT ok w c y A ts g1 g2 m0 m1 g9 cs s x) (hok : ∀ b, ok b → b < w.heap.size) {row : Option Nat} (hg : x.grownBy x' row) (hr : ∀ r, row = some r → w.heap.size + 3 ≤ r ∧ r < m0) : SbT ok w c y A ts g1 g2 m0 m1 g9 cs s x' := by
  have h9 := h.l9
  exact ⟨h.sb.grow hok hg fun r e => (hr r e).1, h.lo, h9, Nat.le_trans h.sz hg.size, h.k9.grown hg fun e => by have := hr _ e.symm; omega, h.tm.grown hg (fun b _ hb e => by
    have := hr _ e.symm
    rcases hb.1 with h1 | h1
    · have := hok _ h1; omega
    · omega) fun _ _ h => h⟩
end
/-- the last argument in a box while lists of names are made -/
structure SbR (ok : Nat → Prop) (w : World) (c : Array Value) (y : ByteArray) (A : Option Addr) (ts : List Trm) (g1 g2 g3 m0 g9 : Nat) (cs : Array Value) (s : Trm) (co : Array Value) (v : Value) (us : List Trm) (x : World) : Prop where
  sb : SbS ok w c y A ts g1 g2 x
  k9 : Blk x g9 25 cs
  tm : TmAt ok x s cs
  k3 : Blk x g3 25 co
  app : AppT (fun b => (ok b ∨ g3 < b) ∧ b < m0) x (g3 + 1) v us
theorem SbR.keep {ok : Nat → Prop} {w : World} {c : Array Value} {y : ByteArray} {A : Option Addr} {ts : List Trm} {g1 g2 g3 m0 g9 : Nat} {cs : Array Value} {s : Trm} {co : Array Value} {v : Value} {us : List Trm} {x x' : World} (h : SbR ok w c y A ts g1 g2 g3 m0 g9 cs s co v us x) (hb : Below x.heap.size x x') : SbR ok w c y A ts g1 g2 g3 m0 g9 cs s co v us x' :=
  ⟨h.sb.keep hb, _root_.Go.Proofs.YtpokelkneblafaaGreatDoor.keep hb h.k9, h.tm.keep hb, _root_.Go.Proofs.YtpokelkneblafaaGreatDoor.keep hb h.k3, h.app.keep hb⟩
theorem arg_cells {w x : World} {ad : Addr} {n : Nat} {c0 c1 c2 c3 c4 : Value} (hb : Below w.heap.size w x) (hlt : ad.block < w.heap.size) (h : ∀ j, j < 5 → w.cell? (ad.add (n * 5 + j)) = (#[c0, c1, c2, c3, c4] : Array Value)[j]?) :
    x.cell? (ad.add (n * 5)) = some c0 ∧ x.cell? ⟨(ad.add (n * 5)).block, (ad.add (n * 5)).off + 1, none⟩ = some c1 ∧ x.cell? ⟨(ad.add (n * 5)).block, (ad.add (n * 5)).off + 2, none⟩ = some c2 ∧ x.cell? ⟨(ad.add (n * 5)).block, (ad.add (n * 5)).off + 3, none⟩ = some c3 ∧ x.cell? ⟨(ad.add (n * 5)).block, (ad.add (n * 5)).off + 4, none⟩ = some c4 := by
  have g : ∀ j, j < 5 → x.cell? (ad.add (n * 5 + j)) = (#[c0, c1, c2, c3, c4] : Array Value)[j]? := fun j hj => by rw [hb.cell (by rw [add_blk]; exact hlt)]; exact h j hj
  exact ⟨g 0 (by omega), add_cel (j := 0) (g 1 (by omega)), add_cel (j := 1) (g 2 (by omega)), add_cel (j := 2) (g 3 (by omega)), add_cel (j := 3) (g 4 (by omega))⟩
/-- while an argument is appended; Bs: what stays beside it -/
def InvU (Bs : World → Prop) (g3 : Nat) (P : Nat → Prop) (C : Trm → Prop) (k : Int) (a u f : ByteArray) (v : Value) (us : List Trm) : List Bool → Trm × Array Value × Nat × Value → World → Prop
  | [be, bb, ba, bs], gx, wq => Bs wq ∧ Blk wq g3 25 #[.int .i64 k, .string a, .string u, if bs then gx.2.2.2 else v, .string f] ∧ (ba = false → AppT P wq (g3 + 1) v us) ∧ (be = true → C gx.1) ∧ (be = true → ba = false → TmAt (fun b => v.ownBlock ≠ some b ∧ P b) wq gx.1 gx.2.1) ∧ (bb = true → ba = false → Blk wq gx.2.2.1 25 gx.2.1) ∧ (ba = true → AppT P wq (g3 + 1) gx.2.2.2 (us ++ [gx.1]))
  | _, _, _ => False
theorem InvU.keep {Bs : World → Prop} {g3 : Nat} {P : Nat → Prop} {C : Trm → Prop} {k : Int} {a u f : ByteArray} {v : Value} {us : List Trm} {be bb ba bs : Bool} {gx : Trm × Array Value × Nat × Value} {wq w' : World} (hB : Bs wq → Bs w') (h : InvU Bs g3 P C k a u f v us [be, bb, ba, bs] gx wq) (hb : Below wq.heap.size wq w') : InvU Bs g3 P C k a u f v us [be, bb, ba, bs] gx w' := by
  obtain ⟨h1, h2, h3, h4, h5, h6, h7⟩ := h
  exact ⟨hB h1, _root_.Go.Proofs.YtpokelkneblafaaGreatDoor.keep hb h2, fun e => (h3 e).keep hb, h4, fun e e' => (h5 e e').keep hb, fun e e' => _root_.Go.Proofs.YtpokelkneblafaaGreatDoor.keep hb (h6 e e'), fun e => (h7 e).keep hb⟩
theorem fr_var (y : ByteArray) (z : Nm) : frM z (varM y) = true ↔ z = y.data.toList := by
  unfold varM
  rw [frM, if_pos rfl, decide_eq_true_eq]
  exact eq_comm
theorem mat_var (w : World) (y : ByteArray) (hy : y.size ≤ 9223372036854775807) : MAt w (varM y) (varC y) := (TmAt.zero (fun _ => True) w 2 y hy).mat
theorem id_size {y : ByteArray} (h : idB y.data.toList = true) : y.size ≤ 16 := by
  have := (id_named h).2.2
  simpa using this
/-- while both lists of free names are made -/
def InvV (Bs : World → Prop) (s : Trm) (y : ByteArray) : List Bool → Value × Value → World → Prop
  | [b1, b2], gx, wq => Bs wq ∧ (b1 = true → ∃ zs, NmL wq gx.1 zs ∧ zs.length ≤ cntM s ∧ ∀ z, z ∈ zs ↔ frM z s = true) ∧ (b2 = true → ∃ zs, NmL wq gx.2 zs ∧ zs.length ≤ 1 ∧ ∀ z, z ∈ zs ↔ z = y.data.toList)
  | _, _, _ => False
set_option maxRecDepth 100000 in
set_option maxHeartbeats 16000000 in
theorem subst_any : ∀ (z : Nat) (ok : Nat → Prop) (t : Trm) (c : Array Value) (x y : ByteArray) (w : World), cntM t ≤ z → z ≤ 250 → formM t = true → idB y.data.toList = true → x.size ≤ 1000000 → (∀ b, ok b → b < w.heap.size) → TmAt ok w t c → Calls Tryz.prog 30 #[.agg c, .string x, .agg (varC y)] w (SubP ok x.data.toList y.data.toList t w) := by
  intro z
  induction z with
  | zero => intro ok t c x y w h; have := cnt_pos t; omega
  | succ z ih =>
    intro ok t c x y w hz hz250 hm hy hx hok hT
    obtain ⟨i0, hi, hz0, hz1, hz2⟩ := info_parts info_tm
    have IH := Lib.hid (fun ok t c x y w h hf hy hx hok hT => ih ok t c x y w h (by omega) hf hy hx hok hT)
    clear ih
    obtain ⟨A, cap, rfl, ha, hv, hf, hl, hc, hk⟩ := hT.form
    obtain ⟨k, a, vr, f, ts⟩ := t
    dsimp only [Trm.kind, Trm.nam, Trm.vr, Trm.form, Trm.args] at ha hv hf hl hk ⊢
    have HM := Lib.hid hm
    have HIY := Lib.hid hy
    have HXZ := Lib.hid hx
    have HOK := Lib.hid hok
    have HARG := Lib.hid hk
    have HZ0 := Lib.hid (show cntL ts ≤ z ∧ z ≤ 250 by rw [cntM] at hz; omega)
    have HL : ts.length ≤ 250 := by have := len_cntL ts; have := HZ0.out; omega
    have HSZ := Lib.hid (And.intro ha (And.intro hv (And.intro hf (And.intro hl hc))))
    have S1 := Lib.hid (SbS.start (c := trmC k a vr A ts.length cap f) (y := y) hk)
    clear hz hm hy hx hok hT hk ha hv hf hl hc hz250
    go_enter Tryz.func30, Tryz.ntmps30
    go_upto_region 1 with (fail)
    generalize ((w.alloc (.cells (trmC k a vr A ts.length cap f) 25)).alloc (.cells (varC y) 25)).alloc (.cells zerC 25) = w1 at *
    generalize w.heap.size + 1 + 1 = g2 at *
    generalize w.heap.size + 1 = g1 at *
    have c0 := S1.out.k0.cell 0
    have c1 := S1.out.k0.cell 1
    by_cases hvx : k = 2 ∧ a.data.toList = x.data.toList
    · obtain ⟨rfl, hax⟩ := hvx
      have HC := Lib.hid (show SubC x.data.toList y.data.toList (.mk 2 a vr f ts) (varM y) by rw [← hax]; exact sub_var HM.out HIY.out)
      have qa : (a.toList == x.toList) = true := by rw [beq_iff_eq, ByteArray.toList_eq, ByteArray.toList_eq]; exact hax
      clear hax HM
      have b0 := S1.out.k1.cell 0
      have b1 := S1.out.k1.cell 1
      have b2 := S1.out.k1.cell 2
      have b3 := S1.out.k1.cell 3
      have b4 := S1.out.k1.cell 4
      have e0 := fun i => S1.out.k2.cell i
      have f0 := fun i => S1.out.k2.frozen i
      go_wp2_with fail
      have hwf := set5 S1.out.k2 (.int .i64 2) (.string y) (.string ⟨#[]⟩) (.slice none 0 0) (.string ⟨#[]⟩)
      have hgf := S1.out.bel.grown (grown5 w1 g2 (.int .i64 2) (.string y) (.string ⟨#[]⟩) (.slice none 0 0) (.string ⟨#[]⟩)) S1.out.bel.size (fun r e => by have := Option.some.inj e; have := S1.out.l2; omega)
      clear e0 f0 c0 c1 b0 b1 b2 b3 b4
      generalize ((((w1.setCell ⟨g2, 0, none⟩ (.int .i64 2)).setCell ⟨g2, 1, none⟩ (.string y)).setCell ⟨g2, 2, none⟩ (.string ⟨#[]⟩)).setCell ⟨g2, 3, none⟩ (.slice none 0 0)).setCell ⟨g2, 4, none⟩ (.string ⟨#[]⟩) = wf at *
      have dC := fun i => hwf.cell i
      exact bodyPost_ret (v := .agg (varC y)) (by simp [results, Tryz.results30, go_sem, dC]) rfl ⟨_, varM y, rfl, TmAt.zero _ _ _ _ (by have := id_size HIY.out; omega), HC.out, hgf⟩
    have HSN := Lib.hid (fun (us : List Trm) (u : ByteArray) (hl : us.length = ts.length) (hu : u = vr ∨ (k = 5 ∧ idB u.data.toList = true)) h => sub_node (x := x.data.toList) (y := y.data.toList) (us := us) (u := u) HM.out hvx hl hu h)
    go_cut [20] (fun v wc => v = .bool false ∧ wc = w1)
    case first =>
      by_cases h2 : k = 2
      · subst h2
        have qa : (a.toList == x.toList) = false := by rw [beq_eq_false_iff_ne, ByteArray.toList_eq, ByteArray.toList_eq]; exact fun e => hvx ⟨rfl, e⟩
        clear hvx HSN
        go_wp2_with fail
        go_meet
        exact ⟨rfl, rfl⟩
      · have q2 : (k == 2) = false := beq_eq_false_iff_ne.2 h2
        clear hvx HSN h2
        go_wp2_with fail
        go_meet
        exact ⟨rfl, rfl⟩
    case rest =>
      obtain ⟨rfl, rfl⟩ := hcut
      clear hvx c1
      have c1 := S1.out.k0.cell 1
      have c2 := S1.out.k0.cell 2
      have c3 := S1.out.k0.cell 3
      have c4 := S1.out.k0.cell 4
      go_upto_region 5 with (fail)
      have hba := bel_alloc wc (.cells #[.int .i64 k, .string a, .string vr, .slice none 0 0, .string f] 25)
      have K3 := Lib.hid (Blk.new wc 25 #[.int .i64 k, .string a, .string vr, .slice none 0 0, .string f])
      have HG3 := Lib.hid (show w.heap.size + 3 ≤ wc.heap.size from by have := S1.out.k2.lt; have := S1.out.l2; omega)
      have S2 := Lib.hid (S1.out.keep hba)
      clear S1 c0 c1 c2 c3 c4 hba
      generalize wc.alloc (.cells #[.int .i64 k, .string a, .string vr, .slice none 0 0, .string f] 25) = w2 at *
      generalize wc.heap.size = g3 at *
      have HNP := Lib.hid (show ¬ (ok g3 ∨ g3 < g3) from fun h => by
        rcases h with h | h
        · have := HOK.out g3 h; have := HG3.out; omega
        · omega)
      go_wp2_with fail
      go_loopw [8] (fun i wr => ∃ (j : Nat) (us : List Trm) (u : ByteArray) (v : Value), j ≤ ts.length ∧ i = .int .i64 j ∧ us.length = j ∧ Hid (SubsQ x.data.toList y.data.toList (decide (k = 5)) vr.data.toList u.data.toList ts us) ∧ Hid (BndOk k vr u j ts.length) ∧ Hid (SbS ok w (trmC k a vr A ts.length cap f) y A ts g1 g2 wr) ∧ Hid (Blk wr g3 25 #[.int .i64 k, .string a, .string u, v, .string f]) ∧ Hid (AppT (fun b => ok b ∨ g3 < b) wr (g3 + 1) v us)) (fun i _ => ts.length - (intOf i).toNat)
      case atStart => exact ⟨0, [], vr, .slice none 0 0, by omega, rfl, rfl, SubsQ.nil _ _ _ _ _ _, ⟨fun _ => rfl, .inl rfl⟩, S2, K3, AppT.nil _ _ _⟩
      case round =>
        clear S2 K3
        obtain ⟨j, us, u, v, hj, rfl, hul, HQ, HU, S1, K3, HA⟩ := hrel
        have HUL := Lib.hid hul
        clear hul
        by_cases hlt : j < ts.length
        · obtain ⟨y0, hy0⟩ : ∃ y0, ts[j]? = some y0 := ⟨_, List.getElem?_eq_getElem hlt⟩
          obtain ⟨ad, hA, hadl, _, cy0, hty, hcy⟩ := HARG.out j y0 hy0
          subst hA
          obtain ⟨ky, ay, vy, Ay, ny, cy, fy, rfl⟩ := hty.ext
          have HTY := Lib.hid hty
          have HCY := Lib.hid hcy
          have HAD := Lib.hid hadl
          have HY := Lib.hid hy0
          have HCN := Lib.hid (show cntM y0 ≤ z by have := cnt_arg hy0; have := HZ0.out; omega)
          have HFY := Lib.hid (formML_at (by have := HM.out; rw [formM, Bool.and_eq_true] at this; exact this.2) hy0)
          have c0 := S1.out.k0.cell 0
          have c3 := S1.out.k0.cell 3
          have w1x : IntKind.i64.wrap ((ts.length : Int) - 1) = (ts.length : Int) - 1 := IntWalk.i64_in _ (by omega)
          clear hty hcy hadl hy0
          by_cases hlast : k = 5 ∧ j + 1 = ts.length
          · obtain ⟨rfl, hjn⟩ := hlast
            obtain rfl : u = vr := HU.out.1 hlt
            have HJN := Lib.hid hjn
            have HBN := Lib.hid (show (decide ((5 : Int) = 5) && decide (j + 1 = ts.length)) = true by rw [decide_eq_true hjn]; rfl)
            have HVS := Lib.hid (show u.size ≤ 1000000 by
              have h := HM.out
              rw [formM, Bool.and_eq_true] at h
              have ho := h.1
              unfold ownM at ho
              rw [if_neg (by decide), if_neg (by decide), if_neg (by decide), if_neg (by decide), if_pos rfl] at ho
              simp only [Bool.and_eq_true] at ho
              have := id_size ho.2.2.1
              omega)
            have hj5 : ¬ ((j : Int) < (ts.length : Int) - 1) := by omega
            have HUV := Lib.hid (show BndOk 5 u u (j + 1) ts.length from ⟨fun _ => rfl, .inl rfl⟩)
            have HV := Lib.hid (fun b hb => (HA.out.lt b hb).2)
            have HM1G := Lib.hid (show g3 < wr.heap.size from K3.out.lt)
            have HM0 := Lib.hid (show w.heap.size + 3 < wr.heap.size from by have := HM1G.out; have := HG3.out; omega)
            obtain ⟨d0, d1, d2, d3, d4⟩ := arg_cells S1.out.bel HAD.out HCY.out
            go_upto_region 11 with (fail)
            have hba := bel_alloc wr (.cells #[.int .i64 ky, .string ay, .string vy, .slice Ay ny cy, .string fy] 25)
            have HR := Lib.hid (SbR.mk (S1.out.keep hba) (Blk.new wr 25 #[.int .i64 ky, .string ay, .string vy, .slice Ay ny cy, .string fy]) ((HTY.out.keep S1.out.bel).keep hba) (keep hba K3.out) ((HA.out.weak (P' := fun b => (ok b ∨ g3 < b) ∧ b < wr.heap.size) fun b hb h => ⟨h, hb⟩).keep hba))
            clear hba d0 d1 d2 d3 d4 c0 c3 w1x hj5 S1 K3 HA hjn
            generalize wr.alloc (.cells #[.int .i64 ky, .string ay, .string vy, .slice Ay ny cy, .string fy] 25) = w5 at *
            generalize wr.heap.size = m0 at *
            refine region_ghost (X := Value × Value) (by kernel_rfl) _ (fun gx => [.agg #[.int .i64 ky, .string ay, .string vy, .slice Ay ny cy, .string fy], gx.1, .agg #[.int .i64 2, .string y, .string ⟨#[]⟩, .slice none 0 0, .string ⟨#[]⟩], gx.2, gx.1, gx.2]) [true, true, true, true, true, true] [1, 3] (InvV (SbR ok w (trmC 5 a u (some ad) ts.length cap f) y (some ad) ts g1 g2 g3 m0 m0 #[.int .i64 ky, .string ay, .string vy, .slice Ay ny cy, .string fy] y0 #[.int .i64 5, .string a, .string u, v, .string f] v us) y0 y) (.nilFunc, .nilFunc) (by kernel_rfl) (fun gx => by simp [fin, finOn, dstAt, List.range, List.range.loop, Act.put]; rfl) (fun _ => by kernel_rfl) (by kernel_rfl) ⟨HR.out.keep (below_drew (Below.refl _ _)), (fun h => by cases h), fun h => by cases h⟩ ?_ ?_
            · refine ⟨fun L gx wq hL hb ha hI => ?_, fun L gx wq hL hb ha hI => ?_, fun L gx wq hL hb ha hI => ?_, fun L gx wq hL hb ha hI => ?_, fun L gx wq hL hb ha hI => ?_, fun L gx wq hL hb ha hI => ?_, trivial⟩
              · have a0 := hI.1.k9.cell 0
                have a1 := hI.1.k9.cell 1
                have a2 := hI.1.k9.cell 2
                have a3 := hI.1.k9.cell 3
                have a4 := hI.1.k9.cell 4
                exact Gives.plain (v := .agg #[.int .i64 ky, .string ay, .string vy, .slice Ay ny cy, .string fy]) (w' := wq) (by simp [go_sem, a0, a1, a2, a3, a4]) rfl hI
              · have e1 : L 1 = false := hL
                simp only [List.map, e1] at hI ⊢
                obtain ⟨h1, h2, h3⟩ := hI
                refine Gives.call (f := 27) (args := #[.agg #[.int .i64 ky, .string ay, .string vy, .slice Ay ny cy, .string fy]]) (w' := wq) (by kernel_rfl) ((free_any (cntM y0) y0 _ wq (Nat.le_refl _) (by have := HCN.out; have := HZ0.out; omega) HFY.out h1.tm.mat).mono ?_)
                rintro e wz ⟨v', zs, rfl, hN, hl, hm, hb⟩
                exact ⟨_, rfl, (v', gx.2), rfl, (KeepsV.of_same ⟨.inr (.inr rfl), .inl rfl, .inr (.inr rfl), (by first | exact .inr (.inr rfl) | exact .inr (.inl (by kernel_rfl))), (by first | exact .inr (.inr rfl) | exact .inr (.inl (by kernel_rfl))), (by first | exact .inr (.inr rfl) | exact .inr (.inl (by kernel_rfl))), trivial⟩), h1.keep hb, (fun _ => ⟨zs, hN, hl, hm⟩), fun e3 => by
                  obtain ⟨zs', p1, p2, p3⟩ := h3 (by simpa using e3)
                  exact ⟨zs', p1.keep hb, p2, p3⟩⟩
              · have b0 := hI.1.sb.k1.cell 0
                have b1 := hI.1.sb.k1.cell 1
                have b2 := hI.1.sb.k1.cell 2
                have b3 := hI.1.sb.k1.cell 3
                have b4 := hI.1.sb.k1.cell 4
                exact Gives.plain (v := .agg #[.int .i64 2, .string y, .string ⟨#[]⟩, .slice none 0 0, .string ⟨#[]⟩]) (w' := wq) (by simp [go_sem, b0, b1, b2, b3, b4]) rfl hI
              · have e1 : L 3 = false := hL
                simp only [List.map, e1] at hI ⊢
                obtain ⟨h1, h2, h3⟩ := hI
                refine Gives.call (f := 27) (args := #[.agg #[.int .i64 2, .string y, .string ⟨#[]⟩, .slice none 0 0, .string ⟨#[]⟩]]) (w' := wq) (by kernel_rfl) ((free_any 1 (varM y) _ wq (by unfold varM; simp [cntM, cntL]) (by omega) (form_var HIY.out) (mat_var wq y (by have := id_size HIY.out; omega))).mono ?_)
                rintro e wz ⟨v', zs, rfl, hN, hl, hm, hb⟩
                exact ⟨_, rfl, (gx.1, v'), rfl, (KeepsV.of_same ⟨.inr (.inr rfl), (by first | exact .inr (.inr rfl) | exact .inr (.inl (by kernel_rfl))), .inr (.inr rfl), .inl rfl, (by first | exact .inr (.inr rfl) | exact .inr (.inl (by kernel_rfl))), (by first | exact .inr (.inr rfl) | exact .inr (.inl (by kernel_rfl))), trivial⟩), h1.keep hb, (fun e3 => by
                  obtain ⟨zs', p1, p2, p3⟩ := h2 (by simpa using e3)
                  exact ⟨zs', p1.keep hb, p2, p3⟩), fun _ => ⟨zs, hN, by unfold varM at hl; simpa [cntM, cntL] using hl, fun z => (hm z).trans (fr_var y z)⟩⟩
              · exact Gives.plain (v := gx.1) (w' := wq) (by kernel_rfl) rfl hI
              · exact Gives.plain (v := gx.2) (w' := wq) (by kernel_rfl) rfl hI
            · intro gx wq hI
              obtain ⟨h1, h2, h3⟩ := hI
              obtain ⟨L1, hN1, hl1, hm1⟩ := h2 rfl
              obtain ⟨L2, hN2, hl2, hm2⟩ := h3 rfl
              have HR := Lib.hid h1
              have HN1 := Lib.hid hN1
              have HN2 := Lib.hid hN2
              have HL1 := Lib.hid hl1
              have HL2 := Lib.hid hl2
              have HM1 := Lib.hid hm1
              have HM2 := Lib.hid hm2
              clear h1 h2 h3 hN1 hN2 hl1 hl2 hm1 hm2
              generalize gx.1 = u1 at *
              generalize gx.2 = u2 at *
              obtain ⟨A1, c1, rfl, hc1, hd1, hN⟩ := HN1.out
              have HN1 := Lib.hid hN
              clear hN
              obtain ⟨A2, c2, rfl, hc2, hd2, hN⟩ := HN2.out
              have HN2 := Lib.hid hN
              clear hN
              generalize wq = w6 at *
              have e2 := HR.out.sb.k0.cell 2
              by_cases hvx : u.data.toList = x.data.toList
              · have qv : (u.toList == x.toList) = true := by rw [beq_iff_eq, ByteArray.toList_eq, ByteArray.toList_eq]; exact hvx
                have HVX := Lib.hid hvx
                clear hvx
                go_upto_region 13 with (fail)
                have a0 := HR.out.k9.cell 0
                have a1 := HR.out.k9.cell 1
                have a2 := HR.out.k9.cell 2
                have a3 := HR.out.k9.cell 3
                have a4 := HR.out.k9.cell 4
                have k3 := HR.out.k3.cell 3
                have hba := bel_alloc w6 (.cells #[.int .i64 ky, .string ay, .string vy, .slice Ay ny cy, .string fy] 25)
                have HR2 := Lib.hid (HR.out.keep hba)
                have HN := Lib.hid (Blk.new w6 25 #[.int .i64 ky, .string ay, .string vy, .slice Ay ny cy, .string fy])
                have HMW := Lib.hid (show g3 < w6.heap.size from HR.out.k3.lt)
                clear hba
                obtain ⟨css, ho, hl, hr⟩ := HR2.out.app
                have hxl : us.length ≤ 1001 := by have := HUL.out; omega
                have hx := HR2.out.tm.any (ok' := fun b => v.ownBlock ≠ some b ∧ (ok b ∨ g3 < b) ∧ b < m0) fun b _ hb => ⟨fun h => by have h9 := HR2.out.app.lt b h; have := HOK.out b hb; have := HG3.out; omega, .inl hb, by have := HOK.out b hb; have := HM0.out; omega⟩
                go_wp2_with (at_builtin; refine wpList_append_any _ rfl (.tmp 75) (.tmp 77) 23 rfl (g3 + 1) 25 i0 (.agg #[.int .i64 0, .string ⟨#[]⟩, .string ⟨#[]⟩, .slice none 0 0, .string ⟨#[]⟩]) 5 80 Tryz.underlying23 hi hz0 hz1 hz2 rfl (by decide) _ _ _ rfl ho _ (some ⟨w6.heap.size, 0, none⟩) 1 1 (#[.int .i64 ky, .string ay, .string vy, .slice Ay ny cy, .string fy] : Array Value).toList rfl (reads_agg HN.out rfl) (tm_one HR2.out.tm) (by unfold maxLen; omega) (by omega) (by have := HMW.out; simp; omega) ?_); intro v' w' q2 q3 q4
                have HAP := AppT.push hl hr hx q2 q3 (by rw [World.size_alloc]; exact q4)
                have hrow : ∀ b, v.ownBlock = some b → g3 + 1 ≤ b ∧ b < m0 := fun b hb => ⟨(HR2.out.app.lt b hb).1, HV.out b hb⟩
                have S3 := Lib.hid (HR2.out.sb.grow HOK.out q3 fun r e => by have := hrow r e; have := HG3.out; omega)
                have K3 := Lib.hid (HR2.out.k3.grown q3 fun e => by have := hrow _ e.symm; omega)
                have HA3 := Lib.hid (HAP.weak (P' := fun b => ok b ∨ g3 < b) fun b _ h => h.1)
                clear HAP ho hl hr hx q2 q3 q4 hrow HR2 HN HR a0 a1 a2 a3 a4 k3
                obtain ⟨A5, c5, e9, _⟩ := HA3.out.form (fun b hb => .inr (by omega))
                rw [List.length_append, List.length_singleton] at e9
                subst e9
                have k3 := K3.out.cell 3
                have f3 := K3.out.frozen 3
                have S4 := Lib.hid (S3.out.grow HOK.out (grown_set w' ⟨g3, 3, none⟩ (.slice A5 (us.length + 1) c5)) fun r e => by have h9 : g3 = r := Option.some.inj e; have := HG3.out; omega)
                have K4 := Lib.hid (K3.out.set_ 3 (.slice A5 (us.length + 1) c5))
                have HA4 := Lib.hid (HA3.out.set_ (p := ⟨g3, 3, none⟩) HNP.out (by show g3 < _; omega) (.slice A5 (us.length + 1) c5))
                have HQQ := Lib.hid (HQ.out.snoc (t := y0) (t' := y0) (by rw [HUL.out]; exact HY.out) (by rw [HUL.out, HBN.out]; exact sub_skip (.inl HVX.out)) HFY.out)
                clear S3 K3 HA3
                go_wp2_with fail
                go_roundw
                case rel => exact ⟨j + 1, _, u, _, by omega, by go_num, by rw [List.length_append, HUL.out]; rfl, HQQ, HUV, S4, K4, HA4⟩
                case measure => simp [intOf]; omega
              have HVX := Lib.hid hvx
              have qv : (u.toList == x.toList) = false := by rw [beq_eq_false_iff_ne, ByteArray.toList_eq, ByteArray.toList_eq]; exact hvx
              clear hvx
              go_wp2_with fail
              refine (has_any A1 c1 L1 x w6 HN1.out (by have := HL1.out; have := HCN.out; have := HZ0.out; omega)).mono ?_
              rintro e w7 ⟨rfl, hb⟩
              replace HR := Lib.hid (HR.out.keep hb)
              replace HN1 := Lib.hid (HN1.out.keep hb)
              replace HN2 := Lib.hid (HN2.out.keep hb)
              clear hb e2 qv
              by_cases hin : x.data.toList ∈ L1
              case neg =>
                rw [decide_eq_false hin]
                have HNI := Lib.hid (show frM x.data.toList y0 = false from Bool.eq_false_iff.2 fun e => hin ((HM1.out _).2 e))
                clear hin
                go_upto_region 13 with (fail)
                have a0 := HR.out.k9.cell 0
                have a1 := HR.out.k9.cell 1
                have a2 := HR.out.k9.cell 2
                have a3 := HR.out.k9.cell 3
                have a4 := HR.out.k9.cell 4
                have k3 := HR.out.k3.cell 3
                have hba := bel_alloc w7 (.cells #[.int .i64 ky, .string ay, .string vy, .slice Ay ny cy, .string fy] 25)
                have HR2 := Lib.hid (HR.out.keep hba)
                have HN := Lib.hid (Blk.new w7 25 #[.int .i64 ky, .string ay, .string vy, .slice Ay ny cy, .string fy])
                have HMW := Lib.hid (show g3 < w7.heap.size from HR.out.k3.lt)
                clear hba
                obtain ⟨css, ho, hl, hr⟩ := HR2.out.app
                have hxl : us.length ≤ 1001 := by have := HUL.out; omega
                have hx := HR2.out.tm.any (ok' := fun b => v.ownBlock ≠ some b ∧ (ok b ∨ g3 < b) ∧ b < m0) fun b _ hb => ⟨fun h => by have h9 := HR2.out.app.lt b h; have := HOK.out b hb; have := HG3.out; omega, .inl hb, by have := HOK.out b hb; have := HM0.out; omega⟩
                go_wp2_with (at_builtin; refine wpList_append_any _ rfl (.tmp 75) (.tmp 77) 23 rfl (g3 + 1) 25 i0 (.agg #[.int .i64 0, .string ⟨#[]⟩, .string ⟨#[]⟩, .slice none 0 0, .string ⟨#[]⟩]) 5 80 Tryz.underlying23 hi hz0 hz1 hz2 rfl (by decide) _ _ _ rfl ho _ (some ⟨w7.heap.size, 0, none⟩) 1 1 (#[.int .i64 ky, .string ay, .string vy, .slice Ay ny cy, .string fy] : Array Value).toList rfl (reads_agg HN.out rfl) (tm_one HR2.out.tm) (by unfold maxLen; omega) (by omega) (by have := HMW.out; simp; omega) ?_); intro v' w' q2 q3 q4
                have HAP := AppT.push hl hr hx q2 q3 (by rw [World.size_alloc]; exact q4)
                have hrow : ∀ b, v.ownBlock = some b → g3 + 1 ≤ b ∧ b < m0 := fun b hb => ⟨(HR2.out.app.lt b hb).1, HV.out b hb⟩
                have S3 := Lib.hid (HR2.out.sb.grow HOK.out q3 fun r e => by have := hrow r e; have := HG3.out; omega)
                have K3 := Lib.hid (HR2.out.k3.grown q3 fun e => by have := hrow _ e.symm; omega)
                have HA3 := Lib.hid (HAP.weak (P' := fun b => ok b ∨ g3 < b) fun b _ h => h.1)
                clear HAP ho hl hr hx q2 q3 q4 hrow HR2 HN HR a0 a1 a2 a3 a4 k3
                obtain ⟨A5, c5, e9, _⟩ := HA3.out.form (fun b hb => .inr (by omega))
                rw [List.length_append, List.length_singleton] at e9
                subst e9
                have k3 := K3.out.cell 3
                have f3 := K3.out.frozen 3
                have S4 := Lib.hid (S3.out.grow HOK.out (grown_set w' ⟨g3, 3, none⟩ (.slice A5 (us.length + 1) c5)) fun r e => by have h9 : g3 = r := Option.some.inj e; have := HG3.out; omega)
                have K4 := Lib.hid (K3.out.set_ 3 (.slice A5 (us.length + 1) c5))
                have HA4 := Lib.hid (HA3.out.set_ (p := ⟨g3, 3, none⟩) HNP.out (by show g3 < _; omega) (.slice A5 (us.length + 1) c5))
                have HQQ := Lib.hid (HQ.out.snoc (t := y0) (t' := y0) (by rw [HUL.out]; exact HY.out) (by rw [HUL.out, HBN.out]; exact sub_skip (.inr HNI.out)) HFY.out)
                clear S3 K3 HA3
                go_wp2_with fail
                go_roundw
                case rel => exact ⟨j + 1, _, u, _, by omega, by go_num, by rw [List.length_append, HUL.out]; rfl, HQQ, HUV, S4, K4, HA4⟩
                case measure => simp [intOf]; omega
              rw [decide_eq_true hin]
              clear hin
              have e2 := HR.out.sb.k0.cell 2
              go_wp2_with fail
              refine (has_any A2 c2 L2 u w7 HN2.out (by have := HL2.out; omega)).mono ?_
              rintro e w8 ⟨rfl, hb⟩
              replace HR := Lib.hid (HR.out.keep hb)
              replace HN1 := Lib.hid (HN1.out.keep hb)
              replace HN2 := Lib.hid (HN2.out.keep hb)
              clear hb e2
              by_cases hvy : u.data.toList ∈ L2
              case neg =>
                rw [decide_eq_false hvy]
                have HVY := Lib.hid (show u.data.toList ≠ y.data.toList from fun e => hvy ((HM2.out _).2 e))
                clear hvy
                have ST := Lib.hid (SbT.mk (m1 := w8.heap.size) HR.out.sb HM0.out (Nat.le_refl _) (Nat.le_refl _) HR.out.k9 (HR.out.tm.any fun b hb h => ⟨.inl h, hb⟩))
                have K3 := Lib.hid HR.out.k3
                have HA := Lib.hid (HR.out.app.weak (P' := fun b => ok b ∨ g3 < b) fun b _ h => h.1)
                have HCS := Lib.hid HCN.out
                have HFS := Lib.hid HFY.out
                have HQT := Lib.hid HQ.out
                have HUW := Lib.hid HUV.out
                clear HR HN1 HN2
                go_upto_region 17 with (fail)
                refine region_ghost (X := Trm × Array Value × Nat × Value) (by kernel_rfl) _ (fun gx => [.pointer (some ⟨g3, 3, none⟩), v, .agg #[.int .i64 ky, .string ay, .string vy, .slice Ay ny cy, .string fy], .string x, .agg #[.int .i64 2, .string y, .string ⟨#[]⟩, .slice none 0 0, .string ⟨#[]⟩], .agg gx.2.1, .slice (some ⟨gx.2.2.1, 0, none⟩) 1 1, gx.2.2.2, .pointer (some ⟨g3, 3, none⟩), undef]) [true, true, true, true, true, true, true, true, true, true] [5, 6, 7, 9] (InvU (SbT ok w (trmC 5 a u (some ad) ts.length cap f) y (some ad) ts g1 g2 m0 w8.heap.size m0 #[.int .i64 ky, .string ay, .string vy, .slice Ay ny cy, .string fy] y0) g3 (fun b => ok b ∨ g3 < b) (SubC x.data.toList y.data.toList y0) 5 a u f v us) (varM y, #[], 0, .nilFunc) (by kernel_rfl) (fun gx => by simp [fin, finOn, dstAt, List.range, List.range.loop, Act.put]; rfl) (fun _ => by kernel_rfl) (by kernel_rfl) ⟨ST.out.keep (below_drew (Below.refl _ _)), K3.out.drew, (fun _ => HA.out.keep (below_drew (Below.refl _ _))), (fun h => by cases h), (fun h => by cases h), (fun h => by cases h), fun h => by cases h⟩ ?_ ?_
                · refine ⟨fun L gx wq hL hb ha hI => ?_, fun L gx wq hL hb ha hI => ?_, fun L gx wq hL hb ha hI => ?_, fun L gx wq hL hb ha hI => ?_, fun L gx wq hL hb ha hI => ?_, fun L gx wq hL hb ha hI => ?_, fun L gx wq hL hb ha hI => ?_, fun L gx wq hL hb ha hI => ?_, fun L gx wq hL hb ha hI => ?_, fun L gx wq hL hb ha hI => ?_, trivial⟩
                  · exact Gives.plain (v := .pointer (some ⟨g3, 3, none⟩)) (w' := wq) (by simp [go_sem]) rfl hI
                  · have e9 : L 9 = false := ha 9 (by kernel_rfl)
                    have cJ := hI.2.1.cell 3
                    simp only [e9] at cJ
                    exact Gives.plain (v := v) (w' := wq) (by simp [go_sem, cJ]) rfl hI
                  · have a0 := hI.1.k9.cell 0
                    have a1 := hI.1.k9.cell 1
                    have a2 := hI.1.k9.cell 2
                    have a3 := hI.1.k9.cell 3
                    have a4 := hI.1.k9.cell 4
                    exact Gives.plain (v := .agg #[.int .i64 ky, .string ay, .string vy, .slice Ay ny cy, .string fy]) (w' := wq) (by simp [go_sem, a0, a1, a2, a3, a4]) rfl hI
                  · exact Gives.plain (v := .string x) (w' := wq) (by kernel_rfl) rfl hI
                  · have b0 := hI.1.sb.k1.cell 0
                    have b1 := hI.1.sb.k1.cell 1
                    have b2 := hI.1.sb.k1.cell 2
                    have b3 := hI.1.sb.k1.cell 3
                    have b4 := hI.1.sb.k1.cell 4
                    exact Gives.plain (v := .agg #[.int .i64 2, .string y, .string ⟨#[]⟩, .slice none 0 0, .string ⟨#[]⟩]) (w' := wq) (by simp [go_sem, b0, b1, b2, b3, b4]) rfl hI
                  · have e3 : L 5 = false := hL
                    have e4 : L 6 = false := ha 6 (by kernel_rfl)
                    have e5 : L 7 = false := ha 7 (by kernel_rfl)
                    have e7 : L 9 = false := ha 9 (by kernel_rfl)
                    simp only [List.map, e3, e4, e5, e7] at hI ⊢
                    obtain ⟨h1, h2, h3, _, _, _, _⟩ := hI
                    refine Gives.call (f := 30) (args := #[.agg #[.int .i64 ky, .string ay, .string vy, .slice Ay ny cy, .string fy], .string x, .agg #[.int .i64 2, .string y, .string ⟨#[]⟩, .slice none 0 0, .string ⟨#[]⟩]]) (w' := wq) (by kernel_rfl) ((IH.out (fun b => (ok b ∨ m0 ≤ b) ∧ b < w8.heap.size) y0 _ x y wq HCS.out HFS.out HIY.out HXZ.out (fun b hb => Nat.lt_of_lt_of_le hb.2 h1.sz) h1.tm).mono ?_)
                    rintro e wz ⟨c, t', rfl, hc, hC, hb⟩
                    have hlo := h2.lt
                    exact ⟨_, rfl, (t', c, gx.2.2), rfl, (KeepsV.of_same ⟨.inr (.inr rfl), .inr (.inr rfl), .inr (.inr rfl), .inr (.inr rfl), .inr (.inr rfl), .inl rfl, (by first | exact .inr (.inr rfl) | exact .inr (.inl (by kernel_rfl))), (by first | exact .inr (.inr rfl) | exact .inr (.inl (by kernel_rfl))), .inr (.inr rfl), .inr (.inr rfl), trivial⟩), SbT.keep h1 hb, keep hb h2, (fun _ => (h3 rfl).keep hb), (fun _ => hC), (fun _ _ => hc.any fun b _ hq => ⟨fun h => hq.elim (fun hq => hq.1.elim (fun hq => by have h9 := (h3 rfl).lt b h; have := HOK.out b hq; have := HG3.out; omega) (fun hq => by have h9 := HV.out b h; omega)) (fun hq => by have h9 := (h3 rfl).lt b h; omega), hq.elim (fun hq => hq.1.elim .inl fun hq => .inr (by have := HM1G.out; omega)) fun hq => .inr (by omega)⟩), (fun h => by cases h), fun h => by cases h⟩
                  · have e3 : L 5 = true := hb 5 (by kernel_rfl)
                    have e4 : L 6 = false := hL
                    have e5 : L 7 = false := ha 7 (by kernel_rfl)
                    have e7 : L 9 = false := ha 9 (by kernel_rfl)
                    simp only [List.map, e3, e4, e5, e7] at hI ⊢
                    have hbn := bel_alloc wq (.cells gx.2.1 25)
                    have hK := hI.keep (fun h => SbT.keep h hbn) hbn
                    obtain ⟨A8, c8, e8, _⟩ := (hI.2.2.2.2.1 rfl rfl).form
                    exact Gives.value (v := .slice (some ⟨wq.heap.size, 0, none⟩) 1 1) (w' := wq.alloc (.cells gx.2.1 25)) (by simp [go_sem, e8]) ⟨(gx.1, gx.2.1, wq.heap.size, gx.2.2.2), rfl, (KeepsV.of_same ⟨.inr (.inr rfl), .inr (.inr rfl), .inr (.inr rfl), .inr (.inr rfl), .inr (.inr rfl), (by first | exact .inr (.inr rfl) | exact .inr (.inl (by kernel_rfl))), .inl rfl, (by first | exact .inr (.inr rfl) | exact .inr (.inl (by kernel_rfl))), .inr (.inr rfl), .inr (.inr rfl), trivial⟩), hK.1, hK.2.1, hK.2.2.1, hK.2.2.2.1, hK.2.2.2.2.1, (fun _ _ => Blk.new _ _ _), fun h => by cases h⟩
                  · have e3 : L 5 = true := hb 5 (by kernel_rfl)
                    have e4 : L 6 = true := hb 6 (by kernel_rfl)
                    have e5 : L 7 = false := hL
                    have e7 : L 9 = false := ha 9 (by kernel_rfl)
                    simp only [List.map, e3, e4, e5, e7] at hI ⊢
                    obtain ⟨h1, h2, h3, h4, h5, h6, _⟩ := hI
                    obtain ⟨css, ho, hl, hr⟩ := h3 rfl
                    have hxl : us.length ≤ 1001 := by have := HUL.out; omega
                    have hrow : ∀ b, v.ownBlock = some b → g3 + 1 ≤ b := fun b hb => ((h3 rfl).lt b hb).1
                    exact gives_append (.tmp 99) (.tmp 104) 23 rfl (g3 + 1) 25 i0 (.agg #[.int .i64 0, .string ⟨#[]⟩, .string ⟨#[]⟩, .slice none 0 0, .string ⟨#[]⟩]) 5 80 Tryz.underlying23 hi hz0 hz1 hz2 rfl (by decide) v _ _ rfl ho wq.heap.size (some ⟨gx.2.2.1, 0, none⟩) 1 1 gx.2.1.toList rfl (reads_agg (h6 rfl rfl) (h5 rfl rfl).size) (tm_one (h5 rfl rfl)) (by unfold maxLen; omega) (by omega) (by have := h2.lt; omega) (fun v' w' q2 q3 q4 => ⟨(gx.1, gx.2.1, gx.2.2.1, v'), rfl, (KeepsV.of_same ⟨.inr (.inr rfl), .inr (.inr rfl), .inr (.inr rfl), .inr (.inr rfl), .inr (.inr rfl), (by first | exact .inr (.inr rfl) | exact .inr (.inl (by kernel_rfl))), (by first | exact .inr (.inr rfl) | exact .inr (.inl (by kernel_rfl))), .inl rfl, .inr (.inr rfl), .inr (.inr rfl), trivial⟩), (fun h g r => SbT.grow h HOK.out g fun b e => by have := r b e; have := HG3.out; have := HV.out b e; omega) h1 q3 hrow, h2.grown q3 (fun e => by have := hrow _ e.symm; omega), (fun h => by cases h), h4, (fun _ h => by cases h), (fun _ h => by cases h), fun _ => AppT.push hl hr (h5 rfl rfl) q2 q3 q4⟩)
                  · exact Gives.plain (v := .pointer (some ⟨g3, 3, none⟩)) (w' := wq) (by simp [go_sem]) rfl hI
                  · have e3 : L 5 = true := hb 5 (by kernel_rfl)
                    have e4 : L 6 = true := hb 6 (by kernel_rfl)
                    have e5 : L 7 = true := hb 7 (by kernel_rfl)
                    have e7 : L 9 = false := hL
                    simp only [List.map, e3, e4, e5, e7] at hI ⊢
                    obtain ⟨h1, h2, _, h4, _, _, h8⟩ := hI
                    have h2 : Blk wq g3 25 #[.int .i64 5, .string a, .string u, v, .string f] := h2
                    obtain ⟨A5, c5, e9, _⟩ := (h8 rfl).form (fun b hb => .inr (by omega))
                    have cJ := h2.cell 3
                    have fJ := h2.frozen 3
                    exact Gives.skip (w' := wq.setCell ⟨g3, 3, none⟩ gx.2.2.2) (by simp [go_sem, cJ, fJ, e9]) ⟨_, rfl, KeepsV.same, (fun h => SbT.grow h HOK.out (grown_set wq ⟨g3, 3, none⟩ _) fun r e => by have h9 : g3 = r := Option.some.inj e; have := HG3.out; have := HM1G.out; omega) h1, h2.set_ 3 _, (fun h => by cases h), h4, (fun _ h => by cases h), (fun _ h => by cases h), fun _ => (h8 rfl).set_ (p := ⟨g3, 3, none⟩) HNP.out (by show g3 < _; omega) _⟩
                · intro gx wq hI
                  obtain ⟨h1, h2, _, h4, _, _, h8⟩ := hI
                  have S3 := Lib.hid (h1.sb)
                  have K3 : Hid (Blk wq g3 25 #[.int .i64 5, .string a, .string u, gx.2.2.2, .string f]) := h2
                  have HA3 := Lib.hid (h8 rfl)
                  have HC3 := Lib.hid (h4 rfl)
                  clear h1 h2 h4 h8
                  have HQQ := Lib.hid (HQT.out.snoc (t := y0) (by rw [HUL.out]; exact HY.out) (by rw [HUL.out, HBN.out]; exact sub_in HVX.out HVY.out HC3.out.1) HC3.out.2)
                  go_wp2_with fail
                  go_roundw
                  case rel => exact ⟨j + 1, _, u, _, by omega, by go_num, by rw [List.length_append, HUL.out]; rfl, HQQ, HUW, S3, K3, HA3⟩
                  case measure => simp [intOf]; omega
              rw [decide_eq_true hvy]
              clear hvy
              have HIDS := Lib.hid (show ∀ p, p ∈ L1 ∨ p ∈ L2 → p.length ≤ 1000000 from fun p hp => id_len (hp.elim (fun h => fr_id y0 HFY.out ((HM1.out p).1 h)) fun h => by rw [(HM2.out p).1 h]; exact HIY.out))
              go_wp2_with fail
              refine (union_any _ _ L1 L2 w8 ⟨A1, c1, rfl, hc1, hd1, HN1.out⟩ ⟨A2, c2, rfl, hc2, hd2, HN2.out⟩ (by have := HL1.out; have := HL2.out; have := HCN.out; have := HZ0.out; omega) HIDS.out).mono ?_
              rintro e w9 ⟨v9, L3, rfl, hN3, hl3, hm3, hb⟩
              replace HR := Lib.hid (HR.out.keep hb)
              have HM3 := Lib.hid (show ∀ p, p ∈ L3 ↔ p ∈ L1 ∨ p ∈ L2 from hm3)
              have HL3 := Lib.hid (show L3.length ≤ 252 by have := HL1.out; have := HL2.out; have := HCN.out; have := HZ0.out; omega)
              obtain ⟨A3, c3, rfl, hc3, hd3, hN⟩ := hN3
              have HN3 := Lib.hid hN
              clear hb hN hm3 hl3
              go_wp2_with fail
              refine (with_any A3 c3 L3 x w9 HN3.out hc3 hd3 (by have := HL3.out; omega) (fun p hp => HIDS.out p ((HM3.out p).1 hp)) (by have := HXZ.out; omega)).mono ?_
              rintro e w10 ⟨v10, L4, rfl, hN4, hl4, hm4, hb⟩
              replace HR := Lib.hid (HR.out.keep hb)
              have HN4 := Lib.hid hN4
              have HL4 := Lib.hid (show L4.length ≤ 253 by have := HL3.out; omega)
              have HM4 := Lib.hid (show ∀ p, p ∈ L4 ↔ p ∈ L3 ∨ p = x.data.toList from hm4)
              clear hb hN4 hm4 hl4
              have e2 := HR.out.k3.cell 2
              have f2 := HR.out.k3.frozen 2
              go_wp2_with fail
              refine (fresh_any v10 L4 w10 HN4.out (by have := HL4.out; omega)).mono ?_
              rintro e w11 ⟨zz, rfl, hzi, hzn, hb⟩
              replace HR := Lib.hid (HR.out.keep hb)
              have HZI := Lib.hid hzi
              have HZX := Lib.hid (show zz.data.toList ≠ x.data.toList from fun e => hzn ((HM4.out _).2 (.inr e)))
              have HZY := Lib.hid (show zz.data.toList ≠ y.data.toList from fun e => hzn ((HM4.out _).2 (.inl ((HM3.out _).2 (.inr ((HM2.out _).2 e))))))
              have HZF := Lib.hid (show frM zz.data.toList y0 = false from Bool.eq_false_iff.2 fun e => hzn ((HM4.out _).2 (.inl ((HM3.out _).2 (.inl ((HM1.out _).2 e))))))
              clear hzi hzn hb e2 f2 HN1 HN2 HN3 HN4
              have e2 := HR.out.k3.cell 2
              have f2 := HR.out.k3.frozen 2
              go_upto_region 16 with (fail)
              have HR2 := Lib.hid (show SbR ok w (trmC 5 a u (some ad) ts.length cap f) y (some ad) ts g1 g2 g3 m0 m0 #[.int .i64 ky, .string ay, .string vy, .slice Ay ny cy, .string fy] y0 #[.int .i64 5, .string a, .string zz, v, .string f] v us (w11.setCell ⟨g3, 2, none⟩ (.string zz)) from ⟨HR.out.sb.grow HOK.out (grown_set w11 ⟨g3, 2, none⟩ (.string zz)) (fun r e => by have h9 : g3 = r := Option.some.inj e; have := HG3.out; omega), HR.out.k9.far (p := ⟨g3, 2, none⟩) (by have := HM1G.out; show m0 ≠ g3; omega) _, HR.out.tm.grown (grown_set w11 ⟨g3, 2, none⟩ (.string zz)) (fun b _ hb e => by have h9 : b = g3 := Option.some.inj e; have := HOK.out b hb; have := HG3.out; omega) (fun _ _ h => h), HR.out.k3.set_ 2 (.string zz), HR.out.app.set_ (p := ⟨g3, 2, none⟩) (fun h => HNP.out h.1) (by show g3 < _; omega) _⟩)
              clear HR e2 f2
              have HR := HR2
              clear HR2
              generalize w11.setCell ⟨g3, 2, none⟩ (.string zz) = w12 at *
              have a0 := HR.out.k9.cell 0
              have a1 := HR.out.k9.cell 1
              have a2 := HR.out.k9.cell 2
              have a3 := HR.out.k9.cell 3
              have a4 := HR.out.k9.cell 4
              have e2 := HR.out.sb.k0.cell 2
              have o2 := HR.out.k3.cell 2
              go_wp2_with fail
              refine (IH.out ok y0 _ u zz w12 HCN.out HFY.out HZI.out HVS.out (fun b hb => Nat.lt_of_lt_of_le (HOK.out b hb) HR.out.sb.bel.size) HR.out.tm).mono ?_
              rintro e w13 ⟨c13, s1, rfl, hc, hC, hb⟩
              obtain ⟨k1, a1', v1, A1', n1, p1, f1, rfl⟩ := hc.ext
              have HTS := Lib.hid hc
              have HC1 := Lib.hid hC
              have HSW := Lib.hid (show m0 < w12.heap.size from HR.out.k9.lt)
              replace HR := Lib.hid (HR.out.keep hb)
              clear hc hC hb a0 a1 a2 a3 a4 e2 o2
              have a0 := fun i => HR.out.k9.cell i
              have b0 := fun i => HR.out.k9.frozen i
              go_upto_region 17 with (fail)
              have hgr := grown5 w13 m0 (.int .i64 k1) (.string a1') (.string v1) (.slice A1' n1 p1) (.string f1)
              have hse := set5 HR.out.k9 (.int .i64 k1) (.string a1') (.string v1) (.slice A1' n1 p1) (.string f1)
              have K3 := Lib.hid (HR.out.k3.grown hgr fun e => by have := Option.some.inj e; have := HM1G.out; omega)
              have HA0 := Lib.hid (HR.out.app.grownT hgr (fun b hb e => by have := HV.out b hb; have := Option.some.inj e; omega) (fun b hb e => by have := Option.some.inj e; have := hb.2; omega))
              have HA := Lib.hid (HA0.out.weak (P' := fun b => ok b ∨ g3 < b) fun b _ h => h.1)
              have SB := Lib.hid (HR.out.sb.grow HOK.out hgr fun r e => by have := Option.some.inj e; have := HM0.out; omega)
              have HTM := Lib.hid (HTS.out.grown (ok' := fun b => ok b ∨ m0 ≤ b) hgr (fun b _ hb e => by
                have := Option.some.inj e
                rcases hb with hb | hb
                · have := HOK.out b hb; have := HM0.out; omega
                · have := HSW.out; omega) (fun b _ hb => hb.elim .inl fun hb => .inr (by have := HSW.out; omega)))
              clear a0 b0 hgr HA0 HR HTS
              generalize ((((w13.setCell ⟨m0, 0, none⟩ (.int .i64 k1)).setCell ⟨m0, 1, none⟩ (.string a1')).setCell ⟨m0, 2, none⟩ (.string v1)).setCell ⟨m0, 3, none⟩ (.slice A1' n1 p1)).setCell ⟨m0, 4, none⟩ (.string f1) = w14 at *
              have ST := Lib.hid (SbT.mk (m1 := w14.heap.size) SB.out HM0.out (Nat.le_refl _) (Nat.le_refl _) hse (HTM.out.any fun b hb h => ⟨h, hb⟩))
              have HCS := Lib.hid (show cntM s1 ≤ z by rw [HC1.out.cnt HFY.out]; exact HCN.out)
              have HFS := Lib.hid HC1.out.2
              have HQT := Lib.hid (HQ.out.turn (u' := zz.data.toList) (by rw [HUL.out]; exact hlt))
              have HUW := Lib.hid (show BndOk 5 u zz (j + 1) ts.length from ⟨fun h => by have := HJN.out; omega, .inr ⟨rfl, HZI.out⟩⟩)
              clear SB HTM hse
              refine region_ghost (X := Trm × Array Value × Nat × Value) (by kernel_rfl) _ (fun gx => [.pointer (some ⟨g3, 3, none⟩), v, .agg #[.int .i64 k1, .string a1', .string v1, .slice A1' n1 p1, .string f1], .string x, .agg #[.int .i64 2, .string y, .string ⟨#[]⟩, .slice none 0 0, .string ⟨#[]⟩], .agg gx.2.1, .slice (some ⟨gx.2.2.1, 0, none⟩) 1 1, gx.2.2.2, .pointer (some ⟨g3, 3, none⟩), undef]) [true, true, true, true, true, true, true, true, true, true] [5, 6, 7, 9] (InvU (SbT ok w (trmC 5 a u (some ad) ts.length cap f) y (some ad) ts g1 g2 m0 w14.heap.size m0 #[.int .i64 k1, .string a1', .string v1, .slice A1' n1 p1, .string f1] s1) g3 (fun b => ok b ∨ g3 < b) (SubC x.data.toList y.data.toList s1) 5 a zz f v us) (varM y, #[], 0, .nilFunc) (by kernel_rfl) (fun gx => by simp [fin, finOn, dstAt, List.range, List.range.loop, Act.put]; rfl) (fun _ => by kernel_rfl) (by kernel_rfl) ⟨ST.out.keep (below_drew (Below.refl _ _)), K3.out.drew, (fun _ => HA.out.keep (below_drew (Below.refl _ _))), (fun h => by cases h), (fun h => by cases h), (fun h => by cases h), fun h => by cases h⟩ ?_ ?_
              · refine ⟨fun L gx wq hL hb ha hI => ?_, fun L gx wq hL hb ha hI => ?_, fun L gx wq hL hb ha hI => ?_, fun L gx wq hL hb ha hI => ?_, fun L gx wq hL hb ha hI => ?_, fun L gx wq hL hb ha hI => ?_, fun L gx wq hL hb ha hI => ?_, fun L gx wq hL hb ha hI => ?_, fun L gx wq hL hb ha hI => ?_, fun L gx wq hL hb ha hI => ?_, trivial⟩
                · exact Gives.plain (v := .pointer (some ⟨g3, 3, none⟩)) (w' := wq) (by simp [go_sem]) rfl hI
                · have e9 : L 9 = false := ha 9 (by kernel_rfl)
                  have cJ := hI.2.1.cell 3
                  simp only [e9] at cJ
                  exact Gives.plain (v := v) (w' := wq) (by simp [go_sem, cJ]) rfl hI
                · have a0 := hI.1.k9.cell 0
                  have a1 := hI.1.k9.cell 1
                  have a2 := hI.1.k9.cell 2
                  have a3 := hI.1.k9.cell 3
                  have a4 := hI.1.k9.cell 4
                  exact Gives.plain (v := .agg #[.int .i64 k1, .string a1', .string v1, .slice A1' n1 p1, .string f1]) (w' := wq) (by simp [go_sem, a0, a1, a2, a3, a4]) rfl hI
                · exact Gives.plain (v := .string x) (w' := wq) (by kernel_rfl) rfl hI
                · have b0 := hI.1.sb.k1.cell 0
                  have b1 := hI.1.sb.k1.cell 1
                  have b2 := hI.1.sb.k1.cell 2
                  have b3 := hI.1.sb.k1.cell 3
                  have b4 := hI.1.sb.k1.cell 4
                  exact Gives.plain (v := .agg #[.int .i64 2, .string y, .string ⟨#[]⟩, .slice none 0 0, .string ⟨#[]⟩]) (w' := wq) (by simp [go_sem, b0, b1, b2, b3, b4]) rfl hI
                · have e3 : L 5 = false := hL
                  have e4 : L 6 = false := ha 6 (by kernel_rfl)
                  have e5 : L 7 = false := ha 7 (by kernel_rfl)
                  have e7 : L 9 = false := ha 9 (by kernel_rfl)
                  simp only [List.map, e3, e4, e5, e7] at hI ⊢
                  obtain ⟨h1, h2, h3, _, _, _, _⟩ := hI
                  refine Gives.call (f := 30) (args := #[.agg #[.int .i64 k1, .string a1', .string v1, .slice A1' n1 p1, .string f1], .string x, .agg #[.int .i64 2, .string y, .string ⟨#[]⟩, .slice none 0 0, .string ⟨#[]⟩]]) (w' := wq) (by kernel_rfl) ((IH.out (fun b => (ok b ∨ m0 ≤ b) ∧ b < w14.heap.size) s1 _ x y wq HCS.out HFS.out HIY.out HXZ.out (fun b hb => Nat.lt_of_lt_of_le hb.2 h1.sz) h1.tm).mono ?_)
                  rintro e wz ⟨c, t', rfl, hc, hC, hb⟩
                  have hlo := h2.lt
                  exact ⟨_, rfl, (t', c, gx.2.2), rfl, (KeepsV.of_same ⟨.inr (.inr rfl), .inr (.inr rfl), .inr (.inr rfl), .inr (.inr rfl), .inr (.inr rfl), .inl rfl, (by first | exact .inr (.inr rfl) | exact .inr (.inl (by kernel_rfl))), (by first | exact .inr (.inr rfl) | exact .inr (.inl (by kernel_rfl))), .inr (.inr rfl), .inr (.inr rfl), trivial⟩), SbT.keep h1 hb, keep hb h2, (fun _ => (h3 rfl).keep hb), (fun _ => hC), (fun _ _ => hc.any fun b _ hq => ⟨fun h => hq.elim (fun hq => hq.1.elim (fun hq => by have h9 := (h3 rfl).lt b h; have := HOK.out b hq; have := HG3.out; omega) (fun hq => by have h9 := HV.out b h; omega)) (fun hq => by have h9 := (h3 rfl).lt b h; omega), hq.elim (fun hq => hq.1.elim .inl fun hq => .inr (by have := HM1G.out; omega)) fun hq => .inr (by omega)⟩), (fun h => by cases h), fun h => by cases h⟩
                · have e3 : L 5 = true := hb 5 (by kernel_rfl)
                  have e4 : L 6 = false := hL
                  have e5 : L 7 = false := ha 7 (by kernel_rfl)
                  have e7 : L 9 = false := ha 9 (by kernel_rfl)
                  simp only [List.map, e3, e4, e5, e7] at hI ⊢
                  have hbn := bel_alloc wq (.cells gx.2.1 25)
                  have hK := hI.keep (fun h => SbT.keep h hbn) hbn
                  obtain ⟨A8, c8, e8, _⟩ := (hI.2.2.2.2.1 rfl rfl).form
                  exact Gives.value (v := .slice (some ⟨wq.heap.size, 0, none⟩) 1 1) (w' := wq.alloc (.cells gx.2.1 25)) (by simp [go_sem, e8]) ⟨(gx.1, gx.2.1, wq.heap.size, gx.2.2.2), rfl, (KeepsV.of_same ⟨.inr (.inr rfl), .inr (.inr rfl), .inr (.inr rfl), .inr (.inr rfl), .inr (.inr rfl), (by first | exact .inr (.inr rfl) | exact .inr (.inl (by kernel_rfl))), .inl rfl, (by first | exact .inr (.inr rfl) | exact .inr (.inl (by kernel_rfl))), .inr (.inr rfl), .inr (.inr rfl), trivial⟩), hK.1, hK.2.1, hK.2.2.1, hK.2.2.2.1, hK.2.2.2.2.1, (fun _ _ => Blk.new _ _ _), fun h => by cases h⟩
                · have e3 : L 5 = true := hb 5 (by kernel_rfl)
                  have e4 : L 6 = true := hb 6 (by kernel_rfl)
                  have e5 : L 7 = false := hL
                  have e7 : L 9 = false := ha 9 (by kernel_rfl)
                  simp only [List.map, e3, e4, e5, e7] at hI ⊢
                  obtain ⟨h1, h2, h3, h4, h5, h6, _⟩ := hI
                  obtain ⟨css, ho, hl, hr⟩ := h3 rfl
                  have hxl : us.length ≤ 1001 := by have := HUL.out; omega
                  have hrow : ∀ b, v.ownBlock = some b → g3 + 1 ≤ b := fun b hb => ((h3 rfl).lt b hb).1
                  exact gives_append (.tmp 99) (.tmp 104) 23 rfl (g3 + 1) 25 i0 (.agg #[.int .i64 0, .string ⟨#[]⟩, .string ⟨#[]⟩, .slice none 0 0, .string ⟨#[]⟩]) 5 80 Tryz.underlying23 hi hz0 hz1 hz2 rfl (by decide) v _ _ rfl ho wq.heap.size (some ⟨gx.2.2.1, 0, none⟩) 1 1 gx.2.1.toList rfl (reads_agg (h6 rfl rfl) (h5 rfl rfl).size) (tm_one (h5 rfl rfl)) (by unfold maxLen; omega) (by omega) (by have := h2.lt; omega) (fun v' w' q2 q3 q4 => ⟨(gx.1, gx.2.1, gx.2.2.1, v'), rfl, (KeepsV.of_same ⟨.inr (.inr rfl), .inr (.inr rfl), .inr (.inr rfl), .inr (.inr rfl), .inr (.inr rfl), (by first | exact .inr (.inr rfl) | exact .inr (.inl (by kernel_rfl))), (by first | exact .inr (.inr rfl) | exact .inr (.inl (by kernel_rfl))), .inl rfl, .inr (.inr rfl), .inr (.inr rfl), trivial⟩), (fun h g r => SbT.grow h HOK.out g fun b e => by have := r b e; have := HG3.out; have := HV.out b e; omega) h1 q3 hrow, h2.grown q3 (fun e => by have := hrow _ e.symm; omega), (fun h => by cases h), h4, (fun _ h => by cases h), (fun _ h => by cases h), fun _ => AppT.push hl hr (h5 rfl rfl) q2 q3 q4⟩)
                · exact Gives.plain (v := .pointer (some ⟨g3, 3, none⟩)) (w' := wq) (by simp [go_sem]) rfl hI
                · have e3 : L 5 = true := hb 5 (by kernel_rfl)
                  have e4 : L 6 = true := hb 6 (by kernel_rfl)
                  have e5 : L 7 = true := hb 7 (by kernel_rfl)
                  have e7 : L 9 = false := hL
                  simp only [List.map, e3, e4, e5, e7] at hI ⊢
                  obtain ⟨h1, h2, _, h4, _, _, h8⟩ := hI
                  have h2 : Blk wq g3 25 #[.int .i64 5, .string a, .string zz, v, .string f] := h2
                  obtain ⟨A5, c5, e9, _⟩ := (h8 rfl).form (fun b hb => .inr (by omega))
                  have cJ := h2.cell 3
                  have fJ := h2.frozen 3
                  exact Gives.skip (w' := wq.setCell ⟨g3, 3, none⟩ gx.2.2.2) (by simp [go_sem, cJ, fJ, e9]) ⟨_, rfl, KeepsV.same, (fun h => SbT.grow h HOK.out (grown_set wq ⟨g3, 3, none⟩ _) fun r e => by have h9 : g3 = r := Option.some.inj e; have := HG3.out; have := HM1G.out; omega) h1, h2.set_ 3 _, (fun h => by cases h), h4, (fun _ h => by cases h), (fun _ h => by cases h), fun _ => (h8 rfl).set_ (p := ⟨g3, 3, none⟩) HNP.out (by show g3 < _; omega) _⟩
              · intro gx wq hI
                obtain ⟨h1, h2, _, h4, _, _, h8⟩ := hI
                have S3 := Lib.hid (h1.sb)
                have K3 : Hid (Blk wq g3 25 #[.int .i64 5, .string a, .string zz, gx.2.2.2, .string f]) := h2
                have HA3 := Lib.hid (h8 rfl)
                have HC3 := Lib.hid (h4 rfl)
                clear h1 h2 h4 h8
                have HQQ := Lib.hid (HQT.out.snoc (t := y0) (by rw [HUL.out]; exact HY.out) (by rw [HUL.out, HBN.out]; exact sub_new HZF.out HZX.out HZY.out HC1.out.1 HC3.out.1) HC3.out.2)
                go_wp2_with fail
                go_roundw
                case rel => exact ⟨j + 1, _, zz, _, by omega, by go_num, by rw [List.length_append, HUL.out]; rfl, HQQ, HUW, S3, K3, HA3⟩
                case measure => simp [intOf]; omega
          · have HNB := Lib.hid (show (decide (k = 5) && decide (j + 1 = ts.length)) = false from Bool.eq_false_iff.2 fun e => by
              rw [Bool.and_eq_true, decide_eq_true_eq, decide_eq_true_eq] at e
              exact hlast e)
            have HUV := Lib.hid (show BndOk k vr u (j + 1) ts.length from ⟨fun _ => HU.out.1 hlt, HU.out.2⟩)
            by_cases h5 : k = 5
            · have q5 : (k == 5) = true := beq_iff_eq.2 h5
              have n5 : (!(k == 5)) = false := by rw [q5]; rfl
              have m5 : (k != 5) = false := n5
              have hj5 : (j : Int) < (ts.length : Int) - 1 := by
                have : j + 1 ≠ ts.length := fun e => hlast ⟨h5, e⟩
                omega
              clear hlast h5
              go_upto_region 9 with (fail)
              clear c0 c3 w1x q5 n5 m5 hj5
              refine region_ghost (X := Trm × Array Value × Nat × Value) (by kernel_rfl) _ (fun gx => [.pointer (some ⟨g3, 3, none⟩), v, .pointer (some ⟨w.heap.size, 3, none⟩), .slice (some ad) ts.length cap, .int .i64 (↑j), .pointer (some (ad.add (j * 5))), .agg #[.int .i64 ky, .string ay, .string vy, .slice Ay ny cy, .string fy], .string x, .agg #[.int .i64 2, .string y, .string ⟨#[]⟩, .slice none 0 0, .string ⟨#[]⟩], .agg gx.2.1, .slice (some ⟨gx.2.2.1, 0, none⟩) 1 1, gx.2.2.2, .pointer (some ⟨g3, 3, none⟩), undef]) [true, true, true, true, true, true, true, true, true, true, true, true, true, true] [9, 10, 11, 13] (InvU (SbS ok w (trmC k a vr (some ad) ts.length cap f) y (some ad) ts g1 g2) g3 (fun b => ok b ∨ g3 < b) (SubC x.data.toList y.data.toList y0) k a u f v us) (varM y, #[], 0, .nilFunc) (by kernel_rfl) (fun gx => by simp [fin, finOn, dstAt, List.range, List.range.loop, Act.put]; rfl) (fun _ => by kernel_rfl) (by kernel_rfl) ⟨S1.out.keep (below_drew (Below.refl _ _)), K3.out.drew, (fun _ => HA.out.keep (below_drew (Below.refl _ _))), (fun h => by cases h), (fun h => by cases h), (fun h => by cases h), fun h => by cases h⟩ ?_ ?_
              · refine ⟨fun L gx wq hL hb ha hI => ?_, fun L gx wq hL hb ha hI => ?_, fun L gx wq hL hb ha hI => ?_, fun L gx wq hL hb ha hI => ?_, fun L gx wq hL hb ha hI => ?_, fun L gx wq hL hb ha hI => ?_, fun L gx wq hL hb ha hI => ?_, fun L gx wq hL hb ha hI => ?_, fun L gx wq hL hb ha hI => ?_, fun L gx wq hL hb ha hI => ?_, fun L gx wq hL hb ha hI => ?_, fun L gx wq hL hb ha hI => ?_, fun L gx wq hL hb ha hI => ?_, fun L gx wq hL hb ha hI => ?_, trivial⟩
                · exact Gives.plain (v := .pointer (some ⟨g3, 3, none⟩)) (w' := wq) (by simp [go_sem]) rfl hI
                · have e9 : L 13 = false := ha 13 (by kernel_rfl)
                  have cJ := hI.2.1.cell 3
                  simp only [e9] at cJ
                  exact Gives.plain (v := v) (w' := wq) (by simp [go_sem, cJ]) rfl hI
                · exact Gives.plain (v := .pointer (some ⟨w.heap.size, 3, none⟩)) (w' := wq) (by simp [go_sem]) rfl hI
                · have cJ := hI.1.k0.cell 3
                  dsimp only [trmC] at cJ
                  exact Gives.plain (v := .slice (some ad) ts.length cap) (w' := wq) (by simp [go_sem, cJ]) rfl hI
                · exact Gives.plain (v := .int .i64 (↑j)) (w' := wq) (by kernel_rfl) rfl hI
                · skip
                  exact Gives.plain (v := .pointer (some (ad.add (j * 5)))) (w' := wq) (by simp [go_sem, hlt]; try omega) rfl hI
                · obtain ⟨d0, d1, d2, d3, d4⟩ := arg_cells hI.1.bel HAD.out HCY.out
                  exact Gives.plain (v := .agg #[.int .i64 ky, .string ay, .string vy, .slice Ay ny cy, .string fy]) (w' := wq) (by simp [go_sem, d0, d1, d2, d3, d4]) rfl hI
                · exact Gives.plain (v := .string x) (w' := wq) (by kernel_rfl) rfl hI
                · have b0 := hI.1.k1.cell 0
                  have b1 := hI.1.k1.cell 1
                  have b2 := hI.1.k1.cell 2
                  have b3 := hI.1.k1.cell 3
                  have b4 := hI.1.k1.cell 4
                  exact Gives.plain (v := .agg #[.int .i64 2, .string y, .string ⟨#[]⟩, .slice none 0 0, .string ⟨#[]⟩]) (w' := wq) (by simp [go_sem, b0, b1, b2, b3, b4]) rfl hI
                · have e3 : L 9 = false := hL
                  have e4 : L 10 = false := ha 10 (by kernel_rfl)
                  have e5 : L 11 = false := ha 11 (by kernel_rfl)
                  have e7 : L 13 = false := ha 13 (by kernel_rfl)
                  simp only [List.map, e3, e4, e5, e7] at hI ⊢
                  obtain ⟨h1, h2, h3, _, _, _, _⟩ := hI
                  refine Gives.call (f := 30) (args := #[.agg #[.int .i64 ky, .string ay, .string vy, .slice Ay ny cy, .string fy], .string x, .agg #[.int .i64 2, .string y, .string ⟨#[]⟩, .slice none 0 0, .string ⟨#[]⟩]]) (w' := wq) (by kernel_rfl) ((IH.out ok y0 _ x y wq HCN.out HFY.out HIY.out HXZ.out (fun b hb => Nat.lt_of_lt_of_le (HOK.out b hb) h1.bel.size) (HTY.out.keep h1.bel)).mono ?_)
                  rintro e wz ⟨c, t', rfl, hc, hC, hb⟩
                  have hlo := h2.lt
                  exact ⟨_, rfl, (t', c, gx.2.2), rfl, (KeepsV.of_same ⟨.inr (.inr rfl), .inr (.inr rfl), .inr (.inr rfl), .inr (.inr rfl), .inr (.inr rfl), .inr (.inr rfl), .inr (.inr rfl), .inr (.inr rfl), .inr (.inr rfl), .inl rfl, (by first | exact .inr (.inr rfl) | exact .inr (.inl (by kernel_rfl))), (by first | exact .inr (.inr rfl) | exact .inr (.inl (by kernel_rfl))), .inr (.inr rfl), .inr (.inr rfl), trivial⟩), SbS.keep h1 hb, keep hb h2, (fun _ => (h3 rfl).keep hb), (fun _ => hC), (fun _ _ => hc.any fun b _ hq => ⟨fun h => hq.elim (fun hq => by have h9 := (h3 rfl).lt b h; have := HOK.out b hq; have := HG3.out; omega) (fun hq => by have h9 := (h3 rfl).lt b h; omega), hq.elim .inl fun hq => .inr (by omega)⟩), (fun h => by cases h), fun h => by cases h⟩
                · have e3 : L 9 = true := hb 9 (by kernel_rfl)
                  have e4 : L 10 = false := hL
                  have e5 : L 11 = false := ha 11 (by kernel_rfl)
                  have e7 : L 13 = false := ha 13 (by kernel_rfl)
                  simp only [List.map, e3, e4, e5, e7] at hI ⊢
                  have hbn := bel_alloc wq (.cells gx.2.1 25)
                  have hK := hI.keep (fun h => SbS.keep h hbn) hbn
                  obtain ⟨A8, c8, e8, _⟩ := (hI.2.2.2.2.1 rfl rfl).form
                  exact Gives.value (v := .slice (some ⟨wq.heap.size, 0, none⟩) 1 1) (w' := wq.alloc (.cells gx.2.1 25)) (by simp [go_sem, e8]) ⟨(gx.1, gx.2.1, wq.heap.size, gx.2.2.2), rfl, (KeepsV.of_same ⟨.inr (.inr rfl), .inr (.inr rfl), .inr (.inr rfl), .inr (.inr rfl), .inr (.inr rfl), .inr (.inr rfl), .inr (.inr rfl), .inr (.inr rfl), .inr (.inr rfl), (by first | exact .inr (.inr rfl) | exact .inr (.inl (by kernel_rfl))), .inl rfl, (by first | exact .inr (.inr rfl) | exact .inr (.inl (by kernel_rfl))), .inr (.inr rfl), .inr (.inr rfl), trivial⟩), hK.1, hK.2.1, hK.2.2.1, hK.2.2.2.1, hK.2.2.2.2.1, (fun _ _ => Blk.new _ _ _), fun h => by cases h⟩
                · have e3 : L 9 = true := hb 9 (by kernel_rfl)
                  have e4 : L 10 = true := hb 10 (by kernel_rfl)
                  have e5 : L 11 = false := hL
                  have e7 : L 13 = false := ha 13 (by kernel_rfl)
                  simp only [List.map, e3, e4, e5, e7] at hI ⊢
                  obtain ⟨h1, h2, h3, h4, h5, h6, _⟩ := hI
                  obtain ⟨css, ho, hl, hr⟩ := h3 rfl
                  have hxl : us.length ≤ 1001 := by have := HUL.out; omega
                  have hrow : ∀ b, v.ownBlock = some b → g3 + 1 ≤ b := fun b hb => ((h3 rfl).lt b hb).1
                  exact gives_append (.tmp 43) (.tmp 52) 23 rfl (g3 + 1) 25 i0 (.agg #[.int .i64 0, .string ⟨#[]⟩, .string ⟨#[]⟩, .slice none 0 0, .string ⟨#[]⟩]) 5 80 Tryz.underlying23 hi hz0 hz1 hz2 rfl (by decide) v _ _ rfl ho wq.heap.size (some ⟨gx.2.2.1, 0, none⟩) 1 1 gx.2.1.toList rfl (reads_agg (h6 rfl rfl) (h5 rfl rfl).size) (tm_one (h5 rfl rfl)) (by unfold maxLen; omega) (by omega) (by have := h2.lt; omega) (fun v' w' q2 q3 q4 => ⟨(gx.1, gx.2.1, gx.2.2.1, v'), rfl, (KeepsV.of_same ⟨.inr (.inr rfl), .inr (.inr rfl), .inr (.inr rfl), .inr (.inr rfl), .inr (.inr rfl), .inr (.inr rfl), .inr (.inr rfl), .inr (.inr rfl), .inr (.inr rfl), (by first | exact .inr (.inr rfl) | exact .inr (.inl (by kernel_rfl))), (by first | exact .inr (.inr rfl) | exact .inr (.inl (by kernel_rfl))), .inl rfl, .inr (.inr rfl), .inr (.inr rfl), trivial⟩), (fun h g r => SbS.grow h HOK.out g fun b e => by have := r b e; have := HG3.out; omega) h1 q3 hrow, h2.grown q3 (fun e => by have := hrow _ e.symm; omega), (fun h => by cases h), h4, (fun _ h => by cases h), (fun _ h => by cases h), fun _ => AppT.push hl hr (h5 rfl rfl) q2 q3 q4⟩)
                · exact Gives.plain (v := .pointer (some ⟨g3, 3, none⟩)) (w' := wq) (by simp [go_sem]) rfl hI
                · have e3 : L 9 = true := hb 9 (by kernel_rfl)
                  have e4 : L 10 = true := hb 10 (by kernel_rfl)
                  have e5 : L 11 = true := hb 11 (by kernel_rfl)
                  have e7 : L 13 = false := hL
                  simp only [List.map, e3, e4, e5, e7] at hI ⊢
                  obtain ⟨h1, h2, _, h4, _, _, h8⟩ := hI
                  have h2 : Blk wq g3 25 #[.int .i64 k, .string a, .string u, v, .string f] := h2
                  obtain ⟨A5, c5, e9, _⟩ := (h8 rfl).form (fun b hb => .inr (by omega))
                  have cJ := h2.cell 3
                  have fJ := h2.frozen 3
                  exact Gives.skip (w' := wq.setCell ⟨g3, 3, none⟩ gx.2.2.2) (by simp [go_sem, cJ, fJ, e9]) ⟨_, rfl, KeepsV.same, (fun h => SbS.grow h HOK.out (grown_set wq ⟨g3, 3, none⟩ _) fun r e => by have h9 : g3 = r := Option.some.inj e; have := HG3.out; omega) h1, h2.set_ 3 _, (fun h => by cases h), h4, (fun _ h => by cases h), (fun _ h => by cases h), fun _ => (h8 rfl).set_ (p := ⟨g3, 3, none⟩) HNP.out (by show g3 < _; omega) _⟩
              · intro gx wq hI
                obtain ⟨h1, h2, _, h4, _, _, h8⟩ := hI
                have S3 := Lib.hid (h1)
                have K3 : Hid (Blk wq g3 25 #[.int .i64 k, .string a, .string u, gx.2.2.2, .string f]) := h2
                have HA3 := Lib.hid (h8 rfl)
                have HC3 := Lib.hid (h4 rfl)
                clear h1 h2 h4 h8
                have HQQ := Lib.hid (HQ.out.snoc (t := y0) (by rw [HUL.out]; exact HY.out) (by rw [HUL.out, HNB.out]; exact HC3.out.1) HC3.out.2)
                go_wp2_with fail
                go_roundw
                case rel => exact ⟨j + 1, _, u, _, by omega, by go_num, by rw [List.length_append, HUL.out]; rfl, HQQ, HUV, S3, K3, HA3⟩
                case measure => simp [intOf]; omega
            · have q5 : (k == 5) = false := beq_eq_false_iff_ne.2 h5
              have n5 : (!(k == 5)) = true := by rw [q5]; rfl
              have m5 : (k != 5) = true := n5
              clear hlast h5
              go_upto_region 9 with (fail)
              clear c0 c3 w1x q5 n5 m5
              refine region_ghost (X := Trm × Array Value × Nat × Value) (by kernel_rfl) _ (fun gx => [.pointer (some ⟨g3, 3, none⟩), v, .pointer (some ⟨w.heap.size, 3, none⟩), .slice (some ad) ts.length cap, .int .i64 (↑j), .pointer (some (ad.add (j * 5))), .agg #[.int .i64 ky, .string ay, .string vy, .slice Ay ny cy, .string fy], .string x, .agg #[.int .i64 2, .string y, .string ⟨#[]⟩, .slice none 0 0, .string ⟨#[]⟩], .agg gx.2.1, .slice (some ⟨gx.2.2.1, 0, none⟩) 1 1, gx.2.2.2, .pointer (some ⟨g3, 3, none⟩), undef]) [true, true, true, true, true, true, true, true, true, true, true, true, true, true] [9, 10, 11, 13] (InvU (SbS ok w (trmC k a vr (some ad) ts.length cap f) y (some ad) ts g1 g2) g3 (fun b => ok b ∨ g3 < b) (SubC x.data.toList y.data.toList y0) k a u f v us) (varM y, #[], 0, .nilFunc) (by kernel_rfl) (fun gx => by simp [fin, finOn, dstAt, List.range, List.range.loop, Act.put]; rfl) (fun _ => by kernel_rfl) (by kernel_rfl) ⟨S1.out.keep (below_drew (Below.refl _ _)), K3.out.drew, (fun _ => HA.out.keep (below_drew (Below.refl _ _))), (fun h => by cases h), (fun h => by cases h), (fun h => by cases h), fun h => by cases h⟩ ?_ ?_
              · refine ⟨fun L gx wq hL hb ha hI => ?_, fun L gx wq hL hb ha hI => ?_, fun L gx wq hL hb ha hI => ?_, fun L gx wq hL hb ha hI => ?_, fun L gx wq hL hb ha hI => ?_, fun L gx wq hL hb ha hI => ?_, fun L gx wq hL hb ha hI => ?_, fun L gx wq hL hb ha hI => ?_, fun L gx wq hL hb ha hI => ?_, fun L gx wq hL hb ha hI => ?_, fun L gx wq hL hb ha hI => ?_, fun L gx wq hL hb ha hI => ?_, fun L gx wq hL hb ha hI => ?_, fun L gx wq hL hb ha hI => ?_, trivial⟩
                · exact Gives.plain (v := .pointer (some ⟨g3, 3, none⟩)) (w' := wq) (by simp [go_sem]) rfl hI
                · have e9 : L 13 = false := ha 13 (by kernel_rfl)
                  have cJ := hI.2.1.cell 3
                  simp only [e9] at cJ
                  exact Gives.plain (v := v) (w' := wq) (by simp [go_sem, cJ]) rfl hI
                · exact Gives.plain (v := .pointer (some ⟨w.heap.size, 3, none⟩)) (w' := wq) (by simp [go_sem]) rfl hI
                · have cJ := hI.1.k0.cell 3
                  dsimp only [trmC] at cJ
                  exact Gives.plain (v := .slice (some ad) ts.length cap) (w' := wq) (by simp [go_sem, cJ]) rfl hI
                · exact Gives.plain (v := .int .i64 (↑j)) (w' := wq) (by kernel_rfl) rfl hI
                · skip
                  exact Gives.plain (v := .pointer (some (ad.add (j * 5)))) (w' := wq) (by simp [go_sem, hlt]; try omega) rfl hI
                · obtain ⟨d0, d1, d2, d3, d4⟩ := arg_cells hI.1.bel HAD.out HCY.out
                  exact Gives.plain (v := .agg #[.int .i64 ky, .string ay, .string vy, .slice Ay ny cy, .string fy]) (w' := wq) (by simp [go_sem, d0, d1, d2, d3, d4]) rfl hI
                · exact Gives.plain (v := .string x) (w' := wq) (by kernel_rfl) rfl hI
                · have b0 := hI.1.k1.cell 0
                  have b1 := hI.1.k1.cell 1
                  have b2 := hI.1.k1.cell 2
                  have b3 := hI.1.k1.cell 3
                  have b4 := hI.1.k1.cell 4
                  exact Gives.plain (v := .agg #[.int .i64 2, .string y, .string ⟨#[]⟩, .slice none 0 0, .string ⟨#[]⟩]) (w' := wq) (by simp [go_sem, b0, b1, b2, b3, b4]) rfl hI
                · have e3 : L 9 = false := hL
                  have e4 : L 10 = false := ha 10 (by kernel_rfl)
                  have e5 : L 11 = false := ha 11 (by kernel_rfl)
                  have e7 : L 13 = false := ha 13 (by kernel_rfl)
                  simp only [List.map, e3, e4, e5, e7] at hI ⊢
                  obtain ⟨h1, h2, h3, _, _, _, _⟩ := hI
                  refine Gives.call (f := 30) (args := #[.agg #[.int .i64 ky, .string ay, .string vy, .slice Ay ny cy, .string fy], .string x, .agg #[.int .i64 2, .string y, .string ⟨#[]⟩, .slice none 0 0, .string ⟨#[]⟩]]) (w' := wq) (by kernel_rfl) ((IH.out ok y0 _ x y wq HCN.out HFY.out HIY.out HXZ.out (fun b hb => Nat.lt_of_lt_of_le (HOK.out b hb) h1.bel.size) (HTY.out.keep h1.bel)).mono ?_)
                  rintro e wz ⟨c, t', rfl, hc, hC, hb⟩
                  have hlo := h2.lt
                  exact ⟨_, rfl, (t', c, gx.2.2), rfl, (KeepsV.of_same ⟨.inr (.inr rfl), .inr (.inr rfl), .inr (.inr rfl), .inr (.inr rfl), .inr (.inr rfl), .inr (.inr rfl), .inr (.inr rfl), .inr (.inr rfl), .inr (.inr rfl), .inl rfl, (by first | exact .inr (.inr rfl) | exact .inr (.inl (by kernel_rfl))), (by first | exact .inr (.inr rfl) | exact .inr (.inl (by kernel_rfl))), .inr (.inr rfl), .inr (.inr rfl), trivial⟩), SbS.keep h1 hb, keep hb h2, (fun _ => (h3 rfl).keep hb), (fun _ => hC), (fun _ _ => hc.any fun b _ hq => ⟨fun h => hq.elim (fun hq => by have h9 := (h3 rfl).lt b h; have := HOK.out b hq; have := HG3.out; omega) (fun hq => by have h9 := (h3 rfl).lt b h; omega), hq.elim .inl fun hq => .inr (by omega)⟩), (fun h => by cases h), fun h => by cases h⟩
                · have e3 : L 9 = true := hb 9 (by kernel_rfl)
                  have e4 : L 10 = false := hL
                  have e5 : L 11 = false := ha 11 (by kernel_rfl)
                  have e7 : L 13 = false := ha 13 (by kernel_rfl)
                  simp only [List.map, e3, e4, e5, e7] at hI ⊢
                  have hbn := bel_alloc wq (.cells gx.2.1 25)
                  have hK := hI.keep (fun h => SbS.keep h hbn) hbn
                  obtain ⟨A8, c8, e8, _⟩ := (hI.2.2.2.2.1 rfl rfl).form
                  exact Gives.value (v := .slice (some ⟨wq.heap.size, 0, none⟩) 1 1) (w' := wq.alloc (.cells gx.2.1 25)) (by simp [go_sem, e8]) ⟨(gx.1, gx.2.1, wq.heap.size, gx.2.2.2), rfl, (KeepsV.of_same ⟨.inr (.inr rfl), .inr (.inr rfl), .inr (.inr rfl), .inr (.inr rfl), .inr (.inr rfl), .inr (.inr rfl), .inr (.inr rfl), .inr (.inr rfl), .inr (.inr rfl), (by first | exact .inr (.inr rfl) | exact .inr (.inl (by kernel_rfl))), .inl rfl, (by first | exact .inr (.inr rfl) | exact .inr (.inl (by kernel_rfl))), .inr (.inr rfl), .inr (.inr rfl), trivial⟩), hK.1, hK.2.1, hK.2.2.1, hK.2.2.2.1, hK.2.2.2.2.1, (fun _ _ => Blk.new _ _ _), fun h => by cases h⟩
                · have e3 : L 9 = true := hb 9 (by kernel_rfl)
                  have e4 : L 10 = true := hb 10 (by kernel_rfl)
                  have e5 : L 11 = false := hL
                  have e7 : L 13 = false := ha 13 (by kernel_rfl)
                  simp only [List.map, e3, e4, e5, e7] at hI ⊢
                  obtain ⟨h1, h2, h3, h4, h5, h6, _⟩ := hI
                  obtain ⟨css, ho, hl, hr⟩ := h3 rfl
                  have hxl : us.length ≤ 1001 := by have := HUL.out; omega
                  have hrow : ∀ b, v.ownBlock = some b → g3 + 1 ≤ b := fun b hb => ((h3 rfl).lt b hb).1
                  exact gives_append (.tmp 43) (.tmp 52) 23 rfl (g3 + 1) 25 i0 (.agg #[.int .i64 0, .string ⟨#[]⟩, .string ⟨#[]⟩, .slice none 0 0, .string ⟨#[]⟩]) 5 80 Tryz.underlying23 hi hz0 hz1 hz2 rfl (by decide) v _ _ rfl ho wq.heap.size (some ⟨gx.2.2.1, 0, none⟩) 1 1 gx.2.1.toList rfl (reads_agg (h6 rfl rfl) (h5 rfl rfl).size) (tm_one (h5 rfl rfl)) (by unfold maxLen; omega) (by omega) (by have := h2.lt; omega) (fun v' w' q2 q3 q4 => ⟨(gx.1, gx.2.1, gx.2.2.1, v'), rfl, (KeepsV.of_same ⟨.inr (.inr rfl), .inr (.inr rfl), .inr (.inr rfl), .inr (.inr rfl), .inr (.inr rfl), .inr (.inr rfl), .inr (.inr rfl), .inr (.inr rfl), .inr (.inr rfl), (by first | exact .inr (.inr rfl) | exact .inr (.inl (by kernel_rfl))), (by first | exact .inr (.inr rfl) | exact .inr (.inl (by kernel_rfl))), .inl rfl, .inr (.inr rfl), .inr (.inr rfl), trivial⟩), (fun h g r => SbS.grow h HOK.out g fun b e => by have := r b e; have := HG3.out; omega) h1 q3 hrow, h2.grown q3 (fun e => by have := hrow _ e.symm; omega), (fun h => by cases h), h4, (fun _ h => by cases h), (fun _ h => by cases h), fun _ => AppT.push hl hr (h5 rfl rfl) q2 q3 q4⟩)
                · exact Gives.plain (v := .pointer (some ⟨g3, 3, none⟩)) (w' := wq) (by simp [go_sem]) rfl hI
                · have e3 : L 9 = true := hb 9 (by kernel_rfl)
                  have e4 : L 10 = true := hb 10 (by kernel_rfl)
                  have e5 : L 11 = true := hb 11 (by kernel_rfl)
                  have e7 : L 13 = false := hL
                  simp only [List.map, e3, e4, e5, e7] at hI ⊢
                  obtain ⟨h1, h2, _, h4, _, _, h8⟩ := hI
                  have h2 : Blk wq g3 25 #[.int .i64 k, .string a, .string u, v, .string f] := h2
                  obtain ⟨A5, c5, e9, _⟩ := (h8 rfl).form (fun b hb => .inr (by omega))
                  have cJ := h2.cell 3
                  have fJ := h2.frozen 3
                  exact Gives.skip (w' := wq.setCell ⟨g3, 3, none⟩ gx.2.2.2) (by simp [go_sem, cJ, fJ, e9]) ⟨_, rfl, KeepsV.same, (fun h => SbS.grow h HOK.out (grown_set wq ⟨g3, 3, none⟩ _) fun r e => by have h9 : g3 = r := Option.some.inj e; have := HG3.out; omega) h1, h2.set_ 3 _, (fun h => by cases h), h4, (fun _ h => by cases h), (fun _ h => by cases h), fun _ => (h8 rfl).set_ (p := ⟨g3, 3, none⟩) HNP.out (by show g3 < _; omega) _⟩
              · intro gx wq hI
                obtain ⟨h1, h2, _, h4, _, _, h8⟩ := hI
                have S3 := Lib.hid (h1)
                have K3 : Hid (Blk wq g3 25 #[.int .i64 k, .string a, .string u, gx.2.2.2, .string f]) := h2
                have HA3 := Lib.hid (h8 rfl)
                have HC3 := Lib.hid (h4 rfl)
                clear h1 h2 h4 h8
                have HQQ := Lib.hid (HQ.out.snoc (t := y0) (by rw [HUL.out]; exact HY.out) (by rw [HUL.out, HNB.out]; exact HC3.out.1) HC3.out.2)
                go_wp2_with fail
                go_roundw
                case rel => exact ⟨j + 1, _, u, _, by omega, by go_num, by rw [List.length_append, HUL.out]; rfl, HQQ, HUV, S3, K3, HA3⟩
                case measure => simp [intOf]; omega
        · obtain rfl : j = ts.length := by omega
          obtain ⟨A5, c5, e9, hc5, hd5, hT5⟩ := HA.out.form (fun b hb => .inr (by omega))
          subst e9
          have HT5 := Lib.hid hT5
          clear hT5
          have c3 := S1.out.k0.cell 3
          have k0 := fun i => K3.out.cell i
          have e0 := fun i => S1.out.k2.cell i
          have f0 := fun i => S1.out.k2.frozen i
          go_wp2_with fail
          have hwf := set5 S1.out.k2 (.int .i64 k) (.string a) (.string u) (.slice A5 us.length c5) (.string f)
          have hgr := grown5 wr g2 (.int .i64 k) (.string a) (.string u) (.slice A5 us.length c5) (.string f)
          have hgf := S1.out.bel.grown hgr S1.out.bel.size (fun r e => by have := Option.some.inj e; have := S1.out.l2; omega)
          have hta := HT5.out.map (ok' := fun b => ok b ∨ w.heap.size ≤ b) hgr.size (fun b _ h => h.elim .inl fun h => .inr (by have := HG3.out; omega)) fun p hp ho => World.cell?_of_block (hgr.block _ hp fun e => by
            have h1 := Option.some.inj e
            have h2 := S1.out.l2
            have h3 := HG3.out
            rcases ho with ho | ho
            · have := HOK.out _ ho; omega
            · omega)
          clear e0 f0 c3 k0 hgr
          generalize ((((wr.setCell ⟨g2, 0, none⟩ (.int .i64 k)).setCell ⟨g2, 1, none⟩ (.string a)).setCell ⟨g2, 2, none⟩ (.string u)).setCell ⟨g2, 3, none⟩ (.slice A5 us.length c5)).setCell ⟨g2, 4, none⟩ (.string f) = wf at *
          have dC := fun i => hwf.cell i
          exact bodyPost_ret (v := .agg (trmC k a u A5 us.length c5 f)) (by simp [results, Tryz.results30, go_sem, dC]) rfl ⟨_, .mk k a u f us, rfl, TmAt.of HSZ.out.1 (HU.out.2.elim (fun h => by rw [h]; exact HSZ.out.2.1) fun h => by have := id_size h.2; omega) HSZ.out.2.2.1 hc5 hd5 hta, HSN.out us u HUL.out HU.out.2 HQ.out, hgf⟩
end Go.Proofs.YtpokelkneblafaaGreatDoor
