/- scripts: the part of an operator. -/
import Derived.Test.YthpioplpfmlgcaaGreatDoorHa3ec1ddb
import Derived.BigQuiet
import Derived.Deep.DeepCutAuto
import Derived.Deep.CutBlock
namespace Go.Proofs.YthpioplpfmlgcaaGreatDoor.El
open Go.Proofs.YthpioplpfmlgcaaGreatDoor.At
open Go.Proofs.YthpioplpfmlgcaaGreatDoor.Ch
open Go.Proofs.YthpioplpfmlgcaaGreatDoor.Sp
open Go.Proofs.YthpioplpfmlgcaaGreatDoor.Sy
open Go.RowKit
abbrev prtC (v : Value) (fin vr : ByteArray) : Array Value := #[.int .i64 0, .string ⟨#[]⟩, .string ⟨#[]⟩, .slice none 0 0, .string ⟨#[]⟩, v, .string fin, .string vr]
abbrev zerPC : Array Value := prtC (.slice none 0 0) ⟨#[]⟩ ⟨#[]⟩
def sets8 (x : World) (g : Nat) (c0 c1 c2 c3 c4 c5 c6 c7 : Value) : World := (((((((x.setCell ⟨g, 0, none⟩ c0).setCell ⟨g, 1, none⟩ c1).setCell ⟨g, 2, none⟩ c2).setCell ⟨g, 3, none⟩ c3).setCell ⟨g, 4, none⟩ c4).setCell ⟨g, 5, none⟩ c5).setCell ⟨g, 6, none⟩ c6).setCell ⟨g, 7, none⟩ c7
theorem grown8 (x : World) (g : Nat) (c0 c1 c2 c3 c4 c5 c6 c7 : Value) : x.grownBy (sets8 x g c0 c1 c2 c3 c4 c5 c6 c7) (some g) :=
  grown_two (grown_two (grown_two (grown5 x g c0 c1 c2 c3 c4) (grown_set' _ ⟨g, 5, none⟩ c5)) (grown_set' _ ⟨g, 6, none⟩ c6)) (grown_set' _ ⟨g, 7, none⟩ c7)
theorem set8 {x : World} {g : Nat} {t : TypeId} {d0 d1 d2 d3 d4 d5 d6 d7 : Value} (h : Blk x g t #[d0, d1, d2, d3, d4, d5, d6, d7]) (c0 c1 c2 c3 c4 c5 c6 c7 : Value) : Blk (sets8 x g c0 c1 c2 c3 c4 c5 c6 c7) g t #[c0, c1, c2, c3, c4, c5, c6, c7] := by
  have h0 : Blk (x.setCell ⟨g, 0, none⟩ c0) g t #[c0, d1, d2, d3, d4, d5, d6, d7] := h.set_ 0 c0
  have h1 : Blk ((x.setCell ⟨g, 0, none⟩ c0).setCell ⟨g, 1, none⟩ c1) g t #[c0, c1, d2, d3, d4, d5, d6, d7] := h0.set_ 1 c1
  have h2 : Blk (((x.setCell ⟨g, 0, none⟩ c0).setCell ⟨g, 1, none⟩ c1).setCell ⟨g, 2, none⟩ c2) g t #[c0, c1, c2, d3, d4, d5, d6, d7] := h1.set_ 2 c2
  have h3 : Blk ((((x.setCell ⟨g, 0, none⟩ c0).setCell ⟨g, 1, none⟩ c1).setCell ⟨g, 2, none⟩ c2).setCell ⟨g, 3, none⟩ c3) g t #[c0, c1, c2, c3, d4, d5, d6, d7] := h2.set_ 3 c3
  have h4 : Blk (((((x.setCell ⟨g, 0, none⟩ c0).setCell ⟨g, 1, none⟩ c1).setCell ⟨g, 2, none⟩ c2).setCell ⟨g, 3, none⟩ c3).setCell ⟨g, 4, none⟩ c4) g t #[c0, c1, c2, c3, c4, d5, d6, d7] := h3.set_ 4 c4
  have h5 : Blk ((((((x.setCell ⟨g, 0, none⟩ c0).setCell ⟨g, 1, none⟩ c1).setCell ⟨g, 2, none⟩ c2).setCell ⟨g, 3, none⟩ c3).setCell ⟨g, 4, none⟩ c4).setCell ⟨g, 5, none⟩ c5) g t #[c0, c1, c2, c3, c4, c5, d6, d7] := h4.set_ 5 c5
  have h6 : Blk (((((((x.setCell ⟨g, 0, none⟩ c0).setCell ⟨g, 1, none⟩ c1).setCell ⟨g, 2, none⟩ c2).setCell ⟨g, 3, none⟩ c3).setCell ⟨g, 4, none⟩ c4).setCell ⟨g, 5, none⟩ c5).setCell ⟨g, 6, none⟩ c6) g t #[c0, c1, c2, c3, c4, c5, c6, d7] := h5.set_ 6 c6
  have h7 : Blk ((((((((x.setCell ⟨g, 0, none⟩ c0).setCell ⟨g, 1, none⟩ c1).setCell ⟨g, 2, none⟩ c2).setCell ⟨g, 3, none⟩ c3).setCell ⟨g, 4, none⟩ c4).setCell ⟨g, 5, none⟩ c5).setCell ⟨g, 6, none⟩ c6).setCell ⟨g, 7, none⟩ c7) g t #[c0, c1, c2, c3, c4, c5, c6, c7] := h6.set_ 7 c7
  exact h7
theorem below8 {B : Nat} {w x : World} (h : Below B w x) (hB : B ≤ x.heap.size) {g : Nat} (hg : B ≤ g) (c0 c1 c2 c3 c4 c5 c6 c7 : Value) : Below B w (sets8 x g c0 c1 c2 c3 c4 c5 c6 c7) :=
  h.grown (grown8 x g c0 c1 c2 c3 c4 c5 c6 c7) hB fun r e => by have := Option.some.inj e; omega
/-- the eight cells of a part -/
def PrtAt (ok : Nat → Prop) (w : World) (p : Prt) (c : Array Value) : Prop := ∃ k a v f A0 n0 c0 A cap, c = #[.int .i64 k, .string a, .string v, .slice A0 n0 c0, .string f, .slice A p.scr.length cap, .string p.fin, .string p.vr] ∧ TmAt ok w p.opnd #[.int .i64 k, .string a, .string v, .slice A0 n0 c0, .string f] ∧ p.scr.length ≤ cap ∧ cap ≤ 9223372036854775807 ∧ TmsAt ok w A p.scr ∧ p.fin.size ≤ 1000 ∧ p.vr.size ≤ 1000 ∧ p.scr.length ≤ 1000
/-- behind scripts -/
def PrtP (m : Mea Prt) (w : World) (e : Ending) (w' : World) : Prop := (match m with
  | .ok p => ∃ c, e = .returned (.tuple #[.agg c, .pointer none]) ∧ PrtAt (fun b => w.heap.size ≤ b) w' p c
  | .bad er q => ∃ g, e = .returned (.tuple #[.agg zerPC, .pointer (some ⟨g, 0, none⟩)]) ∧ FailAt (fun b => w.heap.size ≤ b) w' g er q) ∧ Below w.heap.size w w'
/-- the boxes of scripts; v: the scripts so far -/
structure ScS (w : World) (cs : Array Value) (fin vr : ByteArray) (v : Value) (xs : List Trm) (x : World) : Prop where
  bel : Below w.heap.size w x
  k0 : Blk x w.heap.size 25 cs
  k1 : Blk x (w.heap.size + 1) 113 zerPC
  k2 : Blk x (w.heap.size + 2) 113 (prtC v fin vr)
  app : AppT (fun b => w.heap.size + 2 < b) x (w.heap.size + 3) v xs
theorem ScS.keep {w x x' : World} {cs : Array Value} {fin vr : ByteArray} {v : Value} {xs : List Trm} (h : ScS w cs fin vr v xs x) (hb : Below x.heap.size x x') : ScS w cs fin vr v xs x' :=
  ⟨h.bel.trans (hb.mono h.bel.size), _root_.Go.Proofs.YthpioplpfmlgcaaGreatDoor.keep hb h.k0, _root_.Go.Proofs.YthpioplpfmlgcaaGreatDoor.keep hb h.k1, _root_.Go.Proofs.YthpioplpfmlgcaaGreatDoor.keep hb h.k2, h.app.keep hb⟩
theorem ScS.grow {w x x' : World} {cs : Array Value} {fin vr : ByteArray} {v : Value} {xs : List Trm} {g : Nat} (h : ScS w cs fin vr v xs x) (hg : x.grownBy x' (some g)) (h1 : w.heap.size + 2 < g) (h2 : ∀ b, v.ownBlock = some b → b < g) (h3 : AppT (fun b => w.heap.size + 2 < b ∧ b < g) x (w.heap.size + 3) v xs) : ScS w cs fin vr v xs x' :=
  ⟨h.bel.grown hg h.bel.size fun r e => by have := Option.some.inj e; omega, h.k0.grown hg fun e => by have := Option.some.inj e; omega, h.k1.grown hg fun e => by have := Option.some.inj e; omega, h.k2.grown hg fun e => by have := Option.some.inj e; omega,
    (h3.grownT hg (fun b hb e => by have := h2 b hb; have := Option.some.inj e; omega) (fun b hb e => by have := Option.some.inj e; omega)).weak fun b _ hb => hb.1⟩
/-- a cell of the part is written -/
theorem ScS.set_ {w x : World} {cs : Array Value} {fin vr fin' vr' : ByteArray} {v v' : Value} {xs : List Trm} (h : ScS w cs fin vr v xs x) (o : Nat) (u : Value) (hc : Blk (x.setCell ⟨w.heap.size + 2, o, none⟩ u) (w.heap.size + 2) 113 (prtC v' fin' vr')) (hv : v' = v) : ScS w cs fin' vr' v' xs (x.setCell ⟨w.heap.size + 2, o, none⟩ u) := by
  subst hv
  have hg := grown_set' x ⟨w.heap.size + 2, o, none⟩ u
  exact ⟨h.bel.grown hg h.bel.size fun r e => by have h9 : w.heap.size + 2 = r := Option.some.inj e; omega, h.k0.grown hg fun e => by have h9 : w.heap.size = w.heap.size + 2 := Option.some.inj e; omega, h.k1.grown hg fun e => by have h9 : w.heap.size + 1 = w.heap.size + 2 := Option.some.inj e; omega, hc, h.app.set_ (p := ⟨w.heap.size + 2, o, none⟩) (by show ¬ (w.heap.size + 2 < w.heap.size + 2); omega) (by show w.heap.size + 2 < w.heap.size + 3; omega) u⟩
theorem bind_size {rs : List Rul} {sub : Tre} (hF : formT sub = true) {v : ByteArray} (h : bindN rs sub = some v) : v.size ≤ 1000 := by
  unfold bindN at h
  split at h
  · next a b d r hk =>
    split at h
    · have hv : a.text = v := by simpa using h
      have ha := (form_kids (s := 0) (d := a) hF (by rw [hk]; rfl)).1
      rw [← hv]
      exact form_text ha
    · cases h
  · cases h
theorem var_size (rs : List Rul) (kd : Int) {n b0 sub : Tre} {r : List Tre} (hF : formT n = true) (hk : n.kids = b0 :: sub :: r) (_hs : scrB n.kind = true) : ((varN rs n (decide (kd = 2))).getD ⟨#[]⟩).size ≤ 1000 := by
  cases hv : varN rs n (decide (kd = 2)) with
  | none => decide
  | some v =>
    rw [Option.getD_some]
    unfold varN at hv
    split at hv
    · rw [hk] at hv
      exact bind_size (form_kids (s := 1) (d := sub) hF (by rw [hk]; rfl)).1 hv
    · cases hv
theorem scr_kids {n : Tre} (h : formT n = true) (hs : scrB n.kind = true) : ∃ b0 sub r, n.kids = b0 :: sub :: r := by
  have h2 := (form_own h).2
  unfold scrB at hs
  have hk := of_decide_eq_true hs
  unfold kidsB at h2
  rw [if_neg (by omega), Bool.and_eq_true, if_neg (by omega), if_neg (by omega)] at h2
  have hl : 2 ≤ n.kids.length := by
    rcases hk with e | e | e
    · rw [if_pos (by omega)] at h2; have := of_decide_eq_true h2.2; omega
    · rw [if_pos (by omega)] at h2; have := of_decide_eq_true h2.2; omega
    · rw [if_neg (by omega), if_pos e] at h2; have := of_decide_eq_true h2.2; omega
  match hn : n.kids with
  | [] => rw [hn] at hl; simp at hl
  | [_] => rw [hn] at hl; simp at hl
  | a :: b :: r => exact ⟨a, b, r, rfl⟩
theorem var_eq (rs : List Rul) (kd : Int) {n b0 sub : Tre} {r : List Tre} (hk : n.kids = b0 :: sub :: r) (hs : scrB n.kind = true) : varN rs n (decide (kd = 2)) = if (decide (kd = 2) && !decide (n.kind = 8)) = true then bindN rs sub else none := by
  unfold scrB at hs
  have hk2 := of_decide_eq_true hs
  unfold varN
  by_cases h : decide (kd = 2) = true ∧ (n.kind = 7 ∨ n.kind = 9)
  · rw [if_pos h, hk, if_pos (by rw [h.1, decide_eq_false (by omega)]; rfl)]
  · rw [if_neg h, if_neg]
    intro e
    simp only [Bool.and_eq_true, Bool.not_eq_true', decide_eq_false_iff_not] at e
    exact h ⟨e.1, by omega⟩
set_option maxRecDepth 100000 in
set_option maxHeartbeats 8000000 in
theorem scripts_any (g : Nat) (A : Option Addr) (cap : Nat) (rs : List Rul) (f : Nat) (HL : ListC g A cap rs f) (n : Tre) (c : Array Value) (path : List Int) (Ap : Option Addr) (cp : Nat) (kd : Int) (w : World) (hR : RdrAt w g A cap rs) (hN : NodAt w n c) (hP : PathAt w Ap path) (hF : formT n = true) (hop : n.kind = 2 ∨ scrB n.kind = true) (hcnt : countT n ≤ f) (hpl : path.length + countT n ≤ 900000) :
    Calls Tryz.prog 67 #[.pointer (some ⟨g, 0, none⟩), .agg c, .slice Ap path.length cp, .int .i64 kd] w (PrtP (scrF rs (listM rs f) n path (decide (kd = 2))) w) := by
  obtain ⟨i0, hi, hz0, hz1, hz2⟩ := Sp.info_parts info_tm
  obtain ⟨A2, cap2, rfl, hsz, hl, hc, hk⟩ := hN.form
  have B1 := bel_alloc w (.cells #[.int .i64 n.kind, .string n.text, .int .i64 n.cols, .slice A2 n.kids.length cap2] 25)
  have s1 : (w.alloc (.cells #[.int .i64 n.kind, .string n.text, .int .i64 n.cols, .slice A2 n.kids.length cap2] 25)).heap.size = w.heap.size + 1 := by simp
  have B2 := bel_alloc (w.alloc (.cells #[.int .i64 n.kind, .string n.text, .int .i64 n.cols, .slice A2 n.kids.length cap2] 25)) (.cells zerPC 113)
  have s2 : ((w.alloc (.cells #[.int .i64 n.kind, .string n.text, .int .i64 n.cols, .slice A2 n.kids.length cap2] 25)).alloc (.cells zerPC 113)).heap.size = w.heap.size + 2 := by simp
  have B3 := bel_alloc ((w.alloc (.cells #[.int .i64 n.kind, .string n.text, .int .i64 n.cols, .slice A2 n.kids.length cap2] 25)).alloc (.cells zerPC 113)) (.cells zerPC 113)
  have HB := ((B1.trans (B2.mono B1.size)).trans (B3.mono (B1.trans (B2.mono B1.size)).size))
  have K0 := keep B3 (keep B2 (Blk.new w 25 #[.int .i64 n.kind, .string n.text, .int .i64 n.cols, .slice A2 n.kids.length cap2]))
  have K1 := keep B3 (Blk.new (w.alloc (.cells #[.int .i64 n.kind, .string n.text, .int .i64 n.cols, .slice A2 n.kids.length cap2] 25)) 113 zerPC)
  rw [s1] at K1
  have K2 := Blk.new ((w.alloc (.cells #[.int .i64 n.kind, .string n.text, .int .i64 n.cols, .slice A2 n.kids.length cap2] 25)).alloc (.cells zerPC 113)) 113 zerPC
  rw [s2] at K2
  have S0 := Lib.hid (ScS.mk (xs := []) (v := .slice none 0 0) HB K0 K1 K2 (AppT.nil _ _ _))
  have HR := Lib.hid hR
  have HN := Lib.hid hN
  have HK := Lib.hid hk
  have HP := Lib.hid hP
  have HFO := Lib.hid hF
  have HCN := Lib.hid hcnt
  have HPL := Lib.hid hpl
  have HOP := Lib.hid hop
  have HLL := Lib.hid HL
  clear hR hN hk hP hF hcnt hpl hop hsz HL B1 B2 B3 s1 s2 HB K0 K1 K2
  go_enter Tryz.func67, Tryz.ntmps67
  go_upto_region 2 with (fail)
  generalize ((w.alloc (.cells #[.int .i64 n.kind, .string n.text, .int .i64 n.cols, .slice A2 n.kids.length cap2] 25)).alloc (.cells zerPC 113)).alloc (.cells zerPC 113) = w1 at *
  have k00 := S0.out.k0.cell 0
  by_cases n2 : n.kind = 2
  · have q2 : (n.kind == 2) = true := beq_iff_eq.2 n2
    have HO := Lib.hid (show scrF rs (listM rs f) n path (decide (kd = 2)) = .ok zerP by unfold scrF; rw [if_pos n2])
    have k2c := fun i => S0.out.k2.cell i
    have k1c := fun i => S0.out.k1.cell i
    have k1f := fun i => S0.out.k1.frozen i
    have KK1 := Lib.hid S0.out.k1
    clear n2
    go_wp2_with fail
    have KR := Lib.hid (set8 KK1.out (.int .i64 0) (.string ⟨#[]⟩) (.string ⟨#[]⟩) (.slice none 0 0) (.string ⟨#[]⟩) (.slice none 0 0) (.string ⟨#[]⟩) (.string ⟨#[]⟩))
    have HB8 := Lib.hid (below8 (g := w.heap.size + 1) S0.out.bel S0.out.bel.size (by omega) (.int .i64 0) (.string ⟨#[]⟩) (.string ⟨#[]⟩) (.slice none 0 0) (.string ⟨#[]⟩) (.slice none 0 0) (.string ⟨#[]⟩) (.string ⟨#[]⟩))
    have HG8 := Lib.hid (grown8 w1 (w.heap.size + 1) (.int .i64 0) (.string ⟨#[]⟩) (.string ⟨#[]⟩) (.slice none 0 0) (.string ⟨#[]⟩) (.slice none 0 0) (.string ⟨#[]⟩) (.string ⟨#[]⟩))
    change bodyPost _ _ _ _ _ (sets8 w1 (w.heap.size + 1) (.int .i64 0) (.string ⟨#[]⟩) (.string ⟨#[]⟩) (.slice none 0 0) (.string ⟨#[]⟩) (.slice none 0 0) (.string ⟨#[]⟩) (.string ⟨#[]⟩))
    generalize sets8 w1 (w.heap.size + 1) (.int .i64 0) (.string ⟨#[]⟩) (.string ⟨#[]⟩) (.slice none 0 0) (.string ⟨#[]⟩) (.slice none 0 0) (.string ⟨#[]⟩) (.string ⟨#[]⟩) = w9 at *
    have r0 := fun i => KR.out.cell i
    exact bodyPost_ret (v := .tuple #[.agg #[.int .i64 0, .string ⟨#[]⟩, .string ⟨#[]⟩, .slice none 0 0, .string ⟨#[]⟩, .slice none 0 0, .string ⟨#[]⟩, .string ⟨#[]⟩], .pointer none]) (by simp [results, Tryz.results67, go_sem, r0]) rfl (show PrtP _ _ _ _ by rw [HO.out]; exact ⟨⟨_, rfl, _, _, _, _, _, _, _, _, _, rfl, zer_at _ _, Nat.le_refl _, by decide, (fun i x h => by simp [zerP] at h), by decide, by decide, by decide⟩, HB8.out⟩)
  have q2 : (n.kind == 2) = false := beq_eq_false_iff_ne.2 n2
  have HSB := Lib.hid (HOP.out.resolve_left n2)
  have HKS := Lib.hid (scr_kids HFO.out HSB.out)
  obtain ⟨b0, sub, rr, hks⟩ := HKS.out
  have HKS := Lib.hid hks
  clear hks
  have HVN := Lib.hid (var_eq rs kd HKS.out HSB.out)
  have HSCR := Lib.hid (show scrF rs (listM rs f) n path (decide (kd = 2)) = (slotsF (listM rs f) path (n.kids.drop 1) 1 (if (varN rs n (decide (kd = 2))).isSome then 2 else 0)).then_ fun ts => .ok ⟨zerT, ts, endS n.kind, (varN rs n (decide (kd = 2))).getD ⟨#[]⟩⟩ by unfold scrF; rw [if_neg n2, List.drop_one])
  clear n2
  go_upto_region 5 with (fail)
  go_cut [27] (fun b wc => b = .bool (decide (kd = 2) && !decide (n.kind = 8)) ∧ wc = w1)
  case first =>
    by_cases h2 : kd = 2
    case neg =>
      have q1 : (kd == 2) = false := beq_eq_false_iff_ne.2 h2
      have HD := Lib.hid (decide_eq_false h2)
      clear h2
      go_wp2_with fail
      go_meet
      exact ⟨by rw [HD.out]; rfl, rfl⟩
    have q1 : (kd == 2) = true := beq_iff_eq.2 h2
    have HD := Lib.hid (decide_eq_true h2)
    clear h2
    by_cases h8 : n.kind = 8
    · have q8 : (n.kind == 8) = true := beq_iff_eq.2 h8
      have q8' : (n.kind != 8) = false := by rw [bne, q8]; rfl
      have HE := Lib.hid (decide_eq_true h8)
      clear h8
      go_wp2_with fail
      go_meet
      exact ⟨by rw [HD.out, HE.out]; rfl, rfl⟩
    · have q8 : (n.kind == 8) = false := beq_eq_false_iff_ne.2 h8
      have q8' : (n.kind != 8) = true := by rw [bne, q8]; rfl
      have HE := Lib.hid (decide_eq_false h8)
      clear h8
      go_wp2_with fail
      go_meet
      exact ⟨by rw [HD.out, HE.out]; rfl, rfl⟩
  obtain ⟨rfl, rfl⟩ := hcut
  go_upto_if 27 with (fail)
  go_cut [11] (fun bg wc => bg = .int .i64 ((if (varN rs n (decide (kd = 2))).isSome = true then 2 else 0 : Nat) : Int) ∧ Hid (ScS w #[.int .i64 n.kind, .string n.text, .int .i64 n.cols, .slice A2 n.kids.length cap2] ⟨#[]⟩ ((varN rs n (decide (kd = 2))).getD ⟨#[]⟩) (.slice none 0 0) [] wc))
  case first =>
    cases hcb : (decide (kd = 2) && !decide (n.kind = 8))
    · have HV := Lib.hid (show varN rs n (decide (kd = 2)) = none by rw [HVN.out, hcb]; rfl)
      clear hcb
      go_wp2_with fail
      go_meet
      exact ⟨by rw [HV.out]; rfl, by rw [HV.out]; exact S0⟩
    · have HKW := Lib.hid (show KidsAt wc A2 (b0 :: sub :: rr) by rw [← HKS.out]; exact HK.out.keep S0.out.bel)
      obtain ⟨ad, A3, cap3, rfl, hadl, hna, hsza, a0, a1, a2, a3⟩ := kid0_cells HKW.out
      obtain ⟨A4, cap4, hnb, hszb, e0, e1, e2, e3⟩ := kid1_cells HKW.out
      have HNB := Lib.hid hnb
      have HRW := Lib.hid (HR.out.keep S0.out.bel)
      have hp1 : (1 : Int) < (n.kids.length : Int) := by rw [HKS.out, List.length_cons, List.length_cons]; omega
      have k03 := S0.out.k0.cell 3
      have HV := Lib.hid (show varN rs n (decide (kd = 2)) = if bindB rs sub = true then some (bindT rs sub) else none by rw [HVN.out, hcb, if_pos rfl, bindN_eq])
      clear hcb hna hnb a0 a1 a2 a3
      go_wp2_with fail
      refine (binds_any g A cap rs sub _ wc HRW.out HNB.out).mono ?_
      rintro e w3 ⟨rfl, hb⟩
      have S3 := Lib.hid (S0.out.keep hb)
      clear hb k03 e0 e1 e2 e3 hp1
      have k2c := fun i => S3.out.k2.cell i
      have k2f := fun i => S3.out.k2.frozen i
      generalize bindT rs sub = bt at *
      cases hbb : bindB rs sub
      · have HV2 := Lib.hid (show varN rs n (decide (kd = 2)) = none by rw [HV.out, hbb]; rfl)
        clear hbb
        go_wp2_with fail
        go_meet
        exact ⟨by rw [HV2.out]; rfl, by rw [HV2.out]; exact S3⟩
      · have HV2 := Lib.hid (show varN rs n (decide (kd = 2)) = some bt by rw [HV.out, hbb]; rfl)
        clear hbb
        go_wp2_with fail
        go_meet
        refine ⟨by rw [HV2.out]; rfl, ?_⟩
        rw [HV2.out]
        exact Lib.hid (S3.out.set_ 7 _ (S3.out.k2.set_ 7 (.string bt)) rfl)
  obtain ⟨rfl, HS1⟩ := hcut
  clear S0
  have HVZ := Lib.hid (show ((varN rs n (decide (kd = 2))).getD ⟨#[]⟩).size ≤ 1000 from var_size rs kd HFO.out HKS.out HSB.out)
  clear HVN
  generalize (varN rs n (decide (kd = 2))).getD ⟨#[]⟩ = vr at *
  have HBN := Lib.hid (show (if (varN rs n (decide (kd = 2))).isSome = true then 2 else 0 : Nat) ≤ 2 by split <;> omega)
  generalize (if (varN rs n (decide (kd = 2))).isSome = true then 2 else 0 : Nat) = bN at *
  have k00 := HS1.out.k0.cell 0
  go_upto_block 0 with (fail)
  clear k00
  go_cut [] (fun wd => Hid (ScS w #[.int .i64 n.kind, .string n.text, .int .i64 n.cols, .slice A2 n.kids.length cap2] (endS n.kind) vr (.slice none 0 0) [] wd))
  case first =>
    have k00 := HS1.out.k0.cell 0
    have k2c := fun i => HS1.out.k2.cell i
    have k2f := fun i => HS1.out.k2.frozen i
    by_cases h7 : n.kind = 7
    · have q7 : (n.kind == 7) = true := beq_iff_eq.2 h7
      have HE := Lib.hid (show endS n.kind = subS by unfold endS; rw [if_pos h7])
      clear h7
      go_wp2_with fail
      go_meet
      rw [HE.out]
      exact Lib.hid (HS1.out.set_ 6 _ (HS1.out.k2.set_ 6 (.string subS)) rfl)
    have q7 : (n.kind == 7) = false := beq_eq_false_iff_ne.2 h7
    by_cases h8 : n.kind = 8
    · have q8 : (n.kind == 8) = true := beq_iff_eq.2 h8
      have HE := Lib.hid (show endS n.kind = supS by unfold endS; rw [if_neg h7, if_pos h8])
      clear h7 h8
      go_wp2_with fail
      go_meet
      rw [HE.out]
      exact Lib.hid (HS1.out.set_ 6 _ (HS1.out.k2.set_ 6 (.string supS)) rfl)
    have q8 : (n.kind == 8) = false := beq_eq_false_iff_ne.2 h8
    have HE := Lib.hid (show endS n.kind = bothS by unfold endS; rw [if_neg h7, if_neg h8])
    clear h7 h8
    go_wp2_with fail
    go_meet
    rw [HE.out]
    exact Lib.hid (HS1.out.set_ 6 _ (HS1.out.k2.set_ 6 (.string bothS)) rfl)
  have HS2 := hcut
  clear hcut HS1
  have HEZ := Lib.hid (show (endS n.kind).size ≤ 1000 by unfold endS; split <;> (try split) <;> decide)
  generalize endS n.kind = fe at *
  have HLN := Lib.hid (show 2 ≤ n.kids.length by rw [HKS.out, List.length_cons, List.length_cons]; omega)
  go_wp2_with fail
  go_loopw [11, 14] (fun bg i wr => ∃ (s b : Nat) (xs : List Trm) (v : Value), 1 ≤ s ∧ s ≤ n.kids.length ∧ b ≤ 2 ∧ i = .int .i64 s ∧ bg = .int .i64 b ∧ xs.length ≤ s ∧ Hid (SoFar (slotsF (listM rs f) path (n.kids.drop 1) 1 bN) xs (slotsF (listM rs f) path (n.kids.drop s) s b)) ∧ Hid (ScS w #[.int .i64 n.kind, .string n.text, .int .i64 n.cols, .slice A2 n.kids.length cap2] fe vr v xs wr)) (fun _ i _ => n.kids.length - (intOf i).toNat)
  case atStart => exact ⟨1, bN, [], _, by omega, by have := HLN.out; omega, HBN.out, rfl, rfl, by simp, Lib.hid (SoFar.start _), HS2⟩
  case round =>
    clear HS2
    obtain ⟨s, b, xs, v, hs1, hs, hb2, rfl, rfl, hxs, HSF, HS⟩ := hrel
    have k03 := HS.out.k0.cell 3
    by_cases hlt : s < n.kids.length
    · obtain ⟨d, hd⟩ : ∃ d, n.kids[s]? = some d := ⟨_, List.getElem?_eq_getElem hlt⟩
      obtain ⟨ad, A3, cap3, rfl, hadl, hsz3, hl3, hc3, hk3, hn3, d0, d1, d2, d3⟩ := HK.out.at_ hd
      have hadb : (⟨(ad.add (s * 4)).block, (ad.add (s * 4)).off + 3, none⟩ : Addr).block < w.heap.size := by show (ad.add (s * 4)).block < _; rw [block_of_add]; exact hadl
      have HD3 := Lib.hid ((HS.out.bel.cell hadb).trans d3)
      have HAD := Lib.hid (show (⟨(ad.add (s * 4)).block, (ad.add (s * 4)).off + 3, none⟩ : Addr).block < wr.heap.size from Nat.lt_of_lt_of_le hadb HS.out.bel.size)
      have HKD := Lib.hid hk3
      have HCD := Lib.hid (slot_count hd)
      have HFD := Lib.hid (form_slot HFO.out (fun e => by have h := HSB.out; unfold scrB at h; have := of_decide_eq_true h; omega) hd)
      have HSF2 := Lib.hid (show SoFar (slotsF (listM rs f) path (n.kids.drop 1) 1 bN) xs ((listM rs f d.kids (path ++ [(s : Int)]) b).then_ fun t => (slotsF (listM rs f) path (n.kids.drop (s + 1)) (s + 1) 0).then_ fun ts => .ok (t :: ts)) by rw [← slots_next hd]; exact HSF.out)
      obtain ⟨pq, hpq⟩ : ∃ pq, pq = path ++ [(s : Int)] := ⟨_, rfl⟩
      have HPQ := Lib.hid hpq
      have HPS := Lib.hid (show pq.length = path.length + 1 by rw [hpq, List.length_append]; rfl)
      rw [← hpq] at HSF2
      clear hpq hd hk3 hn3 d0 d1 d2 d3 hadb HSF
      have HPW := Lib.hid (HP.out.keep HS.out.bel)
      have HRW := Lib.hid (HR.out.keep HS.out.bel)
      have HDW := Lib.hid (HKD.out.keep HS.out.bel)
      have HWR := Lib.hid (show w.heap.size + 2 < wr.heap.size from HS.out.k2.lt)
      go_upto_region 18 with (fail)
      clear k03
      refine region_mono (X := Gh) (w0 := _) (by kernel_rfl) [2, 2, 1, 2, 2, 2, 1, 2, 2, 1, 1, 1, 2, 1, 2, 2, 2, 1, 3, 2] [false, false, false, false, false, false, false, false, false, false, false, false, false, false, false, false, false, false, false, false] _ (fun gx => [.pointer (some ⟨g, 0, none⟩), .pointer (some ⟨w.heap.size, 3, none⟩), .slice (some ad) n.kids.length cap2, .int .i64 (↑s), .pointer (some (ad.add (s * 4))), .pointer (some ⟨(ad.add (s * 4)).block, (ad.add (s * 4)).off + 3, none⟩), .slice A3 d.kids.length cap3, .slice Ap path.length cp, .int .i64 (↑s), .slice (some ⟨gx.n 66, 0, none⟩) 1 1, .slice (some ⟨gx.n 67, 0, none⟩) 2 2, gx.v 68, .int .i64 (b : Int), .tuple #[gx.v 70, gx.v 71], .tuple #[gx.v 70, gx.v 71], gx.v 70, gx.v 71, .pointer (some ⟨gx.n 15, 0, none⟩), undef, gx.v 71]) [(9, fun gx wx => Blk wx (gx.n 66) 3 #[.int .i64 (s : Int)]), (10, fun gx wx => Blk wx (gx.n 67) 32 #[.slice Ap path.length cp, .slice (some ⟨gx.n 66, 0, none⟩) 1 1]), (11, fun gx wx => ∃ A8 c8, gx.v 68 = .slice A8 pq.length c8 ∧ pq.length ≤ c8 ∧ c8 ≤ 9223372036854775807 ∧ PathAt wx A8 pq), (13, fun gx wx => LRes (gx.n 70) (gx.n 71) (listM rs f d.kids pq b) wx (gx.v 70) (gx.v 71) ∧ wr.heap.size ≤ gx.n 70 ∧ gx.n 70 ≤ gx.n 71), (17, fun gx wx => Blk wx (gx.n 15) 31 zerC ∧ wr.heap.size ≤ gx.n 15)] (fun gx wx => (gx.n 15 = 0 ∨ gx.n 15 < wx.heap.size) ∧ gx.n 71 ≤ wx.heap.size ∧ (gx.n 15 = 0 ∨ gx.n 71 = 0 ∨ gx.n 15 < gx.n 70 ∨ gx.n 71 ≤ gx.n 15)) Gh.zero (by kernel_rfl) (fun gx => by simp [fin, finOn, dstAt, List.range, List.range.loop, Act.put]; rfl) (fun _ => by kernel_rfl) (MonoAll.cons (fun gx wx w2 h hb => keep hb h) (MonoAll.cons (fun gx wx w2 h hb => keep hb h) (MonoAll.cons (fun gx wx w2 ⟨A8, c8, h1, h2, h3, h4⟩ hb => ⟨A8, c8, h1, h2, h3, h4.keep hb⟩) (MonoAll.cons (fun gx wx w2 h hb => ⟨h.1.keep hb, h.2⟩) (MonoAll.cons (fun gx wx w2 h hb => ⟨keep hb h.1, h.2⟩) MonoAll.nil))))) (⟨.inl rfl, Nat.zero_le _, .inl rfl⟩) ?_ (by kernel_rfl) ?_
      · refine ⟨fun gx wq => ?_, fun gx wq => ?_, fun gx wq hB hJ hf => ?_, fun gx wq => ?_, fun gx wq => ?_, fun gx wq => ?_, fun gx wq hB hJ hf => ?_, fun gx wq => ?_, fun gx wq => ?_, fun gx wq hB hJ hf => ?_, fun gx wq hB hJ hf => ?_, fun gx wq hB hJ hf => ?_, fun gx wq => ?_, fun gx wq hB hJ hf => ?_, fun gx wq => ?_, fun gx wq => ?_, fun gx wq => ?_, fun gx wq hB hJ hf => ?_, fun gx wq => ?_, trivial⟩
        · exact Gives.pure (v := .pointer (some ⟨g, 0, none⟩)) (by kernel_rfl) rfl
        · exact Gives.pure (v := .pointer (some ⟨w.heap.size, 3, none⟩)) (by simp [go_sem, evAct]) rfl
        · have cJ := (keep hB HS.out.k0).cell 3
          exact Gives.still (v := .slice (some ad) n.kids.length cap2) hJ (by kernel_rfl) (by simp [go_sem, evAct, cJ]) rfl
        · exact Gives.pure (v := .int .i64 (↑s)) (by kernel_rfl) rfl
        · exact Gives.pure (v := .pointer (some (ad.add (s * 4)))) (by simp [go_sem, evAct, hlt]; try omega) rfl
        · exact Gives.pure (v := .pointer (some ⟨(ad.add (s * 4)).block, (ad.add (s * 4)).off + 3, none⟩)) (by simp [go_sem, evAct]) rfl
        · have d3 := (hB.cell HAD.out).trans HD3.out
          exact Gives.still (v := .slice A3 d.kids.length cap3) hJ (by kernel_rfl) (by simp [go_sem, evAct, d3]) rfl
        · exact Gives.pure (v := .slice Ap path.length cp) (by kernel_rfl) rfl
        · exact Gives.pure (v := .int .i64 (↑s)) (by kernel_rfl) rfl
        · exact Gives.value (v := .slice (some ⟨wq.heap.size, 0, none⟩) 1 1) (w' := wq.alloc (.cells #[.int .i64 (s : Int)] 3)) (by simp [go_sem, evAct]) ⟨gx.setN 66 wq.heap.size, rfl, (KeepsV.of_same ⟨.inr (.inr rfl), .inr (.inr rfl), .inr (.inr rfl), .inr (.inr rfl), .inr (.inr rfl), .inr (.inr rfl), .inr (.inr rfl), .inr (.inr rfl), .inr (.inr rfl), .inl rfl, (by first | exact .inr (.inr rfl) | exact .inr (.inl (by kernel_rfl))), (by first | exact .inr (.inr rfl) | exact .inr (.inl (by kernel_rfl))), .inr (.inr rfl), (by first | exact .inr (.inr rfl) | exact .inr (.inl (by kernel_rfl))), (by first | exact .inr (.inr rfl) | exact .inr (.inl (by kernel_rfl))), (by first | exact .inr (.inr rfl) | exact .inr (.inl (by kernel_rfl))), (by first | exact .inr (.inr rfl) | exact .inr (.inl (by kernel_rfl))), (by first | exact .inr (.inr rfl) | exact .inr (.inl (by kernel_rfl))), .inr (.inr rfl), (by first | exact .inr (.inr rfl) | exact .inr (.inl (by kernel_rfl))), trivial⟩), bel_alloc wq _, ⟨Blk.new wq _ _, .inl (by kernel_rfl), .inl (by kernel_rfl), .inl (by kernel_rfl), .inr fun h => h, trivial⟩, (by obtain ⟨j1, j2, j3⟩ := hJ; have hs := (bel_alloc wq (.cells #[.int .i64 (s : Int)] 3)).size; exact ⟨j1.imp id (fun h => Nat.lt_of_lt_of_le h hs), Nat.le_trans j2 hs, j3⟩)⟩
        · have f66 := hf.1 (by kernel_rfl)
          exact Gives.value (v := .slice (some ⟨wq.heap.size, 0, none⟩) 2 2) (w' := wq.alloc (.cells #[.slice Ap path.length cp, .slice (some ⟨gx.n 66, 0, none⟩) 1 1] 32)) (by simp [go_sem, evAct]) ⟨gx.setN 67 wq.heap.size, rfl, (KeepsV.of_same ⟨.inr (.inr rfl), .inr (.inr rfl), .inr (.inr rfl), .inr (.inr rfl), .inr (.inr rfl), .inr (.inr rfl), .inr (.inr rfl), .inr (.inr rfl), .inr (.inr rfl), (by first | exact .inr (.inr rfl) | exact .inr (.inl (by kernel_rfl))), .inl rfl, (by first | exact .inr (.inr rfl) | exact .inr (.inl (by kernel_rfl))), .inr (.inr rfl), (by first | exact .inr (.inr rfl) | exact .inr (.inl (by kernel_rfl))), (by first | exact .inr (.inr rfl) | exact .inr (.inl (by kernel_rfl))), (by first | exact .inr (.inr rfl) | exact .inr (.inl (by kernel_rfl))), (by first | exact .inr (.inr rfl) | exact .inr (.inl (by kernel_rfl))), (by first | exact .inr (.inr rfl) | exact .inr (.inl (by kernel_rfl))), .inr (.inr rfl), (by first | exact .inr (.inr rfl) | exact .inr (.inl (by kernel_rfl))), trivial⟩), bel_alloc wq _, ⟨.inr fun h => h, Blk.new wq _ _, .inl (by kernel_rfl), .inl (by kernel_rfl), .inr fun h => h, trivial⟩, (by obtain ⟨j1, j2, j3⟩ := hJ; have hs := (bel_alloc wq (.cells #[.slice Ap path.length cp, .slice (some ⟨gx.n 66, 0, none⟩) 1 1] 32)).size; exact ⟨j1.imp id (fun h => Nat.lt_of_lt_of_le h hs), Nat.le_trans j2 hs, j3⟩)⟩
        · have f66 := hf.1 (by kernel_rfl)
          have f67 := hf.2.1 (by kernel_rfl)
          refine Gives.call (f := 65) (args := #[.slice (some ⟨gx.n 67, 0, none⟩) 2 2]) (w' := wq) (by kernel_rfl) ((step_any (gx.n 67) (gx.n 66) Ap path cp (s : Int) wq f67 f66 (HPW.out.keep hB) (by have := HPL.out; omega)).mono ?_)
          rintro e wz ⟨⟨q8, A8, c8, hq8, rfl, hc1, hc2, hpa, _⟩, hb⟩
          rw [← HPQ.out] at hq8
          subst hq8
          exact ⟨_, rfl, gx.setV 68 (.slice A8 q8.length c8), rfl, (KeepsV.of_same ⟨.inr (.inr rfl), .inr (.inr rfl), .inr (.inr rfl), .inr (.inr rfl), .inr (.inr rfl), .inr (.inr rfl), .inr (.inr rfl), .inr (.inr rfl), .inr (.inr rfl), (by first | exact .inr (.inr rfl) | exact .inr (.inl (by kernel_rfl))), (by first | exact .inr (.inr rfl) | exact .inr (.inl (by kernel_rfl))), .inl rfl, .inr (.inr rfl), (by first | exact .inr (.inr rfl) | exact .inr (.inl (by kernel_rfl))), (by first | exact .inr (.inr rfl) | exact .inr (.inl (by kernel_rfl))), (by first | exact .inr (.inr rfl) | exact .inr (.inl (by kernel_rfl))), (by first | exact .inr (.inr rfl) | exact .inr (.inl (by kernel_rfl))), (by first | exact .inr (.inr rfl) | exact .inr (.inl (by kernel_rfl))), .inr (.inr rfl), (by first | exact .inr (.inr rfl) | exact .inr (.inl (by kernel_rfl))), trivial⟩), hb, ⟨.inr fun h => h, .inr fun h => h, ⟨A8, c8, rfl, hc1, hc2, hpa⟩, .inl (by kernel_rfl), .inr fun h => h, trivial⟩, (by obtain ⟨j1, j2, j3⟩ := hJ; have hs := hb.size; exact ⟨j1.imp id (fun h => Nat.lt_of_lt_of_le h hs), Nat.le_trans j2 hs, j3⟩)⟩
        · exact Gives.pure (v := .int .i64 (b : Int)) (by kernel_rfl) rfl
        · have f66 := hf.1 (by kernel_rfl)
          have f67 := hf.2.1 (by kernel_rfl)
          have f68 := hf.2.2.1 (by kernel_rfl)
          obtain ⟨A8, c8, e8, hc1, hc2, hpa⟩ := f68
          refine Gives.call (f := 37) (args := #[.pointer (some ⟨g, 0, none⟩), .slice A3 d.kids.length cap3, .slice A8 pq.length c8, .int .i64 b]) (w' := wq) (by simp [go_sem, evAct, e8]) ((HLL.out d.kids pq b A3 A8 cap3 c8 wq (HRW.out.keep hB) (HDW.out.keep hB) hl3 hc3 hpa (by have := HPS.out; have := HPL.out; have := HCD.out; omega) (by have := HCN.out; have := HCD.out; omega) HFD.out hb2).mono ?_)
          rintro e wz hm
          obtain ⟨c9, f9, rfl, hres, hb⟩ := hm.res
          exact ⟨_, rfl, (((gx.setV 70 c9).setV 71 f9).setN 70 wq.heap.size).setN 71 wz.heap.size, rfl, (KeepsV.of_same ⟨.inr (.inr rfl), .inr (.inr rfl), .inr (.inr rfl), .inr (.inr rfl), .inr (.inr rfl), .inr (.inr rfl), .inr (.inr rfl), .inr (.inr rfl), .inr (.inr rfl), (by first | exact .inr (.inr rfl) | exact .inr (.inl (by kernel_rfl))), (by first | exact .inr (.inr rfl) | exact .inr (.inl (by kernel_rfl))), (by first | exact .inr (.inr rfl) | exact .inr (.inl (by kernel_rfl))), .inr (.inr rfl), .inl rfl, (by first | exact .inr (.inr rfl) | exact .inr (.inl (by kernel_rfl))), (by first | exact .inr (.inr rfl) | exact .inr (.inl (by kernel_rfl))), (by first | exact .inr (.inr rfl) | exact .inr (.inl (by kernel_rfl))), (by first | exact .inr (.inr rfl) | exact .inr (.inl (by kernel_rfl))), .inr (.inr rfl), (by first | exact .inr (.inr rfl) | exact .inr (.inl (by kernel_rfl))), trivial⟩), hb, ⟨.inr fun h => h, .inr fun h => h, .inr fun h => h, ⟨hres, hB.size, hb.size⟩, .inr fun h => h, trivial⟩, (by obtain ⟨j1, j2, j3⟩ := hJ; exact ⟨j1.imp id (fun h => Nat.lt_of_lt_of_le h hb.size), Nat.le_refl _, j1.elim .inl (fun h => .inr (.inr (.inl h)))⟩)⟩
        · exact Gives.pure (v := .tuple #[gx.v 70, gx.v 71]) (by kernel_rfl) rfl
        · exact Gives.pure (v := gx.v 70) (by kernel_rfl) rfl
        · exact Gives.pure (v := gx.v 71) (by kernel_rfl) rfl
        · exact Gives.value (v := .pointer (some ⟨wq.heap.size, 0, none⟩)) (w' := wq.alloc (.cells zerC 31)) (by simp [go_sem]) ⟨gx.setN 15 wq.heap.size, rfl, (KeepsV.of_same ⟨.inr (.inr rfl), .inr (.inr rfl), .inr (.inr rfl), .inr (.inr rfl), .inr (.inr rfl), .inr (.inr rfl), .inr (.inr rfl), .inr (.inr rfl), .inr (.inr rfl), (by first | exact .inr (.inr rfl) | exact .inr (.inl (by kernel_rfl))), (by first | exact .inr (.inr rfl) | exact .inr (.inl (by kernel_rfl))), (by first | exact .inr (.inr rfl) | exact .inr (.inl (by kernel_rfl))), .inr (.inr rfl), (by first | exact .inr (.inr rfl) | exact .inr (.inl (by kernel_rfl))), (by first | exact .inr (.inr rfl) | exact .inr (.inl (by kernel_rfl))), (by first | exact .inr (.inr rfl) | exact .inr (.inl (by kernel_rfl))), (by first | exact .inr (.inr rfl) | exact .inr (.inl (by kernel_rfl))), .inl rfl, .inr (.inr rfl), (by first | exact .inr (.inr rfl) | exact .inr (.inl (by kernel_rfl))), trivial⟩), bel_alloc wq _, ⟨.inr fun h => h, .inr fun h => h, .inr fun h => h, .inr fun h => h, ⟨Blk.new wq _ _, hB.size⟩, trivial⟩, (by obtain ⟨j1, j2, j3⟩ := hJ; exact ⟨.inr (by show wq.heap.size < _; simp), Nat.le_trans j2 (bel_alloc wq (.cells zerC 31)).size, .inr (.inr (.inr j2))⟩)⟩
        · exact Gives.pure (v := gx.v 71) (by kernel_rfl) rfl
      · refine fun gx wq hB hJ hf => ?_
        dsimp only [FactsAll] at hf
        change wpOps _ _ _ [18] _ _
        obtain ⟨-, -, -, ⟨hres, hlo, hhi⟩, ⟨hk11, hl11⟩, -⟩ := hf
        obtain ⟨-, -, j3⟩ := hJ
        have HSB2 := Lib.hid (HS.out.keep hB)
        have HAP := Lib.hid ((HS.out.app.weak (P' := fun b => w.heap.size + 2 < b ∧ b < wr.heap.size) fun b hb h => ⟨h, hb⟩).keep hB)
        have HVB := Lib.hid (fun b hb => (HS.out.app.ltT b hb).2)
        have HK11 := Lib.hid hk11
        have HN9 := Lib.hid (show gx.n 15 < gx.n 70 ∨ gx.n 71 ≤ gx.n 15 by have := HWR.out; omega)
        have HL := Lib.hid (And.intro hlo (And.intro hhi hl11))
        have HRES := Lib.hid hres
        clear hres hlo hhi hk11 hl11 j3 hB HS HPW HRW HDW HD3 HAD
        generalize gx.n 15 = g11 at *
        generalize gx.n 70 = n68 at *
        generalize gx.n 71 = n69 at *
        generalize gx.v 70 = c68 at *
        generalize gx.v 71 = c69 at *
        generalize gx.n 66 = n65 at *
        generalize gx.n 67 = n66 at *
        generalize gx.v 68 = v67 at *
        clear gx
        generalize wq = w6 at *
        have kc := fun i => HK11.out.cell i
        have kf := fun i => HK11.out.frozen i
        cases hM : listM rs f d.kids pq b with
        | bad er p =>
          have HR2 := HRES.out
          rw [hM] at HR2
          obtain ⟨rfl, gf, rfl, hff⟩ := HR2
          have HFF := Lib.hid hff
          have HO2 := Lib.hid (show scrF rs (listM rs f) n path (decide (kd = 2)) = .bad er p by rw [HSCR.out, HSF2.out.bad hM]; rfl)
          clear hff HRES hM
          have HG7 := Lib.hid (grown5 w6 g11 (.int .i64 0) (.string ⟨#[]⟩) (.string ⟨#[]⟩) (.slice none 0 0) (.string ⟨#[]⟩))
          refine wpOps_skip (o := _) rfl rfl (w' := ((((w6.setCell ⟨g11, 0, none⟩ (.int .i64 0)).setCell ⟨g11, 1, none⟩ (.string ⟨#[]⟩)).setCell ⟨g11, 2, none⟩ (.string ⟨#[]⟩)).setCell ⟨g11, 3, none⟩ (.slice none 0 0)).setCell ⟨g11, 4, none⟩ (.string ⟨#[]⟩)) (by simp [go_sem, kc, kf]) ?_
          refine wpOps_done ?_
          clear kc kf
          generalize ((((w6.setCell ⟨g11, 0, none⟩ (.int .i64 0)).setCell ⟨g11, 1, none⟩ (.string ⟨#[]⟩)).setCell ⟨g11, 2, none⟩ (.string ⟨#[]⟩)).setCell ⟨g11, 3, none⟩ (.slice none 0 0)).setCell ⟨g11, 4, none⟩ (.string ⟨#[]⟩) = w7 at *
          have HS7 := Lib.hid (HSB2.out.grow HG7.out (by have := HL.out.2.2; have := HWR.out; omega) (fun b hb => by have := HVB.out b hb; have := HL.out.2.2; omega) (HAP.out.weak fun b _ hb => ⟨hb.1, by have := HL.out.2.2; omega⟩))
          have HF7 := Lib.hid ((HFF.out.grown HG7.out fun hb => by have := HN9.out; omega).any (ok' := fun b => w.heap.size + 2 < b) fun b _ hb => by have := HL.out.1; have := HWR.out; omega)
          clear HG7 HFF HSB2 HAP HK11 HVB
          have k1c := fun i => HS7.out.k1.cell i
          have k1f := fun i => HS7.out.k1.frozen i
          have KK1 := Lib.hid HS7.out.k1
          go_wp2_with fail
          have KR := Lib.hid (set8 KK1.out (.int .i64 0) (.string ⟨#[]⟩) (.string ⟨#[]⟩) (.slice none 0 0) (.string ⟨#[]⟩) (.slice none 0 0) (.string ⟨#[]⟩) (.string ⟨#[]⟩))
          have HB8 := Lib.hid (below8 (g := w.heap.size + 1) HS7.out.bel HS7.out.bel.size (by omega) (.int .i64 0) (.string ⟨#[]⟩) (.string ⟨#[]⟩) (.slice none 0 0) (.string ⟨#[]⟩) (.slice none 0 0) (.string ⟨#[]⟩) (.string ⟨#[]⟩))
          have HG8 := Lib.hid (grown8 w7 (w.heap.size + 1) (.int .i64 0) (.string ⟨#[]⟩) (.string ⟨#[]⟩) (.slice none 0 0) (.string ⟨#[]⟩) (.slice none 0 0) (.string ⟨#[]⟩) (.string ⟨#[]⟩))
          change bodyPost _ _ _ _ _ (sets8 w7 (w.heap.size + 1) (.int .i64 0) (.string ⟨#[]⟩) (.string ⟨#[]⟩) (.slice none 0 0) (.string ⟨#[]⟩) (.slice none 0 0) (.string ⟨#[]⟩) (.string ⟨#[]⟩))
          generalize sets8 w7 (w.heap.size + 1) (.int .i64 0) (.string ⟨#[]⟩) (.string ⟨#[]⟩) (.slice none 0 0) (.string ⟨#[]⟩) (.slice none 0 0) (.string ⟨#[]⟩) (.string ⟨#[]⟩) = w9 at *
          have r0 := fun i => KR.out.cell i
          exact bodyPost_ret (v := .tuple #[.agg #[.int .i64 0, .string ⟨#[]⟩, .string ⟨#[]⟩, .slice none 0 0, .string ⟨#[]⟩, .slice none 0 0, .string ⟨#[]⟩, .string ⟨#[]⟩], .pointer (some ⟨gf, 0, none⟩)]) (by simp [results, Tryz.results67, go_sem, r0]) rfl (show PrtP _ _ _ _ by rw [HO2.out]; exact ⟨⟨gf, rfl, (HF7.out.grown HG8.out fun hb => by omega).any fun b _ hb => by omega⟩, HB8.out⟩)
        | ok t =>
          have HR2 := HRES.out
          rw [hM] at HR2
          obtain ⟨cc, rfl, rfl, htt⟩ := HR2
          obtain ⟨tk, ta, tv, tA, tn, tcp, tf, rfl⟩ := htt.ext
          have HTT := Lib.hid htt
          have HSF3 := Lib.hid (HSF2.out.next hM)
          clear htt HRES hM
          have HG7 := Lib.hid (grown5 w6 g11 (.int .i64 tk) (.string ta) (.string tv) (.slice tA tn tcp) (.string tf))
          have HK7 := Lib.hid (set5 HK11.out (.int .i64 tk) (.string ta) (.string tv) (.slice tA tn tcp) (.string tf))
          refine wpOps_skip (o := _) rfl rfl (w' := ((((w6.setCell ⟨g11, 0, none⟩ (.int .i64 tk)).setCell ⟨g11, 1, none⟩ (.string ta)).setCell ⟨g11, 2, none⟩ (.string tv)).setCell ⟨g11, 3, none⟩ (.slice tA tn tcp)).setCell ⟨g11, 4, none⟩ (.string tf)) (by simp [go_sem, kc, kf]) ?_
          refine wpOps_done ?_
          clear kc kf
          generalize ((((w6.setCell ⟨g11, 0, none⟩ (.int .i64 tk)).setCell ⟨g11, 1, none⟩ (.string ta)).setCell ⟨g11, 2, none⟩ (.string tv)).setCell ⟨g11, 3, none⟩ (.slice tA tn tcp)).setCell ⟨g11, 4, none⟩ (.string tf) = w7 at *
          have HS7 := Lib.hid (HSB2.out.grow HG7.out (by have := HL.out.2.2; have := HWR.out; omega) (fun b hb => by have := HVB.out b hb; have := HL.out.2.2; omega) (HAP.out.weak fun b _ hb => ⟨hb.1, by have := HL.out.2.2; omega⟩))
          have HT7 := Lib.hid (HTT.out.grown (ok' := fun b => v.ownBlock ≠ some b ∧ w.heap.size + 2 < b) HG7.out (fun b _ hb e => by have := Option.some.inj e; have := HN9.out; omega) fun b _ hb => ⟨fun e => by have := HVB.out b e; have := HL.out.1; omega, by have := HL.out.1; have := HWR.out; omega⟩)
          clear HG7 HTT HSB2 HAP HK11
          go_upto_region 21 with (fail)
          have a0 := HK7.out.cell 0
          have a1 := HK7.out.cell 1
          have a2 := HK7.out.cell 2
          have a3 := HK7.out.cell 3
          have a4 := HK7.out.cell 4
          have k23 := HS7.out.k2.cell 5
          have hba := bel_alloc w7 (.cells #[.int .i64 tk, .string ta, .string tv, .slice tA tn tcp, .string tf] 31)
          have HS8 := Lib.hid (HS7.out.keep hba)
          have HT8 := Lib.hid (HT7.out.keep hba)
          have HN8 := Lib.hid (Blk.new w7 31 #[.int .i64 tk, .string ta, .string tv, .slice tA tn tcp, .string tf])
          have HMW := Lib.hid (show w.heap.size + 2 < w7.heap.size from HS7.out.k2.lt)
          clear hba
          obtain ⟨css, ho, hl5, hr5⟩ := HS8.out.app
          have hxl : xs.length ≤ 1001 := by have := form_len HFO.out; omega
          have HRA := Sp.reads_agg HN8.out rfl (n := 5)
          have HTO := tm_one HT8.out
          go_wp2_with (at_builtin; refine wpList_append_any _ rfl (.tmp 78) (.tmp 80) 29 rfl (w.heap.size + 3) 31 i0 (.agg #[.int .i64 0, .string ⟨#[]⟩, .string ⟨#[]⟩, .slice none 0 0, .string ⟨#[]⟩]) 5 80 Tryz.underlying29 hi hz0 hz1 hz2 rfl (by decide) _ _ _ rfl ho _ (some ⟨w7.heap.size, 0, none⟩) 1 1 (#[.int .i64 tk, .string ta, .string tv, .slice tA tn tcp, .string tf] : Array Value).toList rfl HRA HTO (by unfold maxLen; omega) (by omega) (by have := HMW.out; simp; omega) ?_)
          intro v' w8 q2 q3 q4
          have HAP := AppT.push hl5 hr5 HT8.out q2 q3 (by rw [World.size_alloc]; exact q4)
          have hrow : ∀ b, v.ownBlock = some b → w.heap.size + 3 ≤ b := fun b hb => (HS8.out.app.ltT b hb).1
          have HB9 := Lib.hid (HS8.out.bel.grown q3 HS8.out.bel.size fun r e => by have := hrow r e; omega)
          have K90 := Lib.hid (HS8.out.k0.grown q3 fun e => by have := hrow _ e.symm; omega)
          have K91 := Lib.hid (HS8.out.k1.grown q3 fun e => by have := hrow _ e.symm; omega)
          have K92 := Lib.hid (HS8.out.k2.grown q3 fun e => by have := hrow _ e.symm; omega)
          have HAP9 := Lib.hid HAP
          clear HAP ho hl5 hr5 q2 q3 q4 hrow HS8 HT8 HN8 a0 a1 a2 a3 a4 k23 HS7 HT7 HRA HTO
          obtain ⟨A5, c5, e9, _⟩ := HAP9.out.form (fun b hb => by omega)
          rw [List.length_append, List.length_singleton] at e9
          subst e9
          have k3 := K92.out.cell 5
          have f3 := K92.out.frozen 5
          have HG9 := Lib.hid (grown_set' w8 ⟨w.heap.size + 2, 5, none⟩ (.slice A5 (xs.length + 1) c5))
          have S9 := Lib.hid (ScS.mk (HB9.out.grown HG9.out HB9.out.size fun r e => by have h9 : w.heap.size + 2 = r := Option.some.inj e; omega) (K90.out.grown HG9.out fun e => by have h9 : w.heap.size = w.heap.size + 2 := Option.some.inj e; omega) (K91.out.grown HG9.out fun e => by have h9 : w.heap.size + 1 = w.heap.size + 2 := Option.some.inj e; omega) (show Blk _ _ _ (prtC (.slice A5 (xs.length + 1) c5) fe vr) from K92.out.set_ 5 (.slice A5 (xs.length + 1) c5)) (HAP9.out.set_ (p := ⟨w.heap.size + 2, 5, none⟩) (by show ¬ (w.heap.size + 2 < w.heap.size + 2); omega) (by show w.heap.size + 2 < w.heap.size + 3; omega) (.slice A5 (xs.length + 1) c5)))
          clear HB9 K90 K91 K92 HAP9 HG9
          go_wp2_with fail
          go_roundw
          case rel => exact ⟨s + 1, 0, xs ++ [t], _, by omega, by omega, by omega, by go_num, rfl, by rw [List.length_append, List.length_singleton]; omega, HSF3, S9⟩
          case measure => simp [intOf]; omega
    · obtain rfl : s = n.kids.length := by omega
      rw [List.drop_length, slotsF] at HSF
      have HT := Lib.hid HSF.out.end
      have HO2 := Lib.hid (show scrF rs (listM rs f) n path (decide (kd = 2)) = .ok ⟨zerT, xs, fe, vr⟩ by rw [HSCR.out, HT.out]; rfl)
      obtain ⟨Af, cf, rfl, hcf, hcg, hts⟩ := HS.out.app.form fun b hb => by omega
      have HTS := Lib.hid hts
      have k2c := fun i => HS.out.k2.cell i
      have k1c := fun i => HS.out.k1.cell i
      have k1f := fun i => HS.out.k1.frozen i
      have KK1 := Lib.hid HS.out.k1
      clear hts
      go_wp2_with fail
      have KR := Lib.hid (set8 KK1.out (.int .i64 0) (.string ⟨#[]⟩) (.string ⟨#[]⟩) (.slice none 0 0) (.string ⟨#[]⟩) (.slice Af xs.length cf) (.string fe) (.string vr))
      have HB8 := Lib.hid (below8 (g := w.heap.size + 1) HS.out.bel HS.out.bel.size (by omega) (.int .i64 0) (.string ⟨#[]⟩) (.string ⟨#[]⟩) (.slice none 0 0) (.string ⟨#[]⟩) (.slice Af xs.length cf) (.string fe) (.string vr))
      have HG8 := Lib.hid (grown8 wr (w.heap.size + 1) (.int .i64 0) (.string ⟨#[]⟩) (.string ⟨#[]⟩) (.slice none 0 0) (.string ⟨#[]⟩) (.slice Af xs.length cf) (.string fe) (.string vr))
      change bodyPost _ _ _ _ _ (sets8 wr (w.heap.size + 1) (.int .i64 0) (.string ⟨#[]⟩) (.string ⟨#[]⟩) (.slice none 0 0) (.string ⟨#[]⟩) (.slice Af xs.length cf) (.string fe) (.string vr))
      generalize sets8 wr (w.heap.size + 1) (.int .i64 0) (.string ⟨#[]⟩) (.string ⟨#[]⟩) (.slice none 0 0) (.string ⟨#[]⟩) (.slice Af xs.length cf) (.string fe) (.string vr) = w9 at *
      have r0 := fun i => KR.out.cell i
      exact bodyPost_ret (v := .tuple #[.agg #[.int .i64 0, .string ⟨#[]⟩, .string ⟨#[]⟩, .slice none 0 0, .string ⟨#[]⟩, .slice Af xs.length cf, .string fe, .string vr], .pointer none]) (by simp [results, Tryz.results67, go_sem, r0]) rfl (show PrtP _ _ _ _ by rw [HO2.out]; exact ⟨⟨_, rfl, _, _, _, _, _, _, _, _, _, rfl, zer_at _ _, hcf, hcg, HTS.out.map HG8.out.size (fun b _ hb => by omega) (fun p _ ho => World.cell?_of_block (HG8.out.block _ ‹_› fun e => by have := Option.some.inj e; omega)), HEZ.out, HVZ.out, by have := form_len HFO.out; show xs.length ≤ 1000; omega⟩, HB8.out⟩)
end Go.Proofs.YthpioplpfmlgcaaGreatDoor.El
