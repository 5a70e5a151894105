/- operand: the meaning of an operand. -/
import Derived.Test.YthpioplpfmlgcaaGreatDoorH5f6aca22
import Derived.BigQuiet
import Derived.Deep.DeepCutAuto
namespace Go.Proofs.YthpioplpfmlgcaaGreatDoor.El
open Go.Proofs.YthpioplpfmlgcaaGreatDoor.At
open Go.Proofs.YthpioplpfmlgcaaGreatDoor.Ch
open Go.Proofs.YthpioplpfmlgcaaGreatDoor.Sp
open Go.Proofs.YthpioplpfmlgcaaGreatDoor.Sy
open Go.RowKit
theorem form_len {n : Tre} (h : formT n = true) : n.kids.length ≤ 256 := by
  have h := (form_own h).2
  unfold kidsB at h
  split at h
  · simp only [Bool.and_eq_true, decide_eq_true_eq] at h
    omega
  · rw [Bool.and_eq_true] at h
    have h2 := h.2
    repeat' split at h2
    all_goals (try simp only [decide_eq_true_eq] at h2)
    all_goals (first | omega | cases h2)
/-- the boxes of operand; v: the arguments so far -/
structure OpS (w : World) (cs : Array Value) (nam frm : ByteArray) (v : Value) (xs : List Trm) (x : World) : Prop where
  bel : Below w.heap.size w x
  k0 : Blk x w.heap.size 25 cs
  k1 : Blk x (w.heap.size + 1) 31 zerC
  k2 : Blk x (w.heap.size + 2) 31 #[.int .i64 4, .string nam, .string ⟨#[]⟩, v, .string frm]
  app : AppT (fun b => w.heap.size + 2 < b) x (w.heap.size + 3) v xs
theorem OpS.keep {w x x' : World} {cs : Array Value} {nam frm : ByteArray} {v : Value} {xs : List Trm} (h : OpS w cs nam frm v xs x) (hb : Below x.heap.size x x') : OpS w cs nam frm v xs x' :=
  ⟨h.bel.trans (hb.mono h.bel.size), _root_.Go.Proofs.YthpioplpfmlgcaaGreatDoor.keep hb h.k0, _root_.Go.Proofs.YthpioplpfmlgcaaGreatDoor.keep hb h.k1, _root_.Go.Proofs.YthpioplpfmlgcaaGreatDoor.keep hb h.k2, h.app.keep hb⟩
/-- the same while a block above the boxes is written -/
theorem OpS.grow {w x x' : World} {cs : Array Value} {nam frm : ByteArray} {v : Value} {xs : List Trm} {g : Nat} (h : OpS w cs nam frm v xs x) (hg : x.grownBy x' (some g)) (h1 : w.heap.size + 2 < g) (h2 : ∀ b, v.ownBlock = some b → b < g) (h3 : AppT (fun b => w.heap.size + 2 < b ∧ b < g) x (w.heap.size + 3) v xs) : OpS w cs nam frm v xs x' :=
  ⟨h.bel.grown hg h.bel.size fun r e => by have := Option.some.inj e; omega, h.k0.grown hg fun e => by have := Option.some.inj e; omega, h.k1.grown hg fun e => by have := Option.some.inj e; omega, h.k2.grown hg fun e => by have := Option.some.inj e; omega,
    (h3.grownT hg (fun b hb e => by have := h2 b hb; have := Option.some.inj e; omega) (fun b hb e => by have := Option.some.inj e; omega)).weak fun b _ hb => hb.1⟩
set_option maxRecDepth 100000 in
set_option maxHeartbeats 8000000 in
theorem operand_any (g : Nat) (A : Option Addr) (cap : Nat) (rs : List Rul) (f : Nat) (HL : ListC g A cap rs f) (n : Tre) (c : Array Value) (path : List Int) (Ap : Option Addr) (cp : Nat) (w : World) (hR : RdrAt w g A cap rs) (hN : NodAt w n c) (hP : PathAt w Ap path) (hF : formT n = true) (hk1 : n.kind ≠ 1) (hcnt : countT n ≤ f) (hpl : path.length + countT n ≤ 900000) :
    Calls Tryz.prog 66 #[.pointer (some ⟨g, 0, none⟩), .agg c, .slice Ap path.length cp] w (OpndP (opndF (listM rs f) n path) w) := by
  obtain ⟨i0, hi, hz0, hz1, hz2⟩ := Sp.info_parts info_tm
  obtain ⟨A2, cap2, rfl, hsz, hl, hc, hk⟩ := hN.form
  have B1 := bel_alloc w (.cells #[.int .i64 n.kind, .string n.text, .int .i64 n.cols, .slice A2 n.kids.length cap2] 25)
  have s1 : (w.alloc (.cells #[.int .i64 n.kind, .string n.text, .int .i64 n.cols, .slice A2 n.kids.length cap2] 25)).heap.size = w.heap.size + 1 := by simp
  have B2 := bel_alloc (w.alloc (.cells #[.int .i64 n.kind, .string n.text, .int .i64 n.cols, .slice A2 n.kids.length cap2] 25)) (.cells zerC 31)
  have HB := Lib.hid (B1.trans (B2.mono B1.size))
  have K0 := Lib.hid (keep B2 (Blk.new w 25 #[.int .i64 n.kind, .string n.text, .int .i64 n.cols, .slice A2 n.kids.length cap2]))
  have K1 := Lib.hid (Blk.new (w.alloc (.cells #[.int .i64 n.kind, .string n.text, .int .i64 n.cols, .slice A2 n.kids.length cap2] 25)) 31 zerC)
  rw [s1] at K1
  have HS2 := Lib.hid (show ((w.alloc (.cells #[.int .i64 n.kind, .string n.text, .int .i64 n.cols, .slice A2 n.kids.length cap2] 25)).alloc (.cells zerC 31)).heap.size = w.heap.size + 2 by simp)
  have HR := Lib.hid hR
  have HN := Lib.hid hN
  have HK := Lib.hid hk
  have HP := Lib.hid hP
  have HFO := Lib.hid hF
  have HCN := Lib.hid hcnt
  have HPL := Lib.hid hpl
  have HK1 := Lib.hid hk1
  have HSZ := Lib.hid hsz
  have HLL := Lib.hid HL
  clear hR hN hk hP hF hcnt hpl hk1 hsz HL B1 B2 s1
  go_enter Tryz.func66, Tryz.ntmps66
  go_upto_region 1 with (fail)
  generalize (w.alloc (.cells #[.int .i64 n.kind, .string n.text, .int .i64 n.cols, .slice A2 n.kids.length cap2] 25)).alloc (.cells zerC 31) = w1 at *
  have k00 := K0.out.cell 0
  have k01 := K0.out.cell 1
  have k02 := K0.out.cell 2
  have k03 := K0.out.cell 3
  have k1c := fun i => K1.out.cell i
  have k1f := fun i => K1.out.frozen i
  by_cases n2 : n.kind = 2
  · have q2 : (n.kind == 2) = true := beq_iff_eq.2 n2
    have HO := Lib.hid (show opndF (listM rs f) n path = .ok ⟨.mk 2 n.text ⟨#[]⟩ ⟨#[]⟩ [], [], ⟨#[]⟩, ⟨#[]⟩⟩ by unfold opndF; rw [if_pos n2])
    clear n2
    go_wp2_with fail
    have KR := Lib.hid (set5 K1.out (.int .i64 2) (.string n.text) (.string ⟨#[]⟩) (.slice none 0 0) (.string ⟨#[]⟩))
    have HB5 := Lib.hid (below5 (g := w.heap.size + 1) HB.out HB.out.size (by omega) (.int .i64 2) (.string n.text) (.string ⟨#[]⟩) (.slice none 0 0) (.string ⟨#[]⟩))
    have HG5 := Lib.hid (grown5 w1 (w.heap.size + 1) (.int .i64 2) (.string n.text) (.string ⟨#[]⟩) (.slice none 0 0) (.string ⟨#[]⟩))
    generalize ((((w1.setCell ⟨w.heap.size + 1, 0, none⟩ (.int .i64 2)).setCell ⟨w.heap.size + 1, 1, none⟩ (.string n.text)).setCell ⟨w.heap.size + 1, 2, none⟩ (.string ⟨#[]⟩)).setCell ⟨w.heap.size + 1, 3, none⟩ (.slice none 0 0)).setCell ⟨w.heap.size + 1, 4, none⟩ (.string ⟨#[]⟩) = w9 at *
    have r0 := KR.out.cell 0
    have r1 := KR.out.cell 1
    have r2 := KR.out.cell 2
    have r3 := KR.out.cell 3
    have r4 := KR.out.cell 4
    exact bodyPost_ret (v := .tuple #[.agg #[.int .i64 2, .string n.text, .string ⟨#[]⟩, .slice none 0 0, .string ⟨#[]⟩], .pointer none]) (by simp [results, Tryz.results66, go_sem, r0, r1, r2, r3, r4]) rfl (show OpndP _ _ _ _ by rw [HO.out]; exact ⟨⟨_, rfl, TmAt.zero _ _ 2 n.text HSZ.out⟩, HB5.out⟩)
  have q2 : (n.kind == 2) = false := beq_eq_false_iff_ne.2 n2
  by_cases n3 : n.kind = 3
  · have q3 : (n.kind == 3) = true := beq_iff_eq.2 n3
    have HO := Lib.hid (show opndF (listM rs f) n path = .ok ⟨.mk 1 n.text ⟨#[]⟩ ⟨#[]⟩ [], [], ⟨#[]⟩, ⟨#[]⟩⟩ by unfold opndF; rw [if_neg n2, if_pos n3])
    clear n2 n3
    go_wp2_with fail
    have KR := Lib.hid (set5 K1.out (.int .i64 1) (.string n.text) (.string ⟨#[]⟩) (.slice none 0 0) (.string ⟨#[]⟩))
    have HB5 := Lib.hid (below5 (g := w.heap.size + 1) HB.out HB.out.size (by omega) (.int .i64 1) (.string n.text) (.string ⟨#[]⟩) (.slice none 0 0) (.string ⟨#[]⟩))
    have HG5 := Lib.hid (grown5 w1 (w.heap.size + 1) (.int .i64 1) (.string n.text) (.string ⟨#[]⟩) (.slice none 0 0) (.string ⟨#[]⟩))
    generalize ((((w1.setCell ⟨w.heap.size + 1, 0, none⟩ (.int .i64 1)).setCell ⟨w.heap.size + 1, 1, none⟩ (.string n.text)).setCell ⟨w.heap.size + 1, 2, none⟩ (.string ⟨#[]⟩)).setCell ⟨w.heap.size + 1, 3, none⟩ (.slice none 0 0)).setCell ⟨w.heap.size + 1, 4, none⟩ (.string ⟨#[]⟩) = w9 at *
    have r0 := KR.out.cell 0
    have r1 := KR.out.cell 1
    have r2 := KR.out.cell 2
    have r3 := KR.out.cell 3
    have r4 := KR.out.cell 4
    exact bodyPost_ret (v := .tuple #[.agg #[.int .i64 1, .string n.text, .string ⟨#[]⟩, .slice none 0 0, .string ⟨#[]⟩], .pointer none]) (by simp [results, Tryz.results66, go_sem, r0, r1, r2, r3, r4]) rfl (show OpndP _ _ _ _ by rw [HO.out]; exact ⟨⟨_, rfl, TmAt.zero _ _ 1 n.text HSZ.out⟩, HB5.out⟩)
  have q3 : (n.kind == 3) = false := beq_eq_false_iff_ne.2 n3
  by_cases n4 : n.kind = 4
  · have q4 : (n.kind == 4) = true := beq_iff_eq.2 n4
    have HO := Lib.hid (show opndF (listM rs f) n path = .ok ⟨.mk 3 n.text ⟨#[]⟩ ⟨#[]⟩ [], [], ⟨#[]⟩, ⟨#[]⟩⟩ by unfold opndF; rw [if_neg n2, if_neg n3, if_pos n4])
    clear n2 n3 n4
    go_wp2_with fail
    have KR := Lib.hid (set5 K1.out (.int .i64 3) (.string n.text) (.string ⟨#[]⟩) (.slice none 0 0) (.string ⟨#[]⟩))
    have HB5 := Lib.hid (below5 (g := w.heap.size + 1) HB.out HB.out.size (by omega) (.int .i64 3) (.string n.text) (.string ⟨#[]⟩) (.slice none 0 0) (.string ⟨#[]⟩))
    have HG5 := Lib.hid (grown5 w1 (w.heap.size + 1) (.int .i64 3) (.string n.text) (.string ⟨#[]⟩) (.slice none 0 0) (.string ⟨#[]⟩))
    generalize ((((w1.setCell ⟨w.heap.size + 1, 0, none⟩ (.int .i64 3)).setCell ⟨w.heap.size + 1, 1, none⟩ (.string n.text)).setCell ⟨w.heap.size + 1, 2, none⟩ (.string ⟨#[]⟩)).setCell ⟨w.heap.size + 1, 3, none⟩ (.slice none 0 0)).setCell ⟨w.heap.size + 1, 4, none⟩ (.string ⟨#[]⟩) = w9 at *
    have r0 := KR.out.cell 0
    have r1 := KR.out.cell 1
    have r2 := KR.out.cell 2
    have r3 := KR.out.cell 3
    have r4 := KR.out.cell 4
    exact bodyPost_ret (v := .tuple #[.agg #[.int .i64 3, .string n.text, .string ⟨#[]⟩, .slice none 0 0, .string ⟨#[]⟩], .pointer none]) (by simp [results, Tryz.results66, go_sem, r0, r1, r2, r3, r4]) rfl (show OpndP _ _ _ _ by rw [HO.out]; exact ⟨⟨_, rfl, TmAt.zero _ _ 3 n.text HSZ.out⟩, HB5.out⟩)
  have q4 : (n.kind == 4) = false := beq_eq_false_iff_ne.2 n4
  have HNE := Lib.hid (show n.kids ≠ [] from fun e => by
    have h := (form_own HFO.out).2
    rw [e] at h
    unfold kidsB at h
    rw [if_neg HK1.out] at h
    simp only [List.length_nil] at h
    revert h
    by_cases h12 : n.kind = 12 <;> simp [h12, n2, n3, n4])
  have HO := Lib.hid (opnd_rest (M := listM rs f) (path := path) n2 n3 n4 HNE.out)
  have HSH := Lib.hid (fun (wq : World) (hb : Below w.heap.size w wq) => shape_any n #[.int .i64 n.kind, .string n.text, .int .i64 n.cols, .slice A2 n.kids.length cap2] wq (HN.out.keep hb) (fun _ => HNE.out) (fun e => form_cols HFO.out e) (by have := form_text HFO.out; omega))
  clear n2 n3 n4
  go_upto_region 9 with (fail)
  have B3 := bel_alloc w1 (.cells #[.int .i64 4, .string ⟨#[]⟩, .string ⟨#[]⟩, .slice none 0 0, .string ⟨#[]⟩] 31)
  have K2 := Lib.hid (Blk.new w1 31 #[.int .i64 4, .string ⟨#[]⟩, .string ⟨#[]⟩, .slice none 0 0, .string ⟨#[]⟩])
  rw [HS2.out] at K2
  replace HB := Lib.hid (HB.out.trans (B3.mono HB.out.size))
  replace K0 := Lib.hid (keep B3 K0.out)
  replace K1 := Lib.hid (keep B3 K1.out)
  rw [HS2.out]
  clear k00 k01 k02 k03 k1c k1f B3
  generalize w1.alloc (.cells #[.int .i64 4, .string ⟨#[]⟩, .string ⟨#[]⟩, .slice none 0 0, .string ⟨#[]⟩] 31) = w2 at *
  have k00 := K0.out.cell 0
  have k01 := K0.out.cell 1
  have k02 := K0.out.cell 2
  have k03 := K0.out.cell 3
  have k2c := fun i => K2.out.cell i
  have k2f := fun i => K2.out.frozen i
  go_wp2_with fail
  refine (HSH.out w2 HB.out).mono ?_
  rintro e w3 ⟨rfl, hb⟩
  replace HB := Lib.hid (HB.out.trans (hb.mono HB.out.size))
  replace K0 := Lib.hid (keep hb K0.out)
  replace K1 := Lib.hid (keep hb K1.out)
  replace K2 := Lib.hid (keep hb K2.out)
  have HSN := Lib.hid (show (shapeN n).1.size ≤ 2000 ∧ (shapeN n).2.size ≤ 2000 from shape_size (form_text HFO.out) (fun e => (form_cols HFO.out e).2))
  clear hb k00 k01 k02 k03 k2c k2f HSH
  generalize (shapeN n).1 = nam at *
  generalize (shapeN n).2 = frm at *
  have k2c := fun i => K2.out.cell i
  have k2f := fun i => K2.out.frozen i
  go_upto_region 10 with (fail)
  have h2 := (K2.out.set_ 1 (.string nam)).set_ 4 (.string frm)
  have hg2 : w3.grownBy ((w3.setCell ⟨w.heap.size + 2, 1, none⟩ (.string nam)).setCell ⟨w.heap.size + 2, 4, none⟩ (.string frm)) (some (w.heap.size + 2)) := grown_two (grown_set' w3 ⟨w.heap.size + 2, 1, none⟩ (.string nam)) (grown_set' _ ⟨w.heap.size + 2, 4, none⟩ (.string frm))
  have S0 := Lib.hid (OpS.mk (xs := []) (v := .slice none 0 0) (HB.out.grown hg2 HB.out.size fun r e => by have := Option.some.inj e; omega) (K0.out.grown hg2 fun e => by have := Option.some.inj e; omega) (K1.out.grown hg2 fun e => by have := Option.some.inj e; omega) h2 (AppT.nil _ _ _))
  clear k2c k2f h2 hg2 HB K0 K1 K2
  generalize (w3.setCell ⟨w.heap.size + 2, 1, none⟩ (.string nam)).setCell ⟨w.heap.size + 2, 4, none⟩ (.string frm) = w4 at *
  have k0c := S0.out.k0.cell 3
  go_wp2_with fail
  go_loopw [41] (fun i wr => ∃ (s : Nat) (xs : List Trm) (v : Value), s ≤ n.kids.length ∧ i = .int .i64 s ∧ xs.length ≤ s ∧ Hid (SoFar (restF (listM rs f) n path 0) xs (restF (listM rs f) n path s)) ∧ Hid (OpS w #[.int .i64 n.kind, .string n.text, .int .i64 n.cols, .slice A2 n.kids.length cap2] nam frm v xs wr)) (fun i _ => n.kids.length - (intOf i).toNat)
  case atStart => exact ⟨0, [], _, by omega, rfl, by simp, Lib.hid (SoFar.start _), S0⟩
  case round =>
    clear S0
    obtain ⟨s, xs, v, hs, rfl, hxs, HSF, HS⟩ := hrel
    by_cases hlt : s < n.kids.length
    · obtain ⟨d, hd⟩ : ∃ d, n.kids[s]? = some d := ⟨_, List.getElem?_eq_getElem hlt⟩
      obtain ⟨ad, A3, cap3, rfl, hadl, hsz3, hl3, hc3, hk3, hn3, d0, d1, d2, d3⟩ := HK.out.at_ hd
      have hadb : ∀ o, (⟨(ad.add (s * 4)).block, o, none⟩ : Addr).block < w.heap.size := fun o => by show (ad.add (s * 4)).block < _; rw [block_of_add]; exact hadl
      have e0 := (HS.out.bel.cell (p := ad.add (s * 4)) (by rw [block_of_add]; exact hadl)).trans d0
      have e1 := (HS.out.bel.cell (hadb ((ad.add (s * 4)).off + 1))).trans d1
      have e2 := (HS.out.bel.cell (hadb ((ad.add (s * 4)).off + 2))).trans d2
      have e3 := (HS.out.bel.cell (hadb ((ad.add (s * 4)).off + 3))).trans d3
      have HKD := Lib.hid hk3
      have HCD := Lib.hid (slot_count hd)
      have HFD := Lib.hid (form_slot HFO.out HK1.out hd)
      have HD := Lib.hid hd
      clear hd hk3 hn3 d0 d1 d2 d3 hadb
      go_upto_region 13 with (fail)
      have hba := bel_alloc wr (.cells #[.int .i64 d.kind, .string d.text, .int .i64 d.cols, .slice A3 d.kids.length cap3] 25)
      have HWR := Lib.hid (show w.heap.size + 2 < wr.heap.size from HS.out.k2.lt)
      have K5 := Lib.hid (Blk.new wr 25 #[.int .i64 d.kind, .string d.text, .int .i64 d.cols, .slice A3 d.kids.length cap3])
      replace HS := Lib.hid (HS.out.keep hba)
      clear hba e0 e1 e2 e3
      generalize wr.heap.size = gd at *
      generalize wr.alloc (.cells #[.int .i64 d.kind, .string d.text, .int .i64 d.cols, .slice A3 d.kids.length cap3] 25) = w5 at *
      go_cut [58] (fun b wc => b = .bool (skipB n s) ∧ wc = w5)
      case first =>
        have k0c := HS.out.k0.cell 0
        have k5c := K5.out.cell 3
        by_cases n6 : n.kind = 6
        case neg =>
          have q6 : (n.kind == 6) = false := beq_eq_false_iff_ne.2 n6
          have HK := Lib.hid (show skipB n s = false by unfold skipB; rw [decide_eq_false n6]; rfl)
          clear n6
          go_wp2_with fail
          go_meet
          exact ⟨by rw [HK.out], rfl⟩
        have q6 : (n.kind == 6) = true := beq_iff_eq.2 n6
        by_cases s0 : s = 0
        case neg =>
          have q0 : ((s : Int) == 0) = false := by rw [beq_eq_false_iff_ne]; omega
          have HK := Lib.hid (show skipB n s = false by unfold skipB; rw [decide_eq_false s0]; simp)
          clear n6 s0
          go_wp2_with fail
          go_meet
          exact ⟨by rw [HK.out], rfl⟩
        have q0 : ((s : Int) == 0) = true := by rw [s0]; rfl
        have hkd : ∃ r, n.kids = d :: r := by
          have h := HD.out
          rw [s0] at h
          cases hn : n.kids with
          | nil => rw [hn] at h; simp at h
          | cons x r => rw [hn] at h; obtain rfl : x = d := by simpa using h
                        exact ⟨r, rfl⟩
        obtain ⟨r, hkd⟩ := hkd
        by_cases e0 : d.kids.length = 0
        · have q1 : ((d.kids.length : Int) == 0) = true := by rw [e0]; rfl
          have HK := Lib.hid (show skipB n s = true by unfold skipB; rw [decide_eq_true n6, decide_eq_true s0, hkd]; exact List.isEmpty_iff.2 (List.length_eq_zero_iff.1 e0))
          replace hkd := Lib.hid hkd
          replace s0 := Lib.hid s0
          replace e0 := Lib.hid e0
          clear n6
          go_wp2_with fail
          go_meet
          exact ⟨by rw [HK.out], rfl⟩
        · have q1 : ((d.kids.length : Int) == 0) = false := by rw [beq_eq_false_iff_ne]; omega
          have HK := Lib.hid (show skipB n s = false by unfold skipB; rw [decide_eq_true n6, decide_eq_true s0, hkd]; exact List.isEmpty_eq_false_iff.2 fun e => e0 (by rw [e]; rfl))
          replace hkd := Lib.hid hkd
          replace s0 := Lib.hid s0
          replace e0 := Lib.hid e0
          clear n6
          go_wp2_with fail
          go_meet
          exact ⟨by rw [HK.out], rfl⟩
      obtain ⟨rfl, rfl⟩ := hcut
      cases hsk : skipB n s with
      | true =>
        have HSF2 := Lib.hid (show SoFar (restF (listM rs f) n path 0) xs (restF (listM rs f) n path (s + 1)) by rw [← rest_skip hsk]; exact HSF.out)
        clear hsk
        go_wp2_with fail
        go_roundw
        case rel => exact ⟨s + 1, xs, v, by omega, by go_num, by omega, HSF2, HS⟩
        case measure => simp [intOf]; omega
      | false =>
        have HSF2 := Lib.hid (show SoFar (restF (listM rs f) n path 0) xs ((listM rs f d.kids (path ++ [(s : Int)]) 0).then_ fun t => (restF (listM rs f) n path (s + 1)).then_ fun ts => .ok (t :: ts)) by rw [← rest_go hsk HD.out]; exact HSF.out)
        clear hsk HSF
        obtain ⟨pq, hpq⟩ : ∃ pq, pq = path ++ [(s : Int)] := ⟨_, rfl⟩
        have HPQ := Lib.hid hpq
        have HPS := Lib.hid (show pq.length = path.length + 1 by rw [hpq, List.length_append]; rfl)
        rw [← hpq] at HSF2
        clear hpq
        have HPW := Lib.hid (HP.out.keep HS.out.bel)
        have HRW := Lib.hid (HR.out.keep HS.out.bel)
        have HDW := Lib.hid (HKD.out.keep HS.out.bel)
        have HGD := Lib.hid (show gd < wc.heap.size from K5.out.lt)
        go_upto_region 14 with (fail)
        refine region_mono (X := Gh) (w0 := _) (by kernel_rfl) [2, 2, 1, 2, 2, 1, 1, 1, 1, 2, 2, 2, 1, 3, 2] [false, false, false, false, false, false, false, false, false, false, false, false, false, false, false] _ (fun gx => [.pointer (some ⟨g, 0, none⟩), .pointer (some ⟨gd, 3, none⟩), .slice A3 d.kids.length cap3, .slice Ap path.length cp, .int .i64 (s : Int), .slice (some ⟨gx.n 65, 0, none⟩) 1 1, .slice (some ⟨gx.n 66, 0, none⟩) 2 2, gx.v 67, .tuple #[gx.v 68, gx.v 69], .tuple #[gx.v 68, gx.v 69], gx.v 68, gx.v 69, .pointer (some ⟨gx.n 11, 0, none⟩), undef, gx.v 69]) [(5, fun gx wx => Blk wx (gx.n 65) 3 #[.int .i64 (s : Int)]), (6, fun gx wx => Blk wx (gx.n 66) 32 #[.slice Ap path.length cp, .slice (some ⟨gx.n 65, 0, none⟩) 1 1]), (7, fun gx wx => ∃ A8 c8, gx.v 67 = .slice A8 pq.length c8 ∧ pq.length ≤ c8 ∧ c8 ≤ 9223372036854775807 ∧ PathAt wx A8 pq), (8, fun gx wx => LRes (gx.n 68) (gx.n 69) (listM rs f d.kids pq 0) wx (gx.v 68) (gx.v 69) ∧ wc.heap.size ≤ gx.n 68 ∧ gx.n 68 ≤ gx.n 69), (12, fun gx wx => Blk wx (gx.n 11) 31 zerC ∧ wc.heap.size ≤ gx.n 11)] (fun gx wx => (gx.n 11 = 0 ∨ gx.n 11 < wx.heap.size) ∧ gx.n 69 ≤ wx.heap.size ∧ (gx.n 11 = 0 ∨ gx.n 69 = 0 ∨ gx.n 11 < gx.n 68 ∨ gx.n 69 ≤ gx.n 11)) Gh.zero (by kernel_rfl) (fun gx => by simp [fin, finOn, dstAt, List.range, List.range.loop, Act.put]; rfl) (fun _ => by kernel_rfl) (MonoAll.cons (fun gx wx w2 h hb => keep hb h) (MonoAll.cons (fun gx wx w2 h hb => keep hb h) (MonoAll.cons (fun gx wx w2 ⟨A8, c8, h1, h2, h3, h4⟩ hb => ⟨A8, c8, h1, h2, h3, h4.keep hb⟩) (MonoAll.cons (fun gx wx w2 h hb => ⟨h.1.keep hb, h.2⟩) (MonoAll.cons (fun gx wx w2 h hb => ⟨keep hb h.1, h.2⟩) MonoAll.nil))))) (⟨.inl rfl, Nat.zero_le _, .inl rfl⟩) ?_ (by kernel_rfl) ?_
        · refine ⟨fun gx wq => ?_, fun gx wq => ?_, fun gx wq hB hJ hf => ?_, fun gx wq => ?_, fun gx wq => ?_, fun gx wq hB hJ hf => ?_, fun gx wq hB hJ hf => ?_, fun gx wq hB hJ hf => ?_, fun gx wq hB hJ hf => ?_, fun gx wq => ?_, fun gx wq => ?_, fun gx wq => ?_, fun gx wq hB hJ hf => ?_, fun gx wq => ?_, trivial⟩
          · exact Gives.pure (v := .pointer (some ⟨g, 0, none⟩)) (by kernel_rfl) rfl
          · exact Gives.pure (v := .pointer (some ⟨gd, 3, none⟩)) (by simp [go_sem, evAct]) rfl
          · have cJ := (keep hB K5.out).cell 3
            exact Gives.still (v := .slice A3 d.kids.length cap3) hJ (by kernel_rfl) (by simp [go_sem, evAct, cJ]) rfl
          · exact Gives.pure (v := .slice Ap path.length cp) (by kernel_rfl) rfl
          · exact Gives.pure (v := .int .i64 (s : Int)) (by kernel_rfl) rfl
          · exact Gives.value (v := .slice (some ⟨wq.heap.size, 0, none⟩) 1 1) (w' := wq.alloc (.cells #[.int .i64 (s : Int)] 3)) (by simp [go_sem, evAct]) ⟨gx.setN 65 wq.heap.size, rfl, (KeepsV.of_same ⟨.inr (.inr rfl), .inr (.inr rfl), .inr (.inr rfl), .inr (.inr rfl), .inr (.inr rfl), .inl rfl, (by first | exact .inr (.inr rfl) | exact .inr (.inl (by kernel_rfl))), (by first | exact .inr (.inr rfl) | exact .inr (.inl (by kernel_rfl))), (by first | exact .inr (.inr rfl) | exact .inr (.inl (by kernel_rfl))), (by first | exact .inr (.inr rfl) | exact .inr (.inl (by kernel_rfl))), (by first | exact .inr (.inr rfl) | exact .inr (.inl (by kernel_rfl))), (by first | exact .inr (.inr rfl) | exact .inr (.inl (by kernel_rfl))), (by first | exact .inr (.inr rfl) | exact .inr (.inl (by kernel_rfl))), .inr (.inr rfl), (by first | exact .inr (.inr rfl) | exact .inr (.inl (by kernel_rfl))), trivial⟩), bel_alloc wq _, ⟨Blk.new wq _ _, .inl (by kernel_rfl), .inl (by kernel_rfl), .inl (by kernel_rfl), .inr fun h => h, trivial⟩, (by obtain ⟨j1, j2, j3⟩ := hJ; have hs := (bel_alloc wq (.cells #[.int .i64 (s : Int)] 3)).size; exact ⟨j1.imp id (fun h => Nat.lt_of_lt_of_le h hs), Nat.le_trans j2 hs, j3⟩)⟩
          · have f65 := hf.1 (by kernel_rfl)
            exact Gives.value (v := .slice (some ⟨wq.heap.size, 0, none⟩) 2 2) (w' := wq.alloc (.cells #[.slice Ap path.length cp, .slice (some ⟨gx.n 65, 0, none⟩) 1 1] 32)) (by simp [go_sem, evAct]) ⟨gx.setN 66 wq.heap.size, rfl, (KeepsV.of_same ⟨.inr (.inr rfl), .inr (.inr rfl), .inr (.inr rfl), .inr (.inr rfl), .inr (.inr rfl), (by first | exact .inr (.inr rfl) | exact .inr (.inl (by kernel_rfl))), .inl rfl, (by first | exact .inr (.inr rfl) | exact .inr (.inl (by kernel_rfl))), (by first | exact .inr (.inr rfl) | exact .inr (.inl (by kernel_rfl))), (by first | exact .inr (.inr rfl) | exact .inr (.inl (by kernel_rfl))), (by first | exact .inr (.inr rfl) | exact .inr (.inl (by kernel_rfl))), (by first | exact .inr (.inr rfl) | exact .inr (.inl (by kernel_rfl))), (by first | exact .inr (.inr rfl) | exact .inr (.inl (by kernel_rfl))), .inr (.inr rfl), (by first | exact .inr (.inr rfl) | exact .inr (.inl (by kernel_rfl))), trivial⟩), bel_alloc wq _, ⟨.inr fun h => h, Blk.new wq _ _, .inl (by kernel_rfl), .inl (by kernel_rfl), .inr fun h => h, trivial⟩, (by obtain ⟨j1, j2, j3⟩ := hJ; have hs := (bel_alloc wq (.cells #[.slice Ap path.length cp, .slice (some ⟨gx.n 65, 0, none⟩) 1 1] 32)).size; exact ⟨j1.imp id (fun h => Nat.lt_of_lt_of_le h hs), Nat.le_trans j2 hs, j3⟩)⟩
          · have f65 := hf.1 (by kernel_rfl)
            have f66 := hf.2.1 (by kernel_rfl)
            refine Gives.call (f := 65) (args := #[.slice (some ⟨gx.n 66, 0, none⟩) 2 2]) (w' := wq) (by kernel_rfl) ((step_any (gx.n 66) (gx.n 65) Ap path cp (s : Int) wq f66 f65 (HPW.out.keep hB) (by have := HPL.out; omega)).mono ?_)
            rintro e wz ⟨⟨q8, A8, c8, hq8, rfl, hc1, hc2, hpa, _⟩, hb⟩
            rw [← HPQ.out] at hq8
            subst hq8
            exact ⟨_, rfl, gx.setV 67 (.slice A8 q8.length c8), rfl, (KeepsV.of_same ⟨.inr (.inr rfl), .inr (.inr rfl), .inr (.inr rfl), .inr (.inr rfl), .inr (.inr rfl), (by first | exact .inr (.inr rfl) | exact .inr (.inl (by kernel_rfl))), (by first | exact .inr (.inr rfl) | exact .inr (.inl (by kernel_rfl))), .inl rfl, (by first | exact .inr (.inr rfl) | exact .inr (.inl (by kernel_rfl))), (by first | exact .inr (.inr rfl) | exact .inr (.inl (by kernel_rfl))), (by first | exact .inr (.inr rfl) | exact .inr (.inl (by kernel_rfl))), (by first | exact .inr (.inr rfl) | exact .inr (.inl (by kernel_rfl))), (by first | exact .inr (.inr rfl) | exact .inr (.inl (by kernel_rfl))), .inr (.inr rfl), (by first | exact .inr (.inr rfl) | exact .inr (.inl (by kernel_rfl))), trivial⟩), hb, ⟨.inr fun h => h, .inr fun h => h, ⟨A8, c8, rfl, hc1, hc2, hpa⟩, .inl (by kernel_rfl), .inr fun h => h, trivial⟩, (by obtain ⟨j1, j2, j3⟩ := hJ; have hs := hb.size; exact ⟨j1.imp id (fun h => Nat.lt_of_lt_of_le h hs), Nat.le_trans j2 hs, j3⟩)⟩
          · have f65 := hf.1 (by kernel_rfl)
            have f66 := hf.2.1 (by kernel_rfl)
            have f67 := hf.2.2.1 (by kernel_rfl)
            obtain ⟨A8, c8, e8, hc1, hc2, hpa⟩ := f67
            refine Gives.call (f := 37) (args := #[.pointer (some ⟨g, 0, none⟩), .slice A3 d.kids.length cap3, .slice A8 pq.length c8, .int .i64 0]) (w' := wq) (by simp [go_sem, evAct, e8]) ((HLL.out d.kids pq 0 A3 A8 cap3 c8 wq (HRW.out.keep hB) (HDW.out.keep hB) hl3 hc3 hpa (by have := HPS.out; have := HPL.out; have := HCD.out; omega) (by have := HCN.out; have := HCD.out; omega) HFD.out (by omega)).mono ?_)
            rintro e wz hm
            obtain ⟨c9, f9, rfl, hres, hb⟩ := hm.res
            exact ⟨_, rfl, (((gx.setV 68 c9).setV 69 f9).setN 68 wq.heap.size).setN 69 wz.heap.size, rfl, (KeepsV.of_same ⟨.inr (.inr rfl), .inr (.inr rfl), .inr (.inr rfl), .inr (.inr rfl), .inr (.inr rfl), (by first | exact .inr (.inr rfl) | exact .inr (.inl (by kernel_rfl))), (by first | exact .inr (.inr rfl) | exact .inr (.inl (by kernel_rfl))), (by first | exact .inr (.inr rfl) | exact .inr (.inl (by kernel_rfl))), .inl rfl, (by first | exact .inr (.inr rfl) | exact .inr (.inl (by kernel_rfl))), (by first | exact .inr (.inr rfl) | exact .inr (.inl (by kernel_rfl))), (by first | exact .inr (.inr rfl) | exact .inr (.inl (by kernel_rfl))), (by first | exact .inr (.inr rfl) | exact .inr (.inl (by kernel_rfl))), .inr (.inr rfl), (by first | exact .inr (.inr rfl) | exact .inr (.inl (by kernel_rfl))), trivial⟩), hb, ⟨.inr fun h => h, .inr fun h => h, .inr fun h => h, ⟨hres, hB.size, hb.size⟩, .inr fun h => h, trivial⟩, (by obtain ⟨j1, j2, j3⟩ := hJ; exact ⟨j1.imp id (fun h => Nat.lt_of_lt_of_le h hb.size), Nat.le_refl _, j1.elim .inl (fun h => .inr (.inr (.inl h)))⟩)⟩
          · exact Gives.pure (v := .tuple #[gx.v 68, gx.v 69]) (by kernel_rfl) rfl
          · exact Gives.pure (v := gx.v 68) (by kernel_rfl) rfl
          · exact Gives.pure (v := gx.v 69) (by kernel_rfl) rfl
          · exact Gives.value (v := .pointer (some ⟨wq.heap.size, 0, none⟩)) (w' := wq.alloc (.cells zerC 31)) (by simp [go_sem]) ⟨gx.setN 11 wq.heap.size, rfl, (KeepsV.of_same ⟨.inr (.inr rfl), .inr (.inr rfl), .inr (.inr rfl), .inr (.inr rfl), .inr (.inr rfl), (by first | exact .inr (.inr rfl) | exact .inr (.inl (by kernel_rfl))), (by first | exact .inr (.inr rfl) | exact .inr (.inl (by kernel_rfl))), (by first | exact .inr (.inr rfl) | exact .inr (.inl (by kernel_rfl))), (by first | exact .inr (.inr rfl) | exact .inr (.inl (by kernel_rfl))), (by first | exact .inr (.inr rfl) | exact .inr (.inl (by kernel_rfl))), (by first | exact .inr (.inr rfl) | exact .inr (.inl (by kernel_rfl))), (by first | exact .inr (.inr rfl) | exact .inr (.inl (by kernel_rfl))), .inl rfl, .inr (.inr rfl), (by first | exact .inr (.inr rfl) | exact .inr (.inl (by kernel_rfl))), trivial⟩), bel_alloc wq _, ⟨.inr fun h => h, .inr fun h => h, .inr fun h => h, .inr fun h => h, ⟨Blk.new wq _ _, hB.size⟩, trivial⟩, (by obtain ⟨j1, j2, j3⟩ := hJ; exact ⟨.inr (by show wq.heap.size < _; simp), Nat.le_trans j2 (bel_alloc wq (.cells zerC 31)).size, .inr (.inr (.inr j2))⟩)⟩
          · exact Gives.pure (v := gx.v 69) (by kernel_rfl) rfl
        · refine fun gx wq hB hJ hf => ?_
          dsimp only [FactsAll] at hf
          change wpOps _ _ _ [13] _ _
          obtain ⟨-, -, -, ⟨hres, hlo, hhi⟩, ⟨hk11, hl11⟩, -⟩ := hf
          obtain ⟨-, -, j3⟩ := hJ
          have HSB := Lib.hid (HS.out.keep hB)
          have HAP := Lib.hid ((HS.out.app.weak (P' := fun b => w.heap.size + 2 < b ∧ b < wc.heap.size) fun b hb h => ⟨h, hb⟩).keep hB)
          have HVB := Lib.hid (fun b hb => (HS.out.app.ltT b hb).2)
          have HK11 := Lib.hid hk11
          have HN := Lib.hid (show gx.n 11 < gx.n 68 ∨ gx.n 69 ≤ gx.n 11 by have := HGD.out; omega)
          have HL := Lib.hid (And.intro hlo (And.intro hhi hl11))
          have HRES := Lib.hid hres
          have HW6 := Lib.hid hB.size
          clear hres hlo hhi hk11 hl11 j3 hB HS K5 HPW HRW HDW
          generalize gx.n 11 = g11 at *
          generalize gx.n 68 = n68 at *
          generalize gx.n 69 = n69 at *
          generalize gx.v 68 = c68 at *
          generalize gx.v 69 = c69 at *
          generalize gx.n 65 = n65 at *
          generalize gx.n 66 = n66 at *
          generalize gx.v 67 = v67 at *
          clear gx
          generalize wq = w6 at *
          have kc := fun i => HK11.out.cell i
          have kf := fun i => HK11.out.frozen i
          cases hM : listM rs f d.kids pq 0 with
          | bad er p =>
            have HR2 := HRES.out
            rw [hM] at HR2
            obtain ⟨rfl, gf, rfl, hff⟩ := HR2
            have HFF := Lib.hid hff
            have HO2 := Lib.hid (show opndF (listM rs f) n path = .bad er p by rw [HO.out, HSF2.out.bad hM]; rfl)
            clear hff HRES hM
            have HG7 := Lib.hid (grown5 w6 g11 (.int .i64 0) (.string ⟨#[]⟩) (.string ⟨#[]⟩) (.slice none 0 0) (.string ⟨#[]⟩))
            refine wpOps_skip (o := _) rfl rfl (w' := ((((w6.setCell ⟨g11, 0, none⟩ (.int .i64 0)).setCell ⟨g11, 1, none⟩ (.string ⟨#[]⟩)).setCell ⟨g11, 2, none⟩ (.string ⟨#[]⟩)).setCell ⟨g11, 3, none⟩ (.slice none 0 0)).setCell ⟨g11, 4, none⟩ (.string ⟨#[]⟩)) (by simp [go_sem, kc, kf]) ?_
            refine wpOps_done ?_
            clear kc kf
            generalize ((((w6.setCell ⟨g11, 0, none⟩ (.int .i64 0)).setCell ⟨g11, 1, none⟩ (.string ⟨#[]⟩)).setCell ⟨g11, 2, none⟩ (.string ⟨#[]⟩)).setCell ⟨g11, 3, none⟩ (.slice none 0 0)).setCell ⟨g11, 4, none⟩ (.string ⟨#[]⟩) = w7 at *
            have HS7 := Lib.hid (HSB.out.grow HG7.out (by have := HL.out.2.2; have := HGD.out; have := HWR.out; omega) (fun b hb => by have := HVB.out b hb; have := HL.out.2.2; omega) (HAP.out.weak fun b _ hb => ⟨hb.1, by have := HL.out.2.2; omega⟩))
            have HF7 := Lib.hid ((HFF.out.grown HG7.out fun hb => by have := HN.out; omega).any (ok' := fun b => w.heap.size + 2 < b) fun b _ hb => by have := HL.out.1; have := HGD.out; have := HWR.out; omega)
            clear HG7 HFF HSB HAP HK11 HVB
            have k1c := fun i => HS7.out.k1.cell i
            have k1f := fun i => HS7.out.k1.frozen i
            have KK1 := Lib.hid HS7.out.k1
            go_wp2_with fail
            have KR := Lib.hid (set5 KK1.out (.int .i64 0) (.string ⟨#[]⟩) (.string ⟨#[]⟩) (.slice none 0 0) (.string ⟨#[]⟩))
            have HB5 := Lib.hid (below5 (g := w.heap.size + 1) HS7.out.bel HS7.out.bel.size (by omega) (.int .i64 0) (.string ⟨#[]⟩) (.string ⟨#[]⟩) (.slice none 0 0) (.string ⟨#[]⟩))
            have HG5 := Lib.hid (grown5 w7 (w.heap.size + 1) (.int .i64 0) (.string ⟨#[]⟩) (.string ⟨#[]⟩) (.slice none 0 0) (.string ⟨#[]⟩))
            generalize ((((w7.setCell ⟨w.heap.size + 1, 0, none⟩ (.int .i64 0)).setCell ⟨w.heap.size + 1, 1, none⟩ (.string ⟨#[]⟩)).setCell ⟨w.heap.size + 1, 2, none⟩ (.string ⟨#[]⟩)).setCell ⟨w.heap.size + 1, 3, none⟩ (.slice none 0 0)).setCell ⟨w.heap.size + 1, 4, none⟩ (.string ⟨#[]⟩) = w9 at *
            have r0 := KR.out.cell 0
            have r1 := KR.out.cell 1
            have r2 := KR.out.cell 2
            have r3 := KR.out.cell 3
            have r4 := KR.out.cell 4
            exact bodyPost_ret (v := .tuple #[.agg #[.int .i64 0, .string ⟨#[]⟩, .string ⟨#[]⟩, .slice none 0 0, .string ⟨#[]⟩], .pointer (some ⟨gf, 0, none⟩)]) (by simp [results, Tryz.results66, go_sem, r0, r1, r2, r3, r4]) rfl (show OpndP _ _ _ _ by rw [HO2.out]; exact ⟨⟨gf, rfl, (HF7.out.grown HG5.out fun hb => by omega).any fun b _ hb => by omega⟩, HB5.out⟩)
          | ok t =>
            have HR2 := HRES.out
            rw [hM] at HR2
            obtain ⟨cc, rfl, rfl, htt⟩ := HR2
            obtain ⟨tk, ta, tv, tA, tn, tcp, tf, rfl⟩ := htt.ext
            have HTT := Lib.hid htt
            have HSF3 := Lib.hid (HSF2.out.next hM)
            clear htt HRES hM
            have HG7 := Lib.hid (grown5 w6 g11 (.int .i64 tk) (.string ta) (.string tv) (.slice tA tn tcp) (.string tf))
            have HK7 := Lib.hid (set5 HK11.out (.int .i64 tk) (.string ta) (.string tv) (.slice tA tn tcp) (.string tf))
            refine wpOps_skip (o := _) rfl rfl (w' := ((((w6.setCell ⟨g11, 0, none⟩ (.int .i64 tk)).setCell ⟨g11, 1, none⟩ (.string ta)).setCell ⟨g11, 2, none⟩ (.string tv)).setCell ⟨g11, 3, none⟩ (.slice tA tn tcp)).setCell ⟨g11, 4, none⟩ (.string tf)) (by simp [go_sem, kc, kf]) ?_
            refine wpOps_done ?_
            clear kc kf
            generalize ((((w6.setCell ⟨g11, 0, none⟩ (.int .i64 tk)).setCell ⟨g11, 1, none⟩ (.string ta)).setCell ⟨g11, 2, none⟩ (.string tv)).setCell ⟨g11, 3, none⟩ (.slice tA tn tcp)).setCell ⟨g11, 4, none⟩ (.string tf) = w7 at *
            have HS7 := Lib.hid (HSB.out.grow HG7.out (by have := HL.out.2.2; have := HGD.out; have := HWR.out; omega) (fun b hb => by have := HVB.out b hb; have := HL.out.2.2; omega) (HAP.out.weak fun b _ hb => ⟨hb.1, by have := HL.out.2.2; omega⟩))
            have HT7 := Lib.hid (HTT.out.grown (ok' := fun b => v.ownBlock ≠ some b ∧ w.heap.size + 2 < b) HG7.out (fun b _ hb e => by have := Option.some.inj e; have := HN.out; omega) fun b _ hb => ⟨fun e => by have := HVB.out b e; have := HL.out.1; omega, by have := HL.out.1; have := HGD.out; have := HWR.out; omega⟩)
            clear HG7 HTT HSB HAP HK11
            have a0 := HK7.out.cell 0
            have a1 := HK7.out.cell 1
            have a2 := HK7.out.cell 2
            have a3 := HK7.out.cell 3
            have a4 := HK7.out.cell 4
            have k23 := HS7.out.k2.cell 3
            have hba := bel_alloc w7 (.cells #[.int .i64 tk, .string ta, .string tv, .slice tA tn tcp, .string tf] 31)
            have HS8 := Lib.hid (HS7.out.keep hba)
            have HT8 := Lib.hid (HT7.out.keep hba)
            have HN8 := Lib.hid (Blk.new w7 31 #[.int .i64 tk, .string ta, .string tv, .slice tA tn tcp, .string tf])
            have HMW := Lib.hid (show w.heap.size + 2 < w7.heap.size from HS7.out.k2.lt)
            clear hba
            obtain ⟨css, ho, hl5, hr5⟩ := HS8.out.app
            have hxl : xs.length ≤ 1001 := by have := form_len HFO.out; omega
            have HRA := Sp.reads_agg HN8.out rfl (n := 5)
            have HTO := tm_one HT8.out
            have hby1 : (xs.length + 1) * 80 ≤ maxLen := by unfold maxLen; omega
            go_wp2_with (at_builtin; refine wpList_append_any _ rfl (.tmp 76) (.tmp 78) 29 rfl (w.heap.size + 3) 31 i0 (.agg #[.int .i64 0, .string ⟨#[]⟩, .string ⟨#[]⟩, .slice none 0 0, .string ⟨#[]⟩]) 5 80 Tryz.underlying29 hi hz0 hz1 hz2 rfl (by decide) _ _ _ rfl ho _ (some ⟨w7.heap.size, 0, none⟩) 1 1 (#[.int .i64 tk, .string ta, .string tv, .slice tA tn tcp, .string tf] : Array Value).toList rfl HRA HTO (by unfold maxLen; omega) (by omega) (by have := HMW.out; simp; omega) ?_)
            intro v' w8 q2 q3 q4
            have HAP := AppT.push hl5 hr5 HT8.out q2 q3 (by rw [World.size_alloc]; exact q4)
            have hrow : ∀ b, v.ownBlock = some b → w.heap.size + 3 ≤ b := fun b hb => (HS8.out.app.ltT b hb).1
            have HB9 := Lib.hid (HS8.out.bel.grown q3 HS8.out.bel.size fun r e => by have := hrow r e; omega)
            have K90 := Lib.hid (HS8.out.k0.grown q3 fun e => by have := hrow _ e.symm; omega)
            have K91 := Lib.hid (HS8.out.k1.grown q3 fun e => by have := hrow _ e.symm; omega)
            have K92 := Lib.hid (HS8.out.k2.grown q3 fun e => by have := hrow _ e.symm; omega)
            have HAP9 := Lib.hid HAP
            clear HAP ho hl5 hr5 q2 q3 q4 hrow HS8 HT8 HN8 a0 a1 a2 a3 a4 k23 HS7 HT7
            obtain ⟨A5, c5, e9, _⟩ := HAP9.out.form (fun b hb => by omega)
            rw [List.length_append, List.length_singleton] at e9
            subst e9
            have k3 := K92.out.cell 3
            have f3 := K92.out.frozen 3
            have HG9 := Lib.hid (grown_set' w8 ⟨w.heap.size + 2, 3, none⟩ (.slice A5 (xs.length + 1) c5))
            have S9 := Lib.hid (OpS.mk (HB9.out.grown HG9.out HB9.out.size fun r e => by have h9 : w.heap.size + 2 = r := Option.some.inj e; omega) (K90.out.grown HG9.out fun e => by have h9 : w.heap.size = w.heap.size + 2 := Option.some.inj e; omega) (K91.out.grown HG9.out fun e => by have h9 : w.heap.size + 1 = w.heap.size + 2 := Option.some.inj e; omega) (K92.out.set_ 3 (.slice A5 (xs.length + 1) c5)) (HAP9.out.set_ (p := ⟨w.heap.size + 2, 3, none⟩) (by show ¬ (w.heap.size + 2 < w.heap.size + 2); omega) (by show w.heap.size + 2 < w.heap.size + 3; omega) (.slice A5 (xs.length + 1) c5)))
            clear HB9 K90 K91 K92 HAP9 HG9
            go_wp2_with fail
            go_roundw
            case rel => exact ⟨s + 1, xs ++ [t], _, by omega, by go_num, by rw [List.length_append, List.length_singleton]; omega, HSF3, S9⟩
            case measure => simp [intOf]; omega
    · obtain rfl : s = n.kids.length := by omega
      rw [rest_end HNE.out] at HSF
      have HT := Lib.hid HSF.out.end
      have HO2 := Lib.hid (show opndF (listM rs f) n path = .ok ⟨.mk 4 nam ⟨#[]⟩ frm xs, [], ⟨#[]⟩, ⟨#[]⟩⟩ by rw [HO.out, HT.out]; rfl)
      obtain ⟨Af, cf, rfl, hcf, hcg, hts⟩ := HS.out.app.form fun b hb => by omega
      have HTS := Lib.hid hts
      have k2c := fun i => HS.out.k2.cell i
      have k1c := fun i => HS.out.k1.cell i
      have k1f := fun i => HS.out.k1.frozen i
      have KK1 := Lib.hid HS.out.k1
      clear hts
      go_wp2_with fail
      have KR := Lib.hid (set5 KK1.out (.int .i64 4) (.string nam) (.string ⟨#[]⟩) (.slice Af xs.length cf) (.string frm))
      have HB5 := Lib.hid (below5 (g := w.heap.size + 1) HS.out.bel HS.out.bel.size (by omega) (.int .i64 4) (.string nam) (.string ⟨#[]⟩) (.slice Af xs.length cf) (.string frm))
      have HG5 := Lib.hid (grown5 wr (w.heap.size + 1) (.int .i64 4) (.string nam) (.string ⟨#[]⟩) (.slice Af xs.length cf) (.string frm))
      generalize ((((wr.setCell ⟨w.heap.size + 1, 0, none⟩ (.int .i64 4)).setCell ⟨w.heap.size + 1, 1, none⟩ (.string nam)).setCell ⟨w.heap.size + 1, 2, none⟩ (.string ⟨#[]⟩)).setCell ⟨w.heap.size + 1, 3, none⟩ (.slice Af xs.length cf)).setCell ⟨w.heap.size + 1, 4, none⟩ (.string frm) = w9 at *
      have r0 := KR.out.cell 0
      have r1 := KR.out.cell 1
      have r2 := KR.out.cell 2
      have r3 := KR.out.cell 3
      have r4 := KR.out.cell 4
      exact bodyPost_ret (v := .tuple #[.agg #[.int .i64 4, .string nam, .string ⟨#[]⟩, .slice Af xs.length cf, .string frm], .pointer none]) (by simp [results, Tryz.results66, go_sem, r0, r1, r2, r3, r4]) rfl (show OpndP _ _ _ _ by rw [HO2.out]; exact ⟨⟨_, rfl, TmAt.of (by have := HSN.out.1; omega) (by decide) (by have := HSN.out.2; omega) hcf hcg (HTS.out.map HG5.out.size (fun b _ hb => by omega) fun p _ ho => World.cell?_of_block (HG5.out.block _ ‹_› fun e => by have := Option.some.inj e; omega))⟩, HB5.out⟩)
end Go.Proofs.YthpioplpfmlgcaaGreatDoor.El
