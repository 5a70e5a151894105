/- The program's parser: apply, term. -/
import Derived.Test.YtpokelkneblafaaGreatDoorPF
namespace Go.Proofs.YtpokelkneblafaaGreatDoor
open Go.RowKit
abbrev zeroC : Array Value := #[.int .i64 0, .string ⟨#[]⟩, .string ⟨#[]⟩, .slice none 0 0, .string ⟨#[]⟩]
theorem beq_bys_t {a l : List UInt8} (h : a = l) : ((bys a).toList == l) = true := by rw [beq_iff_eq, ByteArray.toList_eq, bys_data, h]
theorem AppT.far {P : Nat → Prop} {w w' : World} {B gp : Nat} {v : Value} {xs : List Trm} (h : AppT P w B v xs) (hg : Gr gp w w') (hp : ¬ P gp) (hpB : gp < B) : AppT P w' B v xs := by
  obtain ⟨css, h1, h2, h3⟩ := h
  refine ⟨css, World.ownsRow.kept h1 hg.own ?_, h2, fun j c x hj hx => (h3 j c x hj hx).grown hg.own (fun b _ hb e => hp (by have := Option.some.inj e; subst this; exact hb.2)) (fun _ _ h => h)⟩
  cases hv : v.ownBlock with
  | none => exact .inl rfl
  | some b =>
    refine .inr fun e => ?_
    have := (World.ownsRow.lt h1 b hv).1
    have := Option.some.inj e
    omega
theorem AppT.keepB {P : Nat → Prop} {w w' : World} {B : Nat} {v : Value} {xs : List Trm} (h : AppT P w B v xs) (hb : Below w.heap.size w w') : AppT P w' B v xs := AppT.keep h hb
/-- behind term -/
def TermPost (gp : Nat) (r : Trm × PS) (w : World) (e : Ending) (w' : World) : Prop :=
  ∃ c, e = .returned (.agg c) ∧ TmAt (fun b => w.heap.size ≤ b) w' r.1 c ∧ Blk w' gp 42 (psC r.2) ∧ Gr gp w w'
def TermOk (B0 gp f : Nat) : Prop := ∀ (s : PS) (w : World), GlbZ B0 w → B0 ≤ gp → Blk w gp 42 (psC s) → Ok s → s.bad = false → 3 * (1001 - s.cnt) + 1 ≤ f →
  Calls Tryz.prog 16 #[.pointer (some ⟨gp, 0, none⟩)] w (TermPost gp (termP f s) w)
def ApplyOk (B0 gp f : Nat) : Prop := ∀ (s : PS) (w : World), GlbZ B0 w → B0 ≤ gp → Blk w gp 42 (psC s) → Ok s → 3 * (1001 - s.cnt) + 3 ≤ f →
  Calls Tryz.prog 34 #[.pointer (some ⟨gp, 0, none⟩)] w (TermPost gp (applyP f s) w)
/-- while an argument is appended -/
def InvT (w : World) (gp g2 g3 : Nat) (s : PS) (r : Trm × PS) (k : Int) (a vr fm : ByteArray) (v : Value) (xs : List Trm) : List Bool → Array Value × Nat × Value → World → Prop
  | [be, bb, ba, bs], gx, wq => Gr gp w wq ∧ Blk wq g2 25 zeroC ∧ Blk wq g3 25 #[.int .i64 k, .string a, .string vr, if bs then gx.2.2 else v, .string fm] ∧ Blk wq gp 42 (psC (if be then r.2 else s)) ∧
      (ba = false → AppT (fun b => g2 < b ∧ b ≠ g3) wq (g3 + 1) v xs) ∧ (be = true → ba = false → TmAt (fun b => v.ownBlock ≠ some b ∧ g2 < b ∧ b ≠ g3) wq r.1 gx.1) ∧ (bb = true → ba = false → Blk wq gx.2.1 25 gx.1) ∧
      (ba = true → AppT (fun b => g2 < b ∧ b ≠ g3) wq (g3 + 1) gx.2.2 (xs ++ [r.1]))
  | _, _, _ => False
theorem InvT.keep {w : World} {gp g2 g3 : Nat} {s : PS} {r : Trm × PS} {k : Int} {a vr fm : ByteArray} {v : Value} {xs : List Trm} {be bb ba bs : Bool} {gx : Array Value × Nat × Value} {wq w' : World} (h : InvT w gp g2 g3 s r k a vr fm v xs [be, bb, ba, bs] gx wq) (hb : Below wq.heap.size wq w') : InvT w gp g2 g3 s r k a vr fm v xs [be, bb, ba, bs] gx w' := by
  obtain ⟨h1, h2, h3, h4, h5, h6, h7, h8⟩ := h
  exact ⟨h1.below hb, _root_.Go.Proofs.YtpokelkneblafaaGreatDoor.keep hb h2, _root_.Go.Proofs.YtpokelkneblafaaGreatDoor.keep hb h3, _root_.Go.Proofs.YtpokelkneblafaaGreatDoor.keep hb h4, fun e => (h5 e).keep hb, fun e e' => (h6 e e').keep hb, fun e e' => _root_.Go.Proofs.YtpokelkneblafaaGreatDoor.keep hb (h7 e e'), fun e => (h8 e).keep hb⟩
/-- how many terms the parser has counted -/
def cntOf (gp : Nat) (w : World) : Nat := match w.cell? ⟨gp, 3, none⟩ with
  | some (.int _ n) => (1001 - n).toNat
  | _ => 0
theorem cntOf_blk {gp : Nat} {w : World} {s : PS} (h : Blk w gp 42 (psC s)) : cntOf gp w = 1001 - s.cnt := by
  unfold cntOf
  rw [h.cell 3]
  show (1001 - (s.cnt : Int)).toNat = _
  omega
/-- what the loop over the arguments has still to do -/
def Rest (q : List Trm × List UInt8 × PS) (g : Nat) (st : PS) (done : List Trm) (wd : List UInt8) : Prop :=
  (wd = wAnd → q = (done ++ (argsP g st).1, (argsP g st).2)) ∧ (wd ≠ wAnd → q = (done, wd, st))
/-- the arguments, the word behind them, the state -/
def qOf (f : Nat) (a : List UInt8 × List UInt8 × PS) : List Trm × List UInt8 × PS := if a.2.1 = wOf then argsP f a.2.2 else ([], a.2.1, a.2.2)
theorem applyP_eq {f : Nat} {s : PS} {o : Int × List UInt8 × List UInt8 × PS} {a : List UInt8 × List UInt8 × PS} (ho : overP (wordP (wordP s).2).1 (wordP (wordP s).2).2 = o) (ha : asP o.2.2.1 o.2.2.2 = a) :
    applyP (f + 1) s = (.mk o.1 (bys (wordP s).1) (bys o.2.1) (bys a.1) (qOf f a).1, ⟨(qOf f a).2.2.rest, (qOf f a).2.2.fin, (qOf f a).2.2.bad || decide ((qOf f a).2.1 ≠ wEnd), (qOf f a).2.2.cnt⟩) := by
  subst ho; subst ha; rw [applyP]; rfl
theorem Rest.stop {q : List Trm × List UInt8 × PS} {g : Nat} {st : PS} {done : List Trm} {wd : List UInt8} (h : Rest q (g + 1) st done wd) (hs : wd ≠ wAnd ∨ st.bad = true) : q = (done, wd, st) := by
  by_cases hw : wd = wAnd
  · rw [h.1 hw, argsP, if_pos (hs.resolve_left (fun h => h hw)), hw, List.append_nil]
  · exact h.2 hw
theorem Rest.next {q : List Trm × List UInt8 × PS} {g : Nat} {st : PS} {done : List Trm} {wd : List UInt8} (h : Rest q (g + 1) st done wd) (hw : wd = wAnd) (hb : st.bad = false) : Rest q g (wordP (termP g st).2).2 (done ++ [(termP g st).1]) (wordP (termP g st).2).1 := by
  have e := h.1 hw
  rw [argsP, if_neg (by rw [hb]; simp)] at e
  constructor
  · intro h1
    rw [if_pos h1] at e
    rw [e]
    simp
  · intro h1
    rw [if_neg h1] at e
    rw [e]
set_option maxRecDepth 100000 in
set_option maxHeartbeats 8000000 in
theorem apply_step (B0 gp f : Nat) (IH : ∀ g, g ≤ f → TermOk B0 gp g) : ApplyOk B0 gp (f + 1) := by
  intro s w hG hB0 hK hs hf
  obtain ⟨i0, hi, hz0, hz1, hz2⟩ := info_parts info_tm
  have HI := Lib.hid IH
  have HG := Lib.hid hG
  have HB0 := Lib.hid hB0
  have HGP := Lib.hid hK.lt
  have HK := Lib.hid (keep (bel_alloc w (.cells zeroC 25)) hK)
  have K2 := Lib.hid (Blk.new w 25 zeroC)
  have HGR := Lib.hid ((Gr.refl gp w).below (bel_alloc w (.cells zeroC 25)))
  have HS := Lib.hid hs
  have HF := Lib.hid hf
  -- the plain side
  have h0 := st_word s
  have h1 := st_word (wordP s).2
  have k0 := hs.st h0
  have k1 := hs.st (h0.trans h1)
  have l0 := Lib.hid (word_len hs.len)
  have l1 := Lib.hid (word_len k0.len)
  have h2 := over_st (wordP (wordP s).2).1 (wordP (wordP s).2).2 (word_len k0.len) k1.len
  have k2 := k1.st h2.1
  have h3 := as_st (overP (wordP (wordP s).2).1 (wordP (wordP s).2).2).2.2.1 (overP (wordP (wordP s).2).1 (wordP (wordP s).2).2).2.2.2 h2.2.2 k2.len
  have k3 := k2.st h3.1
  have E3 := Lib.hid (show (asP (overP (wordP (wordP s).2).1 (wordP (wordP s).2).2).2.2.1 (overP (wordP (wordP s).2).1 (wordP (wordP s).2).2).2.2.2).2.2.cnt = s.cnt by rw [h3.1.cnt, h2.1.cnt, h1.cnt, h0.cnt])
  have H2 := Lib.hid h2
  have H3 := Lib.hid h3
  have O0 := Lib.hid k0
  have O1 := Lib.hid k1
  have O2 := Lib.hid k2
  have O3 := Lib.hid k3
  have HWP := Lib.hid (fun (s : PS) (w : World) hK h => word_any gp s w hK h)
  have HIP := Lib.hid (fun (a : List UInt8) (s : PS) (w : World) hG hK h => ident_ptr B0 gp a s w hG HB0.out hK h)
  clear IH hG hB0 hK hs hf h0 h1 k0 k1 h2 k2 h3 k3
  generalize ho : overP (wordP (wordP s).2).1 (wordP (wordP s).2).2 = o at *
  generalize ha : asP o.2.2.1 o.2.2.2 = a at *
  have HAP := Lib.hid (applyP_eq (f := f) ho ha)
  have HQ : Hid (Ok (qOf f a).2.2 ∧ (qOf f a).1.length ≤ 1001 ∧ (qOf f a).2.1.length ≤ 100000) := Lib.hid (by
    unfold qOf
    by_cases hw : a.2.1 = wOf
    · rw [if_pos hw]
      have := factG (f := f) a.2.2 O3.out (by rw [E3.out]; have := HF.out; omega)
      exact ⟨this.1, by have h4 := this.2.1; have h5 := this.1.cnt; omega, this.2.2⟩
    · rw [if_neg hw]
      exact ⟨O3.out, by simp, H3.out.2.2⟩)
  replace ho := Lib.hid ho
  replace ha := Lib.hid ha
  generalize applyP (f + 1) s = R at *
  go_enter Tryz.func34, Tryz.ntmps34
  go_wp2_with fail
  generalize w.alloc (.cells zeroC 25) = wa at *
  refine (HWP.out s _ HK.out HS.out.len).mono ?_
  rintro e w1 ⟨rfl, hK1, hg1⟩
  have K1 := Lib.hid hK1
  replace K2 := Lib.hid (hg1.blk K2.out (by have := HGP.out; omega))
  replace HGR := Lib.hid (HGR.out.trans hg1)
  clear hK1 hg1 HK
  have K3 := Lib.hid (Blk.new w1 25 #[.int .i64 4, .string (bys (wordP s).1), .string ⟨#[]⟩, .slice none 0 0, .string ⟨#[]⟩])
  have hb := bel_alloc w1 (.cells #[.int .i64 4, .string (bys (wordP s).1), .string ⟨#[]⟩, .slice none 0 0, .string ⟨#[]⟩] 25)
  have H23 := Lib.hid (And.intro K2.out.lt HGP.out)
  replace K1 := Lib.hid (keep hb K1.out)
  replace K2 := Lib.hid (keep hb K2.out)
  replace HGR := Lib.hid (HGR.out.below hb)
  clear hb
  go_wp2_with fail
  generalize w1.alloc (.cells #[.int .i64 4, .string (bys (wordP s).1), .string ⟨#[]⟩, .slice none 0 0, .string ⟨#[]⟩] 25) = w2 at *
  generalize w1.heap.size = g3 at *
  refine (HWP.out (wordP s).2 _ K1.out O0.out.len).mono ?_
  rintro e w3 ⟨rfl, hK, hg⟩
  replace K1 := Lib.hid hK
  replace K2 := Lib.hid (hg.blk K2.out (by have := HGP.out; omega))
  replace K3 := Lib.hid (hg.blk K3.out (by have := H23.out; omega))
  replace HGR := Lib.hid (HGR.out.trans hg)
  clear hK hg
  go_upto_if 11 with (fail)
  go_cut [4] (fun v wc => v = .string (bys o.2.2.1) ∧ Hid (Blk wc gp 42 (psC o.2.2.2)) ∧ Hid (Blk wc w.heap.size 25 zeroC) ∧ Hid (Blk wc g3 25 #[.int .i64 o.1, .string (bys (wordP s).1), .string (bys o.2.1), .slice none 0 0, .string ⟨#[]⟩]) ∧ Hid (Gr gp w wc))
  case first =>
    by_cases hw : (wordP (wordP s).2).1 = wOver
    · have q1 : ((bys (wordP (wordP s).2).1).toList == [111, 118, 101, 114]) = true := beq_bys_t hw
      rw [q1]
      obtain rfl : o = (5, (identP (wordP (wordP (wordP s).2).2).1 (wordP (wordP (wordP s).2).2).2).1, wordP (identP (wordP (wordP (wordP s).2).2).1 (wordP (wordP (wordP s).2).2).2).2) := by rw [← ho.out]; unfold overP; rw [if_pos hw]
      have Oa := Lib.hid (O1.out.st (st_word _))
      have Ob := Lib.hid (Oa.out.st (st_ident (wordP (wordP (wordP s).2).2).1 _))
      clear hw
      go_wp2_with fail
      refine (HWP.out _ _ K1.out O1.out.len).mono ?_
      rintro e w4 ⟨rfl, hK, hg⟩
      replace K1 := Lib.hid hK
      replace K2 := Lib.hid (hg.blk K2.out (by have := HGP.out; omega))
      replace K3 := Lib.hid (hg.blk K3.out (by have := H23.out; omega))
      replace HGR := Lib.hid (HGR.out.trans hg)
      clear hK hg
      have HGC := Lib.hid (HG.out.keep (B := B0) (Nat.le_refl _) (HGR.out.down (by have := HB0.out; have := HGP.out; omega) HB0.out))
      go_wp2_with fail
      refine (HIP.out _ _ _ HGC.out K1.out Oa.out.len).mono ?_
      rintro e w5 ⟨rfl, hK, hg⟩
      replace K1 := Lib.hid hK
      replace K2 := Lib.hid (hg.blk K2.out (by have := HGP.out; omega))
      replace K3 := Lib.hid (hg.blk K3.out (by have := H23.out; omega))
      replace HGR := Lib.hid (HGR.out.trans hg)
      clear hK hg
      have c0 := K3.out.cell 0
      have c2 := K3.out.cell 2
      have f0 := K3.out.frozen 0
      have f2 := K3.out.frozen 2
      have K3s := Lib.hid ((K3.out.set_ 0 (.int .i64 5)).set_ 2 (.string (bys (identP (wordP (wordP (wordP s).2).2).1 (wordP (wordP (wordP s).2).2).2).1)))
      have K1s := Lib.hid ((K1.out.far (p := ⟨g3, 0, none⟩) (by have := H23.out; show gp ≠ g3; omega) (.int .i64 5)).far (p := ⟨g3, 2, none⟩) (by have := H23.out; show gp ≠ g3; omega) (.string (bys (identP (wordP (wordP (wordP s).2).2).1 (wordP (wordP (wordP s).2).2).2).1)))
      have K2s := Lib.hid ((K2.out.far (p := ⟨g3, 0, none⟩) (by have := H23.out; show w.heap.size ≠ g3; omega) (.int .i64 5)).far (p := ⟨g3, 2, none⟩) (by have := H23.out; show w.heap.size ≠ g3; omega) (.string (bys (identP (wordP (wordP (wordP s).2).2).1 (wordP (wordP (wordP s).2).2).2).1)))
      have HGRs := Lib.hid ((HGR.out.set (p := ⟨g3, 0, none⟩) (.inl (by have := H23.out; show w.heap.size ≤ g3; omega)) (.int .i64 5)).set (p := ⟨g3, 2, none⟩) (.inl (by have := H23.out; show w.heap.size ≤ g3; omega)) (.string (bys (identP (wordP (wordP (wordP s).2).2).1 (wordP (wordP (wordP s).2).2).2).1)))
      go_wp2_with fail
      clear c0 c2 f0 f2 K1 K2 K3 HGR HGC
      have K1 := K1s
      have K2 := K2s
      have K3 := K3s
      have HGR := HGRs
      clear K1s K2s K3s HGRs
      generalize (w5.setCell ⟨g3, 0, none⟩ (.int .i64 5)).setCell ⟨g3, 2, none⟩ (.string (bys (identP (wordP (wordP (wordP s).2).2).1 (wordP (wordP (wordP s).2).2).2).1)) = w6 at *
      refine (HWP.out _ _ K1.out Ob.out.len).mono ?_
      rintro e w7 ⟨rfl, hK, hg⟩
      replace K1 := Lib.hid hK
      replace K2 := Lib.hid (hg.blk K2.out (by have := HGP.out; omega))
      replace K3 := Lib.hid (hg.blk K3.out (by have := H23.out; omega))
      replace HGR := Lib.hid (HGR.out.trans hg)
      clear hK hg
      go_wp2_with fail
      go_meet
      exact ⟨rfl, K1, K2, K3, HGR⟩
    · have q1 : ((bys (wordP (wordP s).2).1).toList == [111, 118, 101, 114]) = false := beq_bys hw
      rw [q1]
      obtain rfl : o = (4, [], (wordP (wordP s).2).1, (wordP (wordP s).2).2) := by rw [← ho.out]; unfold overP; rw [if_neg hw]
      clear hw
      go_wp2_with fail
      go_meet
      exact ⟨rfl, K1, K2, K3, HGR⟩
  case rest =>
    clear K1 K2 K3 HGR
    obtain ⟨rfl, K1, K2, K3, HGR⟩ := hcut
    go_upto_if 21 with (fail)
    go_cut [4] (fun v wc => v = .string (bys a.2.1) ∧ Hid (Blk wc gp 42 (psC a.2.2)) ∧ Hid (Blk wc w.heap.size 25 zeroC) ∧ Hid (Blk wc g3 25 #[.int .i64 o.1, .string (bys (wordP s).1), .string (bys o.2.1), .slice none 0 0, .string (bys a.1)]) ∧ Hid (Gr gp w wc))
    case first =>
      by_cases hw : o.2.2.1 = wAs
      · have q1 : ((bys o.2.2.1).toList == [97, 115]) = true := beq_bys_t hw
        rw [q1]
        obtain rfl : a = ((wordP o.2.2.2).1, wordP (wordP o.2.2.2).2) := by rw [← ha.out]; unfold asP; rw [if_pos hw]
        have Oa := Lib.hid (O2.out.st (st_word _))
        clear hw q1
        go_wp2_with fail
        refine (HWP.out _ _ K1.out O2.out.len).mono ?_
        rintro e w4 ⟨rfl, hK, hg⟩
        replace K1 := Lib.hid hK
        replace K2 := Lib.hid (hg.blk K2.out (by have := HGP.out; omega))
        replace K3 := Lib.hid (hg.blk K3.out (by have := H23.out; omega))
        replace HGR := Lib.hid (HGR.out.trans hg)
        clear hK hg
        have c4 := K3.out.cell 4
        have f4 := K3.out.frozen 4
        have K3s := Lib.hid (K3.out.set_ 4 (.string (bys (wordP o.2.2.2).1)))
        have K1s := Lib.hid (K1.out.far (p := ⟨g3, 4, none⟩) (by have := H23.out; show gp ≠ g3; omega) (.string (bys (wordP o.2.2.2).1)))
        have K2s := Lib.hid (K2.out.far (p := ⟨g3, 4, none⟩) (by have := H23.out; show w.heap.size ≠ g3; omega) (.string (bys (wordP o.2.2.2).1)))
        have HGRs := Lib.hid (HGR.out.set (p := ⟨g3, 4, none⟩) (.inl (by have := H23.out; show w.heap.size ≤ g3; omega)) (.string (bys (wordP o.2.2.2).1)))
        go_wp2_with fail
        clear c4 f4 K1 K2 K3 HGR
        have K1 := K1s
        have K2 := K2s
        have K3 := K3s
        have HGR := HGRs
        clear K1s K2s K3s HGRs
        generalize w4.setCell ⟨g3, 4, none⟩ (.string (bys (wordP o.2.2.2).1)) = w6 at *
        refine (HWP.out _ _ K1.out Oa.out.len).mono ?_
        rintro e w7 ⟨rfl, hK, hg⟩
        replace K1 := Lib.hid hK
        replace K2 := Lib.hid (hg.blk K2.out (by have := HGP.out; omega))
        replace K3 := Lib.hid (hg.blk K3.out (by have := H23.out; omega))
        replace HGR := Lib.hid (HGR.out.trans hg)
        clear hK hg
        go_wp2_with fail
        go_meet
        exact ⟨rfl, K1, K2, K3, HGR⟩
      · have q1 : ((bys o.2.2.1).toList == [97, 115]) = false := beq_bys hw
        rw [q1]
        obtain rfl : a = ([], o.2.2.1, o.2.2.2) := by rw [← ha.out]; unfold asP; rw [if_neg hw]
        clear hw q1
        go_wp2_with fail
        go_meet
        exact ⟨rfl, K1, K2, K3, HGR⟩
    case rest =>
      clear K1 K2 K3 HGR
      obtain ⟨rfl, K1, K2, K3, HGR⟩ := hcut
      go_upto_if 28 with (fail)
      go_cut [4] (fun v wc => ∃ vs, v = .string (bys (qOf f a).2.1) ∧ Hid (Blk wc gp 42 (psC (qOf f a).2.2)) ∧ Hid (Blk wc w.heap.size 25 zeroC) ∧ Hid (Blk wc g3 25 #[.int .i64 o.1, .string (bys (wordP s).1), .string (bys o.2.1), vs, .string (bys a.1)]) ∧ Hid (Gr gp w wc) ∧ Hid (AppT (fun b => w.heap.size < b ∧ b ≠ g3) wc (g3 + 1) vs (qOf f a).1))
      case first =>
        by_cases hw : a.2.1 = wOf
        · have q1 : ((bys a.2.1).toList == [111, 102]) = true := beq_bys_t hw
          rw [q1]
          have HQE := Lib.hid (show qOf f a = argsP f a.2.2 by unfold qOf; rw [if_pos hw])
          clear hw q1
          generalize qOf f a = q at *
          obtain ⟨f0, hf0⟩ : ∃ f0, f = f0 + 1 := ⟨f - 1, by have := HF.out; have := E3.out; omega⟩
          have HR := Lib.hid (show Rest q (f0 + 1) a.2.2 [] wAnd from ⟨fun _ => by rw [HQE.out, hf0]; rfl, fun h => absurd rfl h⟩)
          have HB1 := Lib.hid (show f0 + 1 ≤ f ∧ 3 * (1001 - a.2.2.cnt) + 2 ≤ f0 + 1 ∧ ([] : List Trm).length ≤ a.2.2.cnt by have := HF.out; have := E3.out; simp; omega)
          have HA := Lib.hid (AppT.nil (fun b => w.heap.size < b ∧ b ≠ g3) wc (g3 + 1))
          go_wp2_with fail
          clear hf0 HQE
          go_loopw [4] (fun v wr => ∃ (g : Nat) (st : PS) (dn : List Trm) (wd : List UInt8) (vs : Value), v = .string (bys wd) ∧ Hid (Rest q (g + 1) st dn wd) ∧ Hid (g + 1 ≤ f ∧ 3 * (1001 - st.cnt) + 2 ≤ g + 1 ∧ dn.length ≤ st.cnt) ∧ Hid (Ok st) ∧ Hid (Blk wr gp 42 (psC st)) ∧ Hid (Blk wr w.heap.size 25 zeroC) ∧ Hid (Blk wr g3 25 #[.int .i64 o.1, .string (bys (wordP s).1), .string (bys o.2.1), vs, .string (bys a.1)]) ∧ Hid (Gr gp w wr) ∧ Hid (AppT (fun b => w.heap.size < b ∧ b ≠ g3) wr (g3 + 1) vs dn)) (fun _ wr => cntOf gp wr)
          case atStart => exact ⟨f0, a.2.2, [], wAnd, _, rfl, HR, HB1, O3, K1, K2, K3, HGR, HA⟩
          case round =>
            clear HR HB1 K1 K2 K3 HGR HA
            obtain ⟨g, st, dn, wd, v, rfl, HR, HB1, HO, K1, K2, K3, HGR, HA⟩ := hrel
            by_cases hw : wd = wAnd
            · cases hb : st.bad
              · have hgood := HO.out.good hb
                obtain ⟨g', rfl⟩ : ∃ g', g = g' + 1 := ⟨g - 1, by have := HB1.out; omega⟩
                have HTE := Lib.hid (factT (f := g' + 1) st HO.out hb (by have := HB1.out; omega))
                have HNX := Lib.hid (HR.out.next hw hb)
                have HCT := Lib.hid (fun wq hG hK => HI.out (g' + 1) (by have := HB1.out; omega) st wq hG HB0.out hK HO.out hb (by have := HB1.out; omega))
                have HMO := Lib.hid (show cntOf gp wr = 1001 - st.cnt ∧ st.cnt ≤ 1000 from ⟨cntOf_blk K1.out, hgood⟩)
                have q1 : ((bys wd).toList == [97, 110, 100]) = true := beq_bys_t hw
                have c2 : wr.cell? ⟨gp, 2, none⟩ = some (.bool false) := by rw [K1.out.cell 2, ← hb]; rfl
                clear hw hb hgood HR
                generalize termP (g' + 1) st = r at *
                go_upto_region 13 with (fail)
                clear q1 c2
                refine region_ghost (X := Array Value × Nat × Value) (by kernel_rfl) _ (fun gx => [.pointer (some ⟨g3, 3, none⟩), v, .pointer (some ⟨gp, 0, none⟩), .agg gx.1, .slice (some ⟨gx.2.1, 0, none⟩) 1 1, gx.2.2, .pointer (some ⟨g3, 3, none⟩), undef]) [true, true, true, true, true, true, true, true] [3, 4, 5, 7] (InvT w gp w.heap.size g3 st r o.1 (bys (wordP s).1) (bys o.2.1) (bys a.1) v dn) (#[], 0, .nilFunc) (by kernel_rfl) (fun gx => by simp [fin, finOn, dstAt, List.range, List.range.loop, Act.put]; rfl) (fun _ => by kernel_rfl) (by kernel_rfl) ⟨HGR.out.below (below_drew (Below.refl _ _)), K2.out.drew, K3.out.drew, K1.out.drew, (fun _ => HA.out.keep (below_drew (Below.refl _ _))), (fun h => by cases h), (fun h => by cases h), fun h => by cases h⟩ ?_ ?_
                · refine ⟨fun L gx wq hL hb ha hI => ?_, fun L gx wq hL hb ha hI => ?_, fun L gx wq hL hb ha hI => ?_, fun L gx wq hL hb ha hI => ?_, fun L gx wq hL hb ha hI => ?_, fun L gx wq hL hb ha hI => ?_, fun L gx wq hL hb ha hI => ?_, fun L gx wq hL hb ha hI => ?_, trivial⟩
                  · exact Gives.plain (v := .pointer (some ⟨g3, 3, none⟩)) (w' := wq) (by simp [go_sem]) rfl hI
                  · have e7 : L 7 = false := ha 7 (by kernel_rfl)
                    have cJ := hI.2.2.1.cell 3
                    simp only [e7] at cJ
                    exact Gives.plain (v := v) (w' := wq) (by simp [go_sem, cJ]) rfl hI
                  · exact Gives.plain (v := .pointer (some ⟨gp, 0, none⟩)) (w' := wq) (by kernel_rfl) rfl hI
                  · have e3 : L 3 = false := hL
                    have e4 : L 4 = false := ha 4 (by kernel_rfl)
                    have e5 : L 5 = false := ha 5 (by kernel_rfl)
                    simp only [List.map, e3, e4, e5] at hI ⊢
                    obtain ⟨h1, h2, h3, h4, h5, _⟩ := hI
                    refine Gives.call (f := 16) (args := #[.pointer (some ⟨gp, 0, none⟩)]) (w' := wq) (by kernel_rfl) ((HCT.out wq (HG.out.keep (B := B0) (Nat.le_refl _) (h1.down (by have := HB0.out; have := HGP.out; omega) HB0.out)) h4).mono ?_)
                    rintro e wz ⟨c, rfl, hc, hK, hg⟩
                    exact ⟨_, rfl, (c, gx.2), rfl, (KeepsV.of_same ⟨.inr (.inr rfl), .inr (.inr rfl), .inr (.inr rfl), .inl rfl, (by first | exact .inr (.inr rfl) | exact .inr (.inl (by kernel_rfl))), (by first | exact .inr (.inr rfl) | exact .inr (.inl (by kernel_rfl))), .inr (.inr rfl), .inr (.inr rfl), trivial⟩), h1.trans hg, hg.blk h2 (by have := H23.out; omega), hg.blk h3 (by have := H23.out; omega), hK, (fun _ => (h5 rfl).far hg (fun h => by have := H23.out.2; omega) (by have := H23.out; omega)), (fun _ _ => hc.any fun b _ hb => ⟨fun h => by have := ((h5 rfl).lt b h).2; omega, by have := h2.lt; omega, by have := h3.lt; omega⟩), (fun h => by cases h), fun h => by cases h⟩
                  · have e3 : L 3 = true := hb 3 (by kernel_rfl)
                    have e4 : L 4 = false := hL
                    have e5 : L 5 = false := ha 5 (by kernel_rfl)
                    simp only [List.map, e3, e4, e5] at hI ⊢
                    have hK := hI.keep (bel_alloc wq (.cells gx.1 25))
                    obtain ⟨gc, gb, gv⟩ := gx
                    obtain ⟨A8, c8, rfl, _⟩ := (hI.2.2.2.2.2.1 rfl rfl).form
                    exact Gives.value (v := .slice (some ⟨wq.heap.size, 0, none⟩) 1 1) (w' := wq.alloc (.cells (trmC r.1.kind r.1.nam r.1.vr A8 r.1.args.length c8 r.1.form) 25)) (by simp [go_sem]) ⟨(_, wq.heap.size, gv), rfl, (KeepsV.of_same ⟨.inr (.inr rfl), .inr (.inr rfl), .inr (.inr rfl), (by first | exact .inr (.inr rfl) | exact .inr (.inl (by kernel_rfl))), .inl rfl, (by first | exact .inr (.inr rfl) | exact .inr (.inl (by kernel_rfl))), .inr (.inr rfl), .inr (.inr rfl), trivial⟩), hK.1, hK.2.1, hK.2.2.1, hK.2.2.2.1, hK.2.2.2.2.1, hK.2.2.2.2.2.1, (fun _ _ => Blk.new _ _ _), fun h => by cases h⟩
                  · have e3 : L 3 = true := hb 3 (by kernel_rfl)
                    have e4 : L 4 = true := hb 4 (by kernel_rfl)
                    have e5 : L 5 = false := hL
                    have e7 : L 7 = false := ha 7 (by kernel_rfl)
                    simp only [List.map, e3, e4, e5, e7] at hI ⊢
                    obtain ⟨h1, h2, h3, h4, h5, h6, h7, _⟩ := hI
                    obtain ⟨css, ho, hl, hr⟩ := h5 rfl
                    have hxl : dn.length ≤ 1001 := by have := HB1.out; have := HO.out.cnt; omega
                    have hrow : ∀ b, v.ownBlock = some b → g3 + 1 ≤ b := fun b hb => ((h5 rfl).lt b hb).1
                    exact gives_append (.tmp 41) (.tmp 44) 23 rfl (g3 + 1) 25 i0 (.agg #[.int .i64 0, .string ⟨#[]⟩, .string ⟨#[]⟩, .slice none 0 0, .string ⟨#[]⟩]) 5 80 Tryz.underlying23 hi hz0 hz1 hz2 rfl (by decide) v _ _ rfl ho wq.heap.size (some ⟨gx.2.1, 0, none⟩) 1 1 gx.1.toList rfl (reads_agg (h7 rfl rfl) (h6 rfl rfl).size) (tm_one (h6 rfl rfl)) (by unfold maxLen; omega) (by omega) (by have := h3.lt; omega) (fun v' w' q2 q3 q4 => ⟨(gx.1, gx.2.1, v'), rfl, (KeepsV.of_same ⟨.inr (.inr rfl), .inr (.inr rfl), .inr (.inr rfl), (by first | exact .inr (.inr rfl) | exact .inr (.inl (by kernel_rfl))), (by first | exact .inr (.inr rfl) | exact .inr (.inl (by kernel_rfl))), .inl rfl, .inr (.inr rfl), .inr (.inr rfl), trivial⟩), h1.grown q3 (fun b hb => .inl (by have := hrow b hb; have := H23.out; omega)), h2.grown q3 (fun e => by have := hrow _ e.symm; have := H23.out; omega), h3.grown q3 (fun e => by have := hrow _ e.symm; omega), h4.grown q3 (fun e => by have := hrow _ e.symm; have := H23.out; omega), (fun h => by cases h), (fun _ h => by cases h), (fun _ h => by cases h), fun _ => AppT.push hl hr (h6 rfl rfl) q2 q3 q4⟩)
                  · exact Gives.plain (v := .pointer (some ⟨g3, 3, none⟩)) (w' := wq) (by simp [go_sem]) rfl hI
                  · have e3 : L 3 = true := hb 3 (by kernel_rfl)
                    have e4 : L 4 = true := hb 4 (by kernel_rfl)
                    have e5 : L 5 = true := hb 5 (by kernel_rfl)
                    have e7 : L 7 = false := hL
                    simp only [List.map, e3, e4, e5, e7] at hI ⊢
                    obtain ⟨gc, gb, gv⟩ := gx
                    obtain ⟨h1, h2, h3, h4, _, _, _, h8⟩ := hI
                    have h3 : Blk wq g3 25 #[.int .i64 o.1, .string (bys (wordP s).1), .string (bys o.2.1), v, .string (bys a.1)] := h3
                    have hg := H23.out
                    obtain ⟨A5, c5, e9, _⟩ := (h8 rfl).form (fun b hb => ⟨by omega, by omega⟩)
                    dsimp only at e9
                    subst e9
                    have cJ := h3.cell 3
                    have fJ := h3.frozen 3
                    exact Gives.skip (w' := wq.setCell ⟨g3, 3, none⟩ (.slice A5 (dn ++ [r.1]).length c5)) (by simp [go_sem, cJ, fJ]) ⟨_, rfl, KeepsV.same, h1.set (p := ⟨g3, 3, none⟩) (.inl (by show w.heap.size ≤ g3; omega)) _, h2.far (p := ⟨g3, 3, none⟩) (by show w.heap.size ≠ g3; omega) _, h3.set_ 3 _, h4.far (p := ⟨g3, 3, none⟩) (by show gp ≠ g3; omega) _, (fun h => by cases h), (fun _ h => by cases h), (fun _ h => by cases h), fun _ => (h8 rfl).set_ (p := ⟨g3, 3, none⟩) (fun h => h.2 rfl) (by show g3 < _; omega) _⟩
                · intro gx wq hI
                  obtain ⟨h1, h2, h3, h4, _, _, _, h8⟩ := hI
                  have HGR := Lib.hid h1
                  have K2 := Lib.hid h2
                  have K3 : Hid (Blk wq g3 25 #[.int .i64 o.1, .string (bys (wordP s).1), .string (bys o.2.1), gx.2.2, .string (bys a.1)]) := h3
                  have K1 : Hid (Blk wq gp 42 (psC r.2)) := h4
                  have HA := Lib.hid (h8 rfl)
                  clear h1 h2 h3 h4 h8
                  obtain ⟨gc, gb, gv⟩ := gx
                  dsimp only at K3 HA
                  go_wp2_with fail
                  refine (HWP.out r.2 wq K1.out HTE.out.1.len).mono ?_
                  rintro e w7 ⟨rfl, hK, hg⟩
                  have HA := Lib.hid (HA.out.far hg (fun h => by have := H23.out.2; have := h.1; omega) (by have := H23.out; omega))
                  replace K1 := Lib.hid hK
                  replace K2 := Lib.hid (hg.blk K2.out (by have := HGP.out; omega))
                  replace K3 := Lib.hid (hg.blk K3.out (by have := H23.out; omega))
                  replace HGR := Lib.hid (HGR.out.trans hg)
                  clear hK hg
                  have hst := st_word r.2
                  have HON := Lib.hid (HTE.out.1.st hst)
                  go_wp2_with fail
                  go_roundw
                  case rel => exact ⟨g', (wordP r.2).2, dn ++ [r.1], (wordP r.2).1, gv, rfl, HNX, Lib.hid (by have h1 := HB1.out; have h2 := HTE.out.2; have h4 := HMO.out.2; have h3 := hst.cnt; rw [h3, List.length_append]; simp only [List.length_cons, List.length_nil]; omega), HON, K1, K2, K3, HGR, HA⟩
                  case measure =>
                    show cntOf gp w7 < cntOf gp wr
                    rw [cntOf_blk K1.out, HMO.out.1, hst.cnt]
                    have h1 := HTE.out.2
                    have h2 := HMO.out.2
                    omega
              · have HE := Lib.hid (HR.out.stop (.inr hb))
                have q1 : ((bys wd).toList == [97, 110, 100]) = true := beq_bys_t hw
                have c2 : wr.cell? ⟨gp, 2, none⟩ = some (.bool true) := by rw [K1.out.cell 2, ← hb]; rfl
                clear hw hb
                go_wp2_with fail
                go_meet
                rw [HE.out]
                exact ⟨v, rfl, K1, K2, K3, HGR, HA⟩
            · have HE := Lib.hid (HR.out.stop (.inl hw))
              have q1 : ((bys wd).toList == [97, 110, 100]) = false := beq_bys hw
              clear hw
              go_wp2_with fail
              go_meet
              rw [HE.out]
              exact ⟨v, rfl, K1, K2, K3, HGR, HA⟩
        · have q1 : ((bys a.2.1).toList == [111, 102]) = false := beq_bys hw
          rw [q1]
          have HQE := Lib.hid (show qOf f a = ([], a.2.1, a.2.2) by unfold qOf; rw [if_neg hw])
          clear hw q1
          go_wp2_with fail
          go_meet
          rw [HQE.out]
          exact ⟨_, rfl, K1, K2, K3, HGR, AppT.nil _ _ _⟩
      case rest =>
        clear K1 K2 K3 HGR
        obtain ⟨vs, rfl, K1, K2, K3, HGR, HA⟩ := hcut
        generalize qOf f a = q at *
        have hg3 := H23.out.1
        obtain ⟨A5, cap5, rfl, hl5, hc5, hR5⟩ := HA.out.form (fun b hb => ⟨by omega, by omega⟩)
        have HR5 := Lib.hid hR5
        have HLC := Lib.hid (And.intro hl5 hc5)
        clear hR5 HA hg3 hl5 hc5
        go_upto_region 14 with (fail)
        go_cut [] (fun wc => Hid (Blk wc gp 42 (psC R.2)) ∧ Hid (Blk wc w.heap.size 25 zeroC) ∧ Hid (Blk wc g3 25 #[.int .i64 o.1, .string (bys (wordP s).1), .string (bys o.2.1), .slice A5 q.1.length cap5, .string (bys a.1)]) ∧ Hid (Gr gp w wc) ∧ Hid (TmsAt (fun b => w.heap.size < b ∧ b ≠ g3) wc A5 q.1))
        case first =>
          have f2 := K1.out.frozen 2
          have HMS := Lib.hid (fun u : Value => show TmsAt (fun b => w.heap.size < b ∧ b ≠ g3) (wc.setCell ⟨gp, 2, none⟩ u) A5 q.1 from HR5.out.map (grown_set _ _ _).size (fun _ _ h => h) fun p _ hp => World.cell?_setCell_other _ _ _ _ (fun e => by have := H23.out.2; rw [← e] at hp; have := hp.1; dsimp only at this; omega))
          cases hb : q.2.2.bad
          · have c2 : wc.cell? ⟨gp, 2, none⟩ = some (.bool false) := by rw [K1.out.cell 2, ← hb]; rfl
            by_cases hw : q.2.1 = wEnd
            · have q1 : ((bys q.2.1).toList == [101, 110, 100]) = true := beq_bys_t hw
              have n1 : (!((bys q.2.1).toList == [101, 110, 100])) = false := by rw [q1]; rfl
              have HB2 := Lib.hid (show R.2 = ⟨q.2.2.rest, q.2.2.fin, false, q.2.2.cnt⟩ by rw [HAP.out, hb, decide_eq_false (fun h => h hw)]; rfl)
              clear hw hb
              go_wp2_with fail
              go_meet
              exact ⟨Lib.hid (by rw [HB2.out]; exact K1.out.set_ 2 (.bool false)), Lib.hid (K2.out.far (p := ⟨gp, 2, none⟩) (by have := H23.out; show w.heap.size ≠ gp; omega) _), Lib.hid (K3.out.far (p := ⟨gp, 2, none⟩) (by have := H23.out; show g3 ≠ gp; omega) _), Lib.hid (HGR.out.set (p := ⟨gp, 2, none⟩) (.inr rfl) _), Lib.hid (HMS.out _)⟩
            · have q1 : ((bys q.2.1).toList == [101, 110, 100]) = false := beq_bys hw
              have n1 : (!((bys q.2.1).toList == [101, 110, 100])) = true := by rw [q1]; rfl
              have HB2 := Lib.hid (show R.2 = ⟨q.2.2.rest, q.2.2.fin, true, q.2.2.cnt⟩ by rw [HAP.out, hb, decide_eq_true hw]; rfl)
              clear hw hb
              go_wp2_with fail
              go_meet
              exact ⟨Lib.hid (by rw [HB2.out]; exact K1.out.set_ 2 (.bool true)), Lib.hid (K2.out.far (p := ⟨gp, 2, none⟩) (by have := H23.out; show w.heap.size ≠ gp; omega) _), Lib.hid (K3.out.far (p := ⟨gp, 2, none⟩) (by have := H23.out; show g3 ≠ gp; omega) _), Lib.hid (HGR.out.set (p := ⟨gp, 2, none⟩) (.inr rfl) _), Lib.hid (HMS.out _)⟩
          · have c2 : wc.cell? ⟨gp, 2, none⟩ = some (.bool true) := by rw [K1.out.cell 2, ← hb]; rfl
            have HB2 := Lib.hid (show R.2 = ⟨q.2.2.rest, q.2.2.fin, true, q.2.2.cnt⟩ by rw [HAP.out, hb]; rfl)
            clear hb
            go_wp2_with fail
            go_meet
            exact ⟨Lib.hid (by rw [HB2.out]; exact K1.out.set_ 2 (.bool true)), Lib.hid (K2.out.far (p := ⟨gp, 2, none⟩) (by have := H23.out; show w.heap.size ≠ gp; omega) _), Lib.hid (K3.out.far (p := ⟨gp, 2, none⟩) (by have := H23.out; show g3 ≠ gp; omega) _), Lib.hid (HGR.out.set (p := ⟨gp, 2, none⟩) (.inr rfl) _), Lib.hid (HMS.out _)⟩
        case rest =>
          clear K1 K2 K3 HGR HR5
          obtain ⟨K1, K2, K3, HGR, HR5⟩ := hcut
          have c1 := fun i => K3.out.cell i
          have c0 := fun i => K2.out.cell i
          have f0 := fun i => K2.out.frozen i
          go_wp2_with fail
          have hwf := ((((K2.out.set_ 0 (.int .i64 o.1)).set_ 1 (.string (bys (wordP s).1))).set_ 2 (.string (bys o.2.1))).set_ 3 (.slice A5 q.1.length cap5)).set_ 4 (.string (bys a.1))
          have hgf := ((((HGR.out.set (p := ⟨w.heap.size, 0, none⟩) (.inl (Nat.le_refl _)) (.int .i64 o.1)).set (p := ⟨w.heap.size, 1, none⟩) (.inl (Nat.le_refl _)) (.string (bys (wordP s).1))).set (p := ⟨w.heap.size, 2, none⟩) (.inl (Nat.le_refl _)) (.string (bys o.2.1))).set (p := ⟨w.heap.size, 3, none⟩) (.inl (Nat.le_refl _)) (.slice A5 q.1.length cap5)).set (p := ⟨w.heap.size, 4, none⟩) (.inl (Nat.le_refl _)) (.string (bys a.1))
          have hn : gp ≠ w.heap.size := by have := H23.out; omega
          have hkf := ((((K1.out.far (p := ⟨w.heap.size, 0, none⟩) hn (.int .i64 o.1)).far (p := ⟨w.heap.size, 1, none⟩) hn (.string (bys (wordP s).1))).far (p := ⟨w.heap.size, 2, none⟩) hn (.string (bys o.2.1))).far (p := ⟨w.heap.size, 3, none⟩) hn (.slice A5 q.1.length cap5)).far (p := ⟨w.heap.size, 4, none⟩) hn (.string (bys a.1))
          have step : ∀ (wx : World) (i : Nat) (u : Value), TmsAt (fun b => w.heap.size < b ∧ b ≠ g3) wx A5 q.1 → TmsAt (fun b => w.heap.size < b ∧ b ≠ g3) (wx.setCell ⟨w.heap.size, i, none⟩ u) A5 q.1 := fun wx i u h => h.map (grown_set _ _ _).size (fun _ _ h => h) fun p _ hp => World.cell?_setCell_other _ _ _ _ (fun e => by rw [← e] at hp; exact Nat.lt_irrefl _ hp.1)
          have hrf := step _ 4 (.string (bys a.1)) (step _ 3 (.slice A5 q.1.length cap5) (step _ 2 (.string (bys o.2.1)) (step _ 1 (.string (bys (wordP s).1)) (step _ 0 (.int .i64 o.1) HR5.out))))
          clear step c0 c1 f0 hn
          generalize ((((wc.setCell ⟨w.heap.size, 0, none⟩ (.int .i64 o.1)).setCell ⟨w.heap.size, 1, none⟩ (.string (bys (wordP s).1))).setCell ⟨w.heap.size, 2, none⟩ (.string (bys o.2.1))).setCell ⟨w.heap.size, 3, none⟩ (.slice A5 q.1.length cap5)).setCell ⟨w.heap.size, 4, none⟩ (.string (bys a.1)) = wf at *
          have dC := fun i => hwf.cell i
          refine bodyPost_ret (v := .agg (trmC o.1 (bys (wordP s).1) (bys o.2.1) A5 q.1.length cap5 (bys a.1))) (by simp [results, Tryz.results34, go_sem, dC]) rfl ⟨_, rfl, ?_, hkf, hgf⟩
          rw [HAP.out]
          exact TmAt.of (by rw [bys_len]; have := l0.out; omega) (by rw [bys_len]; have := H2.out.2.1; omega) (by rw [bys_len]; have := H3.out.2.1; omega) HLC.out.1 HLC.out.2 (hrf.any fun b _ h => by have := h.1; omega)
end Go.Proofs.YtpokelkneblafaaGreatDoor
