/- The reference's reader: term. -/
import Derived.Test.YtpokelkneblafaaGreatDoorRW
import Derived.Test.YtpokelkneblafaaGreatDoorPU
namespace Go.Proofs.YtpokelkneblafaaGreatDoor
open Go.RowKit
theorem rdT_apply {f left : Nat} {s : List UInt8} {o : Int × List UInt8 × List UInt8 × List UInt8} {a : List UInt8 × List UInt8 × List UInt8} (h0 : left ≠ 0) (h1 : (wordL s).1 = wThe) (ho : overR (wordL (wordL (wordL s).2).2).1 (wordL (wordL (wordL s).2).2).2 = o) (ha : asR o.2.2.1 o.2.2.2 = a) :
    rdT (f + 1) left s = (.mk o.1 (bys (wordL (wordL s).2).1) (bys o.2.1) (bys a.1) (rdA f (left - 1) a.2.1 a.2.2).1, (rdA f (left - 1) a.2.1 a.2.2).2) := by
  subst ho; subst ha
  rw [rdT, if_neg h0, if_neg (by rw [h1]; decide), if_pos h1]
theorem overR_len (a s : List UInt8) : (overR a s).2.1.length ≤ max s.length 1 ∧ (overR a s).2.2.1.length ≤ max a.length s.length ∧ (overR a s).2.2.2.length ≤ s.length := by
  unfold overR
  split
  · have h1 := wordL_len s
    have h2 := nameR_len (wordL s).1 (wordL s).2
    have h3 := wordL_len (nameR (wordL s).1 (wordL s).2).2
    dsimp only
    refine ⟨?_, ?_, ?_⟩ <;> omega
  · dsimp only
    refine ⟨by simp, by omega, Nat.le_refl _⟩
theorem asR_len (a s : List UInt8) : (asR a s).1.length ≤ s.length ∧ (asR a s).2.1.length ≤ max a.length s.length ∧ (asR a s).2.2.length ≤ s.length := by
  unfold asR
  split
  · have h1 := wordL_len s
    have h2 := wordL_len (wordL s).2
    dsimp only
    refine ⟨?_, ?_, ?_⟩ <;> omega
  · dsimp only
    exact ⟨by simp, by omega, Nat.le_refl _⟩
def RFactT (f : Nat) : Prop := ∀ (left : Nat) (s : List UInt8), 1 ≤ left → 2 * left ≤ f → cntM (rdT f left s).1 + (rdT f left s).2.2 ≤ left ∧ (rdT f left s).2.1.length ≤ s.length
def RFactA (f : Nat) : Prop := ∀ (left : Nat) (w s : List UInt8), 2 * left + 1 ≤ f → cntL (rdA f left w s).1 + (rdA f left w s).2.2 ≤ left ∧ (rdA f left w s).2.1.length ≤ s.length
theorem rfacts : ∀ f : Nat, RFactT f ∧ RFactA f
  | 0 => ⟨fun _ _ _ h => by omega, fun _ _ _ h => by omega⟩
  | f + 1 => by
    obtain ⟨hT, hA⟩ := rfacts f
    refine ⟨fun left s h1 hf => ?_, fun left w s hf => ?_⟩
    · have h0 : left ≠ 0 := by omega
      have w1 := wordL_len s
      by_cases ht : (wordL s).1 = wThe
      · rw [rdT_apply h0 ht rfl rfl]
        have w2 := wordL_len (wordL s).2
        have w3 := wordL_len (wordL (wordL s).2).2
        have ho := overR_len (wordL (wordL (wordL s).2).2).1 (wordL (wordL (wordL s).2).2).2
        generalize overR (wordL (wordL (wordL s).2).2).1 (wordL (wordL (wordL s).2).2).2 = o at *
        have ha := asR_len o.2.2.1 o.2.2.2
        generalize asR o.2.2.1 o.2.2.2 = a at *
        have h := hA (left - 1) a.2.1 a.2.2 (by omega)
        dsimp only
        rw [cntM]
        omega
      · rw [rdT, if_neg h0]
        split
        · have w2 := wordL_len (wordL s).2
          dsimp only
          rw [cntM, cntL]
          simp only [List.length_drop]
          omega
        · split
          · dsimp only
            rw [cntM, cntL]
            omega
          · have n := nameR_len (wordL s).1 (wordL s).2
            dsimp only
            rw [cntM, cntL]
            omega
    · rw [rdA]
      split
      · next hc =>
        have h := hT left s hc.2 (by omega)
        have w1 := wordL_len (rdT f left s).2.1
        have hp := cnt_pos (rdT f left s).1
        have h2 := hA (rdT f left s).2.2 (wordL (rdT f left s).2.1).1 (wordL (rdT f left s).2.1).2 (by omega)
        dsimp only
        rw [cntL]
        omega
      · dsimp only
        rw [cntL]
        omega
theorem rfactT {f : Nat} : RFactT f := (rfacts f).1
theorem rfactA {f : Nat} : RFactA f := (rfacts f).2
/-- behind the reference's term -/
def RTermPost (gp : Nat) (r : Trm × List UInt8 × Nat) (w : World) (e : Ending) (w' : World) : Prop :=
  ∃ c, e = .returned (.agg c) ∧ TmAt (fun b => w.heap.size ≤ b) w' r.1 c ∧ Blk w' gp 46 (rsC r.2.1 (r.2.2 : Nat)) ∧ Gr gp w w'
def RTermOk (gp f : Nat) : Prop := ∀ (left : Nat) (s : List UInt8) (w : World), Blk w gp 46 (rsC s (left : Nat)) → s.length ≤ 2000 → 1 ≤ left → left ≤ 1000 → 2 * left ≤ f →
  Calls Tryz.prog 17 #[.pointer (some ⟨gp, 0, none⟩)] w (RTermPost gp (rdT f left s) w)
/-- while an argument is appended -/
def InvR (w : World) (gp g2 g3 : Nat) (s : List UInt8) (left : Nat) (r : Trm × List UInt8 × Nat) (k : Int) (a vr fm : ByteArray) (v : Value) (xs : List Trm) : List Bool → Array Value × Nat × Value → World → Prop
  | [be, bb, ba, bs], gx, wq => Gr gp w wq ∧ Blk wq g2 25 zeroC ∧ Blk wq g3 25 #[.int .i64 k, .string a, .string vr, if bs then gx.2.2 else v, .string fm] ∧ Blk wq gp 46 (if be then rsC r.2.1 (r.2.2 : Nat) else rsC s (left : Nat)) ∧
      (ba = false → AppT (fun b => g2 < b ∧ b ≠ g3) wq (g3 + 1) v xs) ∧ (be = true → ba = false → TmAt (fun b => v.ownBlock ≠ some b ∧ g2 < b ∧ b ≠ g3) wq r.1 gx.1) ∧ (bb = true → ba = false → Blk wq gx.2.1 25 gx.1) ∧
      (ba = true → AppT (fun b => g2 < b ∧ b ≠ g3) wq (g3 + 1) gx.2.2 (xs ++ [r.1]))
  | _, _, _ => False
theorem InvR.keep {w : World} {gp g2 g3 : Nat} {s : List UInt8} {left : Nat} {r : Trm × List UInt8 × Nat} {k : Int} {a vr fm : ByteArray} {v : Value} {xs : List Trm} {be bb ba bs : Bool} {gx : Array Value × Nat × Value} {wq w' : World} (h : InvR w gp g2 g3 s left r k a vr fm v xs [be, bb, ba, bs] gx wq) (hb : Below wq.heap.size wq w') : InvR w gp g2 g3 s left r k a vr fm v xs [be, bb, ba, bs] gx w' := by
  obtain ⟨h1, h2, h3, h4, h5, h6, h7, h8⟩ := h
  exact ⟨h1.below hb, _root_.Go.Proofs.YtpokelkneblafaaGreatDoor.keep hb h2, _root_.Go.Proofs.YtpokelkneblafaaGreatDoor.keep hb h3, _root_.Go.Proofs.YtpokelkneblafaaGreatDoor.keep hb h4, fun e => (h5 e).keep hb, fun e e' => (h6 e e').keep hb, fun e e' => _root_.Go.Proofs.YtpokelkneblafaaGreatDoor.keep hb (h7 e e'), fun e => (h8 e).keep hb⟩
/-- how many terms the reader may still read -/
def leftOf (gp : Nat) (w : World) : Nat := match w.cell? ⟨gp, 1, none⟩ with
  | some (.int _ n) => n.toNat
  | _ => 0
theorem leftOf_blk {gp : Nat} {w : World} {s : List UInt8} {left : Nat} (h : Blk w gp 46 (rsC s (left : Nat))) : leftOf gp w = left := by
  unfold leftOf
  rw [h.cell 1]
  show ((left : Int)).toNat = _
  omega
/-- what the loop over the arguments has still to do -/
def RRest (q : List Trm × List UInt8 × Nat) (g left : Nat) (wd s : List UInt8) (done : List Trm) : Prop := q = (done ++ (rdA g left wd s).1, (rdA g left wd s).2)
theorem RRest.stop {q : List Trm × List UInt8 × Nat} {g left : Nat} {wd s : List UInt8} {done : List Trm} (h : RRest q g left wd s done) (hs : ¬ ((wd = wOf ∨ wd = wAnd) ∧ 0 < left)) : q = (done, s, left) := by
  unfold RRest at h
  cases g with
  | zero => rw [h, rdA, List.append_nil]
  | succ g => rw [h, rdA, if_neg hs, List.append_nil]
theorem RRest.next {q : List Trm × List UInt8 × Nat} {g left : Nat} {wd s : List UInt8} {done : List Trm} (h : RRest q (g + 1) left wd s done) (hw : (wd = wOf ∨ wd = wAnd) ∧ 0 < left) : RRest q g (rdT g left s).2.2 (wordL (rdT g left s).2.1).1 (wordL (rdT g left s).2.1).2 (done ++ [(rdT g left s).1]) := by
  unfold RRest at h ⊢
  rw [h, rdA, if_pos hw]
  simp
set_option maxRecDepth 100000 in
set_option maxHeartbeats 16000000 in
theorem rterm_step (gp f : Nat) (IH : ∀ g, g ≤ f → RTermOk gp g) : RTermOk gp (f + 1) := by
  intro left s w hK hs h1 h1000 hf
  obtain ⟨i0, hi, hz0, hz1, hz2⟩ := info_parts info_tm
  have HI := Lib.hid IH
  have HGP := Lib.hid hK.lt
  have K1 := Lib.hid (keep (bel_alloc w (.cells zeroC 25)) hK)
  have K2 := Lib.hid (Blk.new w 25 zeroC)
  have HGR := Lib.hid ((Gr.refl gp w).below (bel_alloc w (.cells zeroC 25)))
  have HF := Lib.hid (show 2 * left ≤ f + 1 ∧ 1 ≤ left ∧ left ≤ 1000 from ⟨hf, h1, h1000⟩)
  have HLS := Lib.hid hs
  have HW1 := Lib.hid (wordL_len s)
  have HWP := Lib.hid (fun (s : List UInt8) (left : Int) (w : World) hK h => rword_any gp s left w hK h)
  have HIP := Lib.hid (fun (a s : List UInt8) (left : Int) (w : World) hK h => rnam_any gp a s left w hK h)
  have hl0 : (0 : Int) ≤ (left : Int) - 1 := by omega
  have hl1 : (left : Int) ≤ 1000 := by omega
  clear IH hK hs h1 h1000 hf
  go_enter Tryz.func17, Tryz.ntmps17
  have c1 := K1.out.cell 1
  have f1 := K1.out.frozen 1
  go_upto_region 2 with (fail)
  have K1s : Hid (Blk ((w.alloc (.cells zeroC 25)).setCell ⟨gp, 1, none⟩ (.int .i64 ((left : Int) - 1))) gp 46 (rsC s ((left : Int) - 1))) := K1.out.set_ 1 (.int .i64 ((left : Int) - 1))
  have K2s := Lib.hid (K2.out.far (p := ⟨gp, 1, none⟩) (by have := HGP.out; show w.heap.size ≠ gp; omega) (.int .i64 ((left : Int) - 1)))
  have HGs := Lib.hid (HGR.out.set (p := ⟨gp, 1, none⟩) (.inr rfl) (.int .i64 ((left : Int) - 1)))
  clear c1 f1 K1 K2 HGR
  have K1 := K1s
  have K2 := K2s
  have HGR := HGs
  clear K1s K2s HGs
  generalize (w.alloc (.cells zeroC 25)).setCell ⟨gp, 1, none⟩ (.int .i64 ((left : Int) - 1)) = w1 at *
  obtain ⟨l1, hl⟩ : ∃ l1 : Nat, left = l1 + 1 := ⟨left - 1, by have := HF.out; omega⟩
  subst hl
  rw [show ((l1 + 1 : Nat) : Int) - 1 = (l1 : Int) by omega] at K1
  go_wp2_with fail
  refine (HWP.out s _ w1 K1.out HLS.out).mono ?_
  rintro e w2 ⟨rfl, hK, hg⟩
  replace K1 := Lib.hid hK
  replace K2 := Lib.hid (hg.blk K2.out (by have := HGP.out; omega))
  replace HGR := Lib.hid (HGR.out.trans hg)
  clear hK hg
  have HTQ := Lib.hid (show rdT (f + 1) (l1 + 1) s = rdT (f + 1) (l1 + 1) s from rfl)
  have c1 : w2.cell? ⟨gp, 1, none⟩ = some (.int .i64 (l1 : Int)) := K1.out.cell 1
  have hl3 : ¬ (l1 : Int) < 0 := by omega
  by_cases ht : (wordL s).1 = wText
  · have HTP := Lib.hid (show rdT (f + 1) (l1 + 1) s = (.mk 3 (bys ((wordL (wordL s).2).2.take (numN (wordL (wordL s).2).1))) ⟨#[]⟩ ⟨#[]⟩ [], (wordL (wordL s).2).2.drop (numN (wordL (wordL s).2).1 + 1), l1) by rw [rdT, if_neg (Nat.succ_ne_zero _), if_pos ht]; rfl)
    have q1 : ((bys (wordL s).1).toList == [116, 101, 120, 116]) = true := beq_bys_t ht
    clear ht
    have HW2 := Lib.hid (wordL_len (wordL s).2)
    generalize rdT (f + 1) (l1 + 1) s = R at *
    go_wp2_with fail
    refine (HWP.out _ _ _ K1.out (by have := HW1.out.2; have := HLS.out; omega)).mono ?_
    rintro e w3 ⟨rfl, hK, hg⟩
    replace K1 := Lib.hid hK
    replace K2 := Lib.hid (hg.blk K2.out (by have := HGP.out; omega))
    replace HGR := Lib.hid (HGR.out.trans hg)
    clear hK hg
    clear c1
    go_wp2_with fail
    refine (rnumber_any _ w3 (by have := HW1.out.2; have := HW2.out.1; have := HLS.out; omega)).mono ?_
    rintro e w4 ⟨⟨rfl, hN⟩, rfl⟩
    clear hN
    go_wp2_with fail
    refine (rbytes_any gp (wordL (wordL s).2).2 _ (numN (wordL (wordL s).2).1) w3 K1.out (by have := HW1.out.2; have := HW2.out.2; have := HLS.out; omega)).mono ?_
    rintro e w4 ⟨rfl, hK, hg⟩
    replace K1 := Lib.hid hK
    replace K2 := Lib.hid (hg.blk K2.out (by have := HGP.out; omega))
    replace HGR := Lib.hid (HGR.out.trans hg)
    clear hK hg
    clear q1
    have c0 := fun i => K2.out.cell i
    have f0 := fun i => K2.out.frozen i
    go_wp2_with fail
    have hn : gp ≠ w.heap.size := by have := HGP.out; omega
    have hwf := (((((K2.out.set_ 0 (.int .i64 3)).set_ 1 (.string (bys (List.take (numN (wordL (wordL s).2).1) (wordL (wordL s).2).2)))).set_ 2 (.string ⟨#[]⟩)).set_ 3 (.slice none 0 0)).set_ 4 (.string ⟨#[]⟩))
    have hgf := (((((HGR.out.set (p := ⟨w.heap.size, 0, none⟩) (.inl (Nat.le_refl _)) (.int .i64 3)).set (p := ⟨w.heap.size, 1, none⟩) (.inl (Nat.le_refl _)) (.string (bys (List.take (numN (wordL (wordL s).2).1) (wordL (wordL s).2).2)))).set (p := ⟨w.heap.size, 2, none⟩) (.inl (Nat.le_refl _)) (.string ⟨#[]⟩)).set (p := ⟨w.heap.size, 3, none⟩) (.inl (Nat.le_refl _)) (.slice none 0 0)).set (p := ⟨w.heap.size, 4, none⟩) (.inl (Nat.le_refl _)) (.string ⟨#[]⟩))
    have hkf := (((((K1.out.far (p := ⟨w.heap.size, 0, none⟩) hn (.int .i64 3)).far (p := ⟨w.heap.size, 1, none⟩) hn (.string (bys (List.take (numN (wordL (wordL s).2).1) (wordL (wordL s).2).2)))).far (p := ⟨w.heap.size, 2, none⟩) hn (.string ⟨#[]⟩)).far (p := ⟨w.heap.size, 3, none⟩) hn (.slice none 0 0)).far (p := ⟨w.heap.size, 4, none⟩) hn (.string ⟨#[]⟩))
    clear c0 f0 hn
    generalize ((((w4.setCell ⟨w.heap.size, 0, none⟩ (.int .i64 3)).setCell ⟨w.heap.size, 1, none⟩ (.string (bys (List.take (numN (wordL (wordL s).2).1) (wordL (wordL s).2).2)))).setCell ⟨w.heap.size, 2, none⟩ (.string ⟨#[]⟩)).setCell ⟨w.heap.size, 3, none⟩ (.slice none 0 0)).setCell ⟨w.heap.size, 4, none⟩ (.string ⟨#[]⟩) = wf at *
    have dC := fun i => hwf.cell i
    refine bodyPost_ret (v := .agg #[.int .i64 3, .string (bys (List.take (numN (wordL (wordL s).2).1) (wordL (wordL s).2).2)), .string ⟨#[]⟩, .slice none 0 0, .string ⟨#[]⟩]) (by simp [results, Tryz.results17, go_sem, dC]) rfl ⟨_, rfl, ?_, ?_, hgf⟩
    · rw [HTP.out]
      exact TmAt.zero _ _ _ _ (by rw [bys_len, List.length_take]; have := HW1.out.2; have := HW2.out.2; have := HLS.out; omega)
    · rw [HTP.out]
      exact hkf
  · have q1 : ((bys (wordL s).1).toList == [116, 101, 120, 116]) = false := beq_bys ht
    by_cases hth : (wordL s).1 = wThe
    · have q2 : ((bys (wordL s).1).toList == [116, 104, 101]) = true := beq_bys_t hth
      have n2 : (!((bys (wordL s).1).toList == [116, 104, 101])) = false := by rw [q2]; rfl
      have h2 := overR_len (wordL (wordL (wordL s).2).2).1 (wordL (wordL (wordL s).2).2).2
      have h3 := asR_len (overR (wordL (wordL (wordL s).2).2).1 (wordL (wordL (wordL s).2).2).2).2.2.1 (overR (wordL (wordL (wordL s).2).2).1 (wordL (wordL (wordL s).2).2).2).2.2.2
      generalize ho : overR (wordL (wordL (wordL s).2).2).1 (wordL (wordL (wordL s).2).2).2 = o at *
      generalize ha : asR o.2.2.1 o.2.2.2 = a at *
      have HTP := Lib.hid (show rdT (f + 1) (l1 + 1) s = (.mk o.1 (bys (wordL (wordL s).2).1) (bys o.2.1) (bys a.1) (rdA f l1 a.2.1 a.2.2).1, (rdA f l1 a.2.1 a.2.2).2) from rdT_apply (f := f) (Nat.succ_ne_zero l1) hth ho ha)
      have HL := Lib.hid (show (wordL s).2.length ≤ 2000 ∧ (wordL (wordL s).2).2.length ≤ 2000 ∧ (wordL (wordL (wordL s).2).2).2.length ≤ 2000 ∧ (wordL (wordL s).2).1.length ≤ 2000 ∧ o.2.1.length ≤ 2000 ∧ o.2.2.2.length ≤ 2000 ∧ a.1.length ≤ 2000 ∧ a.2.2.length ≤ 2000 by
        have e0 := HLS.out
        have e1 := HW1.out
        have e2 := wordL_len (wordL s).2
        have e3 := wordL_len (wordL (wordL s).2).2
        omega)
      clear ht hth h2 h3
      replace ho := Lib.hid ho
      replace ha := Lib.hid ha
      generalize rdT (f + 1) (l1 + 1) s = R at *
      generalize hq0 : rdA f l1 a.2.1 a.2.2 = q at *
      have HR0 := Lib.hid (show RRest q f l1 a.2.1 a.2.2 [] from by rw [← hq0]; rfl)
      clear hq0
      go_wp2_with fail
      refine (HWP.out (wordL s).2 _ w2 K1.out HL.out.1).mono ?_
      rintro e w3 ⟨rfl, hK, hg⟩
      replace K1 := Lib.hid hK
      replace K2 := Lib.hid (hg.blk K2.out (by have := HGP.out; omega))
      replace HGR := Lib.hid (HGR.out.trans hg)
      clear hK hg
      clear q1 q2 n2 c1 hl3
      have K3 := Lib.hid (Blk.new w3 25 #[.int .i64 4, .string (bys (wordL (wordL s).2).1), .string ⟨#[]⟩, .slice none 0 0, .string ⟨#[]⟩])
      have hb := bel_alloc w3 (.cells #[.int .i64 4, .string (bys (wordL (wordL s).2).1), .string ⟨#[]⟩, .slice none 0 0, .string ⟨#[]⟩] 25)
      have H23 := Lib.hid (And.intro K2.out.lt HGP.out)
      replace K1 := Lib.hid (keep hb K1.out)
      replace K2 := Lib.hid (keep hb K2.out)
      replace HGR := Lib.hid (HGR.out.below hb)
      clear hb
      go_wp2_with fail
      generalize w3.alloc (.cells #[.int .i64 4, .string (bys (wordL (wordL s).2).1), .string ⟨#[]⟩, .slice none 0 0, .string ⟨#[]⟩] 25) = w4 at *
      generalize w3.heap.size = g3 at *
      refine (HWP.out (wordL (wordL s).2).2 _ w4 K1.out HL.out.2.1).mono ?_
      rintro e w5 ⟨rfl, hK, hg⟩
      replace K1 := Lib.hid hK
      replace K2 := Lib.hid (hg.blk K2.out (by have := HGP.out; omega))
      replace K3 := Lib.hid (hg.blk K3.out (by have := H23.out; omega))
      replace HGR := Lib.hid (HGR.out.trans hg)
      clear hK hg
      go_upto_if 58 with (fail)
      go_cut [3] (fun v wc => v = .string (bys o.2.2.1) ∧ Hid (Blk wc gp 46 (rsC o.2.2.2 (l1 : Int))) ∧ Hid (Blk wc w.heap.size 25 zeroC) ∧ Hid (Blk wc g3 25 #[.int .i64 o.1, .string (bys (wordL (wordL s).2).1), .string (bys o.2.1), .slice none 0 0, .string ⟨#[]⟩]) ∧ Hid (Gr gp w wc))
      case first =>
        by_cases hw : (wordL (wordL (wordL s).2).2).1 = wOver
        · have q1 : ((bys (wordL (wordL (wordL s).2).2).1).toList == [111, 118, 101, 114]) = true := beq_bys_t hw
          rw [q1]
          obtain rfl : o = (5, (nameR (wordL (wordL (wordL (wordL s).2).2).2).1 (wordL (wordL (wordL (wordL s).2).2).2).2).1, wordL (nameR (wordL (wordL (wordL (wordL s).2).2).2).1 (wordL (wordL (wordL (wordL s).2).2).2).2).2) := by rw [← ho.out]; unfold overR; rw [if_pos hw]
          have E4 := Lib.hid (wordL_len (wordL (wordL (wordL s).2).2).2)
          have E5 := Lib.hid (nameR_len (wordL (wordL (wordL (wordL s).2).2).2).1 (wordL (wordL (wordL (wordL s).2).2).2).2)
          clear hw
          go_wp2_with fail
          refine (HWP.out (wordL (wordL (wordL s).2).2).2 _ _ K1.out HL.out.2.2.1).mono ?_
          rintro e w4 ⟨rfl, hK, hg⟩
          replace K1 := Lib.hid hK
          replace K2 := Lib.hid (hg.blk K2.out (by have := HGP.out; omega))
          replace K3 := Lib.hid (hg.blk K3.out (by have := H23.out; omega))
          replace HGR := Lib.hid (HGR.out.trans hg)
          clear hK hg
          go_wp2_with fail
          refine (HIP.out (wordL (wordL (wordL (wordL s).2).2).2).1 (wordL (wordL (wordL (wordL s).2).2).2).2 _ _ K1.out (by have := HL.out; have := E4.out; omega)).mono ?_
          rintro e w5 ⟨rfl, hK, hg⟩
          replace K1 := Lib.hid hK
          replace K2 := Lib.hid (hg.blk K2.out (by have := HGP.out; omega))
          replace K3 := Lib.hid (hg.blk K3.out (by have := H23.out; omega))
          replace HGR := Lib.hid (HGR.out.trans hg)
          clear hK hg
          have c0 := K3.out.cell 0
          have f0 := K3.out.frozen 0
          have c2 := K3.out.cell 2
          have f2 := K3.out.frozen 2
          have K3s := Lib.hid ((K3.out.set_ 0 (.int .i64 5)).set_ 2 (.string (bys (nameR (wordL (wordL (wordL (wordL s).2).2).2).1 (wordL (wordL (wordL (wordL s).2).2).2).2).1)))
          have K1s := Lib.hid ((K1.out.far (p := ⟨g3, 0, none⟩) (by have := H23.out; show gp ≠ g3; omega) (.int .i64 5)).far (p := ⟨g3, 2, none⟩) (by have := H23.out; show gp ≠ g3; omega) (.string (bys (nameR (wordL (wordL (wordL (wordL s).2).2).2).1 (wordL (wordL (wordL (wordL s).2).2).2).2).1)))
          have K2s := Lib.hid ((K2.out.far (p := ⟨g3, 0, none⟩) (by have := H23.out; show w.heap.size ≠ g3; omega) (.int .i64 5)).far (p := ⟨g3, 2, none⟩) (by have := H23.out; show w.heap.size ≠ g3; omega) (.string (bys (nameR (wordL (wordL (wordL (wordL s).2).2).2).1 (wordL (wordL (wordL (wordL s).2).2).2).2).1)))
          have HGRs := Lib.hid ((HGR.out.set (p := ⟨g3, 0, none⟩) (.inl (by have := H23.out; show w.heap.size ≤ g3; omega)) (.int .i64 5)).set (p := ⟨g3, 2, none⟩) (.inl (by have := H23.out; show w.heap.size ≤ g3; omega)) (.string (bys (nameR (wordL (wordL (wordL (wordL s).2).2).2).1 (wordL (wordL (wordL (wordL s).2).2).2).2).1)))
          go_wp2_with fail
          clear c0 f0 c2 f2 K1 K2 K3 HGR
          have K1 := K1s
          have K2 := K2s
          have K3 := K3s
          have HGR := HGRs
          clear K1s K2s K3s HGRs
          generalize (w5.setCell ⟨g3, 0, none⟩ (.int .i64 5)).setCell ⟨g3, 2, none⟩ (.string (bys (nameR (wordL (wordL (wordL (wordL s).2).2).2).1 (wordL (wordL (wordL (wordL s).2).2).2).2).1)) = w6 at *
          refine (HWP.out (nameR (wordL (wordL (wordL (wordL s).2).2).2).1 (wordL (wordL (wordL (wordL s).2).2).2).2).2 _ _ K1.out (by have := HL.out; have := E4.out; have := E5.out; omega)).mono ?_
          rintro e w7 ⟨rfl, hK, hg⟩
          replace K1 := Lib.hid hK
          replace K2 := Lib.hid (hg.blk K2.out (by have := HGP.out; omega))
          replace K3 := Lib.hid (hg.blk K3.out (by have := H23.out; omega))
          replace HGR := Lib.hid (HGR.out.trans hg)
          clear hK hg
          go_wp2_with fail
          go_meet
          exact ⟨rfl, K1, K2, K3, HGR⟩
        · have q1 : ((bys (wordL (wordL (wordL s).2).2).1).toList == [111, 118, 101, 114]) = false := beq_bys hw
          rw [q1]
          obtain rfl : o = (4, [], (wordL (wordL (wordL s).2).2).1, (wordL (wordL (wordL s).2).2).2) := by rw [← ho.out]; unfold overR; rw [if_neg hw]
          clear hw
          go_wp2_with fail
          go_meet
          exact ⟨rfl, K1, K2, K3, HGR⟩
      case rest =>
        clear K1 K2 K3 HGR
        obtain ⟨rfl, K1, K2, K3, HGR⟩ := hcut
        go_upto_if 68 with (fail)
        go_cut [3] (fun v wc => v = .string (bys a.2.1) ∧ Hid (Blk wc gp 46 (rsC a.2.2 (l1 : Int))) ∧ Hid (Blk wc w.heap.size 25 zeroC) ∧ Hid (Blk wc g3 25 #[.int .i64 o.1, .string (bys (wordL (wordL s).2).1), .string (bys o.2.1), .slice none 0 0, .string (bys a.1)]) ∧ Hid (Gr gp w wc))
        case first =>
          by_cases hw : o.2.2.1 = wAs
          · have q1 : ((bys o.2.2.1).toList == [97, 115]) = true := beq_bys_t hw
            rw [q1]
            obtain rfl : a = ((wordL o.2.2.2).1, wordL (wordL o.2.2.2).2) := by rw [← ha.out]; unfold asR; rw [if_pos hw]
            have E4 := Lib.hid (wordL_len o.2.2.2)
            clear hw q1
            go_wp2_with fail
            refine (HWP.out o.2.2.2 _ _ K1.out (by have := HL.out; omega)).mono ?_
            rintro e w4 ⟨rfl, hK, hg⟩
            replace K1 := Lib.hid hK
            replace K2 := Lib.hid (hg.blk K2.out (by have := HGP.out; omega))
            replace K3 := Lib.hid (hg.blk K3.out (by have := H23.out; omega))
            replace HGR := Lib.hid (HGR.out.trans hg)
            clear hK hg
            have c4 := K3.out.cell 4
            have f4 := K3.out.frozen 4
            have K3s := Lib.hid (K3.out.set_ 4 (.string (bys (wordL o.2.2.2).1)))
            have K1s := Lib.hid (K1.out.far (p := ⟨g3, 4, none⟩) (by have := H23.out; show gp ≠ g3; omega) (.string (bys (wordL o.2.2.2).1)))
            have K2s := Lib.hid (K2.out.far (p := ⟨g3, 4, none⟩) (by have := H23.out; show w.heap.size ≠ g3; omega) (.string (bys (wordL o.2.2.2).1)))
            have HGRs := Lib.hid (HGR.out.set (p := ⟨g3, 4, none⟩) (.inl (by have := H23.out; show w.heap.size ≤ g3; omega)) (.string (bys (wordL o.2.2.2).1)))
            go_wp2_with fail
            clear c4 f4 K1 K2 K3 HGR
            have K1 := K1s
            have K2 := K2s
            have K3 := K3s
            have HGR := HGRs
            clear K1s K2s K3s HGRs
            generalize w4.setCell ⟨g3, 4, none⟩ (.string (bys (wordL o.2.2.2).1)) = w6 at *
            refine (HWP.out (wordL o.2.2.2).2 _ _ K1.out (by have := HL.out; have := E4.out; omega)).mono ?_
            rintro e w7 ⟨rfl, hK, hg⟩
            replace K1 := Lib.hid hK
            replace K2 := Lib.hid (hg.blk K2.out (by have := HGP.out; omega))
            replace K3 := Lib.hid (hg.blk K3.out (by have := H23.out; omega))
            replace HGR := Lib.hid (HGR.out.trans hg)
            clear hK hg
            go_wp2_with fail
            go_meet
            exact ⟨rfl, K1, K2, K3, HGR⟩
          · have q1 : ((bys o.2.2.1).toList == [97, 115]) = false := beq_bys hw
            rw [q1]
            obtain rfl : a = ([], o.2.2.1, o.2.2.2) := by rw [← ha.out]; unfold asR; rw [if_neg hw]
            clear hw q1
            go_wp2_with fail
            go_meet
            exact ⟨rfl, K1, K2, K3, HGR⟩
        case rest =>
          clear K1 K2 K3 HGR
          obtain ⟨rfl, K1, K2, K3, HGR⟩ := hcut
          have HA := Lib.hid (AppT.nil (fun b => w.heap.size < b ∧ b ≠ g3) wc (g3 + 1))
          have HB1 := Lib.hid (show f ≤ f ∧ 2 * l1 + 1 ≤ f ∧ ([] : List Trm).length + l1 ≤ 1000 ∧ a.2.2.length ≤ 2000 by have := HF.out; have := HL.out; simp; omega)
          go_wp2_with fail
          go_loopw [3] (fun v wr => ∃ (g left : Nat) (st : List UInt8) (dn : List Trm) (wd : List UInt8) (vs : Value), v = .string (bys wd) ∧ Hid (RRest q g left wd st dn) ∧ Hid (g ≤ f ∧ 2 * left + 1 ≤ g ∧ dn.length + left ≤ 1000 ∧ st.length ≤ 2000) ∧ Hid (Blk wr gp 46 (rsC st (left : Nat))) ∧ Hid (Blk wr w.heap.size 25 zeroC) ∧ Hid (Blk wr g3 25 #[.int .i64 o.1, .string (bys (wordL (wordL s).2).1), .string (bys o.2.1), vs, .string (bys a.1)]) ∧ Hid (Gr gp w wr) ∧ Hid (AppT (fun b => w.heap.size < b ∧ b ≠ g3) wr (g3 + 1) vs dn)) (fun _ wr => leftOf gp wr)
          case atStart => exact ⟨f, l1, a.2.2, [], a.2.1, _, rfl, HR0, HB1, K1, K2, K3, HGR, HA⟩
          case round =>
            clear HR0 HB1 K1 K2 K3 HGR HA
            obtain ⟨g, left, st, dn, wd, v, rfl, HR, HB1, K1, K2, K3, HGR, HA⟩ := hrel
            have HM := Lib.hid (leftOf_blk K1.out)
            go_upto_region 19 with (fail)
            go_cut [86] (fun v wc => v = .bool (decide ((wd = wOf ∨ wd = wAnd) ∧ 0 < left)) ∧ wc = wr)
            case first =>
              have c1 : wr.cell? ⟨gp, 1, none⟩ = some (.int .i64 (left : Int)) := K1.out.cell 1
              clear HR HB1 K1 K2 K3 HGR HA
              by_cases hw1 : wd = wOf
              · have q1 : ((bys wd).toList == [111, 102]) = true := beq_bys_t hw1
                have N1 := Lib.hid hw1
                clear hw1
                go_wp2_with fail
                go_meet
                exact ⟨congrArg Value.bool (decide_eq_decide.2 ⟨fun h => ⟨.inl N1.out, by omega⟩, fun h => by have := h.2; omega⟩), rfl⟩
              · have q1 : ((bys wd).toList == [111, 102]) = false := beq_bys hw1
                have N1 := Lib.hid hw1
                by_cases hw2 : wd = wAnd
                · have q2 : ((bys wd).toList == [97, 110, 100]) = true := beq_bys_t hw2
                  have N2 := Lib.hid hw2
                  clear hw1 hw2
                  go_wp2_with fail
                  go_meet
                  exact ⟨congrArg Value.bool (decide_eq_decide.2 ⟨fun h => ⟨.inr N2.out, by omega⟩, fun h => by have := h.2; omega⟩), rfl⟩
                · have q2 : ((bys wd).toList == [97, 110, 100]) = false := beq_bys hw2
                  have N2 := Lib.hid hw2
                  clear hw1 hw2
                  go_wp2_with fail
                  go_meet
                  exact ⟨congrArg Value.bool (decide_eq_false (fun h => h.1.elim N1.out N2.out)).symm, rfl⟩
            case rest =>
              obtain ⟨rfl, rfl⟩ := hcut
              by_cases hc : (wd = wOf ∨ wd = wAnd) ∧ 0 < left
              · rw [decide_eq_true hc]
                obtain ⟨g', rfl⟩ : ∃ g', g = g' + 1 := ⟨g - 1, by have := HB1.out; omega⟩
                have HTE := Lib.hid (rfactT (f := g') left st hc.2 (by have := HB1.out; omega))
                have HNX := Lib.hid (HR.out.next hc)
                have HPO := Lib.hid hc.2
                have HCT := Lib.hid (fun wq hK => HI.out g' (by have := HB1.out; omega) left st wq hK (by have := HB1.out; omega) HPO.out (by have := HB1.out; omega) (by have := HB1.out; omega))
                clear hc HR
                generalize rdT g' left st = r at *
                go_upto_region 20 with (fail)
                refine region_ghost (X := Array Value × Nat × Value) (by kernel_rfl) _ (fun gx => [.pointer (some ⟨g3, 3, none⟩), v, .pointer (some ⟨gp, 0, none⟩), .agg gx.1, .slice (some ⟨gx.2.1, 0, none⟩) 1 1, gx.2.2, .pointer (some ⟨g3, 3, none⟩), undef]) [true, true, true, true, true, true, true, true] [3, 4, 5, 7] (InvR w gp w.heap.size g3 st left r o.1 (bys (wordL (wordL s).2).1) (bys o.2.1) (bys a.1) v dn) (#[], 0, .nilFunc) (by kernel_rfl) (fun gx => by simp [fin, finOn, dstAt, List.range, List.range.loop, Act.put]; rfl) (fun _ => by kernel_rfl) (by kernel_rfl) ⟨HGR.out.below (below_drew (Below.refl _ _)), K2.out.drew, K3.out.drew, K1.out.drew, (fun _ => HA.out.keep (below_drew (Below.refl _ _))), (fun h => by cases h), (fun h => by cases h), fun h => by cases h⟩ ?_ ?_
                · refine ⟨fun L gx wq hL hb ha hI => ?_, fun L gx wq hL hb ha hI => ?_, fun L gx wq hL hb ha hI => ?_, fun L gx wq hL hb ha hI => ?_, fun L gx wq hL hb ha hI => ?_, fun L gx wq hL hb ha hI => ?_, fun L gx wq hL hb ha hI => ?_, fun L gx wq hL hb ha hI => ?_, trivial⟩
                  · exact Gives.plain (v := .pointer (some ⟨g3, 3, none⟩)) (w' := wq) (by simp [go_sem]) rfl hI
                  · have e7 : L 7 = false := ha 7 (by kernel_rfl)
                    have cJ := hI.2.2.1.cell 3
                    simp only [e7] at cJ
                    exact Gives.plain (v := v) (w' := wq) (by simp [go_sem, cJ]) rfl hI
                  · exact Gives.plain (v := .pointer (some ⟨gp, 0, none⟩)) (w' := wq) (by kernel_rfl) rfl hI
                  · have e3 : L 3 = false := hL
                    have e4 : L 4 = false := ha 4 (by kernel_rfl)
                    have e5 : L 5 = false := ha 5 (by kernel_rfl)
                    simp only [List.map, e3, e4, e5] at hI ⊢
                    obtain ⟨h1, h2, h3, h4, h5, _⟩ := hI
                    refine Gives.call (f := 17) (args := #[.pointer (some ⟨gp, 0, none⟩)]) (w' := wq) (by kernel_rfl) ((HCT.out wq h4).mono ?_)
                    rintro e wz ⟨c, rfl, hc, hK, hg⟩
                    exact ⟨_, rfl, (c, gx.2), rfl, (KeepsV.of_same ⟨.inr (.inr rfl), .inr (.inr rfl), .inr (.inr rfl), .inl rfl, (by first | exact .inr (.inr rfl) | exact .inr (.inl (by kernel_rfl))), (by first | exact .inr (.inr rfl) | exact .inr (.inl (by kernel_rfl))), .inr (.inr rfl), .inr (.inr rfl), trivial⟩), h1.trans hg, hg.blk h2 (by have := H23.out; omega), hg.blk h3 (by have := H23.out; omega), hK, (fun _ => (h5 rfl).far hg (fun h => by have := H23.out.2; omega) (by have := H23.out; omega)), (fun _ _ => hc.any fun b _ hb => ⟨fun h => by have := ((h5 rfl).lt b h).2; omega, by have := h2.lt; omega, by have := h3.lt; omega⟩), (fun h => by cases h), fun h => by cases h⟩
                  · have e3 : L 3 = true := hb 3 (by kernel_rfl)
                    have e4 : L 4 = false := hL
                    have e5 : L 5 = false := ha 5 (by kernel_rfl)
                    simp only [List.map, e3, e4, e5] at hI ⊢
                    have hK := hI.keep (bel_alloc wq (.cells gx.1 25))
                    obtain ⟨gc, gb, gv⟩ := gx
                    obtain ⟨A8, c8, rfl, _⟩ := (hI.2.2.2.2.2.1 rfl rfl).form
                    exact Gives.value (v := .slice (some ⟨wq.heap.size, 0, none⟩) 1 1) (w' := wq.alloc (.cells (trmC r.1.kind r.1.nam r.1.vr A8 r.1.args.length c8 r.1.form) 25)) (by simp [go_sem]) ⟨(_, wq.heap.size, gv), rfl, (KeepsV.of_same ⟨.inr (.inr rfl), .inr (.inr rfl), .inr (.inr rfl), (by first | exact .inr (.inr rfl) | exact .inr (.inl (by kernel_rfl))), .inl rfl, (by first | exact .inr (.inr rfl) | exact .inr (.inl (by kernel_rfl))), .inr (.inr rfl), .inr (.inr rfl), trivial⟩), hK.1, hK.2.1, hK.2.2.1, hK.2.2.2.1, hK.2.2.2.2.1, hK.2.2.2.2.2.1, (fun _ _ => Blk.new _ _ _), fun h => by cases h⟩
                  · have e3 : L 3 = true := hb 3 (by kernel_rfl)
                    have e4 : L 4 = true := hb 4 (by kernel_rfl)
                    have e5 : L 5 = false := hL
                    have e7 : L 7 = false := ha 7 (by kernel_rfl)
                    simp only [List.map, e3, e4, e5, e7] at hI ⊢
                    obtain ⟨h1, h2, h3, h4, h5, h6, h7, _⟩ := hI
                    obtain ⟨css, ho, hl, hr⟩ := h5 rfl
                    have hxl : dn.length ≤ 1001 := by have := HB1.out; omega
                    have hrow : ∀ b, v.ownBlock = some b → g3 + 1 ≤ b := fun b hb => ((h5 rfl).lt b hb).1
                    exact gives_append (.tmp 88) (.tmp 91) 23 rfl (g3 + 1) 25 i0 (.agg #[.int .i64 0, .string ⟨#[]⟩, .string ⟨#[]⟩, .slice none 0 0, .string ⟨#[]⟩]) 5 80 Tryz.underlying23 hi hz0 hz1 hz2 rfl (by decide) v _ _ rfl ho wq.heap.size (some ⟨gx.2.1, 0, none⟩) 1 1 gx.1.toList rfl (reads_agg (h7 rfl rfl) (h6 rfl rfl).size) (tm_one (h6 rfl rfl)) (by unfold maxLen; omega) (by omega) (by have := h3.lt; omega) (fun v' w' q2 q3 q4 => ⟨(gx.1, gx.2.1, v'), rfl, (KeepsV.of_same ⟨.inr (.inr rfl), .inr (.inr rfl), .inr (.inr rfl), (by first | exact .inr (.inr rfl) | exact .inr (.inl (by kernel_rfl))), (by first | exact .inr (.inr rfl) | exact .inr (.inl (by kernel_rfl))), .inl rfl, .inr (.inr rfl), .inr (.inr rfl), trivial⟩), h1.grown q3 (fun b hb => .inl (by have := hrow b hb; have := H23.out; omega)), h2.grown q3 (fun e => by have := hrow _ e.symm; have := H23.out; omega), h3.grown q3 (fun e => by have := hrow _ e.symm; omega), h4.grown q3 (fun e => by have := hrow _ e.symm; have := H23.out; omega), (fun h => by cases h), (fun _ h => by cases h), (fun _ h => by cases h), fun _ => AppT.push hl hr (h6 rfl rfl) q2 q3 q4⟩)
                  · exact Gives.plain (v := .pointer (some ⟨g3, 3, none⟩)) (w' := wq) (by simp [go_sem]) rfl hI
                  · have e3 : L 3 = true := hb 3 (by kernel_rfl)
                    have e4 : L 4 = true := hb 4 (by kernel_rfl)
                    have e5 : L 5 = true := hb 5 (by kernel_rfl)
                    have e7 : L 7 = false := hL
                    simp only [List.map, e3, e4, e5, e7] at hI ⊢
                    obtain ⟨gc, gb, gv⟩ := gx
                    obtain ⟨h1, h2, h3, h4, _, _, _, h8⟩ := hI
                    have h3 : Blk wq g3 25 #[.int .i64 o.1, .string (bys (wordL (wordL s).2).1), .string (bys o.2.1), v, .string (bys a.1)] := h3
                    have hg := H23.out
                    obtain ⟨A5, c5, e9, _⟩ := (h8 rfl).form (fun b hb => ⟨by omega, by omega⟩)
                    dsimp only at e9
                    subst e9
                    have cJ := h3.cell 3
                    have fJ := h3.frozen 3
                    exact Gives.skip (w' := wq.setCell ⟨g3, 3, none⟩ (.slice A5 (dn ++ [r.1]).length c5)) (by simp [go_sem, cJ, fJ]) ⟨_, rfl, KeepsV.same, h1.set (p := ⟨g3, 3, none⟩) (.inl (by show w.heap.size ≤ g3; omega)) _, h2.far (p := ⟨g3, 3, none⟩) (by show w.heap.size ≠ g3; omega) _, h3.set_ 3 _, h4.far (p := ⟨g3, 3, none⟩) (by show gp ≠ g3; omega) _, (fun h => by cases h), (fun _ h => by cases h), (fun _ h => by cases h), fun _ => (h8 rfl).set_ (p := ⟨g3, 3, none⟩) (fun h => h.2 rfl) (by show g3 < _; omega) _⟩
                · intro gx wq hI
                  obtain ⟨h1, h2, h3, h4, _, _, _, h8⟩ := hI
                  have HGR := Lib.hid h1
                  have K2 := Lib.hid h2
                  have K3 : Hid (Blk wq g3 25 #[.int .i64 o.1, .string (bys (wordL (wordL s).2).1), .string (bys o.2.1), gx.2.2, .string (bys a.1)]) := h3
                  have K1 : Hid (Blk wq gp 46 (rsC r.2.1 (r.2.2 : Nat))) := h4
                  have HA := Lib.hid (h8 rfl)
                  clear h1 h2 h3 h4 h8
                  obtain ⟨gc, gb, gv⟩ := gx
                  dsimp only at K3 HA
                  go_wp2_with fail
                  refine (HWP.out r.2.1 _ wq K1.out (by have := HTE.out; have := HB1.out; omega)).mono ?_
                  rintro e w7 ⟨rfl, hK, hg⟩
                  have HA := Lib.hid (HA.out.far hg (fun h => by have := H23.out.2; have := h.1; omega) (by have := H23.out; omega))
                  replace K1 := Lib.hid hK
                  replace K2 := Lib.hid (hg.blk K2.out (by have := HGP.out; omega))
                  replace K3 := Lib.hid (hg.blk K3.out (by have := H23.out; omega))
                  replace HGR := Lib.hid (HGR.out.trans hg)
                  clear hK hg
                  have HWL := Lib.hid (wordL_len r.2.1)
                  have HCP := Lib.hid (cnt_pos r.1)
                  go_wp2_with fail
                  go_roundw
                  case rel => exact ⟨g', r.2.2, (wordL r.2.1).2, dn ++ [r.1], (wordL r.2.1).1, gv, rfl, HNX, Lib.hid (by have h1 := HB1.out; have h2 := HTE.out; have h3 := HWL.out; have h4 := HCP.out; rw [List.length_append]; simp only [List.length_cons, List.length_nil]; omega), K1, K2, K3, HGR, HA⟩
                  case measure =>
                    show leftOf gp w7 < leftOf gp _
                    rw [leftOf_blk K1.out, HM.out]
                    have h2 := HTE.out
                    have h4 := HCP.out
                    omega
              · rw [decide_eq_false hc]
                have HE := Lib.hid (HR.out.stop hc)
                clear hc
                have hg3 := H23.out.1
                obtain ⟨A5, cap5, rfl, hl5, hc5, hR5⟩ := HA.out.form (fun b hb => ⟨by omega, by omega⟩)
                have HR5 := Lib.hid hR5
                have HLC := Lib.hid (And.intro hl5 hc5)
                clear hR5 HA hg3 hl5 hc5
                have c1 := fun i => K3.out.cell i
                have c0 := fun i => K2.out.cell i
                have f0 := fun i => K2.out.frozen i
                go_wp2_with fail
                have hn : gp ≠ w.heap.size := by have := H23.out; omega
                have hwf := (((((K2.out.set_ 0 (.int .i64 o.1)).set_ 1 (.string (bys (wordL (wordL s).2).1))).set_ 2 (.string (bys o.2.1))).set_ 3 (.slice A5 dn.length cap5)).set_ 4 (.string (bys a.1)))
                have hgf := (((((HGR.out.set (p := ⟨w.heap.size, 0, none⟩) (.inl (Nat.le_refl _)) (.int .i64 o.1)).set (p := ⟨w.heap.size, 1, none⟩) (.inl (Nat.le_refl _)) (.string (bys (wordL (wordL s).2).1))).set (p := ⟨w.heap.size, 2, none⟩) (.inl (Nat.le_refl _)) (.string (bys o.2.1))).set (p := ⟨w.heap.size, 3, none⟩) (.inl (Nat.le_refl _)) (.slice A5 dn.length cap5)).set (p := ⟨w.heap.size, 4, none⟩) (.inl (Nat.le_refl _)) (.string (bys a.1)))
                have hkf := (((((K1.out.far (p := ⟨w.heap.size, 0, none⟩) hn (.int .i64 o.1)).far (p := ⟨w.heap.size, 1, none⟩) hn (.string (bys (wordL (wordL s).2).1))).far (p := ⟨w.heap.size, 2, none⟩) hn (.string (bys o.2.1))).far (p := ⟨w.heap.size, 3, none⟩) hn (.slice A5 dn.length cap5)).far (p := ⟨w.heap.size, 4, none⟩) hn (.string (bys a.1)))
                have step : ∀ (wx : World) (i : Nat) (u : Value), TmsAt (fun b => w.heap.size < b ∧ b ≠ g3) wx A5 dn → TmsAt (fun b => w.heap.size < b ∧ b ≠ g3) (wx.setCell ⟨w.heap.size, i, none⟩ u) A5 dn := fun wx i u h => h.map (grown_set _ _ _).size (fun _ _ h => h) fun p _ hp => World.cell?_setCell_other _ _ _ _ (fun e => by rw [← e] at hp; exact Nat.lt_irrefl _ hp.1)
                have hrf := (step _ 4 (.string (bys a.1)) (step _ 3 (.slice A5 dn.length cap5) (step _ 2 (.string (bys o.2.1)) (step _ 1 (.string (bys (wordL (wordL s).2).1)) (step _ 0 (.int .i64 o.1) HR5.out)))))
                clear step c0 c1 f0 hn
                generalize ((((wc.setCell ⟨w.heap.size, 0, none⟩ (.int .i64 o.1)).setCell ⟨w.heap.size, 1, none⟩ (.string (bys (wordL (wordL s).2).1))).setCell ⟨w.heap.size, 2, none⟩ (.string (bys o.2.1))).setCell ⟨w.heap.size, 3, none⟩ (.slice A5 dn.length cap5)).setCell ⟨w.heap.size, 4, none⟩ (.string (bys a.1)) = wf at *
                have dC := fun i => hwf.cell i
                refine bodyPost_ret (v := .agg (trmC o.1 (bys (wordL (wordL s).2).1) (bys o.2.1) A5 dn.length cap5 (bys a.1))) (by simp [results, Tryz.results17, go_sem, dC]) rfl ⟨_, rfl, ?_, ?_, hgf⟩
                · rw [HTP.out, HE.out]
                  have hl := HL.out
                  exact TmAt.of (by rw [bys_len]; omega) (by rw [bys_len]; omega) (by rw [bys_len]; omega) HLC.out.1 HLC.out.2 (hrf.any fun b _ h => by have := h.1; omega)
                · rw [HTP.out, HE.out]
                  exact hkf
    · have q2 : ((bys (wordL s).1).toList == [116, 104, 101]) = false := beq_bys hth
      have n2 : (!((bys (wordL s).1).toList == [116, 104, 101])) = true := by rw [q2]; rfl
      cases hd : digW (wordL s).1
      · have HTP := Lib.hid (show rdT (f + 1) (l1 + 1) s = (.mk 2 (bys (nameR (wordL s).1 (wordL s).2).1) ⟨#[]⟩ ⟨#[]⟩ [], (nameR (wordL s).1 (wordL s).2).2, l1) by rw [rdT, if_neg (Nat.succ_ne_zero _), if_neg ht, if_neg hth, if_neg (by rw [hd]; simp)]; rfl)
        have HN := Lib.hid (nameR_len (wordL s).1 (wordL s).2)
        clear ht hth
        generalize rdT (f + 1) (l1 + 1) s = R at *
        go_upto_region 8 with (fail)
        go_cut [45] (fun v wc => v = .bool false ∧ wc = w2)
        case first =>
          clear HTP HTQ
          rcases dig_false hd with h | ⟨hp, h⟩
          · have hz : (bys (wordL s).1).size = 0 := by rw [bys_len, h]; rfl
            have hq : ¬ (0 : Int) < ((bys (wordL s).1).size : Int) := by omega
            clear h
            go_wp2_with fail
            go_meet
            exact ⟨rfl, rfl⟩
          · have hq : (0 : Int) < ((bys (wordL s).1).size : Int) := by omega
            rcases h with h | h
            · go_wp2_with fail
              go_meet
              exact ⟨rfl, rfl⟩
            · have h48 : 48 ≤ (bys (wordL s).1)[0].toNat := by omega
              go_wp2_with fail
              go_meet
              exact ⟨congrArg Value.bool (decide_eq_false (by omega)), rfl⟩
        case rest =>
          obtain ⟨rfl, rfl⟩ := hcut
          go_wp2_with fail
          refine (HIP.out _ _ _ _ K1.out (by have := HW1.out.2; have := HLS.out; omega)).mono ?_
          rintro e w3 ⟨rfl, hK, hg⟩
          replace K1 := Lib.hid hK
          replace K2 := Lib.hid (hg.blk K2.out (by have := HGP.out; omega))
          replace HGR := Lib.hid (HGR.out.trans hg)
          clear hK hg
          clear q1 q2 n2 c1
          have c0 := fun i => K2.out.cell i
          have f0 := fun i => K2.out.frozen i
          go_wp2_with fail
          have hn : gp ≠ w.heap.size := by have := HGP.out; omega
          have hwf := (((((K2.out.set_ 0 (.int .i64 2)).set_ 1 (.string (bys (nameR (wordL s).1 (wordL s).2).1))).set_ 2 (.string ⟨#[]⟩)).set_ 3 (.slice none 0 0)).set_ 4 (.string ⟨#[]⟩))
          have hgf := (((((HGR.out.set (p := ⟨w.heap.size, 0, none⟩) (.inl (Nat.le_refl _)) (.int .i64 2)).set (p := ⟨w.heap.size, 1, none⟩) (.inl (Nat.le_refl _)) (.string (bys (nameR (wordL s).1 (wordL s).2).1))).set (p := ⟨w.heap.size, 2, none⟩) (.inl (Nat.le_refl _)) (.string ⟨#[]⟩)).set (p := ⟨w.heap.size, 3, none⟩) (.inl (Nat.le_refl _)) (.slice none 0 0)).set (p := ⟨w.heap.size, 4, none⟩) (.inl (Nat.le_refl _)) (.string ⟨#[]⟩))
          have hkf := (((((K1.out.far (p := ⟨w.heap.size, 0, none⟩) hn (.int .i64 2)).far (p := ⟨w.heap.size, 1, none⟩) hn (.string (bys (nameR (wordL s).1 (wordL s).2).1))).far (p := ⟨w.heap.size, 2, none⟩) hn (.string ⟨#[]⟩)).far (p := ⟨w.heap.size, 3, none⟩) hn (.slice none 0 0)).far (p := ⟨w.heap.size, 4, none⟩) hn (.string ⟨#[]⟩))
          clear c0 f0 hn
          generalize ((((w3.setCell ⟨w.heap.size, 0, none⟩ (.int .i64 2)).setCell ⟨w.heap.size, 1, none⟩ (.string (bys (nameR (wordL s).1 (wordL s).2).1))).setCell ⟨w.heap.size, 2, none⟩ (.string ⟨#[]⟩)).setCell ⟨w.heap.size, 3, none⟩ (.slice none 0 0)).setCell ⟨w.heap.size, 4, none⟩ (.string ⟨#[]⟩) = wf at *
          have dC := fun i => hwf.cell i
          refine bodyPost_ret (v := .agg #[.int .i64 2, .string (bys (nameR (wordL s).1 (wordL s).2).1), .string ⟨#[]⟩, .slice none 0 0, .string ⟨#[]⟩]) (by simp [results, Tryz.results17, go_sem, dC]) rfl ⟨_, rfl, ?_, ?_, hgf⟩
          · rw [HTP.out]
            exact TmAt.zero _ _ _ _ (by rw [bys_len]; have := HN.out.1; have := HW1.out; have := HLS.out; omega)
          · rw [HTP.out]
            exact hkf
      · have HTP := Lib.hid (show rdT (f + 1) (l1 + 1) s = (.mk 1 (bys (wordL s).1) ⟨#[]⟩ ⟨#[]⟩ [], (wordL s).2, l1) by rw [rdT, if_neg (Nat.succ_ne_zero _), if_neg ht, if_neg hth, if_pos hd]; rfl)
        obtain ⟨hp, h48, h57⟩ := dig_true hd
        have hq : (0 : Int) < ((bys (wordL s).1).size : Int) := by omega
        clear ht hth
        generalize rdT (f + 1) (l1 + 1) s = R at *
        go_upto_region 9 with (fail)
        clear hq q1 q2 n2 hd c1
        have c0 := fun i => K2.out.cell i
        have f0 := fun i => K2.out.frozen i
        go_wp2_with fail
        have hn : gp ≠ w.heap.size := by have := HGP.out; omega
        have hwf := (((((K2.out.set_ 0 (.int .i64 1)).set_ 1 (.string (bys (wordL s).1))).set_ 2 (.string ⟨#[]⟩)).set_ 3 (.slice none 0 0)).set_ 4 (.string ⟨#[]⟩))
        have hgf := (((((HGR.out.set (p := ⟨w.heap.size, 0, none⟩) (.inl (Nat.le_refl _)) (.int .i64 1)).set (p := ⟨w.heap.size, 1, none⟩) (.inl (Nat.le_refl _)) (.string (bys (wordL s).1))).set (p := ⟨w.heap.size, 2, none⟩) (.inl (Nat.le_refl _)) (.string ⟨#[]⟩)).set (p := ⟨w.heap.size, 3, none⟩) (.inl (Nat.le_refl _)) (.slice none 0 0)).set (p := ⟨w.heap.size, 4, none⟩) (.inl (Nat.le_refl _)) (.string ⟨#[]⟩))
        have hkf := (((((K1.out.far (p := ⟨w.heap.size, 0, none⟩) hn (.int .i64 1)).far (p := ⟨w.heap.size, 1, none⟩) hn (.string (bys (wordL s).1))).far (p := ⟨w.heap.size, 2, none⟩) hn (.string ⟨#[]⟩)).far (p := ⟨w.heap.size, 3, none⟩) hn (.slice none 0 0)).far (p := ⟨w.heap.size, 4, none⟩) hn (.string ⟨#[]⟩))
        clear c0 f0 hn
        generalize ((((w2.setCell ⟨w.heap.size, 0, none⟩ (.int .i64 1)).setCell ⟨w.heap.size, 1, none⟩ (.string (bys (wordL s).1))).setCell ⟨w.heap.size, 2, none⟩ (.string ⟨#[]⟩)).setCell ⟨w.heap.size, 3, none⟩ (.slice none 0 0)).setCell ⟨w.heap.size, 4, none⟩ (.string ⟨#[]⟩) = wf at *
        have dC := fun i => hwf.cell i
        refine bodyPost_ret (v := .agg #[.int .i64 1, .string (bys (wordL s).1), .string ⟨#[]⟩, .slice none 0 0, .string ⟨#[]⟩]) (by simp [results, Tryz.results17, go_sem, dC]) rfl ⟨_, rfl, ?_, ?_, hgf⟩
        · rw [HTP.out]
          exact TmAt.zero _ _ _ _ (by rw [bys_len]; have := HW1.out.1; have := HLS.out; omega)
        · rw [HTP.out]
          exact hkf
end Go.Proofs.YtpokelkneblafaaGreatDoor
