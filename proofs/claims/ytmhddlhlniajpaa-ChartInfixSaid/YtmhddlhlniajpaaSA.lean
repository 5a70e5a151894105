/- Whether two readings are equal. -/
import Derived.Test.YtmhddlhlniajpaaCR
namespace Go.Proofs.Ytmhddlhlniajpaa
open Go.RowKit
mutual
def sameR : Rd → Rd → Bool
  | .mk r a ks, .mk r' a' ks' => decide (r = r') && (decide (a = a') && sameL ks ks')
def sameL : List Rd → List Rd → Bool
  | [], [] => true
  | x :: xs, y :: ys => sameR x y && sameL xs ys
  | _, _ => false
end
mutual
theorem same_iff : ∀ x y : Rd, sameR x y = true ↔ x = y
  | .mk r a ks, .mk r' a' ks' => by
    rw [sameR]
    simp only [Bool.and_eq_true, decide_eq_true_eq, sameL_iff ks ks', Rd.mk.injEq]
theorem sameL_iff : ∀ l m : List Rd, sameL l m = true ↔ l = m
  | [], [] => by simp [sameL]
  | [], _ :: _ => by simp [sameL]
  | _ :: _, [] => by simp [sameL]
  | x :: l, y :: m => by
    rw [sameL]
    simp only [Bool.and_eq_true, same_iff x y, sameL_iff l m, List.cons.injEq]
end
theorem same_def (x y : Rd) : sameR x y = (decide (x.rule = y.rule) && (decide (x.at_ = y.at_) && sameL x.kids y.kids)) := by
  obtain ⟨r, a, ks⟩ := x
  obtain ⟨r', a', ks'⟩ := y
  rw [sameR]; rfl
theorem sameL_at {ks ls : List Rd} {k : Nat} {a b : Rd} (ha : ks[k]? = some a) (hb : ls[k]? = some b) : sameL (ks.drop k) (ls.drop k) = (sameR a b && sameL (ks.drop (k + 1)) (ls.drop (k + 1))) := by
  obtain ⟨h1, rfl⟩ := List.getElem?_eq_some_iff.1 ha
  obtain ⟨h2, rfl⟩ := List.getElem?_eq_some_iff.1 hb
  rw [List.drop_eq_getElem_cons h1, List.drop_eq_getElem_cons h2, sameL]
theorem sameL_end {ks ls : List Rd} (h : ks.length = ls.length) : sameL (ks.drop ks.length) (ls.drop ks.length) = true := by rw [List.drop_length, h, List.drop_length, sameL]
theorem sameL_len {ks ls : List Rd} (h : ks.length ≠ ls.length) : sameL ks ls = false := by
  cases hb : sameL ks ls with
  | false => rfl
  | true => exact absurd (congrArg List.length ((sameL_iff ks ls).1 hb)) h
set_option maxRecDepth 100000 in
set_option maxHeartbeats 4000000 in
theorem same_any (ok ok' : Nat → Prop) : ∀ (z : Nat) (x y : Rd) (c d : Array Value) (w : World), sizeR x ≤ z → RdAt ok w x c → RdAt ok' w y d → Calls Try.prog 15 #[.agg c, .agg d] w fun e w' => e = .returned (.bool (sameR x y)) ∧ Below w.heap.size w w' := by
  intro z
  induction z with
  | zero => intro x y c d w h; have := size_pos x; omega
  | succ z ih =>
    intro x y c d w hz hR hS
    have IH := Lib.hid ih
    clear ih
    have HZ := Lib.hid hz
    obtain ⟨A, cap, rfl, hl, hc, hk⟩ := hR.form
    obtain ⟨B, cap2, rfl, hm, hd, hk2⟩ := hS.form
    have hb1 := bel_alloc w (.cells (rdC x.rule x.at_ A x.kids.length cap) 34)
    have hb2 := bel_alloc (w.alloc (.cells (rdC x.rule x.at_ A x.kids.length cap) 34)) (.cells (rdC y.rule y.at_ B y.kids.length cap2) 34)
    have K1 := Lib.hid (keep hb2 (Blk.new w 34 (rdC x.rule x.at_ A x.kids.length cap)))
    have K2 := Lib.hid (show Blk _ (w.heap.size + 1) _ _ by have := Blk.new (w.alloc (.cells (rdC x.rule x.at_ A x.kids.length cap) 34)) 34 (rdC y.rule y.at_ B y.kids.length cap2); rw [World.size_alloc] at this; exact this)
    have HK := Lib.hid ((hk.keep hb1).keep hb2)
    have HL := Lib.hid ((hk2.keep hb1).keep hb2)
    have HB := Lib.hid (hb1.trans (hb2.mono hb1.size))
    have HD := Lib.hid (same_def x y)
    have HLN := Lib.hid (@sameL_len x.kids y.kids)
    have hx : x.kids.length ≤ 9223372036854775807 := by omega
    have hy : y.kids.length ≤ 9223372036854775807 := by omega
    clear hz hR hS hk hk2 hb1 hb2 hl hc hm hd
    go_enter Try.func15, Try.ntmps15
    go_upto_region 1 with (fail)
    generalize (w.alloc (.cells #[.int .i64 x.rule, .int .i64 x.at_, .slice A x.kids.length cap] 34)).alloc (.cells #[.int .i64 y.rule, .int .i64 y.at_, .slice B y.kids.length cap2] 34) = w1 at *
    have c0 := K1.out.cell 0
    have c1 := K1.out.cell 1
    have c2 := K1.out.cell 2
    have d0 := K2.out.cell 0
    have d1 := K2.out.cell 1
    have d2 := K2.out.cell 2
    by_cases q0 : x.rule = y.rule
    case neg =>
      have HF := Lib.hid (show sameR x y = false by rw [HD.out, decide_eq_false q0]; rfl)
      have p0 : (x.rule == y.rule) = false := beq_eq_false_iff_ne.2 q0
      have p0' : (x.rule != y.rule) = true := by rw [bne, p0]; rfl
      clear q0
      go_wp2_with fail
      go_ret
      exact ⟨ret_bool HF.out.symm, HB.out⟩
    have p0 : (x.rule == y.rule) = true := beq_iff_eq.2 q0
    have p0' : (x.rule != y.rule) = false := by rw [bne, p0]; rfl
    rw [decide_eq_true q0, Bool.true_and] at HD
    clear q0
    by_cases q1 : x.at_ = y.at_
    case neg =>
      have HF := Lib.hid (show sameR x y = false by rw [HD.out, decide_eq_false q1]; rfl)
      have p1 : (x.at_ == y.at_) = false := beq_eq_false_iff_ne.2 q1
      have p1' : (x.at_ != y.at_) = true := by rw [bne, p1]; rfl
      clear q1
      go_wp2_with fail
      go_ret
      exact ⟨ret_bool HF.out.symm, HB.out⟩
    have p1 : (x.at_ == y.at_) = true := beq_iff_eq.2 q1
    have p1' : (x.at_ != y.at_) = false := by rw [bne, p1]; rfl
    rw [decide_eq_true q1, Bool.true_and] at HD
    clear q1
    by_cases q2 : x.kids.length = y.kids.length
    case neg =>
      have HF := Lib.hid (HD.out.trans (HLN.out q2))
      have p2 : ((x.kids.length : Int) == (y.kids.length : Int)) = false := by rw [beq_eq_false_iff_ne]; omega
      have p2' : ((x.kids.length : Int) != (y.kids.length : Int)) = true := by rw [bne, p2]; rfl
      clear q2
      go_wp2_with fail
      go_ret
      exact ⟨ret_bool HF.out.symm, HB.out⟩
    have p2 : ((x.kids.length : Int) == (y.kids.length : Int)) = true := by rw [beq_iff_eq]; omega
    have p2' : ((x.kids.length : Int) != (y.kids.length : Int)) = false := by rw [bne, p2]; rfl
    have HLE := Lib.hid q2
    clear q2
    go_wp2_with fail
    clear c0 c1 c2 d0 d1 d2 p0 p1 p2 p0' p1' p2'
    go_loopw [5] (fun i wr => ∃ k : Nat, k ≤ x.kids.length ∧ i = .int .i64 k ∧ Hid (sameL x.kids y.kids = sameL (x.kids.drop k) (y.kids.drop k)) ∧ Hid (Blk wr w.heap.size 34 (rdC x.rule x.at_ A x.kids.length cap)) ∧ Hid (Blk wr (w.heap.size + 1) 34 (rdC y.rule y.at_ B y.kids.length cap2)) ∧ Hid (RdsAt ok wr A x.kids) ∧ Hid (RdsAt ok' wr B y.kids) ∧ Hid (Below w.heap.size w wr)) (fun i _ => x.kids.length - (intOf i).toNat)
    case atStart => exact ⟨0, by omega, rfl, rfl, K1, K2, HK, HL, HB⟩
    case round =>
      clear K1 K2 HK HL HB
      obtain ⟨k, hk, rfl, HDL, K1, K2, HK, HL, HB⟩ := hrel
      have c2 := K1.out.cell 2
      by_cases hlt : k < x.kids.length
      · obtain ⟨a, ha⟩ : ∃ a, x.kids[k]? = some a := ⟨_, List.getElem?_eq_getElem (by omega)⟩
        obtain ⟨b, hb⟩ : ∃ b, y.kids[k]? = some b := ⟨_, List.getElem?_eq_getElem (by have := HLE.out; omega)⟩
        obtain ⟨ad, A1, k1, rfl, hal, hra, _, _, _, d0, d1, d2⟩ := HK.out.at_ ha
        obtain ⟨bd, B1, k2, rfl, hbl, hrb, _, _, _, f0, f1, f2⟩ := HL.out.at_ hb
        have HAL := Lib.hid hal
        have HBL := Lib.hid hbl
        have HRA := Lib.hid hra
        have HRB := Lib.hid hrb
        have HSZ := Lib.hid (show sizeR a ≤ z by have h1 := HZ.out; rw [size_kids] at h1; have := size_kid ha; omega)
        have HS := Lib.hid (sameL_at ha hb)
        have i1 : (0 : Int) ≤ (k : Int) := by omega
        have i2 : (k : Int) < (x.kids.length : Int) := by omega
        have i3 : (k : Int) < (y.kids.length : Int) := by have := HLE.out; omega
        clear ha hb hal hbl hra hrb
        go_wp2_with fail
        clear c2
        refine region_ghost (X := Unit) (by kernel_rfl) _ (fun gx => [.pointer (some ⟨w.heap.size, 2, none⟩), .slice (some ad) x.kids.length cap, .int .i64 (↑k), .pointer (some (ad.add (k * 3))), .agg (rdC a.rule a.at_ A1 a.kids.length k1), .pointer (some ⟨w.heap.size + 1, 2, none⟩), .slice (some bd) y.kids.length cap2, .int .i64 (↑k), .pointer (some (bd.add (k * 3))), .agg (rdC b.rule b.at_ B1 b.kids.length k2), .bool (sameR a b), .bool (!(sameR a b))]) [true, true, true, true, true, true, true, true, true, true, true, true] [] (InvB wr) () (by kernel_rfl) (fun gx => by simp [fin, finOn, dstAt, List.range, List.range.loop, Act.put]; rfl) (fun _ => by kernel_rfl) (by kernel_rfl) (below_drew (Below.refl _ _)) ?_ ?_
        · refine ⟨fun L gx wq hL hb ha hI => ?_, fun L gx wq hL hb ha hI => ?_, fun L gx wq hL hb ha hI => ?_, fun L gx wq hL hb ha hI => ?_, fun L gx wq hL hb ha hI => ?_, fun L gx wq hL hb ha hI => ?_, fun L gx wq hL hb ha hI => ?_, fun L gx wq hL hb ha hI => ?_, fun L gx wq hL hb ha hI => ?_, fun L gx wq hL hb ha hI => ?_, fun L gx wq hL hb ha hI => ?_, fun L gx wq hL hb ha hI => ?_, trivial⟩
          · exact Gives.plain (v := .pointer (some ⟨w.heap.size, 2, none⟩)) (w' := wq) (by simp [go_sem]) rfl hI
          · have hW : Below wr.heap.size wr wq := hI
            have cJ := (keep hW K1.out).cell 2
            exact Gives.plain (v := .slice (some ad) x.kids.length cap) (w' := wq) (by simp [go_sem, cJ]) rfl hI
          · exact Gives.plain (v := .int .i64 (↑k)) (w' := wq) (by kernel_rfl) rfl hI
          · skip
            exact Gives.plain (v := .pointer (some (ad.add (k * 3)))) (w' := wq) (by simp [go_sem, i1, i2]; try omega) rfl hI
          · have hW : Below wr.heap.size wr wq := hI
            have e0 := (hW.cell (p := ad.add (k * 3)) (by rw [add_block]; exact HAL.out)).trans d0
            have e1 := (hW.cell (p := ⟨(ad.add (k * 3)).block, (ad.add (k * 3)).off + 1, none⟩) (by show (ad.add (k * 3)).block < _; rw [add_block]; exact HAL.out)).trans d1
            have e2 := (hW.cell (p := ⟨(ad.add (k * 3)).block, (ad.add (k * 3)).off + 2, none⟩) (by show (ad.add (k * 3)).block < _; rw [add_block]; exact HAL.out)).trans d2
            exact Gives.plain (v := .agg (rdC a.rule a.at_ A1 a.kids.length k1)) (w' := wq) (by simp [go_sem, e0, e1, e2]) rfl hI
          · exact Gives.plain (v := .pointer (some ⟨w.heap.size + 1, 2, none⟩)) (w' := wq) (by simp [go_sem]) rfl hI
          · have hW : Below wr.heap.size wr wq := hI
            have cJ := (keep hW K2.out).cell 2
            exact Gives.plain (v := .slice (some bd) y.kids.length cap2) (w' := wq) (by simp [go_sem, cJ]) rfl hI
          · exact Gives.plain (v := .int .i64 (↑k)) (w' := wq) (by kernel_rfl) rfl hI
          · skip
            exact Gives.plain (v := .pointer (some (bd.add (k * 3)))) (w' := wq) (by simp [go_sem, i1, i3]; try omega) rfl hI
          · have hW : Below wr.heap.size wr wq := hI
            have e0 := (hW.cell (p := bd.add (k * 3)) (by rw [add_block]; exact HBL.out)).trans f0
            have e1 := (hW.cell (p := ⟨(bd.add (k * 3)).block, (bd.add (k * 3)).off + 1, none⟩) (by show (bd.add (k * 3)).block < _; rw [add_block]; exact HBL.out)).trans f1
            have e2 := (hW.cell (p := ⟨(bd.add (k * 3)).block, (bd.add (k * 3)).off + 2, none⟩) (by show (bd.add (k * 3)).block < _; rw [add_block]; exact HBL.out)).trans f2
            exact Gives.plain (v := .agg (rdC b.rule b.at_ B1 b.kids.length k2)) (w' := wq) (by simp [go_sem, e0, e1, e2]) rfl hI
          · have hW : Below wr.heap.size wr wq := hI
            refine Gives.call (f := 15) (args := #[.agg (rdC a.rule a.at_ A1 a.kids.length k1), .agg (rdC b.rule b.at_ B1 b.kids.length k2)]) (w' := wq) (by kernel_rfl) ((IH.out a b _ _ wq HSZ.out (HRA.out.keep hW) (HRB.out.keep hW)).mono ?_)
            rintro e wa ⟨rfl, hb5⟩
            exact ⟨_, rfl, (), rfl, KeepsV.same, Below.trans hW (hb5.mono (Below.size hW))⟩
          · exact Gives.plain (v := .bool (!(sameR a b))) (w' := wq) (by simp [go_sem]) rfl hI
        · intro gx wq hI
          have hW : Below wr.heap.size wr wq := hI
          clear d0 d1 d2 f0 f1 f2
          have K1 := Lib.hid (keep hW K1.out)
          have K2 := Lib.hid (keep hW K2.out)
          have HK := Lib.hid (HK.out.keep hW)
          have HL := Lib.hid (HL.out.keep hW)
          have HB := Lib.hid (HB.out.trans (hW.mono HB.out.size))
          clear hI hW
          cases s3 : sameR a b
          · have HF := Lib.hid (HD.out.trans (HDL.out.trans (HS.out.trans (by rw [s3, Bool.false_and]))))
            go_wp2_with fail
            go_ret
            exact ⟨ret_bool HF.out.symm, HB.out⟩
          · have HDL := Lib.hid (HDL.out.trans (HS.out.trans (by rw [s3, Bool.true_and])))
            go_wp2_with fail
            go_roundw
            case rel => exact ⟨k + 1, by omega, by go_num, HDL, K1, K2, HK, HL, HB⟩
            case measure => simp [intOf]; omega
      · obtain rfl : k = x.kids.length := by omega
        have HF := Lib.hid (HD.out.trans (HDL.out.trans (sameL_end HLE.out)))
        go_wp2_with fail
        go_ret
        exact ⟨ret_bool HF.out.symm, HB.out⟩
end Go.Proofs.Ytmhddlhlniajpaa
