/- Comparing two readings, and whether they are equal: the reference. -/
import Derived.Test.YtmhddlhlniajpaaCM
namespace Go.Proofs.Ytmhddlhlniajpaa
open Go.RowKit
def InvB (wr : World) : List Bool → Unit → World → Prop := fun _ _ wq => Below wr.heap.size wr wq
theorem cmpL_at {ks ls : List Rd} {k : Nat} {a b : Rd} (ha : ks[k]? = some a) (hb : ls[k]? = some b) : cmpL (ks.drop k) (ls.drop k) = if cmpR a b ≠ 0 then cmpR a b else cmpL (ks.drop (k + 1)) (ls.drop (k + 1)) := by
  obtain ⟨h1, rfl⟩ := List.getElem?_eq_some_iff.1 ha
  obtain ⟨h2, rfl⟩ := List.getElem?_eq_some_iff.1 hb
  rw [List.drop_eq_getElem_cons h1, List.drop_eq_getElem_cons h2, cmpL]
theorem cmpL_end {ks ls : List Rd} : cmpL (ks.drop ks.length) ls = 0 := by rw [List.drop_length, cmpL.eq_def]
theorem cmp_head {x y : Rd} (h : headR x y ≠ 0) : cmpR x y = headR x y := by rw [cmp_def, if_pos h]
theorem cmp_kids {x y : Rd} (h : headR x y = 0) : cmpR x y = cmpL x.kids y.kids := by rw [cmp_def, if_neg (fun h' => h' h)]
set_option maxRecDepth 100000 in
set_option maxHeartbeats 4000000 in
theorem rcmp_any (ok ok' : Nat → Prop) : ∀ (z : Nat) (x y : Rd) (c d : Array Value) (w : World), sizeR x ≤ z → RdAt ok w x c → RdAt ok' w y d → Calls Try.prog 17 #[.agg c, .agg d] w fun e w' => e = .returned (.int .i64 (cmpR x y)) ∧ Below w.heap.size w w' := by
  intro z
  induction z with
  | zero => intro x y c d w h; have := size_pos x; omega
  | succ z ih =>
    intro x y c d w hz hR hS
    have IH := Lib.hid ih
    clear ih
    have HZ := Lib.hid hz
    obtain ⟨A, cap, rfl, hl, hc, hk⟩ := hR.form
    obtain ⟨B, cap2, rfl, hm, hd, hk2⟩ := hS.form
    have hb1 := bel_alloc w (.cells (rdC x.rule x.at_ A x.kids.length cap) 34)
    have hb2 := bel_alloc (w.alloc (.cells (rdC x.rule x.at_ A x.kids.length cap) 34)) (.cells (rdC y.rule y.at_ B y.kids.length cap2) 34)
    have K1 := Lib.hid (keep hb2 (Blk.new w 34 (rdC x.rule x.at_ A x.kids.length cap)))
    have K2 := Lib.hid (show Blk _ (w.heap.size + 1) _ _ by have := Blk.new (w.alloc (.cells (rdC x.rule x.at_ A x.kids.length cap) 34)) 34 (rdC y.rule y.at_ B y.kids.length cap2); rw [World.size_alloc] at this; exact this)
    have HK := Lib.hid ((hk.keep hb1).keep hb2)
    have HL := Lib.hid ((hk2.keep hb1).keep hb2)
    have HB := Lib.hid (hb1.trans (hb2.mono hb1.size))
    have E0 := Lib.hid (@head_rule x y)
    have E1 := Lib.hid (@head_len x y)
    have E2 := Lib.hid (@head_none x y)
    have E3 := Lib.hid (@head_last x y)
    have EH := Lib.hid (@cmp_head x y)
    have EK := Lib.hid (@cmp_kids x y)
    have hx : x.kids.length ≤ 9223372036854775807 := by omega
    have hy : y.kids.length ≤ 9223372036854775807 := by omega
    clear hz hR hS hk hk2 hb1 hb2 hl hc hm hd
    go_enter Try.func17, Try.ntmps17
    have c0 := fun i => K1.out.cell i
    have d0 := fun i => K2.out.cell i
    go_wp2_with fail
    clear c0 d0
    generalize (w.alloc (.cells #[.int .i64 x.rule, .int .i64 x.at_, .slice A x.kids.length cap] 34)).alloc (.cells #[.int .i64 y.rule, .int .i64 y.at_, .slice B y.kids.length cap2] 34) = w1 at *
    refine (sign_any _ _ _).mono ?_
    rintro e w2 ⟨rfl, rfl⟩
    by_cases s0 : signI x.rule y.rule = 0
    · have S0 := Lib.hid s0
      have c2 := K1.out.cell 2
      have d2 := K2.out.cell 2
      go_wp2_with fail
      refine (sign_any _ _ _).mono ?_
      rintro e w2 ⟨rfl, rfl⟩
      by_cases s1 : signI x.kids.length y.kids.length = 0
      · have S1 := Lib.hid s1
        have HLE := Lib.hid (show x.kids.length = y.kids.length by have := sign_zero s1; omega)
        by_cases h0 : x.kids.length = 0
        · have HE := Lib.hid ((EK.out (E2.out S0.out S1.out h0)).trans (show cmpL x.kids y.kids = 0 by have := @cmpL_end x.kids y.kids; rw [h0, List.drop_zero] at this; exact this))
          have hn0 : ¬ (0 : Int) < (x.kids.length : Int) := by omega
          clear h0 HLE
          go_wp2_with fail
          clear c2 d2
          go_loopw [9] (fun i wr => i = .int .i64 0 ∧ Hid (Blk wr w.heap.size 34 (rdC x.rule x.at_ A x.kids.length cap)) ∧ Hid (Below w.heap.size w wr)) (fun _ _ => 0)
          case atStart => exact ⟨rfl, K1, HB⟩
          case round =>
            clear K1 HB
            obtain ⟨rfl, K1, HB⟩ := hrel
            have c2 := K1.out.cell 2
            go_wp2_with fail
            go_ret
            exact ⟨ret_int HE.out.symm, HB.out⟩
        · have HNP := Lib.hid (show 0 < x.kids.length by omega)
          obtain ⟨a, ha⟩ : ∃ a, x.kids[x.kids.length - 1]? = some a := ⟨_, List.getElem?_eq_getElem (by omega)⟩
          obtain ⟨b, hb⟩ : ∃ b, y.kids[x.kids.length - 1]? = some b := ⟨_, List.getElem?_eq_getElem (by have := HLE.out; omega)⟩
          obtain ⟨ad, A', k1, rfl, _, _, _, _, _, u0, u1, u2⟩ := HK.out.at_ ha
          obtain ⟨bd, B', k2, rfl, _, _, _, _, _, v0, v1, v2⟩ := HL.out.at_ hb
          have HE := Lib.hid (E3.out S0.out S1.out ha hb)
          clear ha hb h0
          generalize hn : x.kids.length - 1 = n at *
          have i0 : (x.kids.length : Int) - 1 = (n : Int) := by have := HNP.out; omega
          have i1 : (0 : Int) ≤ (n : Int) := by omega
          have i2 : (n : Int) < (x.kids.length : Int) := by omega
          have i3 : (n : Int) < (y.kids.length : Int) := by have := HLE.out; omega
          have i4 : (0 : Int) < (x.kids.length : Int) := by omega
          go_wp2_with fail
          go_quiet ((go_at_call 35; exact quiet_l (sign_any _ _ _)))
          have HB := Lib.hid (below_drewN HB.out nq)
          have hbq := below_drewN (Below.refl w1.heap.size w1) nq
          have K1 := Lib.hid (keep hbq K1.out)
          have K2 := Lib.hid (keep hbq K2.out)
          have HK := Lib.hid (HK.out.keep hbq)
          have HL := Lib.hid (HL.out.keep hbq)
          clear c2 d2 u0 u1 u2 v0 v1 v2 hbq
          generalize w1.drewN nq = w2 at *
          by_cases s2 : signI a.at_ b.at_ = 0
          · have HE := Lib.hid (EK.out (HE.out.trans s2))
            clear hn i0 i1 i2 i3 i4
            go_wp2_with fail
            go_loopw [9] (fun i wr => ∃ k : Nat, k ≤ x.kids.length ∧ i = .int .i64 k ∧ Hid (cmpL x.kids y.kids = cmpL (x.kids.drop k) (y.kids.drop k)) ∧ Hid (Blk wr w.heap.size 34 (rdC x.rule x.at_ (some ad) x.kids.length cap)) ∧ Hid (Blk wr (w.heap.size + 1) 34 (rdC y.rule y.at_ (some bd) y.kids.length cap2)) ∧ Hid (RdsAt ok wr (some ad) x.kids) ∧ Hid (RdsAt ok' wr (some bd) y.kids) ∧ Hid (Below w.heap.size w wr)) (fun i _ => x.kids.length - (intOf i).toNat)
            case atStart => exact ⟨0, by omega, rfl, rfl, K1, K2, HK, HL, HB⟩
            case round =>
              clear K1 K2 HK HL HB
              obtain ⟨k, hk, rfl, HD, K1, K2, HK, HL, HB⟩ := hrel
              have c2 := K1.out.cell 2
              by_cases hlt : k < x.kids.length
              · obtain ⟨a, ha⟩ : ∃ a, x.kids[k]? = some a := ⟨_, List.getElem?_eq_getElem (by omega)⟩
                obtain ⟨b, hb⟩ : ∃ b, y.kids[k]? = some b := ⟨_, List.getElem?_eq_getElem (by have := HLE.out; omega)⟩
                obtain ⟨_, A1, k1, e1, hal, hra, _, _, _, d0, d1, d2⟩ := HK.out.at_ ha
                obtain rfl := Option.some.inj e1
                obtain ⟨_, B1, k2, e2, hbl, hrb, _, _, _, f0, f1, f2⟩ := HL.out.at_ hb
                obtain rfl := Option.some.inj e2
                have HAL := Lib.hid hal
                have HBL := Lib.hid hbl
                have HRA := Lib.hid hra
                have HRB := Lib.hid hrb
                have HSZ := Lib.hid (show sizeR a ≤ z by have h1 := HZ.out; rw [size_kids] at h1; have := size_kid ha; omega)
                have HS := Lib.hid (cmpL_at ha hb)
                have i1 : (0 : Int) ≤ (k : Int) := by omega
                have i2 : (k : Int) < (x.kids.length : Int) := by omega
                have i3 : (k : Int) < (y.kids.length : Int) := by have := HLE.out; omega
                clear ha hb e1 e2 hal hbl hra hrb
                go_wp2_with fail
                clear c2
                refine region_ghost (X := Unit) (by kernel_rfl) _ (fun gx => [.pointer (some ⟨w.heap.size, 2, none⟩), .slice (some ad) x.kids.length cap, .int .i64 (↑k), .pointer (some (ad.add (k * 3))), .agg (rdC a.rule a.at_ A1 a.kids.length k1), .pointer (some ⟨w.heap.size + 1, 2, none⟩), .slice (some bd) y.kids.length cap2, .int .i64 (↑k), .pointer (some (bd.add (k * 3))), .agg (rdC b.rule b.at_ B1 b.kids.length k2), .int .i64 (cmpR a b), .int .i64 (cmpR a b)]) [true, true, true, true, true, true, true, true, true, true, true, true] [] (InvB wr) () (by kernel_rfl) (fun gx => by simp [fin, finOn, dstAt, List.range, List.range.loop, Act.put]; rfl) (fun _ => by kernel_rfl) (by kernel_rfl) (below_drew (Below.refl _ _)) ?_ ?_
                · refine ⟨fun L gx wq hL hb ha hI => ?_, fun L gx wq hL hb ha hI => ?_, fun L gx wq hL hb ha hI => ?_, fun L gx wq hL hb ha hI => ?_, fun L gx wq hL hb ha hI => ?_, fun L gx wq hL hb ha hI => ?_, fun L gx wq hL hb ha hI => ?_, fun L gx wq hL hb ha hI => ?_, fun L gx wq hL hb ha hI => ?_, fun L gx wq hL hb ha hI => ?_, fun L gx wq hL hb ha hI => ?_, fun L gx wq hL hb ha hI => ?_, trivial⟩
                  · exact Gives.plain (v := .pointer (some ⟨w.heap.size, 2, none⟩)) (w' := wq) (by simp [go_sem]) rfl hI
                  · have hW : Below wr.heap.size wr wq := hI
                    have cJ := (keep hW K1.out).cell 2
                    exact Gives.plain (v := .slice (some ad) x.kids.length cap) (w' := wq) (by simp [go_sem, cJ]) rfl hI
                  · exact Gives.plain (v := .int .i64 (↑k)) (w' := wq) (by kernel_rfl) rfl hI
                  · skip
                    exact Gives.plain (v := .pointer (some (ad.add (k * 3)))) (w' := wq) (by simp [go_sem, i1, i2]; try omega) rfl hI
                  · have hW : Below wr.heap.size wr wq := hI
                    have e0 := (hW.cell (p := ad.add (k * 3)) (by rw [add_block]; exact HAL.out)).trans d0
                    have e1 := (hW.cell (p := ⟨(ad.add (k * 3)).block, (ad.add (k * 3)).off + 1, none⟩) (by show (ad.add (k * 3)).block < _; rw [add_block]; exact HAL.out)).trans d1
                    have e2 := (hW.cell (p := ⟨(ad.add (k * 3)).block, (ad.add (k * 3)).off + 2, none⟩) (by show (ad.add (k * 3)).block < _; rw [add_block]; exact HAL.out)).trans d2
                    exact Gives.plain (v := .agg (rdC a.rule a.at_ A1 a.kids.length k1)) (w' := wq) (by simp [go_sem, e0, e1, e2]) rfl hI
                  · exact Gives.plain (v := .pointer (some ⟨w.heap.size + 1, 2, none⟩)) (w' := wq) (by simp [go_sem]) rfl hI
                  · have hW : Below wr.heap.size wr wq := hI
                    have cJ := (keep hW K2.out).cell 2
                    exact Gives.plain (v := .slice (some bd) y.kids.length cap2) (w' := wq) (by simp [go_sem, cJ]) rfl hI
                  · exact Gives.plain (v := .int .i64 (↑k)) (w' := wq) (by kernel_rfl) rfl hI
                  · skip
                    exact Gives.plain (v := .pointer (some (bd.add (k * 3)))) (w' := wq) (by simp [go_sem, i1, i3]; try omega) rfl hI
                  · have hW : Below wr.heap.size wr wq := hI
                    have e0 := (hW.cell (p := bd.add (k * 3)) (by rw [add_block]; exact HBL.out)).trans f0
                    have e1 := (hW.cell (p := ⟨(bd.add (k * 3)).block, (bd.add (k * 3)).off + 1, none⟩) (by show (bd.add (k * 3)).block < _; rw [add_block]; exact HBL.out)).trans f1
                    have e2 := (hW.cell (p := ⟨(bd.add (k * 3)).block, (bd.add (k * 3)).off + 2, none⟩) (by show (bd.add (k * 3)).block < _; rw [add_block]; exact HBL.out)).trans f2
                    exact Gives.plain (v := .agg (rdC b.rule b.at_ B1 b.kids.length k2)) (w' := wq) (by simp [go_sem, e0, e1, e2]) rfl hI
                  · have hW : Below wr.heap.size wr wq := hI
                    refine Gives.call (f := 17) (args := #[.agg (rdC a.rule a.at_ A1 a.kids.length k1), .agg (rdC b.rule b.at_ B1 b.kids.length k2)]) (w' := wq) (by kernel_rfl) ((IH.out a b _ _ wq HSZ.out (HRA.out.keep hW) (HRB.out.keep hW)).mono ?_)
                    rintro e wa ⟨rfl, hb5⟩
                    exact ⟨_, rfl, (), rfl, KeepsV.same, Below.trans hW (hb5.mono (Below.size hW))⟩
                  · exact Gives.plain (v := .int .i64 (cmpR a b)) (w' := wq) (by kernel_rfl) rfl hI
                · intro gx wq hI
                  have hW : Below wr.heap.size wr wq := hI
                  clear d0 d1 d2 f0 f1 f2
                  have K1 := Lib.hid (keep hW K1.out)
                  have K2 := Lib.hid (keep hW K2.out)
                  have HK := Lib.hid (HK.out.keep hW)
                  have HL := Lib.hid (HL.out.keep hW)
                  have HB := Lib.hid (HB.out.trans (hW.mono HB.out.size))
                  clear hI hW
                  by_cases s3 : cmpR a b = 0
                  · have HD := Lib.hid (HD.out.trans (HS.out.trans (if_neg (fun h => h s3))))
                    go_wp2_with fail
                    go_roundw
                    case rel => exact ⟨k + 1, by omega, by go_num, HD, K1, K2, HK, HL, HB⟩
                    case measure => simp [intOf]; omega
                  · have HF := Lib.hid (HE.out.trans (HD.out.trans (HS.out.trans (if_pos s3))))
                    go_wp2_with fail
                    go_ret
                    exact ⟨ret_int HF.out.symm, HB.out⟩
              · obtain rfl : k = x.kids.length := by omega
                have HF := Lib.hid (HE.out.trans (HD.out.trans cmpL_end))
                go_wp2_with fail
                go_ret
                exact ⟨ret_int HF.out.symm, HB.out⟩
          · have HE := Lib.hid ((EH.out (by rw [HE.out]; exact s2)).trans HE.out)
            go_wp2_with fail
            go_ret
            exact ⟨ret_int HE.out.symm, HB.out⟩
      · have HE := Lib.hid (E1.out S0.out s1)
        have HC := Lib.hid ((EH.out (by rw [HE.out]; exact s1)).trans HE.out)
        go_wp2_with fail
        go_ret
        exact ⟨ret_int HC.out.symm, HB.out⟩
    · have HE := Lib.hid (E0.out s0)
      have HC := Lib.hid ((EH.out (by rw [HE.out]; exact s0)).trans HE.out)
      go_wp2_with fail
      go_ret
      exact ⟨ret_int HC.out.symm, HB.out⟩
end Go.Proofs.Ytmhddlhlniajpaa
