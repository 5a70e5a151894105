/- form, Valid and ValidItems of the reference. -/
import Derived.Test.YtgoafobhhmeppaaGreatNY
import Derived.Test.YtgoafobhhmeppaaGreatNA
namespace Go.Proofs.YtgoafobhhmeppaaGreat
open Go.RowKit
theorem tre_kind (k : Int) (s : ByteArray) (c : Int) (ks : List Tre) : (Tre.mk k s c ks).kind = k := rfl
theorem badPair_eq (k j : Int) : ((j == 1) == (k == 1)) = badPair k j := by
  unfold badPair
  rw [show (j == 1) = decide (j = 1) from rfl, show (k == 1) = decide (k = 1) from rfl]
  cases decide (j = 1) <;> cases decide (k = 1) <;> rfl
set_option maxRecDepth 100000 in
set_option maxHeartbeats 1600000 in
theorem rform_any : ∀ (m : Nat) (t : Tre) (c : Array Value) (w : World), countT t < m → NodAt w t c → Calls Tryz.prog 79 #[.agg c] w fun e w' => e = .returned (.bool (formT t)) ∧ Below w.heap.size w w' := by
  intro m
  induction m with
  | zero => intro t c w h; omega
  | succ m ih =>
    intro t c w hm hN
    have IH := Lib.hid ih
    clear ih
    obtain ⟨k, s, cols, ks⟩ := t
    obtain ⟨A2, cap2, rfl, hs, hl, hc, hk⟩ := hN.form
    dsimp only [Tre.kind, Tre.text, Tre.cols, Tre.kids] at hs hl hc hk ⊢
    have HK := Lib.hid hk
    have HM := Lib.hid hm
    have HQ0 := Lib.hid (show formT (.mk k s cols ks) = (textB k s.data.toList && kidsB k cols ks.length && formL k ks) by rw [formT, ownT])
    clear hk hN hm
    go_enter Tryz.func79, Tryz.ntmps79
    go_wp2_with fail
    have K0 := Lib.hid (Blk.new w 46 (nodC k s cols A2 ks.length cap2))
    have H0 := Lib.hid (bel_alloc w (.cells (nodC k s cols A2 ks.length cap2) 46))
    have HK := Lib.hid (HK.out.keep H0.out)
    dsimp only [nodC] at K0 H0 HK
    generalize w.alloc (.cells #[.int .i64 k, .string s, .int .i64 cols, .slice A2 ks.length cap2] 46) = w1 at *
    refine (rtext_any k s cols A2 ks.length cap2 _ hs).mono ?_
    rintro e w2 ⟨rfl, hb⟩
    have K0 := Lib.hid (keep hb K0.out)
    have HK := Lib.hid (HK.out.keep hb)
    have H0 := Lib.hid (H0.out.trans (hb.mono H0.out.size))
    clear hb
    cases ht : textB k s.data.toList
    · have HQ := Lib.hid (show formT (.mk k s cols ks) = false by rw [HQ0.out, ht]; rfl)
      clear ht
      go_wp2_with fail
      go_ret
      exact ⟨ret_bool HQ.out.symm, H0.out⟩
    rw [ht, Bool.true_and] at HQ0
    clear ht
    have c0 := K0.out.cell 0
    have c1 := K0.out.cell 1
    have c2 := K0.out.cell 2
    have c3 := K0.out.cell 3
    go_wp2_with fail
    refine (rkids_any k s cols A2 ks.length cap2 _ (by omega)).mono ?_
    rintro e w3 ⟨rfl, hb⟩
    have K0 := Lib.hid (keep hb K0.out)
    have HK := Lib.hid (HK.out.keep hb)
    have H0 := Lib.hid (H0.out.trans (hb.mono H0.out.size))
    clear hb c0 c1 c2 c3
    cases ht : kidsB k cols ks.length
    · have HQ := Lib.hid (show formT (.mk k s cols ks) = false by rw [HQ0.out, ht]; rfl)
      clear ht
      go_wp2_with fail
      go_ret
      exact ⟨ret_bool HQ.out.symm, H0.out⟩
    rw [ht, Bool.true_and] at HQ0
    clear ht
    go_wp2_with fail
    go_loopw [3] (fun i wr => ∃ (j : Nat), j ≤ ks.length ∧ i = .int .i64 j ∧ Hid (formL k (ks.take j) = true) ∧ Hid (Blk wr w.heap.size 46 (nodC k s cols A2 ks.length cap2)) ∧ Hid (KidsAt wr A2 ks) ∧ Hid (Below w.heap.size w wr)) (fun i _ => ks.length - (intOf i).toNat)
    case atStart => exact ⟨0, by omega, rfl, Lib.hid (show formL k (ks.take 0) = true by rw [List.take_zero, formL]), K0, HK, H0⟩
    case round =>
      clear K0 HK H0
      obtain ⟨j, hj, rfl, HX, K0, HK, H0⟩ := hrel
      have c0 := K0.out.cell 3
      dsimp only [nodC] at c0
      by_cases hlt : j < ks.length
      · obtain ⟨y, hy⟩ : ∃ y, ks[j]? = some y := ⟨_, List.getElem?_eq_getElem hlt⟩
        obtain ⟨ad, A3, cap3, rfl, hP⟩ := HK.out.ptr hy
        have HP := Lib.hid hP
        have hcy := count_kid hy
        have HSN := Lib.hid (formL_snoc (q := k) hy)
        have HCU : Hid (countT y < m) := by have h1 := HM.out; show _ < _; rw [countT] at h1; omega
        obtain ⟨ky, sy, cy, ksy⟩ := y
        clear hy hP hcy
        have HBP := Lib.hid (badPair_eq k ky)
        go_upto_region 6 with (fail)
        clear c0
        cases hbp : ((ky == 1) == (k == 1))
        · rw [hbp] at HBP
          rw [tre_kind ky sy cy ksy, ← HBP.out, HX.out, Bool.true_and, Bool.not_false, Bool.true_and] at HSN
          cases hfv : formT (.mk ky sy cy ksy)
          · have HFV := Lib.hid hfv
            have HQ := Lib.hid (show formT (.mk k s cols ks) = false by rw [HQ0.out]; exact formL_false (HSN.out.trans hfv))
            clear hfv
            refine region_list (by kernel_rfl) _ [.pointer (some ⟨w.heap.size, 3, none⟩), .slice (some ad) ks.length cap2, .int .i64 j, .pointer (some (ad.add (j * 4))), .pointer (some (ad.add (j * 4))), .int .i64 ky, .bool (ky == 1), .pointer (some ⟨w.heap.size, 0, none⟩), .int .i64 k, .bool (k == 1), .bool false, .bool false, .pointer (some ⟨w.heap.size, 3, none⟩), .slice (some ad) ks.length cap2, .int .i64 j, .pointer (some (ad.add (j * 4))), .agg (nodC ky sy cy A3 ksy.length cap3), .bool false, .bool true, .bool true] [true, true, true, true, true, true, true, true, true, true, true, true, true, true, true, true, true, true, true, true] (fun wq => Hid (Blk wq w.heap.size 46 (nodC k s cols (some ad) ks.length cap2)) ∧ Hid (PtrAt wq (ad.add (j * 4)) (.mk ky sy cy ksy) A3 cap3) ∧ Hid (KidsAt wq (some ad) ks) ∧ Hid (Below w.heap.size w wq)) (by kernel_rfl) (by simp [fin, finOn, dstAt, List.range, List.range.loop, Act.put]; rfl) (by kernel_rfl) ⟨K0.out.drew, HP.out.drew, HK.out.keep (below_drew (Below.refl _ _)), below_drew H0.out⟩ ?_ ?_
            · refine ⟨fun wq hI => ?_, fun wq hI => ?_, fun wq hI => ?_, fun wq hI => ?_, fun wq hI => ?_, fun wq hI => ?_, fun wq hI => ?_, fun wq hI => ?_, fun wq hI => ?_, fun wq hI => ?_, fun wq hI => ?_, fun wq hI => ?_, fun wq hI => ?_, fun wq hI => ?_, fun wq hI => ?_, fun wq hI => ?_, fun wq hI => ?_, fun wq hI => ?_, fun wq hI => ?_, fun wq hI => ?_, trivial⟩
              · exact Gives.value (v := .pointer (some ⟨w.heap.size, 3, none⟩)) (w' := wq) (by simp [execOp, Act.eval, go_sem]) ⟨rfl, hI⟩
              · have cJ := hI.1.out.cell 3
                exact Gives.value (v := .slice (some ad) ks.length cap2) (w' := wq) (by simp [execOp, Act.eval, go_sem, cJ]) ⟨rfl, hI⟩
              · exact Gives.value (v := .int .i64 j) (w' := wq) (by kernel_rfl) ⟨rfl, hI⟩
              · skip
                exact Gives.value (v := .pointer (some (ad.add (j * 4)))) (w' := wq) (by simp [execOp, Act.eval, go_sem, hlt]; try omega) ⟨rfl, hI⟩
              · exact Gives.value (v := .pointer (some (ad.add (j * 4)))) (w' := wq) (by simp [execOp, Act.eval, go_sem]) ⟨rfl, hI⟩
              · have cJ : wq.cell? (ad.add (j * 4)) = some (.int .i64 ky) := hI.2.1.out.kind
                exact Gives.value (v := .int .i64 ky) (w' := wq) (by simp [execOp, Act.eval, go_sem, cJ]) ⟨rfl, hI⟩
              · exact Gives.value (v := .bool (ky == 1)) (w' := wq) (by simp [execOp, Act.eval, go_sem]) ⟨rfl, hI⟩
              · exact Gives.value (v := .pointer (some ⟨w.heap.size, 0, none⟩)) (w' := wq) (by simp [execOp, Act.eval, go_sem]) ⟨rfl, hI⟩
              · have cJ := hI.1.out.cell 0
                exact Gives.value (v := .int .i64 k) (w' := wq) (by simp [execOp, Act.eval, go_sem, cJ]) ⟨rfl, hI⟩
              · exact Gives.value (v := .bool (k == 1)) (w' := wq) (by simp [execOp, Act.eval, go_sem]) ⟨rfl, hI⟩
              · skip
                exact Gives.value (v := .bool false) (w' := wq) (by simp [execOp, Act.eval, go_sem, hbp]) ⟨rfl, hI⟩
              · exact Gives.value (v := .bool false) (w' := wq) (by kernel_rfl) ⟨rfl, hI⟩
              · exact Gives.value (v := .pointer (some ⟨w.heap.size, 3, none⟩)) (w' := wq) (by simp [execOp, Act.eval, go_sem]) ⟨rfl, hI⟩
              · have cJ := hI.1.out.cell 3
                exact Gives.value (v := .slice (some ad) ks.length cap2) (w' := wq) (by simp [execOp, Act.eval, go_sem, cJ]) ⟨rfl, hI⟩
              · exact Gives.value (v := .int .i64 j) (w' := wq) (by kernel_rfl) ⟨rfl, hI⟩
              · skip
                exact Gives.value (v := .pointer (some (ad.add (j * 4)))) (w' := wq) (by simp [execOp, Act.eval, go_sem, hlt]; try omega) ⟨rfl, hI⟩
              · have hP := hI.2.1.out
                have c0 := hP.kind
                have c1 := hP.text
                have c2 := hP.cols
                have c3 := hP.kids
                dsimp only [Tre.kind, Tre.text, Tre.cols, Tre.kids] at c0 c1 c2 c3
                clear hP
                exact Gives.value (v := .agg (nodC ky sy cy A3 ksy.length cap3)) (w' := wq) (by simp [execOp, Act.eval, go_sem, c0, c1, c2, c3]) ⟨rfl, hI⟩
              · refine Gives.call (f := 79) (args := #[.agg (nodC ky sy cy A3 ksy.length cap3)]) (w' := wq) (by kernel_rfl) ((IH.out (.mk ky sy cy ksy) _ wq HCU.out (NodAt.of hI.2.1.out.size hI.2.1.out.len hI.2.1.out.capl hI.2.1.out.down)).mono ?_)
                rintro e wa ⟨rfl, hb5⟩
                exact ⟨_, rfl, by rw [HFV.out], keep hb5 hI.1.out, hI.2.1.out.keep hb5, hI.2.2.1.out.keep hb5, hI.2.2.2.out.trans (hb5.mono hI.2.2.2.out.size)⟩
              · exact Gives.value (v := .bool true) (w' := wq) (by simp [execOp, Act.eval, go_sem]) ⟨rfl, hI⟩
              · exact Gives.value (v := .bool true) (w' := wq) (by kernel_rfl) ⟨rfl, hI⟩
            · intro wq hI
              have HB := hI.2.2.2
              clear hI
              go_wp2_with fail
              go_ret
              exact ⟨ret_bool HQ.out.symm, HB.out⟩
          · have HFV := Lib.hid hfv
            have HS := Lib.hid (HSN.out.trans hfv)
            clear hfv
            refine region_list (by kernel_rfl) _ [.pointer (some ⟨w.heap.size, 3, none⟩), .slice (some ad) ks.length cap2, .int .i64 j, .pointer (some (ad.add (j * 4))), .pointer (some (ad.add (j * 4))), .int .i64 ky, .bool (ky == 1), .pointer (some ⟨w.heap.size, 0, none⟩), .int .i64 k, .bool (k == 1), .bool false, .bool false, .pointer (some ⟨w.heap.size, 3, none⟩), .slice (some ad) ks.length cap2, .int .i64 j, .pointer (some (ad.add (j * 4))), .agg (nodC ky sy cy A3 ksy.length cap3), .bool true, .bool false, .bool false] [true, true, true, true, true, true, true, true, true, true, true, true, true, true, true, true, true, true, true, true] (fun wq => Hid (Blk wq w.heap.size 46 (nodC k s cols (some ad) ks.length cap2)) ∧ Hid (PtrAt wq (ad.add (j * 4)) (.mk ky sy cy ksy) A3 cap3) ∧ Hid (KidsAt wq (some ad) ks) ∧ Hid (Below w.heap.size w wq)) (by kernel_rfl) (by simp [fin, finOn, dstAt, List.range, List.range.loop, Act.put]; rfl) (by kernel_rfl) ⟨K0.out.drew, HP.out.drew, HK.out.keep (below_drew (Below.refl _ _)), below_drew H0.out⟩ ?_ ?_
            · refine ⟨fun wq hI => ?_, fun wq hI => ?_, fun wq hI => ?_, fun wq hI => ?_, fun wq hI => ?_, fun wq hI => ?_, fun wq hI => ?_, fun wq hI => ?_, fun wq hI => ?_, fun wq hI => ?_, fun wq hI => ?_, fun wq hI => ?_, fun wq hI => ?_, fun wq hI => ?_, fun wq hI => ?_, fun wq hI => ?_, fun wq hI => ?_, fun wq hI => ?_, fun wq hI => ?_, fun wq hI => ?_, trivial⟩
              · exact Gives.value (v := .pointer (some ⟨w.heap.size, 3, none⟩)) (w' := wq) (by simp [execOp, Act.eval, go_sem]) ⟨rfl, hI⟩
              · have cJ := hI.1.out.cell 3
                exact Gives.value (v := .slice (some ad) ks.length cap2) (w' := wq) (by simp [execOp, Act.eval, go_sem, cJ]) ⟨rfl, hI⟩
              · exact Gives.value (v := .int .i64 j) (w' := wq) (by kernel_rfl) ⟨rfl, hI⟩
              · skip
                exact Gives.value (v := .pointer (some (ad.add (j * 4)))) (w' := wq) (by simp [execOp, Act.eval, go_sem, hlt]; try omega) ⟨rfl, hI⟩
              · exact Gives.value (v := .pointer (some (ad.add (j * 4)))) (w' := wq) (by simp [execOp, Act.eval, go_sem]) ⟨rfl, hI⟩
              · have cJ : wq.cell? (ad.add (j * 4)) = some (.int .i64 ky) := hI.2.1.out.kind
                exact Gives.value (v := .int .i64 ky) (w' := wq) (by simp [execOp, Act.eval, go_sem, cJ]) ⟨rfl, hI⟩
              · exact Gives.value (v := .bool (ky == 1)) (w' := wq) (by simp [execOp, Act.eval, go_sem]) ⟨rfl, hI⟩
              · exact Gives.value (v := .pointer (some ⟨w.heap.size, 0, none⟩)) (w' := wq) (by simp [execOp, Act.eval, go_sem]) ⟨rfl, hI⟩
              · have cJ := hI.1.out.cell 0
                exact Gives.value (v := .int .i64 k) (w' := wq) (by simp [execOp, Act.eval, go_sem, cJ]) ⟨rfl, hI⟩
              · exact Gives.value (v := .bool (k == 1)) (w' := wq) (by simp [execOp, Act.eval, go_sem]) ⟨rfl, hI⟩
              · skip
                exact Gives.value (v := .bool false) (w' := wq) (by simp [execOp, Act.eval, go_sem, hbp]) ⟨rfl, hI⟩
              · exact Gives.value (v := .bool false) (w' := wq) (by kernel_rfl) ⟨rfl, hI⟩
              · exact Gives.value (v := .pointer (some ⟨w.heap.size, 3, none⟩)) (w' := wq) (by simp [execOp, Act.eval, go_sem]) ⟨rfl, hI⟩
              · have cJ := hI.1.out.cell 3
                exact Gives.value (v := .slice (some ad) ks.length cap2) (w' := wq) (by simp [execOp, Act.eval, go_sem, cJ]) ⟨rfl, hI⟩
              · exact Gives.value (v := .int .i64 j) (w' := wq) (by kernel_rfl) ⟨rfl, hI⟩
              · skip
                exact Gives.value (v := .pointer (some (ad.add (j * 4)))) (w' := wq) (by simp [execOp, Act.eval, go_sem, hlt]; try omega) ⟨rfl, hI⟩
              · have hP := hI.2.1.out
                have c0 := hP.kind
                have c1 := hP.text
                have c2 := hP.cols
                have c3 := hP.kids
                dsimp only [Tre.kind, Tre.text, Tre.cols, Tre.kids] at c0 c1 c2 c3
                clear hP
                exact Gives.value (v := .agg (nodC ky sy cy A3 ksy.length cap3)) (w' := wq) (by simp [execOp, Act.eval, go_sem, c0, c1, c2, c3]) ⟨rfl, hI⟩
              · refine Gives.call (f := 79) (args := #[.agg (nodC ky sy cy A3 ksy.length cap3)]) (w' := wq) (by kernel_rfl) ((IH.out (.mk ky sy cy ksy) _ wq HCU.out (NodAt.of hI.2.1.out.size hI.2.1.out.len hI.2.1.out.capl hI.2.1.out.down)).mono ?_)
                rintro e wa ⟨rfl, hb5⟩
                exact ⟨_, rfl, by rw [HFV.out], keep hb5 hI.1.out, hI.2.1.out.keep hb5, hI.2.2.1.out.keep hb5, hI.2.2.2.out.trans (hb5.mono hI.2.2.2.out.size)⟩
              · exact Gives.value (v := .bool false) (w' := wq) (by simp [execOp, Act.eval, go_sem]) ⟨rfl, hI⟩
              · exact Gives.value (v := .bool false) (w' := wq) (by kernel_rfl) ⟨rfl, hI⟩
            · intro wq hI
              have HK := hI.2.2.1
              have K0 := hI.1
              have H0 := hI.2.2.2
              clear hI
              go_wp2_with fail
              go_roundw
              case rel => exact ⟨j + 1, by omega, by go_num, HS, K0, HK, H0⟩
              case measure => simp [intOf]; omega
        · rw [hbp] at HBP
          have HQ := Lib.hid (show formT (.mk k s cols ks) = false by
            rw [HQ0.out]
            refine formL_false (HSN.out.trans ?_)
            rw [tre_kind ky sy cy ksy, ← HBP.out]
            simp)
          refine region_list (by kernel_rfl) _ [.pointer (some ⟨w.heap.size, 3, none⟩), .slice (some ad) ks.length cap2, .int .i64 j, .pointer (some (ad.add (j * 4))), .pointer (some (ad.add (j * 4))), .int .i64 ky, .bool (ky == 1), .pointer (some ⟨w.heap.size, 0, none⟩), .int .i64 k, .bool (k == 1), .bool true, .bool true, undef, undef, undef, undef, undef, undef, undef, .bool true] [true, true, true, true, true, true, true, true, true, true, true, true, false, false, false, false, false, false, false, true] (fun wq => Hid (Blk wq w.heap.size 46 (nodC k s cols (some ad) ks.length cap2)) ∧ Hid (PtrAt wq (ad.add (j * 4)) (.mk ky sy cy ksy) A3 cap3) ∧ Hid (KidsAt wq (some ad) ks) ∧ Hid (Below w.heap.size w wq)) (by kernel_rfl) (by simp [fin, finOn, dstAt, List.range, List.range.loop, Act.put]; rfl) (by kernel_rfl) ⟨K0.out.drew, HP.out.drew, HK.out.keep (below_drew (Below.refl _ _)), below_drew H0.out⟩ ?_ ?_
          · refine ⟨fun wq hI => ?_, fun wq hI => ?_, fun wq hI => ?_, fun wq hI => ?_, fun wq hI => ?_, fun wq hI => ?_, fun wq hI => ?_, fun wq hI => ?_, fun wq hI => ?_, fun wq hI => ?_, fun wq hI => ?_, fun wq hI => ?_, rfl, rfl, rfl, rfl, rfl, rfl, rfl, fun wq hI => ?_, trivial⟩
            · exact Gives.value (v := .pointer (some ⟨w.heap.size, 3, none⟩)) (w' := wq) (by simp [execOp, Act.eval, go_sem]) ⟨rfl, hI⟩
            · have cJ := hI.1.out.cell 3
              exact Gives.value (v := .slice (some ad) ks.length cap2) (w' := wq) (by simp [execOp, Act.eval, go_sem, cJ]) ⟨rfl, hI⟩
            · exact Gives.value (v := .int .i64 j) (w' := wq) (by kernel_rfl) ⟨rfl, hI⟩
            · skip
              exact Gives.value (v := .pointer (some (ad.add (j * 4)))) (w' := wq) (by simp [execOp, Act.eval, go_sem, hlt]; try omega) ⟨rfl, hI⟩
            · exact Gives.value (v := .pointer (some (ad.add (j * 4)))) (w' := wq) (by simp [execOp, Act.eval, go_sem]) ⟨rfl, hI⟩
            · have cJ : wq.cell? (ad.add (j * 4)) = some (.int .i64 ky) := hI.2.1.out.kind
              exact Gives.value (v := .int .i64 ky) (w' := wq) (by simp [execOp, Act.eval, go_sem, cJ]) ⟨rfl, hI⟩
            · exact Gives.value (v := .bool (ky == 1)) (w' := wq) (by simp [execOp, Act.eval, go_sem]) ⟨rfl, hI⟩
            · exact Gives.value (v := .pointer (some ⟨w.heap.size, 0, none⟩)) (w' := wq) (by simp [execOp, Act.eval, go_sem]) ⟨rfl, hI⟩
            · have cJ := hI.1.out.cell 0
              exact Gives.value (v := .int .i64 k) (w' := wq) (by simp [execOp, Act.eval, go_sem, cJ]) ⟨rfl, hI⟩
            · exact Gives.value (v := .bool (k == 1)) (w' := wq) (by simp [execOp, Act.eval, go_sem]) ⟨rfl, hI⟩
            · skip
              exact Gives.value (v := .bool true) (w' := wq) (by simp [execOp, Act.eval, go_sem, hbp]) ⟨rfl, hI⟩
            · exact Gives.value (v := .bool true) (w' := wq) (by kernel_rfl) ⟨rfl, hI⟩
            · exact Gives.value (v := .bool true) (w' := wq) (by kernel_rfl) ⟨rfl, hI⟩
          · intro wq hI
            have HB := hI.2.2.2
            clear hI
            go_wp2_with fail
            go_ret
            exact ⟨ret_bool HQ.out.symm, HB.out⟩
      · obtain rfl : j = ks.length := by omega
        rw [List.take_length] at HX
        go_wp2_with fail
        go_ret
        exact ⟨ret_bool (by rw [HQ0.out, HX.out]), H0.out⟩
set_option maxRecDepth 100000 in
set_option maxHeartbeats 800000 in
theorem rvalid_any (t : Tre) (c : Array Value) (w : World) (hm : countT t ≤ 900000) (hN : NodAt w t c) : Calls Tryz.prog 60 #[.agg c] w fun e w' => e = .returned (.bool (validT t)) ∧ Below w.heap.size w w' := by
  obtain ⟨k, s, cols, ks⟩ := t
  have HQ := Lib.hid (show validT (.mk k s cols ks) = (decide (k = 1) && (formT (.mk k s cols ks) && (decide (countT (.mk k s cols ks) ≤ 1000) && decide (depthT (.mk k s cols ks) ≤ 24)))) from rfl)
  obtain ⟨A2, cap2, rfl, hs, hl, hc, hk⟩ := hN.form
  dsimp only [Tre.kind, Tre.text, Tre.cols, Tre.kids] at hs hl hc hk ⊢
  have HN := Lib.hid (hN.keep (bel_alloc w (.cells (nodC k s cols A2 ks.length cap2) 46)))
  have HF := Lib.hid (fun c w h => rform_any (countT (.mk k s cols ks) + 1) (.mk k s cols ks) c w (by omega) h)
  have HC := Lib.hid (fun c w h => rcount_any (countT (.mk k s cols ks) + 1) (.mk k s cols ks) c w (by omega) (by omega) h)
  have HD := Lib.hid (fun c w h => rdepth_any (countT (.mk k s cols ks) + 1) (.mk k s cols ks) c w (by omega) (by omega) h)
  clear hk hN
  have hb1 := depth_count (.mk k s cols ks)
  generalize hf : formT (.mk k s cols ks) = f at *
  generalize hct : countT (.mk k s cols ks) = n at *
  generalize hdp : depthT (.mk k s cols ks) = d at *
  clear hf hct hdp
  by_cases h1 : k = 1
  · subst h1
    rw [decide_eq_true rfl, Bool.true_and] at HQ
    go_enter Tryz.func60, Tryz.ntmps60
    go_wp2_with fail
    have K0 := Lib.hid (Blk.new w 46 (nodC 1 s cols A2 ks.length cap2))
    have H0 := Lib.hid (bel_alloc w (.cells (nodC 1 s cols A2 ks.length cap2) 46))
    dsimp only [nodC] at K0 H0 HN
    generalize w.alloc (.cells #[.int .i64 1, .string s, .int .i64 cols, .slice A2 ks.length cap2] 46) = w1 at *
    refine (HF.out _ _ HN.out).mono ?_
    rintro e w2 ⟨rfl, hb⟩
    have K0 := Lib.hid (keep hb K0.out)
    have HN := Lib.hid (HN.out.keep hb)
    have H0 := Lib.hid (H0.out.trans (hb.mono H0.out.size))
    clear hb
    cases f
    · rw [Bool.false_and] at HQ
      go_wp2_with fail
      go_ret
      exact ⟨ret_bool HQ.out.symm, H0.out⟩
    rw [Bool.true_and] at HQ
    have c0 := K0.out.cell 0
    have c1 := K0.out.cell 1
    have c2 := K0.out.cell 2
    have c3 := K0.out.cell 3
    go_wp2_with fail
    refine (HC.out _ _ HN.out).mono ?_
    rintro e w3 ⟨rfl, hb⟩
    have K0 := Lib.hid (keep hb K0.out)
    have HN := Lib.hid (HN.out.keep hb)
    have H0 := Lib.hid (H0.out.trans (hb.mono H0.out.size))
    clear hb c0 c1 c2 c3
    by_cases hn : n ≤ 1000
    · rw [decide_eq_true hn, Bool.true_and] at HQ
      have c0 := K0.out.cell 0
      have c1 := K0.out.cell 1
      have c2 := K0.out.cell 2
      have c3 := K0.out.cell 3
      go_wp2_with fail
      refine (HD.out _ _ HN.out).mono ?_
      rintro e w4 ⟨rfl, hb⟩
      have H0 := Lib.hid (H0.out.trans (hb.mono H0.out.size))
      clear hb c0 c1 c2 c3
      go_wp2_with fail
      go_ret
      exact ⟨ret_bool (by rw [HQ.out]; first | rfl | (rw [decide_eq_decide]; omega)), H0.out⟩
    · rw [decide_eq_false hn, Bool.false_and] at HQ
      go_wp2_with fail
      go_ret
      exact ⟨ret_bool HQ.out.symm, H0.out⟩
  · rw [decide_eq_false h1, Bool.false_and] at HQ
    have q1 : (k == 1) = false := beq_eq_false_iff_ne.2 h1
    clear h1
    go_enter Tryz.func60, Tryz.ntmps60
    go_wp2_with fail
    go_ret
    exact ⟨ret_bool HQ.out.symm, bel_alloc _ _⟩
end Go.Proofs.YtgoafobhhmeppaaGreat
