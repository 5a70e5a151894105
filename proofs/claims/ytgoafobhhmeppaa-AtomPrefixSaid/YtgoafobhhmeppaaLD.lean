/- The walks of AtomOwn, AtomBinary, AtomPrefix. -/
import Derived.Test.YtgoafobhhmeppaaLC
namespace Go.Proofs.Ytgoafobhhmeppaa
open Go.RowKit
def fewB (es : List Ent) (ts : List Tre) : Bool := decide (es.length ≤ 300) && decide (countL ts + 1 ≤ 300)
theorem few_no {es : List Ent} {ts : List Tre} (h : ¬ (es.length ≤ 300 ∧ countL ts + 1 ≤ 300)) : fewB es ts = false := by
  unfold fewB
  rw [Bool.and_eq_false_iff, decide_eq_false_iff_not, decide_eq_false_iff_not]
  omega
theorem few_yes {es : List Ent} {ts : List Tre} (h : es.length ≤ 300 ∧ countL ts + 1 ≤ 300) : fewB es ts = true := by
  unfold fewB
  rw [decide_eq_true h.1, decide_eq_true h.2]; rfl
set_option maxRecDepth 100000 in
set_option maxHeartbeats 800000 in
theorem line_few (A A2 : Option Addr) (cap cap2 : Nat) (es : List Ent) (ts : List Tre) (w : World) (hK : KidsAt w A2 ts) (hc : ts.length ≤ cap2) (hc2 : cap2 ≤ 9223372036854775807) : Calls Try.prog 21 #[.agg #[.slice A es.length cap, .slice A2 ts.length cap2]] w fun e w' => e = .returned (.bool (fewB es ts)) ∧ Below w.heap.size w w' := by
  have K0 := Lib.hid (Blk.new w 51 #[.slice A es.length cap, .slice A2 ts.length cap2])
  have H0 := Lib.hid (bel_alloc w (.cells #[.slice A es.length cap, .slice A2 ts.length cap2] 51))
  have HK := Lib.hid hK
  clear hK
  by_cases h : es.length ≤ 300
  · have HQ := Lib.hid (show fewB es ts = decide (countL ts + 1 ≤ 300) by unfold fewB; rw [decide_eq_true h, Bool.true_and])
    have HF := Lib.hid (fun w1 h => rfew_any A2 cap2 300 ts w1 h hc hc2 (by omega))
    generalize decide (countL ts + 1 ≤ 300) = d at *
    go_enter Try.func21, Try.ntmps21
    go_wp2_with fail
    generalize w.alloc (.cells #[.slice A es.length cap, .slice A2 ts.length cap2] 51) = w1 at *
    refine (HF.out w1 (HK.out.keep H0.out)).mono ?_
    rintro e w2 ⟨rfl, hb⟩
    have H0 := Lib.hid (H0.out.trans (hb.mono H0.out.size))
    clear hb
    go_wp2_with fail
    go_ret
    exact ⟨ret_bool HQ.out.symm, H0.out⟩
  · have HQ := Lib.hid (show fewB es ts = false by unfold fewB; rw [decide_eq_false h, Bool.false_and])
    go_enter Try.func21, Try.ntmps21
    go_wp2_with fail
    go_ret
    exact ⟨ret_bool HQ.out.symm, H0.out⟩
set_option maxRecDepth 100000 in
set_option maxHeartbeats 4000000 in
theorem own_walk (A A2 : Option Addr) (cap cap2 : Nat) (es : List Ent) (ts : List Tre) (w : World) (hE : EntsAt w A es) (hK : KidsAt w A2 ts) (hc : ts.length ≤ cap2) (hc2 : cap2 ≤ 9223372036854775807) : Calls Try.prog 7 #[.agg #[.slice A es.length cap, .slice A2 ts.length cap2]] w fun e w' => e = .returned (.bool true) ∧ Below w.heap.size w w' := by
  have K0 := Lib.hid (Blk.new w 51 #[.slice A es.length cap, .slice A2 ts.length cap2])
  have H0 := Lib.hid (bel_alloc w (.cells #[.slice A es.length cap, .slice A2 ts.length cap2] 51))
  have HE := Lib.hid hE
  have HK := Lib.hid hK
  clear hE hK
  go_enter Try.func7, Try.ntmps7
  go_wp2_with fail
  generalize w.alloc (.cells #[.slice A es.length cap, .slice A2 ts.length cap2] 51) = w1 at *
  refine (awake_any w1).mono ?_
  rintro e w2 ⟨rfl, hb⟩
  have K0 := Lib.hid (keep hb K0.out)
  have H0 := Lib.hid (H0.out.trans (hb.mono H0.out.size))
  clear hb
  have c0 := K0.out.cell 0
  have c1 := K0.out.cell 1
  go_wp2_with fail
  refine (line_few A A2 cap cap2 es ts w2 (HK.out.keep H0.out) hc hc2).mono ?_
  rintro e w3 ⟨rfl, hb⟩
  have K0 := Lib.hid (keep hb K0.out)
  have H0 := Lib.hid (H0.out.trans (hb.mono H0.out.size))
  clear hb c0 c1
  by_cases hf : ¬ (es.length ≤ 300 ∧ countL ts + 1 ≤ 300)
  · rw [few_no hf]
    clear hf
    go_wp2_with fail
    go_ret
    exact ⟨rfl, H0.out⟩
  have hf := Classical.not_not.1 hf
  rw [few_yes hf]
  have hkl := kids_le ts
  obtain ⟨hn3, hf⟩ := hf
  have htl : ts.length ≤ 300 := by omega
  clear hf hkl
  have c0 := K0.out.cell 0
  have c1 := K0.out.cell 1
  go_wp2_with fail
  refine (aClasses_any A A2 cap cap2 es ts w3 (by omega) (by omega) hc hc2 (HE.out.keep H0.out) (HK.out.keep H0.out)).mono ?_
  rintro e w4 ⟨v, rfl, ho, hb⟩
  have HO := Lib.hid ho
  have K0 := Lib.hid (keep hb K0.out)
  have H0 := Lib.hid (H0.out.trans (hb.mono H0.out.size))
  clear ho hb c0 c1
  cases hok : okC es ts
  · have HER := Lib.hid (show errC es ts = 1 by unfold errC; rw [hok]; rfl)
    have HRS := Lib.hid (show resC es ts = [] by unfold resC; rw [hok]; rfl)
    clear hok
    rw [HER.out]
    rw [HRS.out] at HO
    obtain ⟨A5, cap5, rfl, _, hcap5, _⟩ := HO.out.form
    rw [show ([] : List Int).length = 0 from rfl]
    have c1 := K0.out.cell 1
    go_wp2_with fail
    go_ret
    exact ⟨rfl, H0.out⟩
  have HER := Lib.hid (show errC es ts = 0 by unfold errC; rw [hok]; rfl)
  have HRS := Lib.hid (show resC es ts = rowL (ts.map (classT es)) by unfold resC; rw [hok]; rfl)
  have HOK := Lib.hid hok
  have HRL := Lib.hid (show (rowL (ts.map (classT es))).length = ts.length by rw [rowL_len]; simp)
  clear hok
  rw [HER.out]
  rw [HRS.out] at HO
  obtain ⟨A5, cap5, rfl, hcl5, hcap5, hI⟩ := HO.out.form
  have HI := Lib.hid hI
  rw [HRL.out] at hcl5 ⊢
  clear hI
  have c1 := K0.out.cell 1
  go_wp2_with fail
  clear c1
  have HB := H0
  clear H0
  go_loopw [5] (fun i wr => ∃ k : Nat, k ≤ ts.length ∧ i = .int .i64 k ∧ Hid (Blk wr w.heap.size 51 #[.slice A es.length cap, .slice A2 ts.length cap2]) ∧ Hid (Below w4.heap.size w4 wr) ∧ Hid (Below w.heap.size w wr)) (fun i _ => ts.length - (intOf i).toNat)
  case atStart => exact ⟨0, by omega, rfl, K0, Below.refl _ _, HB⟩
  case round =>
    clear K0 HB
    obtain ⟨k, hk, rfl, K0, HW, HB⟩ := hrel
    by_cases hlt : k < ts.length
    · obtain ⟨t, ht⟩ : ∃ t, ts[k]? = some t := ⟨_, List.getElem?_eq_getElem hlt⟩
      obtain ⟨ad, A3, cap3, rfl, hP⟩ := (HK.out.keep HB.out).ptr ht
      have HP := Lib.hid hP
      have HBC := Lib.hid (row_become (ts.map (classT es)) k (classT es t) (by rw [List.getElem?_map, ht]; rfl))
      obtain ⟨x, hx⟩ : ∃ x, (rowL (ts.map (classT es)))[k]? = some x := ⟨_, List.getElem?_eq_getElem (by rw [HRL.out]; exact hlt)⟩
      have HX := Lib.hid hx
      obtain ⟨kt, st, ct, kst⟩ := t
      clear ht hP hx
      go_upto_region 13 with (fail)
      refine region_list (by kernel_rfl) _ [.pointer (some ⟨w.heap.size, 0, none⟩), .slice A es.length cap, .pointer (some ⟨w.heap.size, 1, none⟩), .slice (some ad) ts.length cap2, .int .i64 k, .pointer (some (ad.add (k * 4))), .agg (nodC kt st ct A3 kst.length cap3), .int .i64 (classT es (.mk kt st ct kst)), .int .i64 (classT es (.mk kt st ct kst))] [true, true, true, true, true, true, true, true, true] (fun wq => Hid (Blk wq w.heap.size 51 #[.slice A es.length cap, .slice (some ad) ts.length cap2]) ∧ Hid (Below wr.heap.size wr wq) ∧ Hid (Below w.heap.size w wq)) (by kernel_rfl) (by simp [fin, finOn, dstAt, List.range, List.range.loop, Act.put]; rfl) (by kernel_rfl) ⟨K0.out.drew, below_drew (Below.refl _ _), below_drew HB.out⟩ ?_ ?_
      · refine ⟨fun wq hI => ?_, fun wq hI => ?_, fun wq hI => ?_, fun wq hI => ?_, fun wq hI => ?_, fun wq hI => ?_, fun wq hI => ?_, fun wq hI => ?_, fun wq hI => ?_, trivial⟩
        · exact Gives.value (v := .pointer (some ⟨w.heap.size, 0, none⟩)) (w' := wq) (by simp [go_sem]) ⟨rfl, hI⟩
        · have cJ := hI.1.out.cell 0
          exact Gives.value (v := .slice A es.length cap) (w' := wq) (by simp [go_sem, cJ]) ⟨rfl, hI⟩
        · exact Gives.value (v := .pointer (some ⟨w.heap.size, 1, none⟩)) (w' := wq) (by simp [go_sem]) ⟨rfl, hI⟩
        · have cJ := hI.1.out.cell 1
          exact Gives.value (v := .slice (some ad) ts.length cap2) (w' := wq) (by simp [go_sem, cJ]) ⟨rfl, hI⟩
        · exact Gives.value (v := .int .i64 k) (w' := wq) (by kernel_rfl) ⟨rfl, hI⟩
        · skip
          exact Gives.value (v := .pointer (some (ad.add (k * 4)))) (w' := wq) (by simp [go_sem, hlt]; try omega) ⟨rfl, hI⟩
        · have hP := HP.out.keep hI.2.1.out
          have c0 := hP.kind
          have c1 := hP.text
          have c2 := hP.cols
          have c3 := hP.kids
          dsimp only [Tre.kind, Tre.text, Tre.cols, Tre.kids] at c0 c1 c2 c3
          clear hP
          exact Gives.value (v := .agg (nodC kt st ct A3 kst.length cap3)) (w' := wq) (by simp [go_sem, c0, c1, c2, c3]) ⟨rfl, hI⟩
        · refine Gives.call (f := 12) (args := #[.slice A es.length cap, .agg (nodC kt st ct A3 kst.length cap3)]) (w' := wq) (by kernel_rfl) ((aclass_any A cap es (.mk kt st ct kst) _ wq (by omega) (HE.out.keep hI.2.2.out) (NodAt.of (HP.out.keep hI.2.1.out).size (HP.out.keep hI.2.1.out).len (HP.out.keep hI.2.1.out).capl (HP.out.keep hI.2.1.out).down)).mono ?_)
          rintro e wa ⟨rfl, hb5⟩
          exact ⟨_, rfl, rfl, keep hb5 hI.1.out, hI.2.1.out.trans (hb5.mono hI.2.1.out.size), hI.2.2.out.trans (hb5.mono hI.2.2.out.size)⟩
        · exact Gives.value (v := .int .i64 (classT es (.mk kt st ct kst))) (w' := wq) (by kernel_rfl) ⟨rfl, hI⟩
      · intro wq hI
        have HBq := hI.2.2
        have HIq := HI.out.keep (HW.out.trans (hI.2.1.out.mono HW.out.size))
        have K0 := hI.1
        have HWq := hI.2.1
        clear hI
        obtain ⟨g5, rfl, _, c5⟩ := HIq k x HX.out
        generalize classT es (.mk kt st ct kst) = oc at *
        cases q1 : (x == oc)
        · have hx0 : oc = 2 ∧ x = 0 := by
            rcases HBC.out with h | ⟨h1, h2⟩
            · rw [beq_eq_false_iff_ne] at q1
              rw [HX.out] at h
              exact absurd (Option.some.inj h) q1
            · rw [HX.out] at h2
              exact ⟨h1, Option.some.inj h2⟩
          obtain ⟨rfl, rfl⟩ := hx0
          clear q1
          go_wp2_with fail
          go_roundw
          case rel => exact ⟨k + 1, by omega, by go_num, K0, Lib.hid (HW.out.trans (HWq.out.mono HW.out.size)), HBq⟩
          case measure => simp [intOf]; omega
        · have q2 : (x != oc) = false := by rw [bne, q1]; rfl
          clear q1
          go_wp2_with fail
          go_roundw
          case rel => exact ⟨k + 1, by omega, by go_num, K0, Lib.hid (HW.out.trans (HWq.out.mono HW.out.size)), HBq⟩
          case measure => simp [intOf]; omega
    · obtain rfl : k = ts.length := by omega
      go_wp2_with fail
      go_ret
      exact ⟨rfl, HB.out⟩
end Go.Proofs.Ytgoafobhhmeppaa
