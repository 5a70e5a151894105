/- Few; the walks of AtomClass and AtomClasses. -/
import Derived.Test.YtgoafobhhmeppaaL5
namespace Go.Proofs.Ytgoafobhhmeppaa
open Go.RowKit
theorem few_any (t : Tre) (c : Array Value) (n : Nat) (w : World) (hN : NodAt w t c) (hn : n ≤ 100000) : Calls Try.prog 11 #[.agg c, .int .i64 (n : Nat)] w fun e w' => e = .returned (.bool (decide (countT t ≤ n))) ∧ Below w.heap.size w w' := by
  obtain ⟨k, s, cols, ks⟩ := t
  obtain ⟨A2, cap2, rfl, hs, hl, hc, hk⟩ := hN.form
  dsimp only [Tre.kind, Tre.text, Tre.cols, Tre.kids] at hs hl hc hk ⊢
  have HQ := Lib.hid (few_iff (.mk k s cols ks) n)
  have K0 := Lib.hid (Blk.new w 25 (nodC k s cols A2 ks.length cap2))
  have H0 := Lib.hid (bel_alloc w (.cells (nodC k s cols A2 ks.length cap2) 25))
  have HN := Lib.hid (hN.keep H0.out)
  clear hk hN
  dsimp only [nodC] at K0 H0 HN
  go_enter Try.func11, Try.ntmps11
  go_wp2_with fail
  generalize w.alloc (.cells #[.int .i64 k, .string s, .int .i64 cols, .slice A2 ks.length cap2] 25) = w1 at *
  refine (left_any (countT (.mk k s cols ks) + 1) _ _ n w1 (by omega) HN.out (by omega) (by omega)).mono ?_
  rintro e w2 ⟨rfl, hb⟩
  have HB := Lib.hid (H0.out.trans (hb.mono H0.out.size))
  clear hb
  generalize leftT (.mk k s cols ks) n = r at *
  by_cases hr : 0 ≤ r
  · have HR := Lib.hid (decide_eq_true (HQ.out.1 hr))
    go_wp2_with fail
    go_ret
    exact ⟨ret_bool HR.out.symm, HB.out⟩
  · have HR := Lib.hid (decide_eq_false (fun h => hr (HQ.out.2 h)))
    go_wp2_with fail
    go_ret
    exact ⟨ret_bool (by rw [HR.out, decide_eq_false (by omega)]), HB.out⟩
theorem rfew_any (A : Option Addr) (cap n : Nat) (ts : List Tre) (w : World) (hK : KidsAt w A ts) (hl : ts.length ≤ cap) (hc : cap ≤ 9223372036854775807) (hn : n ≤ 100000) : Calls Try.prog 14 #[.slice A ts.length cap, .int .i64 (n : Nat)] w fun e w' => e = .returned (.bool (decide (countL ts + 1 ≤ n))) ∧ Below w.heap.size w w' := by
  have HN := Lib.hid (NodAt.of (k := 1) (s := ⟨#[]⟩) (c := 0) (by decide) hl hc hK)
  clear hK
  go_enter Try.func14, Try.ntmps14
  go_wp2_with fail
  refine (torow_any A ts.length cap w).mono ?_
  rintro e w1 ⟨rfl, hb1⟩
  have HN := Lib.hid (HN.out.keep hb1)
  have H1 := Lib.hid hb1
  clear hb1
  go_wp2_with fail
  refine (few_any _ _ n _ HN.out hn).mono ?_
  rintro e w2 ⟨rfl, hb⟩
  have HB := Lib.hid (H1.out.trans (hb.mono H1.out.size))
  clear hb
  go_wp2_with fail
  go_ret
  exact ⟨rfl, HB.out⟩
theorem kids_le : ∀ ts : List Tre, ts.length ≤ countL ts
  | [] => by simp
  | .mk k s c ks :: r => by rw [countL, countT, List.length_cons]; have := kids_le r; omega
set_option maxRecDepth 100000 in
set_option maxHeartbeats 1600000 in
theorem class_walk (A : Option Addr) (cap : Nat) (es : List Ent) (t : Tre) (c : Array Value) (w : World) (hE : EntsAt w A es) (hN : NodAt w t c) : Calls Try.prog 3 #[.slice A es.length cap, .agg c] w fun e w' => e = .returned (.bool true) ∧ Below w.heap.size w w' := by
  obtain ⟨k, s, cols, ks⟩ := t
  obtain ⟨A2, cap2, rfl, hs, hl, hc, hk⟩ := hN.form
  dsimp only [Tre.kind, Tre.text, Tre.cols, Tre.kids] at hs hl hc hk ⊢
  have K0 := Lib.hid (Blk.new w 25 (nodC k s cols A2 ks.length cap2))
  have H0 := Lib.hid (bel_alloc w (.cells (nodC k s cols A2 ks.length cap2) 25))
  have HN := Lib.hid hN
  have HE := Lib.hid hE
  clear hk hN hE
  dsimp only [nodC] at K0 H0 HN
  go_enter Try.func3, Try.ntmps3
  go_wp2_with fail
  generalize w.alloc (.cells #[.int .i64 k, .string s, .int .i64 cols, .slice A2 ks.length cap2] 25) = w1 at *
  refine (awake_any w1).mono ?_
  rintro e w2 ⟨rfl, hb⟩
  have K0 := Lib.hid (keep hb K0.out)
  have H0 := Lib.hid (H0.out.trans (hb.mono H0.out.size))
  clear hb
  by_cases hn3 : es.length ≤ 300
  · have hn : es.length ≤ 1000000 := by omega
    have c0 := K0.out.cell 0
    have c1 := K0.out.cell 1
    have c2 := K0.out.cell 2
    have c3 := K0.out.cell 3
    go_wp2_with fail
    refine (few_any (.mk k s cols ks) _ 300 w2 (HN.out.keep H0.out) (by omega)).mono ?_
    rintro e w3 ⟨rfl, hb⟩
    have K0 := Lib.hid (keep hb K0.out)
    have H0 := Lib.hid (H0.out.trans (hb.mono H0.out.size))
    clear hb c0 c1 c2 c3
    by_cases hf : countT (.mk k s cols ks) ≤ 300
    · rw [decide_eq_true hf]
      clear hf
      go_upto_region 5 with (fail)
      refine region_list (by kernel_rfl) _ [.slice A es.length cap, .agg (nodC k s cols A2 ks.length cap2), .int .i64 (classT es (.mk k s cols ks)), .slice A es.length cap, .agg (nodC k s cols A2 ks.length cap2), .int .i64 (classT es (.mk k s cols ks)), .bool true, .bool true] [true, true, true, true, true, true, true, true] (fun wq => Hid (Blk wq w.heap.size 25 (nodC k s cols A2 ks.length cap2)) ∧ Hid (Below w.heap.size w wq)) (by kernel_rfl) (by simp [fin, finOn, dstAt, List.range, List.range.loop, Act.put]; rfl) (by kernel_rfl) ⟨K0.out.drew, below_drew H0.out⟩ ?_ ?_
      · refine ⟨fun wq hI => ?_, fun wq hI => ?_, fun wq hI => ?_, fun wq hI => ?_, fun wq hI => ?_, fun wq hI => ?_, fun wq hI => ?_, fun wq hI => ?_, trivial⟩
        · exact Gives.value (v := .slice A es.length cap) (w' := wq) (by kernel_rfl) ⟨rfl, hI⟩
        · have c0 := hI.1.out.cell 0
          have c1 := hI.1.out.cell 1
          have c2 := hI.1.out.cell 2
          have c3 := hI.1.out.cell 3
          exact Gives.value (v := .agg (nodC k s cols A2 ks.length cap2)) (w' := wq) (by simp [go_sem, c0, c1, c2, c3]) ⟨rfl, hI⟩
        · refine Gives.call (f := 12) (args := #[.slice A es.length cap, .agg (nodC k s cols A2 ks.length cap2)]) (w' := wq) (by kernel_rfl) ((aclass_any A cap es (.mk k s cols ks) _ wq hn (HE.out.keep hI.2.out) (HN.out.keep hI.2.out)).mono ?_)
          rintro e wa ⟨rfl, hb5⟩
          exact ⟨_, rfl, rfl, keep hb5 hI.1.out, hI.2.out.trans (hb5.mono hI.2.out.size)⟩
        · exact Gives.value (v := .slice A es.length cap) (w' := wq) (by kernel_rfl) ⟨rfl, hI⟩
        · have c0 := hI.1.out.cell 0
          have c1 := hI.1.out.cell 1
          have c2 := hI.1.out.cell 2
          have c3 := hI.1.out.cell 3
          exact Gives.value (v := .agg (nodC k s cols A2 ks.length cap2)) (w' := wq) (by simp [go_sem, c0, c1, c2, c3]) ⟨rfl, hI⟩
        · refine Gives.call (f := 13) (args := #[.slice A es.length cap, .agg (nodC k s cols A2 ks.length cap2)]) (w' := wq) (by kernel_rfl) ((rclass_any A cap es hn (countT (.mk k s cols ks) + 1) (.mk k s cols ks) _ wq (by omega) (HE.out.keep hI.2.out) (HN.out.keep hI.2.out)).mono ?_)
          rintro e wa ⟨rfl, hb5⟩
          exact ⟨_, rfl, rfl, keep hb5 hI.1.out, hI.2.out.trans (hb5.mono hI.2.out.size)⟩
        · exact Gives.value (v := .bool true) (w' := wq) (by simp [go_sem]) ⟨rfl, hI⟩
        · exact Gives.value (v := .bool true) (w' := wq) (by kernel_rfl) ⟨rfl, hI⟩
      · intro wq hI
        have HB := hI.2
        clear hI
        go_wp2_with fail
        go_ret
        exact ⟨rfl, HB.out⟩
    · rw [decide_eq_false hf]
      clear hf
      go_wp2_with fail
      go_ret
      exact ⟨rfl, H0.out⟩
  · go_wp2_with fail
    go_ret
    exact ⟨rfl, H0.out⟩
set_option maxRecDepth 100000 in
set_option maxHeartbeats 1600000 in
theorem classes_walk (A A2 : Option Addr) (cap cap2 : Nat) (es : List Ent) (ts : List Tre) (w : World) (hE : EntsAt w A es) (hK : KidsAt w A2 ts) (hc : ts.length ≤ cap2) (hc2 : cap2 ≤ 9223372036854775807) : Calls Try.prog 4 #[.slice A es.length cap, .slice A2 ts.length cap2] w fun e w' => e = .returned (.bool true) ∧ Below w.heap.size w w' := by
  have HE := Lib.hid hE
  have HK := Lib.hid hK
  clear hE hK
  go_enter Try.func4, Try.ntmps4
  go_wp2_with fail
  refine (awake_any w).mono ?_
  rintro e w1 ⟨rfl, hb⟩
  have H0 := Lib.hid hb
  clear hb
  by_cases hn3 : es.length ≤ 300
  · go_wp2_with fail
    refine (rfew_any A2 cap2 300 ts w1 (HK.out.keep H0.out) hc hc2 (by omega)).mono ?_
    rintro e w2 ⟨rfl, hb⟩
    have H0 := Lib.hid (H0.out.trans (hb.mono H0.out.size))
    clear hb
    by_cases hf : countL ts + 1 ≤ 300
    · rw [decide_eq_true hf]
      have hkl := kids_le ts
      have HKL := Lib.hid (show countL ts < 900000 by omega)
      have htl : ts.length ≤ 300 := by omega
      clear hf hkl
      go_wp2_with fail
      refine (aClasses_any A A2 cap cap2 es ts w2 (by omega) (by omega) hc hc2 (HE.out.keep H0.out) (HK.out.keep H0.out)).mono ?_
      rintro e w3 ⟨v, rfl, ho, hb⟩
      have HO := Lib.hid ho
      have H0 := Lib.hid (H0.out.trans (hb.mono H0.out.size))
      clear ho hb
      generalize hq : errC es ts = er at *
      have HER := Lib.hid hq
      clear hq
      have hrl : (resC es ts).length ≤ 1000000 := by
        unfold resC
        split
        · rw [rowL_len]; simp; omega
        · simp
      generalize hrs : resC es ts = rs at *
      have HRS := Lib.hid hrs
      clear hrs
      obtain ⟨A5, cap5, rfl, _, hcap5, hI⟩ := HO.out.form
      have HI := Lib.hid hI
      clear hI
      go_wp2_with fail
      refine (rClasses_any A A2 cap cap2 es ts w3 (by omega) (by omega) HKL.out hc hc2 (HE.out.keep H0.out) (HK.out.keep H0.out)).mono ?_
      rintro e w4 ⟨v, rfl, ho, hb⟩
      rw [HER.out]
      have HO := Lib.hid (show OwnI w4 w3.heap.size v rs by rw [← HRS.out]; exact ho)
      have HI := Lib.hid (HI.out.keep hb)
      have H0 := Lib.hid (H0.out.trans (hb.mono H0.out.size))
      clear ho hb
      obtain ⟨A6, cap6, rfl, _, hcap6, hI⟩ := HO.out.form
      have HJ := Lib.hid hI
      clear hI
      go_wp2_with fail
      refine (same_any A5 A6 cap5 cap6 rs rs w4 HI.out HJ.out hrl hrl).mono ?_
      rw [decide_eq_true rfl]
      rintro e w5 ⟨rfl, hb⟩
      have H0 := Lib.hid (H0.out.trans (hb.mono H0.out.size))
      clear hb
      go_wp2_with fail
      go_ret
      exact ⟨rfl, H0.out⟩
    · rw [decide_eq_false hf]
      clear hf
      go_wp2_with fail
      go_ret
      exact ⟨rfl, H0.out⟩
  · go_wp2_with fail
    go_ret
    exact ⟨rfl, H0.out⟩
end Go.Proofs.Ytgoafobhhmeppaa
