/- The walk of AtomSpaces. -/
import Derived.Test.YtgoafobhhmeppaaGreatSS
import Derived.Test.YtgoafobhhmeppaaGreatLC
namespace Go.Proofs.YtgoafobhhmeppaaGreat
open Go.RowKit
def fewB (es : List Ent) (ts : List Tre) : Bool := decide (es.length ≤ 300) && decide (countL ts + 1 ≤ 300)
theorem few_no {es : List Ent} {ts : List Tre} (h : ¬ (es.length ≤ 300 ∧ countL ts + 1 ≤ 300)) : fewB es ts = false := by
  unfold fewB
  rw [Bool.and_eq_false_iff, decide_eq_false_iff_not, decide_eq_false_iff_not]
  omega
theorem few_yes {es : List Ent} {ts : List Tre} (h : es.length ≤ 300 ∧ countL ts + 1 ≤ 300) : fewB es ts = true := by
  unfold fewB
  rw [decide_eq_true h.1, decide_eq_true h.2]; rfl
set_option maxRecDepth 100000 in
set_option maxHeartbeats 800000 in
theorem line_few (A A2 : Option Addr) (cap cap2 : Nat) (es : List Ent) (ts : List Tre) (w : World) (hK : KidsAt w A2 ts) (hc : ts.length ≤ cap2) (hc2 : cap2 ≤ 9223372036854775807) : Calls Tryz.prog 6 #[.agg #[.slice A es.length cap, .slice A2 ts.length cap2]] w fun e w' => e = .returned (.bool (fewB es ts)) ∧ Below w.heap.size w w' := by
  have K0 := Lib.hid (Blk.new w 31 #[.slice A es.length cap, .slice A2 ts.length cap2])
  have H0 := Lib.hid (bel_alloc w (.cells #[.slice A es.length cap, .slice A2 ts.length cap2] 31))
  have HK := Lib.hid hK
  clear hK
  by_cases h : es.length ≤ 300
  · have HQ := Lib.hid (show fewB es ts = decide (countL ts + 1 ≤ 300) by unfold fewB; rw [decide_eq_true h, Bool.true_and])
    have HF := Lib.hid (fun w1 h => rfew_any A2 cap2 300 ts w1 h hc hc2 (by omega))
    generalize decide (countL ts + 1 ≤ 300) = d at *
    go_enter Tryz.func6, Tryz.ntmps6
    go_wp2_with fail
    generalize w.alloc (.cells #[.slice A es.length cap, .slice A2 ts.length cap2] 31) = w1 at *
    refine (HF.out w1 (HK.out.keep H0.out)).mono ?_
    rintro e w2 ⟨rfl, hb⟩
    have H0 := Lib.hid (H0.out.trans (hb.mono H0.out.size))
    clear hb
    go_wp2_with fail
    go_ret
    exact ⟨ret_bool HQ.out.symm, H0.out⟩
  · have HQ := Lib.hid (show fewB es ts = false by unfold fewB; rw [decide_eq_false h, Bool.false_and])
    go_enter Tryz.func6, Tryz.ntmps6
    go_wp2_with fail
    go_ret
    exact ⟨ret_bool HQ.out.symm, H0.out⟩
theorem resS_len {es : List Ent} {ts : List Tre} {b : Bool} {q s1 s2 level : Int} : (resS es ts b q s1 s2 level).length ≤ ts.length := by
  unfold resS
  split
  · rw [spsL_len, rowL_len, List.length_map]
    exact Nat.le_refl _
  · exact Nat.zero_le _
set_option maxRecDepth 100000 in
set_option maxHeartbeats 4000000 in
theorem spaces_walk (B1 : Option Addr) (c1 : Nat) (B2 : Option Addr) (c2 : Nat) (p : Nat → Int) (gs : List Gly) (ss : List Stc) (A A2 : Option Addr) (cap cap2 : Nat) (es : List Ent) (ts : List Tre) (level : Int) (cr : Bool) (w : World) (hE : EntsAt w A es) (hK : KidsAt w A2 ts) (hc : ts.length ≤ cap2) (hc2 : cap2 ≤ 9223372036854775807) (hF : FontAt B1 c1 B2 c2 gs ss w) : Calls Tryz.prog 3 #[.agg (fontC B1 gs.length c1 B2 ss.length c2 p), .agg #[.slice A es.length cap, .slice A2 ts.length cap2], .agg #[.int .i64 level, .bool cr]] w fun e w' => e = .returned (.bool true) ∧ Below w.heap.size w w' := by
  obtain ⟨vb, hvb⟩ := bool_of (FontOk gs ss p)
  have HA := Lib.hid (fun (A A2 : Option Addr) (cap cap2 : Nat) (es : List Ent) (ts : List Tre) (level : Int) (cr : Bool) (w : World) (hn : es.length ≤ 1000000) (ht : ts.length ≤ 1000000) (hc : ts.length ≤ cap2) (hc2 : cap2 ≤ 9223372036854775807) (hE : EntsAt w A es) (hK : KidsAt w A2 ts) (hF : FontAt B1 c1 B2 c2 gs ss w) => aspaces_any _ vb (p 0) (p 15) (p 16) _ (font_is B1 c1 B2 c2 p gs ss vb hvb) A A2 cap cap2 es ts level cr w hn ht hc hc2 hE hK hF)
  have HR := Lib.hid (fun (A A2 : Option Addr) (cap cap2 : Nat) (es : List Ent) (ts : List Tre) (level : Int) (cr : Bool) (w : World) (hn : es.length ≤ 1000000) (ht : ts.length ≤ 1000000) (hm : countL ts < 900000) (hc : ts.length ≤ cap2) (hc2 : cap2 ≤ 9223372036854775807) (hE : EntsAt w A es) (hK : KidsAt w A2 ts) (hF : FontAt B1 c1 B2 c2 gs ss w) => rspaces_any _ vb (p 0) (p 15) (p 16) _ (font_is B1 c1 B2 c2 p gs ss vb hvb) (fun w h => rfvalid_any B1 c1 B2 c2 p gs ss vb w hvb h) A A2 cap cap2 es ts level cr w hn ht hm hc hc2 hE hK hF)
  have HFW := Lib.hid (fun (w : World) (h : FontAt B1 c1 B2 c2 gs ss w) => rfew05_any B1 c1 B2 c2 p gs ss w h)
  have HSZ := Lib.hid (show (Tryz.prog.info? 27).map (·.size) = some (fontC B1 gs.length c1 B2 ss.length c2 p).size by kernel_rfl)
  clear hvb
  generalize fontC B1 gs.length c1 B2 ss.length c2 p = cs at *
  have hb1 := bel_alloc w (.cells cs 27)
  have hb2 := bel_alloc (w.alloc (.cells cs 27)) (.cells #[.slice A es.length cap, .slice A2 ts.length cap2] 31)
  have hb3 := bel_alloc ((w.alloc (.cells cs 27)).alloc (.cells #[.slice A es.length cap, .slice A2 ts.length cap2] 31)) (.cells #[.int .i64 level, .bool cr] 33)
  have K0 := Lib.hid (keep hb3 (keep hb2 (Blk.new w 27 cs)))
  have K1 := Lib.hid (keep hb3 (Blk.new (w.alloc (.cells cs 27)) 31 #[.slice A es.length cap, .slice A2 ts.length cap2]))
  have K2 := Lib.hid (Blk.new ((w.alloc (.cells cs 27)).alloc (.cells #[.slice A es.length cap, .slice A2 ts.length cap2] 31)) 33 #[.int .i64 level, .bool cr])
  have H0 := Lib.hid ((hb1.trans (hb2.mono hb1.size)).trans (hb3.mono (hb1.trans (hb2.mono hb1.size)).size))
  rw [show (w.alloc (.cells cs 27)).heap.size = w.heap.size + 1 by simp] at K1
  rw [show ((w.alloc (.cells cs 27)).alloc (.cells #[.slice A es.length cap, .slice A2 ts.length cap2] 31)).heap.size = w.heap.size + 2 by simp] at K2
  have HFA := Lib.hid hF
  clear hb1 hb2 hb3 hF
  have HE := Lib.hid hE
  have HK := Lib.hid hK
  clear hE hK
  go_enter Tryz.func3, Tryz.ntmps3
  go_upto_region 1 with (fail)
  generalize ((w.alloc (.cells cs 27)).alloc (.cells #[.slice A es.length cap, .slice A2 ts.length cap2] 31)).alloc (.cells #[.int .i64 level, .bool cr] 33) = w1 at *
  go_wp2_with fail
  refine (awake_any w1).mono ?_
  rintro e w2 ⟨rfl, hb⟩
  replace K0 := Lib.hid (keep hb K0.out)
  replace K1 := Lib.hid (keep hb K1.out)
  replace K2 := Lib.hid (keep hb K2.out)
  replace H0 := Lib.hid (H0.out.trans (hb.mono H0.out.size))
  clear hb
  go_wp2_with (refine wpList_load_rowW (by rfl) 27 (.tmp 3) rfl w.heap.size rfl 27 cs (0, 0) _ K0.out Tryz.underlying27 rfl HSZ.out ?_)
  refine (HFW.out w2 (HFA.out.keep H0.out)).mono ?_
  rintro e w3 ⟨⟨b, rfl⟩, hb⟩
  replace K0 := Lib.hid (keep hb K0.out)
  replace K1 := Lib.hid (keep hb K1.out)
  replace K2 := Lib.hid (keep hb K2.out)
  replace H0 := Lib.hid (H0.out.trans (hb.mono H0.out.size))
  clear hb
  cases b
  · go_wp2_with fail
    go_ret
    exact ⟨rfl, H0.out⟩
  have e0 := K1.out.cell 0
  have e1 := K1.out.cell 1
  go_wp2_with fail
  refine (line_few A A2 cap cap2 es ts w3 (HK.out.keep H0.out) hc hc2).mono ?_
  rintro e w4 ⟨rfl, hb⟩
  clear e0 e1
  replace K0 := Lib.hid (keep hb K0.out)
  replace K1 := Lib.hid (keep hb K1.out)
  replace K2 := Lib.hid (keep hb K2.out)
  replace H0 := Lib.hid (H0.out.trans (hb.mono H0.out.size))
  clear hb
  by_cases hf : ¬ (es.length ≤ 300 ∧ countL ts + 1 ≤ 300)
  · rw [few_no hf]
    clear hf
    go_wp2_with fail
    go_ret
    exact ⟨rfl, H0.out⟩
  have hf := Classical.not_not.1 hf
  rw [few_yes hf]
  have hkl := kids_le ts
  obtain ⟨hn3, hf⟩ := hf
  have htl : ts.length ≤ 300 := by omega
  have HMC := Lib.hid (show countL ts < 900000 by omega)
  have HRL := Lib.hid (show (resS es ts vb (p 0) (p 15) (p 16) level).length ≤ 1000000 from Nat.le_trans resS_len (by omega))
  clear hf hkl
  have e0 := K1.out.cell 0
  have e1 := K1.out.cell 1
  have d0 := K2.out.cell 0
  have d1 := K2.out.cell 1
  go_wp2_with (refine wpList_load_rowW (by rfl) 27 (.tmp 3) rfl w.heap.size rfl 27 cs (0, 0) _ K0.out Tryz.underlying27 rfl HSZ.out ?_)
  refine (HA.out A A2 cap cap2 es ts level cr w4 (by omega) (by omega) hc hc2 (HE.out.keep H0.out) (HK.out.keep H0.out) (HFA.out.keep H0.out)).mono ?_
  rintro e w5 ⟨v, rfl, ho, hb⟩
  generalize hres : resS es ts vb (p 0) (p 15) (p 16) level = res at *
  have HRES := Lib.hid hres
  generalize herr : errS es ts vb level = er at *
  have HERR := Lib.hid herr
  obtain ⟨A5, cap5, rfl, _, hcap5, hI⟩ := ho.form
  have HI := Lib.hid hI
  clear ho hI e0 e1 d0 d1 hres herr
  replace K0 := Lib.hid (keep hb K0.out)
  replace K1 := Lib.hid (keep hb K1.out)
  replace K2 := Lib.hid (keep hb K2.out)
  replace H0 := Lib.hid (H0.out.trans (hb.mono H0.out.size))
  clear hb
  have e0 := K1.out.cell 0
  have e1 := K1.out.cell 1
  have d0 := K2.out.cell 0
  have d1 := K2.out.cell 1
  go_wp2_with (refine wpList_load_rowW (by rfl) 27 (.tmp 3) rfl w.heap.size rfl 27 cs (0, 0) _ K0.out Tryz.underlying27 rfl HSZ.out ?_)
  refine (HR.out A A2 cap cap2 es ts level cr w5 (by omega) (by omega) HMC.out hc hc2 (HE.out.keep H0.out) (HK.out.keep H0.out) (HFA.out.keep H0.out)).mono ?_
  rintro e w6 ⟨v, rfl, ho, hb⟩
  rw [HRES.out] at ho
  rw [HERR.out]
  obtain ⟨A6, cap6, rfl, _, hcap6, hJ⟩ := ho.form
  have HJ := Lib.hid hJ
  have HI := Lib.hid (HI.out.keep hb)
  clear ho hJ e0 e1 d0 d1
  replace K0 := Lib.hid (keep hb K0.out)
  replace K1 := Lib.hid (keep hb K1.out)
  replace K2 := Lib.hid (keep hb K2.out)
  replace H0 := Lib.hid (H0.out.trans (hb.mono H0.out.size))
  clear hb
  go_wp2_with fail
  refine (same_any A5 A6 cap5 cap6 res res w6 HI.out HJ.out HRL.out HRL.out).mono ?_
  rw [decide_eq_true rfl]
  rintro e w7 ⟨rfl, hb⟩
  replace H0 := Lib.hid (H0.out.trans (hb.mono H0.out.size))
  clear hb
  go_wp2_with fail
  go_ret
  exact ⟨rfl, H0.out⟩
end Go.Proofs.YtgoafobhhmeppaaGreat
