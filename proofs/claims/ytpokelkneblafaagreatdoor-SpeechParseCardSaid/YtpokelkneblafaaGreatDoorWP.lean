/- SpeechParse's law returns true. -/
import Derived.Test.YtpokelkneblafaaGreatDoorRQ
import Derived.Test.YtpokelkneblafaaGreatDoorEQ
namespace Go.Proofs.YtpokelkneblafaaGreatDoor
open Go.RowKit
theorem zero_bad : validM zeroM = false := by
  unfold validM zeroM
  rw [formM]
  rfl
set_option maxRecDepth 100000 in
set_option maxHeartbeats 4000000 in
theorem parse_walk (s : ByteArray) (w : World) (hG : GlbZ w.heap.size w) : Calls Tryz.prog 3 #[.string s] w fun e w' => e = .returned (.bool true) ∧ Below w.heap.size w w' := by
  have HG := Lib.hid hG
  clear hG
  go_enter Tryz.func3, Tryz.ntmps3
  go_wp2_with fail
  refine (awake_any w.heap.size w HG.out.glb (Nat.le_refl _)).mono ?_
  rintro e w1 ⟨rfl, hb⟩
  replace HG := Lib.hid (HG.out.keep (Nat.le_refl _) hb)
  have HB := Lib.hid hb
  clear hb
  by_cases hbig : 2000 < s.size
  · have hbi : (2000 : Int) < (s.size : Int) := by omega
    clear hbig
    go_wp2_with fail
    go_ret
    exact ⟨rfl, HB.out⟩
  have hbi : ¬ (2000 : Int) < (s.size : Int) := by omega
  cases hR : parseP s.data.toList with
  | none =>
    have HR2 := Lib.hid ((parse_same s.data.toList).symm.trans hR)
    have HR := Lib.hid hR
    have HEQ := Lib.hid (show eqM zeroM zeroM = true from (eqM_iff _ _).2 rfl)
    have HTV := Lib.hid (textV_bad zero_bad)
    clear hR
    go_wp2_with fail
    refine (parseP_any w.heap.size s w1 HG.out HB.out.size (by omega)).mono ?_
    rw [HR.out]
    rintro e w2 ⟨c, rfl, hT, hb⟩
    have hT : TmAt (fun b => w1.heap.size ≤ b) w2 zeroM c := hT
    have HM := Lib.hid hT.mat
    obtain ⟨k8, a8, v8, A8, n8, p8, f8, rfl⟩ := hT.ext
    replace HG := Lib.hid (HG.out.keep HB.out.size hb)
    replace HB := Lib.hid (HB.out.trans (hb.mono HB.out.size))
    clear hT hb
    have K3 := Lib.hid (Blk.new w2 25 #[.int .i64 k8, .string a8, .string v8, .slice A8 n8 p8, .string f8])
    have hb := bel_alloc w2 (.cells #[.int .i64 k8, .string a8, .string v8, .slice A8 n8 p8, .string f8] 25)
    replace HM := Lib.hid (HM.out.keep hb)
    replace HG := Lib.hid (HG.out.keep HB.out.size hb)
    replace HB := Lib.hid (HB.out.trans (hb.mono HB.out.size))
    clear hb
    go_upto_region 6 with (fail)
    generalize w2.alloc (.cells #[.int .i64 k8, .string a8, .string v8, .slice A8 n8 p8, .string f8] 25) = w3 at *
    generalize w2.heap.size = g3 at *
    go_wp2_with fail
    refine (parseR_any s w3 (by omega)).mono ?_
    rw [HR2.out]
    rintro e w4 ⟨c, rfl, hT, hb⟩
    have hT : TmAt (fun b => w3.heap.size ≤ b) w4 zeroM c := hT
    have HM5 := Lib.hid hT.mat
    obtain ⟨k9, a9, v9, A9, n9, p9, f9, rfl⟩ := hT.ext
    replace HM := Lib.hid (HM.out.keep hb)
    replace K3 := Lib.hid (keep hb K3.out)
    replace HG := Lib.hid (HG.out.keep HB.out.size hb)
    replace HB := Lib.hid (HB.out.trans (hb.mono HB.out.size))
    clear hT hb
    have K5 := Lib.hid (Blk.new w4 25 #[.int .i64 k9, .string a9, .string v9, .slice A9 n9 p9, .string f9])
    have hb := bel_alloc w4 (.cells #[.int .i64 k9, .string a9, .string v9, .slice A9 n9 p9, .string f9] 25)
    replace HM := Lib.hid (HM.out.keep hb)
    replace HM5 := Lib.hid (HM5.out.keep hb)
    replace K3 := Lib.hid (keep hb K3.out)
    replace HG := Lib.hid (HG.out.keep HB.out.size hb)
    replace HB := Lib.hid (HB.out.trans (hb.mono HB.out.size))
    clear hb
    go_upto_region 7 with (fail)
    generalize w4.alloc (.cells #[.int .i64 k9, .string a9, .string v9, .slice A9 n9 p9, .string f9] 25) = w5 at *
    generalize w4.heap.size = g5 at *
    have d3 := fun i => K3.out.cell i
    have d5 := fun i => K5.out.cell i
    go_wp2_with fail
    refine (requal_any (cntM zeroM) zeroM zeroM _ _ w5 (Nat.le_refl _) HM.out HM5.out).mono ?_
    rw [HEQ.out]
    rintro e w6 ⟨rfl, hb⟩
    replace HM := Lib.hid (HM.out.keep hb)
    replace K3 := Lib.hid (keep hb K3.out)
    replace HG := Lib.hid (HG.out.keep HB.out.size hb)
    replace HB := Lib.hid (HB.out.trans (hb.mono HB.out.size))
    clear hb d3 d5
    have d3 := fun i => K3.out.cell i
    go_wp2_with fail
    refine (text_any w.heap.size zeroM _ w6 HG.out.glb HB.out.size HM.out).mono ?_
    rw [HTV.out]
    rintro e w7 ⟨rfl, hb⟩
    replace HB := Lib.hid (HB.out.trans (hb.mono HB.out.size))
    clear hb d3
    go_wp2_with fail
    go_ret
    exact ⟨rfl, HB.out⟩
  | some t =>
    have HR2 := Lib.hid ((parse_same s.data.toList).symm.trans hR)
    have HEQ := Lib.hid (show eqM t t = true from (eqM_iff _ _).2 rfl)
    have HTV := Lib.hid (textV_ok (parseP_some hR).1)
    have HST := Lib.hid (show bys (textM t) = s by rw [(parseP_some hR).2]; exact data_bys s)
    have HR := Lib.hid hR
    clear hR
    rw [HST.out] at HTV
    have q9 : (s.toList == s.toList) = true := beq_self_eq_true _
    go_wp2_with fail
    refine (parseP_any w.heap.size s w1 HG.out HB.out.size (by omega)).mono ?_
    rw [HR.out]
    rintro e w2 ⟨c, rfl, hT, hb⟩
    have hT : TmAt (fun b => w1.heap.size ≤ b) w2 t c := hT
    have HM := Lib.hid hT.mat
    obtain ⟨k8, a8, v8, A8, n8, p8, f8, rfl⟩ := hT.ext
    replace HG := Lib.hid (HG.out.keep HB.out.size hb)
    replace HB := Lib.hid (HB.out.trans (hb.mono HB.out.size))
    clear hT hb
    have K3 := Lib.hid (Blk.new w2 25 #[.int .i64 k8, .string a8, .string v8, .slice A8 n8 p8, .string f8])
    have hb := bel_alloc w2 (.cells #[.int .i64 k8, .string a8, .string v8, .slice A8 n8 p8, .string f8] 25)
    replace HM := Lib.hid (HM.out.keep hb)
    replace HG := Lib.hid (HG.out.keep HB.out.size hb)
    replace HB := Lib.hid (HB.out.trans (hb.mono HB.out.size))
    clear hb
    go_upto_region 6 with (fail)
    generalize w2.alloc (.cells #[.int .i64 k8, .string a8, .string v8, .slice A8 n8 p8, .string f8] 25) = w3 at *
    generalize w2.heap.size = g3 at *
    go_wp2_with fail
    refine (parseR_any s w3 (by omega)).mono ?_
    rw [HR2.out]
    rintro e w4 ⟨c, rfl, hT, hb⟩
    have hT : TmAt (fun b => w3.heap.size ≤ b) w4 t c := hT
    have HM5 := Lib.hid hT.mat
    obtain ⟨k9, a9, v9, A9, n9, p9, f9, rfl⟩ := hT.ext
    replace HM := Lib.hid (HM.out.keep hb)
    replace K3 := Lib.hid (keep hb K3.out)
    replace HG := Lib.hid (HG.out.keep HB.out.size hb)
    replace HB := Lib.hid (HB.out.trans (hb.mono HB.out.size))
    clear hT hb
    have K5 := Lib.hid (Blk.new w4 25 #[.int .i64 k9, .string a9, .string v9, .slice A9 n9 p9, .string f9])
    have hb := bel_alloc w4 (.cells #[.int .i64 k9, .string a9, .string v9, .slice A9 n9 p9, .string f9] 25)
    replace HM := Lib.hid (HM.out.keep hb)
    replace HM5 := Lib.hid (HM5.out.keep hb)
    replace K3 := Lib.hid (keep hb K3.out)
    replace HG := Lib.hid (HG.out.keep HB.out.size hb)
    replace HB := Lib.hid (HB.out.trans (hb.mono HB.out.size))
    clear hb
    go_upto_region 7 with (fail)
    generalize w4.alloc (.cells #[.int .i64 k9, .string a9, .string v9, .slice A9 n9 p9, .string f9] 25) = w5 at *
    generalize w4.heap.size = g5 at *
    have d3 := fun i => K3.out.cell i
    have d5 := fun i => K5.out.cell i
    go_wp2_with fail
    refine (requal_any (cntM t) t t _ _ w5 (Nat.le_refl _) HM.out HM5.out).mono ?_
    rw [HEQ.out]
    rintro e w6 ⟨rfl, hb⟩
    replace HM := Lib.hid (HM.out.keep hb)
    replace K3 := Lib.hid (keep hb K3.out)
    replace HG := Lib.hid (HG.out.keep HB.out.size hb)
    replace HB := Lib.hid (HB.out.trans (hb.mono HB.out.size))
    clear hb d3 d5
    have d3 := fun i => K3.out.cell i
    go_wp2_with fail
    refine (text_any w.heap.size t _ w6 HG.out.glb HB.out.size HM.out).mono ?_
    rw [HTV.out]
    rintro e w7 ⟨rfl, hb⟩
    replace HB := Lib.hid (HB.out.trans (hb.mono HB.out.size))
    clear hb d3
    go_wp2_with fail
    go_ret
    exact ⟨rfl, HB.out⟩
end Go.Proofs.YtpokelkneblafaaGreatDoor
