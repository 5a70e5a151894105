/- ChartCount: the walk. -/
import Derived.Test.YtmhddlhlniajpaaFT
import Derived.Test.YtmhddlhlniajpaaKC
namespace Go.Proofs.Ytmhddlhlniajpaa
open Go.RowKit
set_option maxRecDepth 100000 in
set_option maxHeartbeats 4000000 in
theorem chcount_walk (A T : Option Addr) (cap cT : Nat) (rs : List Rul) (ts : List ByteArray) (most : Int) (w : World) (hR : RulsAt w A rs) (hT : ToksAt w T ts) (hl0 : rs.length ≤ cap) (hm0 : cap ≤ 9223372036854775807) (hl1 : ts.length ≤ cT) (hm1 : cT ≤ 9223372036854775807) : Calls Try.prog 7 #[.slice A rs.length cap, .slice T ts.length cT, .int .i64 most] w fun e w' => e = .returned (.bool true) ∧ Below w.heap.size w w' := by
  have HR := Lib.hid hR
  have HT := Lib.hid hT
  have hrl : rs.length ≤ 9223372036854775807 := by omega
  have htl : ts.length ≤ 9223372036854775807 := by omega
  clear hR hT
  go_enter Try.func7, Try.ntmps7
  go_wp2_with fail
  refine (awake_any _).mono ?_
  rintro e w1 ⟨rfl, hb⟩
  have HB := Lib.hid hb
  have HR := Lib.hid (HR.out.keep hb)
  have HT := Lib.hid (HT.out.keep hb)
  clear hb
  go_wp2_with fail
  refine (short_any A T cap cT rs ts 6 _ HR.out HT.out hrl htl).mono ?_
  rintro e w2 ⟨rfl, rfl⟩
  cases q1 : shortB rs ts 6
  · go_wp2_with fail
    go_ret
    exact ⟨rfl, HB.out⟩
  have L1 := Lib.hid (short_of q1)
  have hln : ts.length ≤ 6 := by have := L1.out.2; omega
  clear q1
  go_wp2_with fail
  refine (count_any A T cap cT rs ts most _ HR.out HT.out hl0 hm0).mono ?_
  rintro e w3 ⟨rfl, hb⟩
  have HR := Lib.hid (HR.out.keep hb)
  have HT := Lib.hid (HT.out.keep hb)
  have HB := Lib.hid (HB.out.trans (hb.mono HB.out.size))
  clear hb
  go_wp2_with fail
  refine (rAll_any A T cap cT rs ts _ HR.out HT.out L1.out.1 hln).mono ?_
  rintro e w4 ⟨M, cm, rfl, hrm, hb⟩
  have HR := Lib.hid (HR.out.keep hb)
  have HT := Lib.hid (HT.out.keep hb)
  have HB := Lib.hid (HB.out.trans (hb.mono HB.out.size))
  have HXL := allL_len (rs := rs) (ts := ts) L1.out.1 hln
  clear hb hrm
  by_cases m0 : most < 0
  · obtain ⟨e1, e2⟩ := cnt_bad (rs := rs) (ts := ts) (most := most) (by unfold cokB; rw [decide_eq_false (show ¬ 0 ≤ most by omega), Bool.false_and, Bool.and_false])
    rw [e1, e2]
    go_wp2_with fail
    go_ret
    exact ⟨rfl, HB.out⟩
  by_cases m1 : 1000000000 < most
  · obtain ⟨e1, e2⟩ := cnt_bad (rs := rs) (ts := ts) (most := most) (by unfold cokB; rw [decide_eq_false (show ¬ most ≤ 1000000000 by omega), Bool.and_false, Bool.and_false])
    rw [e1, e2]
    go_wp2_with fail
    go_ret
    exact ⟨rfl, HB.out⟩
  have E1 := Lib.hid (show cntN rs ts most = min most ((allL rs ts).length : Int) ∧ cntE rs ts most = okI rs ts by
    unfold cntN cntE cokB okI allL
    rw [decide_eq_true (show 0 ≤ most by omega), decide_eq_true (show most ≤ 1000000000 by omega)]
    cases validB rs <;> cases toksB ts <;> simp <;> omega)
  have HCN := E1.out.1
  rw [E1.out.2]
  generalize cntN rs ts most = c at *
  generalize okI rs ts = o at *
  generalize (allL rs ts).length = len at *
  clear E1
  go_wp2_with fail
  refine (tvalid_any T cT ts _ HT.out).mono ?_
  rintro e w5 ⟨rfl, hb⟩
  have HT := Lib.hid (HT.out.keep hb)
  have HB := Lib.hid (HB.out.trans (hb.mono HB.out.size))
  clear hb
  go_wp2_with fail
  refine (rtvalid_any T cT ts _ HT.out (by omega)).mono ?_
  rintro e w6 ⟨rfl, hb⟩
  have HB := Lib.hid (HB.out.trans (hb.mono HB.out.size))
  clear hb
  go_wp2_with fail
  go_ret
  exact ⟨rfl, HB.out⟩
end Go.Proofs.Ytmhddlhlniajpaa
