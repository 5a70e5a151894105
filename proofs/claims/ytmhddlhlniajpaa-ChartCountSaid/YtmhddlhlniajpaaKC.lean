/- Count. -/
import Derived.Test.YtmhddlhlniajpaaKE
import Derived.Test.YtmhddlhlniajpaaRE
namespace Go.Proofs.Ytmhddlhlniajpaa
open Go.RowKit
def cokB (rs : List Rul) (ts : List ByteArray) (most : Int) : Bool := (validB rs && toksB ts) && (decide (0 ≤ most) && decide (most ≤ 1000000000))
def cntN (rs : List Rul) (ts : List ByteArray) (most : Int) : Int := if cokB rs ts most then min ((allR rs ts 0 ts.length).length : Int) most else 0
def cntE (rs : List Rul) (ts : List ByteArray) (most : Int) : Int := if cokB rs ts most then 0 else 1
theorem cnt_bad {rs : List Rul} {ts : List ByteArray} {most : Int} (h : cokB rs ts most = false) : cntN rs ts most = 0 ∧ cntE rs ts most = 1 := by
  unfold cntN cntE
  rw [h]
  exact ⟨rfl, rfl⟩
theorem cnt_good {rs : List Rul} {ts : List ByteArray} {most : Int} (h : cokB rs ts most = true) : cntN rs ts most = min ((allR rs ts 0 ts.length).length : Int) most ∧ cntE rs ts most = 0 := by
  unfold cntN cntE
  rw [h]
  exact ⟨rfl, rfl⟩
theorem least_zero {rs : List Rul} (hv : validB rs = true) {ts : List ByteArray} {i j : Nat} : leastR rs (allR rs ts i j) 0 = allR rs ts i j := by
  unfold leastR
  exact List.filter_eq_self.2 fun x hx => decide_eq_true (prec_nonneg hv hx).1
set_option maxRecDepth 100000 in
set_option maxHeartbeats 4000000 in
theorem count_any (A T : Option Addr) (cap cT : Nat) (rs : List Rul) (ts : List ByteArray) (most : Int) (w : World) (hR : RulsAt w A rs) (hT : ToksAt w T ts) (hc : rs.length ≤ cap) (hcap : cap ≤ 9223372036854775807) : Calls Try.prog 20 #[.slice A rs.length cap, .slice T ts.length cT, .int .i64 most] w fun e w' => e = .returned (.tuple #[.int .i64 (cntN rs ts most), .int .i64 (cntE rs ts most)]) ∧ Below w.heap.size w w' := by
  have HR := Lib.hid hR
  have HT := Lib.hid hT
  clear hR hT
  go_enter Try.func20, Try.ntmps20
  go_wp2_with fail
  refine (valid_any A cap rs _ HR.out hc hcap).mono ?_
  rintro e w1 ⟨rfl, hb⟩
  have HT := Lib.hid (HT.out.keep hb)
  have HR := Lib.hid (HR.out.keep hb)
  have HB := Lib.hid hb
  clear hb
  cases hv : validB rs
  · obtain ⟨e1, e2⟩ := cnt_bad (rs := rs) (ts := ts) (most := most) (by unfold cokB; rw [hv]; rfl)
    have E1 := Lib.hid e1
    have E2 := Lib.hid e2
    clear e1 e2 hv
    go_wp2_with fail
    go_returns
    rw [E1.out, E2.out]
    exact ⟨rfl, HB.out⟩
  · have HV := Lib.hid hv
    clear hv
    go_wp2_with fail
    refine (tvalid_any T cT ts _ HT.out).mono ?_
    rintro e w2 ⟨rfl, hb⟩
    have HT := Lib.hid (HT.out.keep hb)
    have HR := Lib.hid (HR.out.keep hb)
    have HB := Lib.hid (HB.out.trans (hb.mono HB.out.size))
    clear hb
    cases hw : toksB ts
    · obtain ⟨e1, e2⟩ := cnt_bad (rs := rs) (ts := ts) (most := most) (by unfold cokB; rw [hw, Bool.and_false]; rfl)
      have E1 := Lib.hid e1
      have E2 := Lib.hid e2
      clear e1 e2 hw
      go_wp2_with fail
      go_returns
      rw [E1.out, E2.out]
      exact ⟨rfl, HB.out⟩
    · have HW := Lib.hid hw
      clear hw
      by_cases m0 : most < 0
      · obtain ⟨e1, e2⟩ := cnt_bad (rs := rs) (ts := ts) (most := most) (by unfold cokB; rw [decide_eq_false (show ¬ 0 ≤ most by omega), Bool.false_and, Bool.and_false])
        have E1 := Lib.hid e1
        have E2 := Lib.hid e2
        clear e1 e2
        go_wp2_with fail
        go_returns
        rw [E1.out, E2.out]
        exact ⟨rfl, HB.out⟩
      by_cases m1 : 1000000000 < most
      · obtain ⟨e1, e2⟩ := cnt_bad (rs := rs) (ts := ts) (most := most) (by unfold cokB; rw [decide_eq_false (show ¬ most ≤ 1000000000 by omega), Bool.and_false, Bool.and_false])
        have E1 := Lib.hid e1
        have E2 := Lib.hid e2
        clear e1 e2
        go_wp2_with fail
        go_returns
        rw [E1.out, E2.out]
        exact ⟨rfl, HB.out⟩
      obtain ⟨e1, e2⟩ := cnt_good (rs := rs) (ts := ts) (most := most) (by unfold cokB; rw [HV.out, HW.out, decide_eq_true (show 0 ≤ most by omega), decide_eq_true (show most ≤ 1000000000 by omega)]; rfl)
      have E1 := Lib.hid e1
      have E2 := Lib.hid e2
      clear e1 e2
      have hrl : rs.length ≤ 64 := by have := HV.out; unfold validB at this; rw [Bool.and_eq_true] at this; exact of_decide_eq_true this.1
      have htl : ts.length ≤ 200 := by have := HW.out; unfold toksB at this; rw [Bool.and_eq_true] at this; exact of_decide_eq_true this.1
      by_cases h0 : ts.length = 0
      · have h0' : ((ts.length : Int) == 0) = true := by rw [h0]; rfl
        have HZ := Lib.hid (show min ((allR rs ts 0 ts.length).length : Int) most = 0 by rw [h0, all_none (Nat.le_refl _)]; simp; omega)
        clear h0
        go_wp2_with fail
        go_returns
        rw [E1.out, E2.out, HZ.out]
        exact ⟨rfl, HB.out⟩
      · have h0' : ((ts.length : Int) == 0) = false := by rw [beq_eq_false_iff_ne]; omega
        have h1 : 0 < ts.length := by omega
        clear h0
        go_wp2_with fail
        refine (newCounter_any A T cap cT rs ts _ HV.out HR.out HT.out (by omega) (by omega)).mono ?_
        rintro e w3 ⟨g, F, gc, rows, rfl, hTab, hb⟩
        have HTab := Lib.hid hTab
        have HB := Lib.hid (HB.out.trans (hb.mono HB.out.size))
        clear HR HT hb hTab
        go_wp2_with fail
        refine (total_any g F rs ts gc rows _ 0 ts.length 0 _ HTab.out h1 (Nat.le_refl _) (by simp [h1])).mono ?_
        rintro e w4 ⟨rfl, hb⟩
        rw [least_zero HV.out]
        have HB := Lib.hid (HB.out.trans (hb.mono HB.out.size))
        clear hb HTab
        have HZ := Lib.hid (show min ((min (allR rs ts 0 ts.length).length 1000000000 : Nat) : Int) most = min ((allR rs ts 0 ts.length).length : Int) most by omega)
        go_wp2_with fail
        go_returns
        rw [E1.out, E2.out, ← HZ.out]
        exact ⟨rfl, HB.out⟩
end Go.Proofs.Ytmhddlhlniajpaa
