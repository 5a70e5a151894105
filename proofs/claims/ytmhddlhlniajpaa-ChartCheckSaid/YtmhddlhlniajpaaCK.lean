/- The reference's Check. -/
import Derived.Test.YtmhddlhlniajpaaEN
import Derived.Test.YtmhddlhlniajpaaFT
namespace Go.Proofs.Ytmhddlhlniajpaa
open Go.RowKit
def rchkB (rs : List Rul) (ts : List ByteArray) (x : Rd) : Bool := (validB rs && toksB ts) && (decide (x.at_ = 0) && (decide (endR rs ts x = (ts.length : Int)) && decide (0 < ts.length)))
theorem rchk_mem {rs : List Rul} {ts : List ByteArray} {x : Rd} : rchkB rs ts x = true ↔ (validB rs && toksB ts) = true ∧ x ∈ allR rs ts 0 ts.length := by
  unfold rchkB
  rw [Bool.and_eq_true, ← end_mem x]
  simp
theorem rchk_all {rs : List Rul} {ts : List ByteArray} {x : Rd} : rchkB rs ts x = true ↔ x ∈ allL rs ts := by
  rw [rchk_mem]
  unfold allL
  split
  · rename_i h; simp [h]
  · rename_i h; simp [h]
set_option maxRecDepth 100000 in
set_option maxHeartbeats 4000000 in
theorem rcheck_any (A T : Option Addr) (cap cT : Nat) (rs : List Rul) (ts : List ByteArray) (ok : Nat → Prop) (x : Rd) (c : Array Value) (w : World) (hR : RulsAt w A rs) (hT : ToksAt w T ts) (hX : RdAt ok w x c) (hr : rs.length ≤ 1000000) (ht : ts.length ≤ 1000000) : Calls Try.prog 18 #[.slice A rs.length cap, .slice T ts.length cT, .agg c] w fun e w' => e = .returned (.bool (rchkB rs ts x)) ∧ Below w.heap.size w w' := by
  obtain ⟨A', cap', rfl, hl, hc, hk⟩ := hX.form
  have hba := bel_alloc w (.cells (rdC x.rule x.at_ A' x.kids.length cap') 34)
  have HX := Lib.hid (hX.keep hba)
  have HR := Lib.hid (hR.keep hba)
  have HT := Lib.hid (hT.keep hba)
  have HB := Lib.hid hba
  have K1 := Lib.hid (Blk.new w 34 (rdC x.rule x.at_ A' x.kids.length cap'))
  clear hX hba hR hT hk hl hc
  go_enter Try.func18, Try.ntmps18
  go_wp2_with fail
  refine (fits_any A T cap cT rs ts _ HR.out HT.out hr ht).mono ?_
  rintro e w1 ⟨rfl, hb⟩
  have HX := Lib.hid (HX.out.keep hb)
  have HR := Lib.hid (HR.out.keep hb)
  have HT := Lib.hid (HT.out.keep hb)
  have K1 := Lib.hid (keep hb K1.out)
  have HB := Lib.hid (HB.out.trans (hb.mono HB.out.size))
  clear hb
  cases q : (validB rs && toksB ts)
  · have E := Lib.hid (show rchkB rs ts x = false by unfold rchkB; rw [q, Bool.false_and])
    clear q
    go_wp2_with fail
    go_ret
    rw [E.out]
    exact ⟨rfl, HB.out⟩
  have c1 := K1.out.cell 1
  have c0 := K1.out.cell 0
  have c2 := K1.out.cell 2
  by_cases a0 : x.at_ = 0
  · have ha : (x.at_ == (0 : Int)) = true := beq_iff_eq.2 a0
    have E := Lib.hid (show rchkB rs ts x = (decide (endR rs ts x = (ts.length : Int)) && decide (0 < ts.length)) by unfold rchkB; rw [q, decide_eq_true a0, Bool.true_and, Bool.true_and])
    clear q a0
    go_wp2_with fail
    refine (rend_any A T cap cT rs ts hr ht (sizeR x) ok x _ _ (Nat.le_refl _) HR.out HT.out HX.out).mono ?_
    rintro e w2 ⟨rfl, hb⟩
    have HB := Lib.hid (HB.out.trans (hb.mono HB.out.size))
    clear hb c0 c1 c2
    by_cases e0 : endR rs ts x = (ts.length : Int)
    · rw [decide_eq_true e0, Bool.true_and] at E
      have e1 : (endR rs ts x == (ts.length : Int)) = true := beq_iff_eq.2 e0
      generalize endR rs ts x = k at *
      clear e0
      go_wp2_with fail
      go_ret
      rw [E.out]
      exact ⟨rfl, HB.out⟩
    · rw [decide_eq_false e0, Bool.false_and] at E
      have e1 : (endR rs ts x == (ts.length : Int)) = false := beq_eq_false_iff_ne.2 e0
      generalize endR rs ts x = k at *
      clear e0
      go_wp2_with fail
      go_ret
      rw [E.out]
      exact ⟨rfl, HB.out⟩
  · have ha : (x.at_ == (0 : Int)) = false := beq_eq_false_iff_ne.2 a0
    have E := Lib.hid (show rchkB rs ts x = false by unfold rchkB; rw [decide_eq_false a0, Bool.false_and, Bool.and_false])
    clear q a0
    go_wp2_with fail
    go_ret
    rw [E.out]
    exact ⟨rfl, HB.out⟩
end Go.Proofs.Ytmhddlhlniajpaa
