/- The program's Check: the whole. -/
import Derived.Test.YtmhddlhlniajpaaCH
import Derived.Test.YtmhddlhlniajpaaRE
import Derived.Test.YtmhddlhlniajpaaLA
namespace Go.Proofs.Ytmhddlhlniajpaa
open Go.RowKit
def pchkB (rs : List Rul) (ts : List ByteArray) (x : Rd) : Bool := (validB rs && toksB ts) && chkR rs ts x 0 ts.length 0
set_option maxRecDepth 100000 in
set_option maxHeartbeats 4000000 in
theorem pcheck_any (A T : Option Addr) (cap cT : Nat) (rs : List Rul) (ts : List ByteArray) (ok : Nat → Prop) (x : Rd) (c : Array Value) (w : World) (hR : RulsAt w A rs) (hT : ToksAt w T ts) (hX : RdAt ok w x c) (hcl : rs.length ≤ cap) (hcap : cap ≤ 9223372036854775807) (ht : ts.length ≤ 1000000) : Calls Try.prog 19 #[.slice A rs.length cap, .slice T ts.length cT, .agg c] w fun e w' => e = .returned (.bool (pchkB rs ts x)) ∧ Below w.heap.size w w' := by
  obtain ⟨A', cap', rfl, hl, hc, hk⟩ := hX.form
  have hba := bel_alloc w (.cells (rdC x.rule x.at_ A' x.kids.length cap') 34)
  have k1 := Blk.new w 34 (rdC x.rule x.at_ A' x.kids.length cap')
  have HX := Lib.hid (show PtAt ok (w.alloc (.cells (rdC x.rule x.at_ A' x.kids.length cap') 34)) ⟨w.heap.size, 0, none⟩ x from ⟨k1.lt, A', cap', k1.cell 0, k1.cell 1, k1.cell 2, hl, hc, (show RdsAt ok w A' x.kids from hk).keep hba⟩)
  have HR := Lib.hid (hR.keep hba)
  have HT := Lib.hid (hT.keep hba)
  have HB := Lib.hid hba
  clear hX hba hR hT hk hl hc k1
  go_enter Try.func19, Try.ntmps19
  go_wp2_with fail
  refine (valid_any A cap rs _ HR.out hcl hcap).mono ?_
  rintro e w1 ⟨rfl, hb⟩
  have HX := Lib.hid (HX.out.keep hb)
  have HR := Lib.hid (HR.out.keep hb)
  have HT := Lib.hid (HT.out.keep hb)
  have HB := Lib.hid (HB.out.trans (hb.mono HB.out.size))
  clear hb
  cases q : validB rs
  · have E := Lib.hid (show pchkB rs ts x = false by unfold pchkB; rw [q]; rfl)
    clear q
    go_wp2_with fail
    go_ret
    rw [E.out]
    exact ⟨rfl, HB.out⟩
  go_wp2_with fail
  refine (tvalid_any T cT ts _ HT.out).mono ?_
  rintro e w2 ⟨rfl, hb⟩
  have HX := Lib.hid (HX.out.keep hb)
  have HR := Lib.hid (HR.out.keep hb)
  have HT := Lib.hid (HT.out.keep hb)
  have HB := Lib.hid (HB.out.trans (hb.mono HB.out.size))
  clear hb
  cases q2 : toksB ts
  · have E := Lib.hid (show pchkB rs ts x = false by unfold pchkB; rw [q2, Bool.and_false]; rfl)
    clear q q2
    go_wp2_with fail
    go_ret
    rw [E.out]
    exact ⟨rfl, HB.out⟩
  have E := Lib.hid (show pchkB rs ts x = chkR rs ts x 0 ts.length 0 by unfold pchkB; rw [q, q2]; rfl)
  clear q q2
  go_wp2_with fail
  refine (chk_any A T cap cT rs ts ht (sizeR x) ok x _ 0 ts.length 0 _ (Nat.le_refl _) HR.out HT.out HX.out (Nat.le_refl _)).mono ?_
  rintro e w3 ⟨rfl, hb⟩
  have HB := Lib.hid (HB.out.trans (hb.mono HB.out.size))
  clear hb
  go_wp2_with fail
  go_ret
  rw [E.out]
  exact ⟨rfl, HB.out⟩
end Go.Proofs.Ytmhddlhlniajpaa
