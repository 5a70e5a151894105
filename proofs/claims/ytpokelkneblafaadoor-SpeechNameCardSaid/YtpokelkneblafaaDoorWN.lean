/- SpeechName's law returns true. -/
import Derived.Test.YtpokelkneblafaaDoorTX
namespace Go.Proofs.YtpokelkneblafaaDoor
open Go.RowKit
set_option maxRecDepth 100000 in
set_option maxHeartbeats 800000 in
theorem name_walk (s : ByteArray) (w : World) (hG : Glb w.heap.size w) (hs : s.size ≤ 9223372036854775807) : Calls Tryd.prog 4 #[.string s] w fun e w' => e = .returned (.bool true) ∧ Below w.heap.size w w' := by
  have HA := Lib.hid (awake_any w.heap.size w hG (Nat.le_refl _))
  have HN := Lib.hid (fun w => name_any s w hs)
  have HR := Lib.hid (fun w => rname_any s w hs)
  clear hG
  generalize nameS s = ns at *
  have hq : (ns.toList == ns.toList) = true := beq_self_eq_true _
  go_enter Tryd.func4, Tryd.ntmps4
  go_wp2_with fail
  refine HA.out.mono ?_
  rintro e w1 ⟨rfl, hb⟩
  have HB := Lib.hid hb
  clear hb
  go_wp2_with fail
  refine (HN.out _).mono ?_
  rintro e w2 ⟨rfl, hb⟩
  replace HB := Lib.hid (HB.out.trans (hb.mono HB.out.size))
  clear hb
  go_wp2_with fail
  refine (HR.out _).mono ?_
  rintro e w3 ⟨rfl, hb⟩
  replace HB := Lib.hid (HB.out.trans (hb.mono HB.out.size))
  clear hb
  go_wp2_with fail
  go_ret
  exact ⟨rfl, HB.out⟩
end Go.Proofs.YtpokelkneblafaaDoor
