/- awake returns true, in every world whose table of powers of ten is as the library lays it. -/
import Derived.Test.YtlfapncbkgpclaaDoorT
import Derived.Test.YtlfapncbkgpclaaDoorG
namespace Go.Proofs.YtlfapncbkgpclaaDoor
open Go.RowKit
theorem text_awake : textB ⟨2, 1, -3, 0, 0, 0, 0⟩ = ⟨#[109, 94, 50, 32, 107, 103, 32, 115, 94, 45, 51]⟩ := by
  have i2 : Lib.itoa 2 = [50] := by unfold Lib.itoa; rw [if_neg (by decide)]; exact Lib.decDigits_one (i := 2) (by decide)
  have i3 : Lib.itoa (-3) = [45, 51] := by unfold Lib.itoa; rw [if_pos (by decide)]; exact congrArg (45 :: ·) (Lib.decDigits_one (i := 3) (by decide))
  have p : partsOf ⟨2, 1, -3, 0, 0, 0, 0⟩ 7 = [bs0 ++ ⟨#[94]⟩ ++ ⟨#[50]⟩, bs1, bs2 ++ ⟨#[94]⟩ ++ ⟨#[45, 51]⟩] := by
    simp [partsOf, partOf, D7.at, i2, i3, baseB]
  unfold textB
  rw [p, if_neg (by simp)]
  decide +kernel
set_option maxHeartbeats 400000 in
theorem awake_any (w : World) (ht : Tab w) : Calls Tryd.prog 11 #[] w fun e w' => e = .returned (.bool true) ∧ Below w.heap.size w w' := by
  go_enter Tryd.func11, Tryd.ntmps11
  go_wp2_with fail
  refine (text_ok ⟨2, 1, -3, 0, 0, 0, 0⟩ _ (by decide) ht).mono ?_
  rintro e w1 ⟨rfl, hb⟩
  rw [text_awake]
  go_wp2_with fail
  go_ret
  exact ⟨rfl, hb⟩
theorem awake_of (w : World) (ht : Tab w) : Awake w := fun w' hb => awake_any w' fun w2 hb2 => ht w2 (hb.trans (hb2.mono hb.size))
#print axioms awake_of
end Go.Proofs.YtlfapncbkgpclaaDoor
