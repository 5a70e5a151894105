/- AtomSpace returns true for every font, pair of classes and style: the given statement. No condition of its own. -/
import Derived.Test.YtgoafobhhmeppaaLR
import Derived.Test.YtgoafobhhmeppaaRO
import Derived.Test.YtgoafobhhmeppaaLW
namespace Go.Proofs.Ytgoafobhhmeppaa
open Go.ChangeShapes Go.WideShapes Go.ChangeAt Go.WideMaps Go.WideElems Go.RowKit
set_option maxRecDepth 100000 in
theorem atomSpace_lifted (os : Os) (started : os.Started) (H : Type) (enc : TypeId × Value → H) :
    ReturnsInHanded {} Try.checked os 5 .any (Rows.atomSpaceSpec.pre6 enc Try.prog Try.f5 Rows.atomSpaceRow.domain false) (Rows.atomSpaceSpec.post enc Try.prog Try.f5 false true false false) := by
  refine returnsInHanded_of_change (C := Try.checked) own started (by kernel_rfl) Try.func5
    (ChangeSpec.witness6 (enc := enc) (C := Try.checked) false ⟨#[], #[.agg (fontC none 0 0 none 0 0 (fun _ => 0)), .agg #[.int .i64 0, .int .i64 0], .agg #[.int .i64 0, .bool false]], []⟩ 8 (by kernel_rfl) (by kernel_rfl) (by kernel_rfl) (by kernel_rfl)) ?_
  intro W base args ds gs before hval0 hW _ _
  have hval : ∀ (j : Nat) t v, Try.f5.params[j]? = some t → args[j]? = some v → Value.okWide Try.prog W .any base t v := hval0
  have hW' := hW
  obtain ⟨p, q, hA0, hV, rfl, hfz, hnd⟩ := hW
  have hA : DataW.TrodAll enc Try.prog W 0 (fun _ => true) true Try.f5.params.toList args.toList ds p := hA0
  rw [Try.params5] at hA hval
  obtain ⟨v0, v1, v2, d0, d1, d2, p0, p1, p2, rfl, rfl, rfl, h0, h1, h2⟩ := trodAll_three hA
  obtain ⟨A0, gs0, c0, B0, ss0, d0, q0, rfl, hF0⟩ := arg_font (hval 0 42 v0 rfl rfl) h0
  obtain ⟨l1, r1, rfl⟩ := arg_ints (hval 1 43 v1 rfl rfl) h1
  obtain ⟨lv2, cr2, rfl⟩ := arg_style (hval 2 45 v2 rfl rfl) h2
  refine (space_walk A0 c0 B0 d0 q0 gs0 ss0 l1 r1 lv2 cr2 W hF0).mono fun e W' ⟨he, hb⟩ => ⟨_, he, ?_⟩
  exact law_post (tb := 4) (by kernel_rfl) (by kernel_rfl) rfl (by kernel_rfl) Try.underlying4 hW' rfl rfl rfl hb
theorem atomSpace_holds : Rows.AtomSpaceSaid :=
  OpenClaim.holds_of_wide 5 Try.f5 rfl rfl rfl rfl rfl rfl rfl ⟨rfl, rfl, rfl, rfl, rfl⟩ rfl rfl rfl rfl rfl (by kernel_rfl) Try.func5 (by kernel_rfl)
    (of_decide_eq_true (by kernel_rfl)) (by unfold Func.isWrapper; first | (rw [if_pos (by decide +kernel)]; kernel_rfl) | (rw [if_neg (by decide +kernel)]; exact ⟨rfl, rfl⟩))
    (fun os started H enc _ => atomSpace_lifted os started H enc)
#print axioms atomSpace_holds
end Go.Proofs.Ytgoafobhhmeppaa
