/- AtomStyles returns true for every font, pair of classes and pair of levels: the given statement. No condition of its own. -/
import Derived.Test.YtgoafobhhmeppaaLR
import Derived.Test.YtgoafobhhmeppaaRO
import Derived.Test.YtgoafobhhmeppaaLY
namespace Go.Proofs.Ytgoafobhhmeppaa
open Go.ChangeShapes Go.WideShapes Go.ChangeAt Go.WideMaps Go.WideElems Go.RowKit
set_option maxRecDepth 100000 in
theorem atomStyles_lifted (os : Os) (started : os.Started) (H : Type) (enc : TypeId × Value → H) :
    ReturnsInHanded {} Try.checked os 9 .any (Rows.atomStylesSpec.pre6 enc Try.prog Try.f9 Rows.atomStylesRow.domain false) (Rows.atomStylesSpec.post enc Try.prog Try.f9 false true false false) := by
  refine returnsInHanded_of_change (C := Try.checked) own started (by kernel_rfl) Try.func9
    (ChangeSpec.witness6 (enc := enc) (C := Try.checked) false ⟨#[], #[.agg (fontC none 0 0 none 0 0 (fun _ => 0)), .agg #[.int .u8 0, .int .u8 0], .agg #[.int .u8 0, .int .u8 0]], []⟩ 8 (by kernel_rfl) (by kernel_rfl) (by kernel_rfl) (by kernel_rfl)) ?_
  intro W base args ds gs before hval0 hW _ _
  have hval : ∀ (j : Nat) t v, Try.f9.params[j]? = some t → args[j]? = some v → Value.okWide Try.prog W .any base t v := hval0
  have hW' := hW
  obtain ⟨p, q, hA0, hV, rfl, hfz, hnd⟩ := hW
  have hA : DataW.TrodAll enc Try.prog W 0 (fun _ => true) true Try.f9.params.toList args.toList ds p := hA0
  rw [Try.params9] at hA hval
  obtain ⟨v0, v1, v2, d0, d1, d2, p0, p1, p2, rfl, rfl, rfl, h0, h1, h2⟩ := trodAll_three hA
  obtain ⟨A0, gs0, c0, B0, ss0, d0, q0, rfl, hF0⟩ := arg_font (hval 0 42 v0 rfl rfl) h0
  obtain ⟨a1, b1, rfl, ha1, hb1⟩ := arg_u8s (hval 1 54 v1 rfl rfl) h1
  obtain ⟨a2, b2, rfl, ha2, hb2⟩ := arg_u8s (hval 2 54 v2 rfl rfl) h2
  refine (styles_walk A0 c0 B0 d0 q0 gs0 ss0 a1 b1 a2 b2 W ha1 hb1 ha2 hb2 hF0).mono fun e W' ⟨he, hb⟩ => ⟨_, he, ?_⟩
  exact law_post (tb := 4) (by kernel_rfl) (by kernel_rfl) rfl (by kernel_rfl) Try.underlying4 hW' rfl rfl rfl hb
theorem atomStyles_holds : Rows.AtomStylesSaid :=
  OpenClaim.holds_of_wide 9 Try.f9 rfl rfl rfl rfl rfl rfl rfl ⟨rfl, rfl, rfl, rfl, rfl⟩ rfl rfl rfl rfl rfl (by kernel_rfl) Try.func9 (by kernel_rfl)
    (of_decide_eq_true (by kernel_rfl)) (by unfold Func.isWrapper; first | (rw [if_pos (by decide +kernel)]; kernel_rfl) | (rw [if_neg (by decide +kernel)]; exact ⟨rfl, rfl⟩))
    (fun os started H enc _ => atomStyles_lifted os started H enc)
#print axioms atomStyles_holds
end Go.Proofs.Ytgoafobhhmeppaa
