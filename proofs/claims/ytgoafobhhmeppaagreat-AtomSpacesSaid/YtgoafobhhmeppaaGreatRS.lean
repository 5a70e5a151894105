/- AtomSpaces returns true for every font, row of items with a dictionary and style: the given statement. No condition of its own. -/
import Derived.Test.YtgoafobhhmeppaaGreatLR
import Derived.Test.YtgoafobhhmeppaaGreatRO
import Derived.Test.YtgoafobhhmeppaaGreatWS
namespace Go.Proofs.YtgoafobhhmeppaaGreat
open Go.ChangeShapes Go.WideShapes Go.ChangeAt Go.WideMaps Go.WideElems Go.RowKit
set_option maxRecDepth 100000 in
theorem atomSpaces_lifted (os : Os) (started : os.Started) (H : Type) (enc : TypeId × Value → H) :
    ReturnsInHanded {} Tryz.checked os 3 .any (Rows.atomSpacesSpec.pre6 enc Tryz.prog Tryz.f3 Rows.atomSpacesRow.domain false) (Rows.atomSpacesSpec.post enc Tryz.prog Tryz.f3 false true false false) := by
  refine returnsInHanded_of_change (C := Tryz.checked) own started (by kernel_rfl) Tryz.func3
    (ChangeSpec.witness6 (enc := enc) (C := Tryz.checked) false ⟨#[], #[.agg (fontC none 0 0 none 0 0 (fun _ => 0)), .agg #[.slice none 0 0, .slice none 0 0], .agg #[.int .i64 0, .bool false]], []⟩ 8 (by kernel_rfl) (by kernel_rfl) (by kernel_rfl) (by kernel_rfl)) ?_
  intro W base args ds gs before hval0 hW _ _
  have hval : ∀ (j : Nat) t v, Tryz.f3.params[j]? = some t → args[j]? = some v → Value.okWide Tryz.prog W .any base t v := hval0
  have hW' := hW
  obtain ⟨p, q, hA0, hV, rfl, hfz, hnd⟩ := hW
  have hA : DataW.TrodAll enc Tryz.prog W 0 (fun _ => true) true Tryz.f3.params.toList args.toList ds p := hA0
  rw [Tryz.params3] at hA hval
  obtain ⟨v0, v1, v2, d0, d1, d2, p0, p1, p2, rfl, rfl, rfl, h0, h1, h2⟩ := trodAll_three hA
  obtain ⟨B0, gs0, c0, C0, ss0, d0, q0, rfl, hF0⟩ := arg_font (hval 0 27 v0 rfl rfl) h0
  obtain ⟨A1, A2, cap1, cap2, es1, ts1, rfl, hE1, hK1, hl1, hm1⟩ := arg_line (hval 1 31 v1 rfl rfl) h1
  obtain ⟨lv2, cr2, rfl⟩ := arg_style (hval 2 33 v2 rfl rfl) h2
  refine (spaces_walk B0 c0 C0 d0 q0 gs0 ss0 A1 A2 cap1 cap2 es1 ts1 lv2 cr2 W hE1 hK1 hl1 hm1 hF0).mono fun e W' ⟨he, hb⟩ => ⟨_, he, ?_⟩
  exact law_post (tb := 4) (by kernel_rfl) (by kernel_rfl) rfl (by kernel_rfl) Tryz.underlying4 hW' rfl rfl rfl hb
theorem atomSpaces_holds : Rows.AtomSpacesSaid :=
  OpenClaim.holds_of_wide 3 Tryz.f3 rfl rfl rfl rfl rfl rfl rfl ⟨rfl, rfl, rfl, rfl, rfl⟩ rfl rfl rfl rfl rfl (by kernel_rfl) Tryz.func3 (by kernel_rfl)
    (of_decide_eq_true (by kernel_rfl)) (by unfold Func.isWrapper; first | (rw [if_pos (by decide +kernel)]; kernel_rfl) | (rw [if_neg (by decide +kernel)]; exact ⟨rfl, rfl⟩))
    (fun os started H enc _ => atomSpaces_lifted os started H enc)
#print axioms atomSpaces_holds
end Go.Proofs.YtgoafobhhmeppaaGreat
