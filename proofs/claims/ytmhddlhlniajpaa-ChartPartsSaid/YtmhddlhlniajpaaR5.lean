/- ChartParts returns true for every rules, two lists of tokens and every number: the given statement. No condition of its own. -/
import Derived.Test.YtmhddlhlniajpaaLR
import Derived.Test.YtmhddlhlniajpaaW5
namespace Go.Proofs.Ytmhddlhlniajpaa
open Go.ChangeShapes Go.WideShapes Go.ChangeAt Go.WideMaps Go.WideElems Go.RowKit
set_option maxRecDepth 100000 in
theorem chartParts_lifted (os : Os) (started : os.Started) (H : Type) (enc : TypeId × Value → H) :
    ReturnsInHanded {} Try.checked os 5 .any (Rows.chartPartsSpec.pre6 enc Try.prog Try.f5 Rows.chartPartsRow.domain false) (Rows.chartPartsSpec.post enc Try.prog Try.f5 false true false false) := by
  refine returnsInHanded_of_change (C := Try.checked) own started (by kernel_rfl) Try.func5
    (ChangeSpec.witness6 (enc := enc) (C := Try.checked) false ⟨#[], #[.slice none 0 0, .agg #[.slice none 0 0, .slice none 0 0], .int .u8 0], []⟩ 8 (by kernel_rfl) (by kernel_rfl) (by kernel_rfl) (by kernel_rfl)) ?_
  intro W base args ds gs before hval0 hW _ _
  have hval : ∀ (j : Nat) t v, Try.f5.params[j]? = some t → args[j]? = some v → Value.okWide Try.prog W .any base t v := hval0
  have hW' := hW
  obtain ⟨p, q, hA0, hV, rfl, hfz, hnd⟩ := hW
  have hA : DataW.TrodAll enc Try.prog W 0 (fun _ => true) true Try.f5.params.toList args.toList ds p := hA0
  rw [Try.params5] at hA hval
  obtain ⟨v0, v1, v2, d0, d1, d2, p0, p1, p2, rfl, rfl, rfl, h0, h1, h2⟩ := trodAll_three hA
  obtain ⟨A0, rs0, cap0, rfl, hl0, hm0, hE0⟩ := arg_rules (hval 0 22 v0 rfl rfl) h0
  obtain ⟨A1, B1, ts1, us1, ca1, cb1, rfl, ka1, kb1, kc1, kd1, hE1, hF1⟩ := arg_two (hval 1 39 v1 rfl rfl) h1
  obtain ⟨n2, rfl, rfl, rfl, wn2⟩ := open_int Try.underlying5 (hval 2 5 v2 rfl rfl) h2
  have bn2 := bounds_u8 wn2
  obtain ⟨m2, rfl⟩ : ∃ m : Nat, n2 = m := ⟨n2.toNat, by omega⟩
  refine (parts_walk A0 A1 B1 cap0 ca1 cb1 m2 rs0 ts1 us1 W hE0 hE1 hF1 hl0 hm0 ka1 kb1 kc1 kd1 (by omega)).mono fun e W' ⟨he, hb⟩ => ⟨_, he, ?_⟩
  exact law_post (tb := 4) (by kernel_rfl) (by kernel_rfl) rfl (by kernel_rfl) Try.underlying4 hW' rfl rfl rfl hb
theorem chartParts_holds : Rows.ChartPartsSaid :=
  OpenClaim.holds_of_wide 5 Try.f5 rfl rfl rfl rfl rfl rfl rfl ⟨rfl, rfl, rfl, rfl, rfl⟩ rfl rfl rfl rfl rfl (by kernel_rfl) Try.func5 (by kernel_rfl)
    (of_decide_eq_true (by kernel_rfl)) (by unfold Func.isWrapper; first | (rw [if_pos (by decide +kernel)]; kernel_rfl) | (rw [if_neg (by decide +kernel)]; exact ⟨rfl, rfl⟩))
    (fun os started H enc _ => chartParts_lifted os started H enc)
#print axioms chartParts_holds
end Go.Proofs.Ytmhddlhlniajpaa
