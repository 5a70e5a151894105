/- GrammarBegins returns true for every list of rules and every number: the given statement, its listed tables tied to the text of the program. No condition of its own. -/
import Derived.Test.YtgkfmeagpmjcoaaDoorR
import Derived.Test.YtgkfmeagpmjcoaaDoorCards
import Derived.Test.YtgkfmeagpmjcoaaDoorTie
import Derived.SevenTiedAt
import Derived.Test.YtgkfmeagpmjcoaaDoorLB
namespace Go.Proofs.YtgkfmeagpmjcoaaDoor
open Go.ChangeShapes Go.WideShapes Go.ChangeAt Go.WideMaps Go.WideElems Go.RowKit
set_option maxRecDepth 100000 in
theorem grammarBegins_lifted (os : Os) (started : os.Started) (H : Type) (enc : TypeId × Value → H) :
    ReturnsInHanded {} Tryd.checked os 3 .any (fun w args => (Rows.grammarBeginsSpec.pre enc Tryd.prog Tryd.f3 [] false w args ∧ laidMetH Tryd.prog laid3 w) ∧ sizedMet enc Tryd.prog Tryd.f3 (OpenSpec.ofChange Rows.grammarBeginsSpec) false w args)
      (Rows.grammarBeginsSpec.post enc Tryd.prog Tryd.f3 false true false false) := by
  refine returnsInHanded_of_change_and (C := Tryd.checked) (X := fun w _ => laidMetH Tryd.prog laid3 w) (fun _ _ _ hh h => h.of_heap hh) own started (by kernel_rfl) Tryd.func3
    (ChangeSpec.witness_shaped (enc := enc) (C := Tryd.checked) (os := os) (X := fun w _ => laidMetH Tryd.prog laid3 w) false (World.doorLaid Tryd.prog 400 os) #[.slice none 0 0, .int .u8 0] 8 rfl (World.shaped_of_RefB (by kernel_rfl) (by kernel_rfl)) (by kernel_rfl) (by kernel_rfl) (by kernel_rfl) (door_met os _)) ?_
  intro W base args ds gs before hval0 hW _ _ hL _
  have hval : ∀ (j : Nat) t v, Tryd.f3.params[j]? = some t → args[j]? = some v → Value.okWide Tryd.prog W .any base t v := hval0
  have hW' := hW
  obtain ⟨p, q, hA0, hV, rfl, hfz, hnd⟩ := hW
  have hA : DataW.TrodAll enc Tryd.prog W 0 (fun _ => true) true Tryd.f3.params.toList args.toList ds p := hA0
  rw [Tryd.params3] at hA hval
  obtain ⟨v0, v1, d0, d1, p0, p1, rfl, rfl, rfl, h0, h1⟩ := trodAll_two hA
  obtain ⟨A0, rs0, cap0, rfl, hc0, hm0, hR0⟩ := open_ruls (hval 0 22 v0 rfl rfl) h0
  obtain ⟨n, rfl, rfl, rfl, wn⟩ := open_int Tryd.underlying5 (hval 1 5 v1 rfl rfl) h1
  have bn := bounds_u8 wn
  refine (begins_walk A0 cap0 rs0 n W (tab_of hL) hR0 hc0 hm0 bn.1 bn.2).mono fun e W' ⟨he, hb⟩ => ⟨_, he, ?_⟩
  exact law_post (tb := 4) (by kernel_rfl) (by kernel_rfl) rfl (by kernel_rfl) Tryd.underlying4 hW' rfl rfl rfl hb
theorem grammarBegins_holds : Rows.GrammarBeginsSaid :=
  OpenClaim.holds_of_wide 3 Tryd.f3 rfl rfl rfl rfl rfl rfl rfl ⟨rfl, rfl, rfl, rfl, rfl⟩ rfl rfl rfl rfl rfl (by kernel_rfl) Tryd.func3 (by kernel_rfl)
    (of_decide_eq_true (by kernel_rfl)) (by unfold Func.isWrapper; first | (rw [if_pos (by decide +kernel)]; kernel_rfl) | (rw [if_neg (by decide +kernel)]; exact ⟨rfl, rfl⟩))
    (fun os started H enc _ => grammarBegins_lifted os started H enc)
theorem grammarBegins_card : Rows.GrammarBeginsCardSaid :=
  Claim7.holds_tied_plain_at .later [] [.data, .data, .data] true (true, "f1fca3ccbe910d388a4d655d421fb1718e54fe2c9efe95ae8fac2d37ccb94e25") false
    grammarBegins_holds (fun _ h => by cases h) (by kernel_rfl) (fun _ h => by cases h) grammarBegins_row_tie rfl ⟨rfl, rfl⟩ (by kernel_rfl) rfl
    (fun f fn hf hfn => by
      obtain rfl : f = 3 := Option.some.inj ((show Tryd.prog.funcNamed "vinculum/vinculumlaw49.GrammarBegins" = some 3 by kernel_rfl).symm.trans hf) |>.symm
      obtain rfl : fn = Tryd.f3 := (Option.some.inj (Tryd.func3.symm.trans hfn)).symm
      exact ⟨by kernel_rfl, fun j t ht => by
        rw [Tryd.params3] at ht
        have hm : t ∈ [22, 5] := by simpa using Array.mem_of_getElem? ht
        have hall : ([22, 5].all fun u => !Tryd.prog.wantsStandIn u) = true := by kernel_rfl
        exact (show Tryd.prog.wantsStandIn t = false by simpa using List.all_eq_true.1 hall t hm)⟩)
    (by kernel_rfl)
#print axioms grammarBegins_card
end Go.Proofs.YtgkfmeagpmjcoaaDoor
