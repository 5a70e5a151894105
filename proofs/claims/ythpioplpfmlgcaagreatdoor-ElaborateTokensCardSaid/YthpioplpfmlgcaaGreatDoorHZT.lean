/- ElaborateTokens returns true for every input: the given statement, its listed tables tied to the text of the program. No condition of its own. -/
import Derived.Test.YthpioplpfmlgcaaGreatDoorCards
import Derived.Test.YthpioplpfmlgcaaGreatDoorTie
import Derived.SevenTiedAt
import Derived.Test.YthpioplpfmlgcaaGreatDoorH8bd25285
import Derived.Test.YthpioplpfmlgcaaGreatDoorH1068bd38
namespace Go.Proofs.YthpioplpfmlgcaaGreatDoor
open Go.Proofs.YthpioplpfmlgcaaGreatDoor.At
open Go.Proofs.YthpioplpfmlgcaaGreatDoor.Ch
open Go.Proofs.YthpioplpfmlgcaaGreatDoor.Sp
open Go.Proofs.YthpioplpfmlgcaaGreatDoor.Sy
open Go.Proofs.YthpioplpfmlgcaaGreatDoor.El
open Go.ChangeShapes Go.WideShapes Go.ChangeAt Go.WideMaps Go.WideElems Go.RowKit Go.Deep
set_option maxRecDepth 100000 in
theorem elaborateTokens_lifted (os : Os) (started : os.Started) (H : Type) (enc : TypeId × Value → H) :
    ReturnsInHanded {} Tryz.checked os 8 .any (fun w args => (Rows.elaborateTokensSpec.pre enc Tryz.prog Tryz.f8 [] false w args ∧ laidMetH Tryz.prog laid3 w) ∧ sizedMet enc Tryz.prog Tryz.f8 (OpenSpec.ofChange Rows.elaborateTokensSpec) false w args)
      (Rows.elaborateTokensSpec.post enc Tryz.prog Tryz.f8 false true false false) := by
  refine change_and_shaped (C := Tryz.checked) (X := fun w _ => laidMetH Tryz.prog laid3 w) (fun _ _ _ hh h => h.of_heap hh) own started (by kernel_rfl) Tryz.func8
    (ChangeSpec.witness_shaped (enc := enc) (C := Tryz.checked) (os := os) (X := fun w _ => laidMetH Tryz.prog laid3 w) false (World.laidAll Tryz.prog os laid3) #[.slice none 0 0, .slice none 0 0] 8 (World.laidAll_os _ _ _) (World.shaped_of_ZipB (by kernel_rfl) (by kernel_rfl)) (by kernel_rfl) (by kernel_rfl) (by kernel_rfl) (all_met os _)) ?_
  intro W base args ds gs before hval0 hW hL hsh
  have hval : ∀ (j : Nat) t v, Tryz.f8.params[j]? = some t → args[j]? = some v → Value.okWide Tryz.prog W .any base t v := hval0
  have hW' := hW
  obtain ⟨p, q, hA0, hV, rfl, hfz, hnd⟩ := hW
  have hA : DataW.TrodAll enc Tryz.prog W 0 (fun _ => true) true Tryz.f8.params.toList args.toList ds p := hA0
  rw [Tryz.params8] at hA hval
  obtain ⟨v0, v1, d0, d1, p0, p1, rfl, rfl, rfl, h0, h1⟩ := trodAll_two hA
  obtain ⟨A0, rs0, cap0, rfl, hl0, hc0, hx0⟩ := arg_rules (hval 0 22 v0 rfl rfl) h0
  obtain ⟨A1, ts1, cap1, rfl, hl1, hc1, hx1⟩ := arg_kids (hval 1 23 v1 rfl rfl) h1
  refine (tokens_walk _ _ _ _ _ _ W hx0 hl0 hc0 hx1 hl1 hc1).mono fun e W' ⟨he, hb⟩ => ⟨_, he, ?_⟩
  exact law_post (tb := 4) (by kernel_rfl) (by kernel_rfl) rfl (by kernel_rfl) Tryz.underlying4 hW' rfl rfl rfl hb
theorem elaborateTokens_holds : Rows.ElaborateTokensSaid :=
  OpenClaim.holds_of_wide 8 Tryz.f8 rfl rfl rfl rfl rfl rfl rfl ⟨rfl, rfl, rfl, rfl, rfl⟩ rfl rfl rfl rfl rfl (by kernel_rfl) Tryz.func8 (by kernel_rfl)
    (of_decide_eq_true (by kernel_rfl)) (by unfold Func.isWrapper; first | (rw [if_pos (by decide +kernel)]; kernel_rfl) | (rw [if_neg (by decide +kernel)]; exact ⟨rfl, rfl⟩))
    (fun os started H enc _ => elaborateTokens_lifted os started H enc)
theorem elaborateTokens_card : Rows.ElaborateTokensCardSaid :=
  Claim7.holds_tied_plain_at .later [] [.data, .data, .data] true (true, "db88f3536f67e7f95edd1372097ab306547b392cd6b76aec171ba1d7ccb5b76f") false
    elaborateTokens_holds (fun _ h => by cases h) (by kernel_rfl) (fun _ h => by cases h) elaborateTokens_row_tie rfl ⟨rfl, rfl⟩ (by kernel_rfl) rfl
    (fun f fn hf hfn => by
      obtain rfl : f = 8 := Option.some.inj ((show Tryz.prog.funcNamed "vinculum/vinculumlaw51.ElaborateTokens" = some 8 by kernel_rfl).symm.trans hf) |>.symm
      obtain rfl : fn = Tryz.f8 := (Option.some.inj (Tryz.func8.symm.trans hfn)).symm
      exact ⟨by kernel_rfl, fun j t ht => by
        rw [Tryz.params8] at ht
        have hm : t ∈ [22, 23] := by simpa using Array.mem_of_getElem? ht
        have hall : ([22, 23].all fun u => !Tryz.prog.wantsStandIn u) = true := by kernel_rfl
        exact (show Tryz.prog.wantsStandIn t = false by simpa using List.all_eq_true.1 hall t hm)⟩)
    (by kernel_rfl)
#print axioms elaborateTokens_card
end Go.Proofs.YthpioplpfmlgcaaGreatDoor
