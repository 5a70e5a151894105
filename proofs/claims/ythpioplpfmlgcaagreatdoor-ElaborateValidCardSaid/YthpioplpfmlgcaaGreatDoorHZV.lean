/- ElaborateValid returns true for every input: the given statement, its listed tables tied to the text of the program. No condition of its own. -/
import Derived.Test.YthpioplpfmlgcaaGreatDoorCards
import Derived.Test.YthpioplpfmlgcaaGreatDoorTie
import Derived.SevenTiedAt
import Derived.Test.YthpioplpfmlgcaaGreatDoorH8bd25285
import Derived.Test.YthpioplpfmlgcaaGreatDoorHe283e6cb
namespace Go.Proofs.YthpioplpfmlgcaaGreatDoor
open Go.Proofs.YthpioplpfmlgcaaGreatDoor.At
open Go.Proofs.YthpioplpfmlgcaaGreatDoor.Ch
open Go.Proofs.YthpioplpfmlgcaaGreatDoor.Sp
open Go.Proofs.YthpioplpfmlgcaaGreatDoor.Sy
open Go.Proofs.YthpioplpfmlgcaaGreatDoor.El
open Go.ChangeShapes Go.WideShapes Go.ChangeAt Go.WideMaps Go.WideElems Go.RowKit Go.Deep
set_option maxRecDepth 100000 in
theorem elaborateValid_lifted (os : Os) (started : os.Started) (H : Type) (enc : TypeId × Value → H) :
    ReturnsInHanded {} Tryz.checked os 4 .any (fun w args => (Rows.elaborateValidSpec.pre enc Tryz.prog Tryz.f4 [] false w args ∧ laidMetH Tryz.prog laid3 w) ∧ sizedMet enc Tryz.prog Tryz.f4 (OpenSpec.ofChange Rows.elaborateValidSpec) false w args)
      (Rows.elaborateValidSpec.post enc Tryz.prog Tryz.f4 false true false false) := by
  refine change_and_shaped (C := Tryz.checked) (X := fun w _ => laidMetH Tryz.prog laid3 w) (fun _ _ _ hh h => h.of_heap hh) own started (by kernel_rfl) Tryz.func4
    (ChangeSpec.witness_shaped (enc := enc) (C := Tryz.checked) (os := os) (X := fun w _ => laidMetH Tryz.prog laid3 w) false (World.laidAll Tryz.prog os laid3) #[.slice none 0 0, .agg #[.int .i64 0, .string ⟨#[]⟩, .int .i64 0, .slice none 0 0]] 8 (World.laidAll_os _ _ _) (World.shaped_of_ZipB (by kernel_rfl) (by kernel_rfl)) (by kernel_rfl) (by kernel_rfl) (by kernel_rfl) (all_met os _)) ?_
  intro W base args ds gs before hval0 hW hL hsh
  have hval : ∀ (j : Nat) t v, Tryz.f4.params[j]? = some t → args[j]? = some v → Value.okWide Tryz.prog W .any base t v := hval0
  have hW' := hW
  obtain ⟨p, q, hA0, hV, rfl, hfz, hnd⟩ := hW
  have hA : DataW.TrodAll enc Tryz.prog W 0 (fun _ => true) true Tryz.f4.params.toList args.toList ds p := hA0
  rw [Tryz.params4] at hA hval
  obtain ⟨v0, v1, d0, d1, p0, p1, rfl, rfl, rfl, h0, h1⟩ := trodAll_two hA
  obtain ⟨A0, rs0, cap0, rfl, hl0, hc0, hx0⟩ := arg_rules (hval 0 22 v0 rfl rfl) h0
  obtain ⟨t1, c1, rfl, hx1⟩ := arg_node (hval 1 25 v1 rfl rfl) h1
  refine (valid_walk _ _ _ _ _ W hx0 hl0 hc0 hx1).mono fun e W' ⟨he, hb⟩ => ⟨_, he, ?_⟩
  exact law_post (tb := 4) (by kernel_rfl) (by kernel_rfl) rfl (by kernel_rfl) Tryz.underlying4 hW' rfl rfl rfl hb
theorem elaborateValid_holds : Rows.ElaborateValidSaid :=
  OpenClaim.holds_of_wide 4 Tryz.f4 rfl rfl rfl rfl rfl rfl rfl ⟨rfl, rfl, rfl, rfl, rfl⟩ rfl rfl rfl rfl rfl (by kernel_rfl) Tryz.func4 (by kernel_rfl)
    (of_decide_eq_true (by kernel_rfl)) (by unfold Func.isWrapper; first | (rw [if_pos (by decide +kernel)]; kernel_rfl) | (rw [if_neg (by decide +kernel)]; exact ⟨rfl, rfl⟩))
    (fun os started H enc _ => elaborateValid_lifted os started H enc)
theorem elaborateValid_card : Rows.ElaborateValidCardSaid :=
  Claim7.holds_tied_plain_at .later [] [.data, .data, .data] true (true, "db88f3536f67e7f95edd1372097ab306547b392cd6b76aec171ba1d7ccb5b76f") false
    elaborateValid_holds (fun _ h => by cases h) (by kernel_rfl) (fun _ h => by cases h) elaborateValid_row_tie rfl ⟨rfl, rfl⟩ (by kernel_rfl) rfl
    (fun f fn hf hfn => by
      obtain rfl : f = 4 := Option.some.inj ((show Tryz.prog.funcNamed "vinculum/vinculumlaw51.ElaborateValid" = some 4 by kernel_rfl).symm.trans hf) |>.symm
      obtain rfl : fn = Tryz.f4 := (Option.some.inj (Tryz.func4.symm.trans hfn)).symm
      exact ⟨by kernel_rfl, fun j t ht => by
        rw [Tryz.params4] at ht
        have hm : t ∈ [22, 25] := by simpa using Array.mem_of_getElem? ht
        have hall : ([22, 25].all fun u => !Tryz.prog.wantsStandIn u) = true := by kernel_rfl
        exact (show Tryz.prog.wantsStandIn t = false by simpa using List.all_eq_true.1 hall t hm)⟩)
    (by kernel_rfl)
#print axioms elaborateValid_card
end Go.Proofs.YthpioplpfmlgcaaGreatDoor
