/- ElaborateWitnesses returns true for every input: the given statement, its listed tables tied to the text of the program. No condition of its own. -/
import Derived.Test.YtapgncbegadbnaaGreatDoorCards
import Derived.Test.YtapgncbegadbnaaGreatDoorTie
import Derived.SevenTiedAt
import Derived.Test.YtapgncbegadbnaaGreatDoorH8f0a1e05
import Derived.Test.YtapgncbegadbnaaGreatDoorH3c117ef6
set_option maxRecDepth 100000
namespace Go.Proofs.YtapgncbegadbnaaGreatDoor
open At Ch Sp Sy El Rn
open Go.ChangeShapes Go.WideShapes Go.ChangeAt Go.WideMaps Go.WideElems Go.RowKit Go.Deep
theorem elaborateWitnesses_lifted (os:Os)(started:os.Started)(H:Type)(enc:TypeId×Value->H):
  ReturnsInHanded {} Tryz.checked os 3 .any (fun w args=>(Rows.elaborateWitnessesSpec.pre enc Tryz.prog Tryz.f3 [] false w args/\laidMetH Tryz.prog zSk w)/\sizedMet enc Tryz.prog Tryz.f3 (OpenSpec.ofChange Rows.elaborateWitnessesSpec) false w args)
   (Rows.elaborateWitnessesSpec.post enc Tryz.prog Tryz.f3 false true false false):=by
 refine zId (C:=Tryz.checked) (X:=fun w _=>laidMetH Tryz.prog zSk w) (fun _ _ _ hh h=>h.of_heap hh) own started (by kernel_rfl) Tryz.func3
  (ChangeSpec.witness_shaped (enc:=enc) (C:=Tryz.checked) (os:=os) (X:=fun w _=>laidMetH Tryz.prog zSk w) false (World.laidAll Tryz.prog os zSk) #[qN,.agg qZ] 8 (World.laidAll_os _ _ _) (World.shaped_of_ZipB (by kernel_rfl) (by kernel_rfl)) (by kernel_rfl) (by kernel_rfl) (by kernel_rfl) (yCh os _)) ?_
 intro W base args ds gs before hval0 hW hL hsh;have hval:∀(j:Nat) t v,Tryz.f3.params[j]?=some t->args[j]?=some v->Value.okWide Tryz.prog W .any base t v:=hval0;have hW':=hW;obtain⟨p,q,hA0,hV,rfl,hfz,hnd⟩:=hW;have hA:DataW.TrodAll enc Tryz.prog W 0 (fun _=>true) true Tryz.f3.params.toList args.toList ds p:=hA0;rw[Tryz.params3] at hA hval;obtain⟨v0,v1,d0,d1,p0,p1,rfl,rfl,rfl,h0,h1⟩:=trodAll_two hA;obtain⟨A0,rs0,cap0,rfl,hl0,hc0,hx0⟩:=zWi (hval 0 22 v0 rfl rfl) h0;obtain⟨t1,c1,rfl,hx1⟩:=zYd (hval 1 25 v1 rfl rfl) h1;refine(zY6 _ _ _ _ _ W hx0 hl0 hc0 hx1).mono fun e W' ⟨he,hb⟩=>⟨_,he,?_⟩
 exact zZv (tb:=4) (by kernel_rfl) (by kernel_rfl) rfl (by kernel_rfl) Tryz.underlying4 hW' rfl rfl rfl hb
theorem elaborateWitnesses_holds:Rows.ElaborateWitnessesSaid:=
 OpenClaim.holds_of_wide 3 Tryz.f3 rfl rfl rfl rfl rfl rfl rfl ⟨rfl,rfl,rfl,rfl,rfl⟩ rfl rfl rfl rfl rfl (by kernel_rfl) Tryz.func3 (by kernel_rfl)
  (of_decide_eq_true (by kernel_rfl)) (by unfold Func.isWrapper;first|(rw[if_pos (by decide+kernel)];kernel_rfl)|(rw[if_neg (by decide+kernel)];exact⟨rfl,rfl⟩))
  (fun os started H enc _=>elaborateWitnesses_lifted os started H enc)
theorem elaborateWitnesses_card:Rows.ElaborateWitnessesCardSaid:=
 Claim7.holds_tied_plain_at .later [] [.data,.data,.data] true (true, "5f15d1ea43201bfa3147d1354f564a6b5ffcf1e85746d2830379622dc2f40e23") false
  elaborateWitnesses_holds (fun _ h=>by cases h) (by kernel_rfl) (fun _ h=>by cases h) elaborateWitnesses_row_tie rfl ⟨rfl,rfl⟩ (by kernel_rfl) rfl
  (fun f fn hf hfn=>by
   obtain rfl:f=3:=sj ((show Tryz.prog.funcNamed "vinculum/vinculumlaw51.ElaborateWitnesses" =some 3 by kernel_rfl).symm.trans hf)|>.symm
   obtain rfl:fn=Tryz.f3:=(sj (Tryz.func3.symm.trans hfn)).symm;exact⟨by kernel_rfl,fun j t ht=>by
    rw[Tryz.params3] at ht;have hm:t∈[22,25]:=by simpa using Array.mem_of_getElem? ht
    have hall:([22,25].all fun u=> !Tryz.prog.wantsStandIn u)=true:=by kernel_rfl
    exact(show Tryz.prog.wantsStandIn t=false by simpa using List.all_eq_true.1 hall t hm)⟩)
  (by kernel_rfl)
#print axioms elaborateWitnesses_card
end Go.Proofs.YtapgncbegadbnaaGreatDoor
