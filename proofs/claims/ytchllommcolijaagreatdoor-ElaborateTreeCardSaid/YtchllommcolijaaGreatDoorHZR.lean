/- ElaborateTree returns true for every input: the given statement, its listed tables tied to the text of the program. No condition of its own. -/
import Derived.Test.YtchllommcolijaaGreatDoorCards
import Derived.Test.YtchllommcolijaaGreatDoorTie
import Derived.SevenTiedAt
import Derived.Test.YtchllommcolijaaGreatDoorHf96705b0
import Derived.Test.YtchllommcolijaaGreatDoorH1a419e60
namespace Go.Proofs.YtchllommcolijaaGreatDoor
open At Ch Sp Sy El
open Go.ChangeShapes Go.WideShapes Go.ChangeAt Go.WideMaps Go.WideElems Go.RowKit Go.Deep
set_option maxRecDepth 100000 in
theorem elaborateTree_lifted (os:Os)(started:os.Started)(H:Type)(enc:TypeId×Value→H):
  ReturnsInHanded {} Tryz.checked os 3 .any (fun w args=>(Rows.elaborateTreeSpec.pre enc Tryz.prog Tryz.f3 [] false w args∧laidMetH Tryz.prog zRk w)∧sizedMet enc Tryz.prog Tryz.f3 (OpenSpec.ofChange Rows.elaborateTreeSpec) false w args)
   (Rows.elaborateTreeSpec.post enc Tryz.prog Tryz.f3 false true false false):=by
 refine zHh (C:=Tryz.checked) (X:=fun w _=>laidMetH Tryz.prog zRk w) (fun _ _ _ hh h=>h.of_heap hh) own started (by kernel_rfl) Tryz.func3
  (ChangeSpec.witness_shaped (enc:=enc) (C:=Tryz.checked) (os:=os) (X:=fun w _=>laidMetH Tryz.prog zRk w) false (World.laidAll Tryz.prog os zRk) #[.slice none 0 0,.agg #[.int .i64 0,.string ⟨#[]⟩,.int .i64 0,.slice none 0 0]] 8 (World.laidAll_os _ _ _) (World.shaped_of_ZipB (by kernel_rfl) (by kernel_rfl)) (by kernel_rfl) (by kernel_rfl) (by kernel_rfl) (zYp os _)) ?_
 intro W base args ds gs before hval0 hW hL hsh;have hval:∀(j:Nat) t v,Tryz.f3.params[j]?=some t→args[j]?=some v→Value.okWide Tryz.prog W .any base t v:=hval0;have hW':=hW;obtain⟨p,q,hA0,hV,rfl,hfz,hnd⟩:=hW;have hA:DataW.TrodAll enc Tryz.prog W 0 (fun _=>true) true Tryz.f3.params.toList args.toList ds p:=hA0;rw[Tryz.params3] at hA hval;obtain⟨v0,v1,d0,d1,p0,p1,rfl,rfl,rfl,h0,h1⟩:=trodAll_two hA;obtain⟨A0,rs0,cap0,rfl,hl0,hc0,hx0⟩:=zUt (hval 0 22 v0 rfl rfl) h0;obtain⟨t1,c1,rfl,hx1⟩:=zXb (hval 1 25 v1 rfl rfl) h1;refine(zV2 _ _ _ _ _ W hx0 hl0 hc0 hx1).mono fun e W' ⟨he,hb⟩=>⟨_,he,?_⟩
 exact zWi (tb:=4) (by kernel_rfl) (by kernel_rfl) rfl (by kernel_rfl) Tryz.underlying4 hW' rfl rfl rfl hb
theorem elaborateTree_holds:Rows.ElaborateTreeSaid:=
 OpenClaim.holds_of_wide 3 Tryz.f3 rfl rfl rfl rfl rfl rfl rfl ⟨rfl,rfl,rfl,rfl,rfl⟩ rfl rfl rfl rfl rfl (by kernel_rfl) Tryz.func3 (by kernel_rfl)
  (of_decide_eq_true (by kernel_rfl)) (by unfold Func.isWrapper;first|(rw[if_pos (by decide+kernel)];kernel_rfl)|(rw[if_neg (by decide+kernel)];exact⟨rfl,rfl⟩))
  (fun os started H enc _=>elaborateTree_lifted os started H enc)
theorem elaborateTree_card:Rows.ElaborateTreeCardSaid:=
 Claim7.holds_tied_plain_at .later [] [.data,.data,.data] true (true, "41c0550559862fa119e98ad1ff6e1b4c5107366ad04852a88bf96dc3d4ec076b") false
  elaborateTree_holds (fun _ h=>by cases h) (by kernel_rfl) (fun _ h=>by cases h) elaborateTree_row_tie rfl ⟨rfl,rfl⟩ (by kernel_rfl) rfl
  (fun f fn hf hfn=>by
   obtain rfl:f=3:=sj ((show Tryz.prog.funcNamed "vinculum/vinculumlaw51.ElaborateTree" =some 3 by kernel_rfl).symm.trans hf)|>.symm
   obtain rfl:fn=Tryz.f3:=(sj (Tryz.func3.symm.trans hfn)).symm;exact⟨by kernel_rfl,fun j t ht=>by
    rw[Tryz.params3] at ht;have hm:t∈[22,25]:=by simpa using Array.mem_of_getElem? ht
    have hall:([22,25].all fun u=> !Tryz.prog.wantsStandIn u)=true:=by kernel_rfl
    exact(show Tryz.prog.wantsStandIn t=false by simpa using List.all_eq_true.1 hall t hm)⟩)
  (by kernel_rfl)
#print axioms elaborateTree_card
end Go.Proofs.YtchllommcolijaaGreatDoor
