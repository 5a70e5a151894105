/- RenderBrackets returns true for every input: the given statement, its listed tables tied to the text of the program. No condition of its own. -/
import Derived.Test.YtadcldfbmkfkaaaGreatDoorCards
import Derived.Test.YtadcldfbmkfkaaaGreatDoorTie
import Derived.SevenTiedAt
import Derived.Test.YtadcldfbmkfkaaaGreatDoorHeff10770
namespace Go.Proofs.YtadcldfbmkfkaaaGreatDoor
open At Ch Sp Sy El Rn
open Go.ChangeShapes Go.WideShapes Go.ChangeAt Go.WideMaps Go.WideElems Go.RowKit Go.Deep
set_option maxRecDepth 100000 in
theorem renderBrackets_lifted (os:Os)(started:os.Started)(H:Type)(enc:TypeId×Value→H):
  ReturnsInHanded {} Tryz.checked os 9 .any (fun w args=>(Rows.renderBracketsSpec.pre enc Tryz.prog Tryz.f9 [] false w args∧laidMetH Tryz.prog zOt w)∧sizedMet enc Tryz.prog Tryz.f9 (OpenSpec.ofChange Rows.renderBracketsSpec) false w args)
   (Rows.renderBracketsSpec.post enc Tryz.prog Tryz.f9 false true false false):=by
 refine zHo (C:=Tryz.checked) (X:=fun w _=>laidMetH Tryz.prog zOt w) (fun _ _ _ hh h=>h.of_heap hh) own started (by kernel_rfl) Tryz.func9
  (ChangeSpec.witness_shaped (enc:=enc) (C:=Tryz.checked) (os:=os) (X:=fun w _=>laidMetH Tryz.prog zOt w) false (World.laidAll Tryz.prog os zOt) #[.slice none 0 0,.agg #[.int .i64 0,.string ⟨#[]⟩,.string ⟨#[]⟩,.slice none 0 0,.string ⟨#[]⟩]] 8 (World.laidAll_os _ _ _) (World.shaped_of_ZipB (by kernel_rfl) (by kernel_rfl)) (by kernel_rfl) (by kernel_rfl) (by kernel_rfl) (zWk os _)) ?_
 intro W base args ds gs before hval0 hW hL hsh;have hval:∀(j:Nat) t v,Tryz.f9.params[j]?=some t→args[j]?=some v→Value.okWide Tryz.prog W .any base t v:=hval0;have hW':=hW;obtain⟨p,q,hA0,hV,rfl,hfz,hnd⟩:=hW;have hA:DataW.TrodAll enc Tryz.prog W 0 (fun _=>true) true Tryz.f9.params.toList args.toList ds p:=hA0;rw[Tryz.params9] at hA hval;obtain⟨v0,v1,d0,d1,p0,p1,rfl,rfl,rfl,h0,h1⟩:=trodAll_two hA;obtain⟨A0,rs0,cap0,rfl,hl0,hc0,hx0⟩:=zTb (hval 0 22 v0 rfl rfl) h0;obtain⟨t1,c1,rfl,hx1⟩:=zWg (hval 1 31 v1 rfl rfl) h1;refine(brackets_walk _ _ _ _ _ W hx0 hl0 hc0 hx1 (zUy hL).1 (zUy hL).2).mono fun e W' ⟨he,hb⟩=>⟨_,he,?_⟩
 exact zWy (tb:=4) (by kernel_rfl) (by kernel_rfl) rfl (by kernel_rfl) Tryz.underlying4 hW' rfl rfl rfl hb
theorem renderBrackets_holds:Rows.RenderBracketsSaid:=
 OpenClaim.holds_of_wide 9 Tryz.f9 rfl rfl rfl rfl rfl rfl rfl ⟨rfl,rfl,rfl,rfl,rfl⟩ rfl rfl rfl rfl rfl (by kernel_rfl) Tryz.func9 (by kernel_rfl)
  (of_decide_eq_true (by kernel_rfl)) (by unfold Func.isWrapper;first|(rw[if_pos (by decide+kernel)];kernel_rfl)|(rw[if_neg (by decide+kernel)];exact⟨rfl,rfl⟩))
  (fun os started H enc _=>renderBrackets_lifted os started H enc)
theorem renderBrackets_card:Rows.RenderBracketsCardSaid:=
 Claim7.holds_tied_plain_at .later [] [.data,.data,.data,.sentinel,.sentinel] true (true, "f881f5d854970f85b1e8adb2263bb95f6afe17840423779969cfcf338e86900a") true
  renderBrackets_holds (fun _ h=>by cases h) (by kernel_rfl) (fun _ h=>by cases h) renderBrackets_row_tie rfl ⟨rfl,rfl⟩ (by kernel_rfl) rfl
  (fun f fn hf hfn=>by
   obtain rfl:f=9:=sj ((show Tryz.prog.funcNamed "vinculum/vinculumlaw52.RenderBrackets" =some 9 by kernel_rfl).symm.trans hf)|>.symm
   obtain rfl:fn=Tryz.f9:=(sj (Tryz.func9.symm.trans hfn)).symm;exact⟨by kernel_rfl,fun j t ht=>by
    rw[Tryz.params9] at ht;have hm:t∈[22,31]:=by simpa using Array.mem_of_getElem? ht
    have hall:([22,31].all fun u=> !Tryz.prog.wantsStandIn u)=true:=by kernel_rfl
    exact(show Tryz.prog.wantsStandIn t=false by simpa using List.all_eq_true.1 hall t hm)⟩)
  (by kernel_rfl)
#print axioms renderBrackets_card
end Go.Proofs.YtadcldfbmkfkaaaGreatDoor
