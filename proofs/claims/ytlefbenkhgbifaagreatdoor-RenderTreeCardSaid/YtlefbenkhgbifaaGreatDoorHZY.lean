/- RenderTree returns true for every input: the given statement, its listed tables tied to the text of the program. No condition of its own. -/
import Derived.Test.YtlefbenkhgbifaaGreatDoorCards
import Derived.Test.YtlefbenkhgbifaaGreatDoorTie
import Derived.SevenTiedAt
import Derived.Test.YtlefbenkhgbifaaGreatDoorH402f8323
set_option linter.all false
set_option maxRecDepth 100000
namespace Go.Proofs.YtlefbenkhgbifaaGreatDoor
open At Ch Sp Sy El Rn Go.Proofs.Tryz
open Go.ChangeShapes Go.WideShapes Go.ChangeAt Go.WideMaps Go.WideElems Go.RowKit Go.Deep
theorem renderTree_lifted (os:Os)(f:os.Started)(H:Type)(enc:TypeId×Value->H):
  ReturnsInHanded {} Tryz.checked os 3 .any (λw args=>(Rows.renderTreeSpec.pre enc prog Tryz.f3 [] false w args/\laidMetH prog Cw w)/\sizedMet enc prog Tryz.f3 (OpenSpec.ofChange Rows.renderTreeSpec) false w args)
   (Rows.renderTreeSpec.post enc prog Tryz.f3 false true false false):=by
 refine zJh (C:=Tryz.checked) (X:=λw _=>laidMetH prog Cw w) (λ_ _ _ g h=>h.of_heap g) own f aj func3
  (ChangeSpec.witness_shaped (enc:=enc) (C:=Tryz.checked) (os:=os) (X:=λw _=>laidMetH prog Cw w) false (World.laidAll prog os Cw) #[qN,.agg qT] 8 (World.laidAll_os _ _ _) (World.shaped_of_ZipB aj aj) aj aj aj (yBo os _)) ?_
 intro W base args i gs D k b c E;have a:∀(j:Nat) t v,Tryz.f3.params[j]?=some t->args[j]?=some v->Value.okWide prog W .any base t v:=k;have l:=b;obtain⟨p,q,m,F,rfl,G,I⟩:=b;have d:DataW.TrodAll enc prog W 0 (λ_=>true) true Tryz.f3.params.toList args.toList i p:=m;rw[Tryz.params3] at d a;obtain⟨n,o,J,K,L,M,rfl,rfl,rfl,r,s⟩:=trodAll_two d;obtain⟨N,O,P,rfl,u,x,y⟩:=zYw (a 0 22 n rfl rfl) r;obtain⟨Q,R,rfl,z⟩:=yCc (a 1 25 o rfl rfl) s;refine(rendert_walk _ _ _ _ _ W y u x z (QT c).1 (QT c).2).mono λe S ⟨A,B⟩=>⟨_,A,?_⟩
 exact yBx (tb:=4) aj aj rfl aj underlying4 l rfl rfl rfl B
theorem renderTree_holds:Rows.RenderTreeSaid:=
 OpenClaim.holds_of_wide 3 Tryz.f3 rfl rfl rfl rfl rfl rfl rfl ⟨rfl,rfl,rfl,rfl,rfl⟩ rfl rfl rfl rfl rfl aj func3 aj
  (bD aj) (by unfold Func.isWrapper;first|(rw[ak dW];kernel_rfl)|(rw[ai dW];exact⟨rfl,rfl⟩))
  (λa b H c _=>renderTree_lifted a b H c)
theorem renderTree_card:Rows.RenderTreeCardSaid:=
 Claim7.holds_tied_plain_at .later [] [.data,.data,.data,.sentinel,.sentinel] true (true, "1877e4d192a293e69d326666365f2dd1ede10e39a1568575dd60b057c83cfd62") true
  renderTree_holds (λ_ h=>by cases h) aj (λ_ h=>by cases h) renderTree_row_tie rfl ⟨rfl,rfl⟩ aj rfl
  (λf b c d=>by
   obtain rfl:f=3:=sj ((show prog.funcNamed "vinculum/vinculumlaw52.RenderTree" =some 3 from aj).symm.trans c)|>.symm
   obtain rfl:b=Tryz.f3:=(sj (func3.symm.trans d)).symm;exact⟨aj,λj t a=>by
    rw[Tryz.params3] at a;have e:t∈[22,25]:=by simpa using Array.mem_of_getElem? a
    have g:([22,25].all λu=> !prog.wantsStandIn u)=true:=aj
    exact(show prog.wantsStandIn t=false by simpa using cz.1 g t e)⟩)
  aj
#print axioms renderTree_card
end Go.Proofs.YtlefbenkhgbifaaGreatDoor
