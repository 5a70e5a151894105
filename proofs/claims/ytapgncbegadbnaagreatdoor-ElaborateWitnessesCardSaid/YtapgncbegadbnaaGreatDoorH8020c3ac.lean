/- all of the reference: rules of kind 1. -/
import Derived.Test.YtapgncbegadbnaaGreatDoorHcdb57c6b
set_option maxRecDepth 100000
set_option maxHeartbeats 8000000
namespace Go.Proofs.YtapgncbegadbnaaGreatDoor.Ch
open Go.RowKit
variable{P:Nat->Prop}{w w':World}{B a i j n:Nat}{xs l:List Rd}{css:List (Array Value)}{rs:List Rul}{ts:List ByteArray}
theorem AppR.any {P Q:Nat->Prop}{w:World}{B:Nat}{v:Value}{xs:List Rd}(h:AppR P w B v xs)(hok:∀b,b<w.heap.size->P b->Q b):AppR Q w B v xs:=OwnR.any h fun b hb h=>⟨h.1,hok b hb h.2⟩
theorem AppR.more {P:Nat->Prop}{w:World}{B B':Nat}{v:Value}{xs:List Rd}(h:AppR P w B v xs)(hB:B'<=B):AppR P w B' v xs:=OwnR.more h hB
theorem AppR.lt {P:Nat->Prop}{w:World}{B:Nat}{v:Value}{xs:List Rd}(h:AppR P w B v xs):∀r,v.ownBlock=some r->B<=r/\r<w.heap.size:=OwnR.lt h
theorem AppR.zGo {v v':Value}{ys:List Rd}{dss:List (Array Value)}(hl:css.length=xs.length)(h:∀(j:Nat) c x,css[j]?=some c->xs[j]?=some x->RdAt (fun b=>v.ownBlock≠some b/\P b) w x c)(hl2:dss.length=ys.length)(h2:∀(j:Nat) c x,dss[j]?=some c->ys[j]?=some x->RdAt (fun b=>v.ownBlock≠some b/\P b) w x c)(ho:w'.ownsRow B 42 3 v' (xs.length+ys.length) (css.flatMap (·.toList)++dss.flatMap (·.toList)))(hg:w.grownBy w' v.ownBlock)(hv:v'.ownBlock=v.ownBlock\/v'.ownBlock=some w.heap.size):AppR P w' B v' (xs++ys):=by
 have hok:∀b,b<w.heap.size->(v.ownBlock≠some b/\P b)->(v'.ownBlock≠some b/\P b):=fun b hb hok=>⟨by
  rcases hv with e|e
  ·rw[e];exact hok.1
  ·rw[e];intro h2;have:=sj h2;omega,hok.2⟩
 have hr:∀b,b<w.heap.size->(v.ownBlock≠some b/\P b)->some b≠v.ownBlock:=fun b _ hb e=>hb.1 e.symm
 refine⟨css++dss,?_,by simp[hl,hl2],fun j d y hj hy=>?_⟩
 ·rw[List.length_append,List.flatMap_append];exact ho
 ·rcases Nat.lt_or_ge j css.length with hlt|hge
  ·rw[List.getElem?_append_left hlt] at hj;rw[List.getElem?_append_left (by omega)] at hy;exact(h j d y hj hy).grown hg hr hok
  ·rw[List.getElem?_append_right hge] at hj;rw[List.getElem?_append_right (by omega),<-hl] at hy;exact(h2 _ d y hj hy).grown hg hr hok
theorem yBs {ok:Nat->Prop}(hl:css.length=xs.length)(h:∀(j:Nat) c x,css[j]?=some c->xs[j]?=some x->RdAt ok w x c):∀u∈css.flatMap (·.toList),u.oneCell'=true:=by
 intro u hu;obtain⟨c,hc,hu⟩:=List.mem_flatMap.1 hu;obtain⟨j,hj⟩:=List.mem_iff_getElem?.1 hc;have hj2:=(List.getElem?_eq_some_iff.1 hj).1;exact zH1 (h j c xs[j] hj (gE (by omega))) u hu
structure GA where
 a:Value
 b:Value
 c:Value
 d:Value
 e:Value
 f:Value
def InvA (w0 w5:World)(u9:Value)(X1 X2 X3 X4 X5 X0:List Rd)(L:List Bool)(g:GA)(wq:World):Prop:=
 (L[5]?=some false->Below w5.heap.size w5 wq/\(L[0]?=some true->AppR (fun b=>w5.heap.size<=b) wq w5.heap.size g.a X1)/\(L[1]?=some true->AppR (fun b=>w5.heap.size<=b) wq w5.heap.size g.b X2)/\(L[2]?=some true->AppR (fun b=>w5.heap.size<=b) wq w5.heap.size g.c X3)/\(L[3]?=some true->AppR (fun b=>w5.heap.size<=b) wq w5.heap.size g.d X4)/\(L[4]?=some true->AppR (fun b=>w5.heap.size<=b) wq w5.heap.size g.e X5))/\
 (L[5]?=some true->AppR (fun b=>w0.heap.size<=b) wq w0.heap.size g.f (X0++X5)/\Below w0.heap.size w0 wq/\∀b t c,Blk w5 b t c->u9.ownBlock≠some b->Blk wq b t c/\g.f.ownBlock≠some b)
section
variable {w0 w5 wq wa : World} {X1 X2 X3 X4 X5 X0 : List Rd} {l0 l1 l2 l3 l4 l5 : Bool} {g : GA} {v u9 : Value}
theorem InvA.start:InvA w0 w5 u9 X1 X2 X3 X4 X5 X0 [false,false,false,false,false,false] g w5.drew:=
 ⟨fun _=>⟨zA3 (Below.refl _ _),fun h=>(by cases h),fun h=>(by cases h),fun h=>(by cases h),fun h=>(by cases h),fun h=>(by cases h)⟩,fun h=>by cases h⟩
theorem InvA.below {L:List Bool}(h:InvA w0 w5 u9 X1 X2 X3 X4 X5 X0 L g wq)(h5:L[5]?=some false):Below w5.heap.size w5 wq:=(h.1 h5).1
theorem InvA.s0 (e5:l5=false)(h:InvA w0 w5 u9 X1 X2 X3 X4 X5 X0 [l0,l1,l2,l3,l4,l5] g wq)(hb:Below wq.heap.size wq wa)(ho:AppR (fun b=>wq.heap.size<=b) wa wq.heap.size v X1):InvA w0 w5 u9 X1 X2 X3 X4 X5 X0 [true,l1,l2,l3,l4,l5] {g with a:=v} wa:=by
 subst e5;obtain⟨h0,_,h2,h3,h4,h5⟩:=h.1 rfl;have hs:=h0.size;exact⟨fun _=>⟨h0.trans (hb.mono hs),fun _=>(ho.any fun b _ h=>Nat.le_trans hs h).more hs,fun e=>(h2 e).keep hb,fun e=>(h3 e).keep hb,fun e=>(h4 e).keep hb,fun e=>(h5 e).keep hb⟩,fun e=>by cases e⟩
theorem InvA.s1 (e5:l5=false)(h:InvA w0 w5 u9 X1 X2 X3 X4 X5 X0 [l0,l1,l2,l3,l4,l5] g wq)(hb:Below wq.heap.size wq wa)(ho:AppR (fun b=>w5.heap.size<=b/\b<wq.heap.size) wa wq.heap.size v X2):InvA w0 w5 u9 X1 X2 X3 X4 X5 X0 [l0,true,l2,l3,l4,l5] {g with b:=v} wa:=by
 subst e5;obtain⟨h0,h1,_,h3,h4,h5⟩:=h.1 rfl;have hs:=h0.size;exact⟨fun _=>⟨h0.trans (hb.mono hs),fun e=>(h1 e).keep hb,fun _=>(ho.any fun b _ h=>h.1).more hs,fun e=>(h3 e).keep hb,fun e=>(h4 e).keep hb,fun e=>(h5 e).keep hb⟩,fun e=>by cases e⟩
theorem InvA.s2 (e5:l5=false)(h:InvA w0 w5 u9 X1 X2 X3 X4 X5 X0 [l0,l1,l2,l3,l4,l5] g wq)(hb:Below wq.heap.size wq wa)(ho:AppR (fun b=>wq.heap.size<=b) wa wq.heap.size v X3):InvA w0 w5 u9 X1 X2 X3 X4 X5 X0 [l0,l1,true,l3,l4,l5] {g with c:=v} wa:=by
 subst e5;obtain⟨h0,h1,h2,_,h4,h5⟩:=h.1 rfl;have hs:=h0.size;exact⟨fun _=>⟨h0.trans (hb.mono hs),fun e=>(h1 e).keep hb,fun e=>(h2 e).keep hb,fun _=>(ho.any fun b _ h=>Nat.le_trans hs h).more hs,fun e=>(h4 e).keep hb,fun e=>(h5 e).keep hb⟩,fun e=>by cases e⟩
theorem InvA.s3 (e5:l5=false)(h:InvA w0 w5 u9 X1 X2 X3 X4 X5 X0 [l0,l1,l2,l3,l4,l5] g wq)(hb:Below wq.heap.size wq wa)(ho:AppR (fun b=>w5.heap.size<=b/\b<wq.heap.size) wa wq.heap.size v X4):InvA w0 w5 u9 X1 X2 X3 X4 X5 X0 [l0,l1,l2,true,l4,l5] {g with d:=v} wa:=by
 subst e5;obtain⟨h0,h1,h2,h3,_,h5⟩:=h.1 rfl;have hs:=h0.size;exact⟨fun _=>⟨h0.trans (hb.mono hs),fun e=>(h1 e).keep hb,fun e=>(h2 e).keep hb,fun e=>(h3 e).keep hb,fun _=>(ho.any fun b _ h=>h.1).more hs,fun e=>(h5 e).keep hb⟩,fun e=>by cases e⟩
theorem InvA.s4 (e5:l5=false)(h:InvA w0 w5 u9 X1 X2 X3 X4 X5 X0 [l0,l1,l2,l3,l4,l5] g wq)(hb:Below wq.heap.size wq wa)(ho:AppR (fun b=>(w5.heap.size<=b/\b<wq.heap.size)\/wq.heap.size<=b) wa wq.heap.size v X5):InvA w0 w5 u9 X1 X2 X3 X4 X5 X0 [l0,l1,l2,l3,true,l5] {g with e:=v} wa:=by
 subst e5;obtain⟨h0,h1,h2,h3,h4,_⟩:=h.1 rfl;have hs:=h0.size;exact⟨fun _=>⟨h0.trans (hb.mono hs),fun e=>(h1 e).keep hb,fun e=>(h2 e).keep hb,fun e=>(h3 e).keep hb,fun e=>(h4 e).keep hb,fun _=>(ho.any fun b _ h=>h.elim (·.1) (Nat.le_trans hs)).more hs⟩,fun e=>by cases e⟩
theorem InvA.list {g':Value}{X:List Rd}{ok:Nat->Prop}(h:AppR ok wq B g' X)(hB:∀b,B<=b->ok b):∃A cap,g'= .slice A X.length cap/\zAp ok wq A X:=by
 obtain⟨A,cap,h1,_,_,h2⟩:=h.form hB;exact⟨A,cap,h1,h2⟩
theorem InvA.append {F:Act}{o:Oper}{R:Value->World->Prop}{i0:TypeInfo}(s x:Operand)(ho':o.op= .call {callee:=.builtin .append,args:= #[s,x],argTypes:= #[29,29]})
  (hi:Tryz.prog.info? 42=some i0) (hz0:i0.zero=some (.agg #[qI 0,qI 0,qN])) (hz1:i0.size=3) (hz2:i0.bytes=40)
  (hs:F.eval s=u9) (hx:F.eval x=g.e)
  (h:InvA w0 w5 u9 X1 X2 X3 X4 X5 X0 [true,true,true,true,true,false] g wq) (hO:AppR (fun b=>w0.heap.size<=b) w5 w0.heap.size u9 X0) (hB:Below w0.heap.size w0 w5) (hn:X0.length+X5.length<=3000000000000)
  (hR:∀v' w',InvA w0 w5 u9 X1 X2 X3 X4 X5 X0 [true,true,true,true,true,true] {g with f:=v'} w'->R v' w'):Gives Tryz.prog (execOp F.eval o) wq R:=by
 obtain⟨h0,_,_,_,_,h5⟩:=h.1 rfl;have hO5:=h5 rfl;obtain⟨A,cap,he,hcap,hcap2,_⟩:=hO5.form (fun b h=>h);obtain⟨dss,hd,hld,hrd⟩:=hO5;obtain⟨css,hc,hlc,hrc⟩:=hO.keep h0;have hs5:=hB.size;have hsq:=h0.size;have hlt:=hO.lt;rw[he] at hx hd;refine zB0 s x 29 ho' w0.heap.size 42 i0 (.agg #[qI 0,qI 0,qN]) 3 40 Tryz.underlying29 hi hz0 hz1 hz2 rfl (by decide) u9 _ _ hs hc wq.heap.size A X5.length cap _ hx (Reads.zH6 hd) (yBs hld hrd) (by unfold maxLen;omega) (by omega) (by omega) ?_;intro v' w' g2 g3 g4;refine hR v' w' ⟨fun e=>(by cases e),fun _=>⟨AppR.zGo hlc hrc hld (fun j c y hj hy=>(hrd j c y hj hy).any fun b hb h=>⟨fun e=>?_,?_⟩) g2 g3 g4,(hB.trans (h0.mono hs5)).grown g3 (by omega) fun b hb=>(hlt b hb).1,fun b t c hbk hne=>⟨(keep h0 hbk).grown g3 (fun e=>hne e.symm),fun e=>?_⟩⟩⟩
 ·have:=(hlt b e).2;have:=h.2;omega
 ·have:=h.2;omega
 ·rcases g4 with e4|e4
  ·rw[e4] at e;exact hne e
  ·rw[e4] at e;have:=sj e;have:=hbk.lt;omega
end
theorem zLn {b:Nat}(ha:a<=1376256)(hb:b<=1376256):a*b+b<=3000000000000:=by
 have:=Nat.mul_le_mul ha hb;omega
theorem zQr {g:Nat->List Rd}{t N:Nat}(h:t<=N):((List.range' a t).flatMap g).length<=((List.range' a N).flatMap g).length:=by
 obtain⟨d,rfl⟩:∃d,N=t+d:=⟨N -t,by omega⟩
 induction d with
 |zero=>simp
 |succ d ih=>
  rw[<-Nat.add_assoc,zEp,List.length_append];have:=ih (by omega);omega
theorem zAp.one {ad:Addr}{k:Nat}{x:Rd}(h:zAp P w (some ad) l)(hx:l[k]?=some x):zAp P w (some (ad.add (k*3))) [x]:=fun i z hi=>by
 obtain⟨ad',e,h1,h2,c,h3,h4⟩:=h k x hx;obtain rfl:=sj e
 match i,hi with
 |0,hi=>
  obtain rfl:x=z:=by simpa using hi
  refine⟨_,rfl,by rw[add_block];exact h1,by rw[add_block];exact h2,c,h3,fun j hj=>?_⟩;rw[zLr,Nat.zero_mul,Nat.zero_add];exact h4 j hj
theorem zAp.push {v v':Value}{A:Option Addr}(h:zAp (fun b=>v.ownBlock≠some b/\P b) w A l)(hg:w.grownBy w' v.ownBlock)(hv:v'.ownBlock=v.ownBlock\/v'.ownBlock=some w.heap.size):zAp (fun b=>v'.ownBlock≠some b/\P b) w' A l:=
 h.map hg.size (fun b hb hok=>⟨by
  rcases hv with e|e
  ·rw[e];exact hok.1
  ·rw[e];intro h2;have:=sj h2;omega,hok.2⟩) fun p hp ho=>World.cell?_of_block (hg.block _ hp fun e=>ho.1 e.symm)
def AllP (rs:List Rul)(ts:List ByteArray)(i j:Nat)(w:World)(e:Ending)(w':World):Prop:=∃v,e= .returned v/\AppR (fun b=>w.heap.size<=b) w' w.heap.size v (allR rs ts i j)/\Below w.heap.size w w'
def preR (rs:List Rul)(ts:List ByteArray)(i j n:Nat):List Rd:=zD0 ts i j++(List.range n).flatMap (zB7 rs ts (allR rs ts) i j)
theorem zQp :preR rs ts i j 0=zD0 ts i j:=by unfold preR;simp
theorem zXk :preR rs ts i j (n+1)=preR rs ts i j n++zB7 rs ts (allR rs ts) i j n:=by
 unfold preR;rw[List.range_succ,List.flatMap_append,List.append_assoc];simp
theorem zBv (hr:zAd rs=true)(ht:ts.length<=7)(hj:j<=ts.length):(allR rs ts i j).length<=1376256:=yA9 hr ht hj
theorem zQv (h:i<j):allR rs ts i j=preR rs ts i j rs.length:=by
 rw[zOf h];rfl
theorem zMm (h:i<j)(hn:n<=rs.length):(preR rs ts i j n).length<=(allR rs ts i j).length:=by
 rw[zQv h];unfold preR;rw[List.length_append,List.length_append];have:((List.range n).flatMap (zB7 rs ts (allR rs ts) i j)).length<=((List.range rs.length).flatMap (zB7 rs ts (allR rs ts) i j)).length:=by
  rw[show rs.length=n+(rs.length -n) by omega,List.range_add,List.flatMap_append,List.length_append];omega
 omega
def AllC (A T:Option Addr)(cap cT:Nat)(rs:List Rul)(ts:List ByteArray)(m:Nat):Prop:=∀(i j:Nat) (w:World),j -i<=m->j<=ts.length->zAc w A rs->zBp w T ts->Calls Tryz.prog 113 #[.slice A rs.length cap,.slice T ts.length cT,qI i,qI j] w (AllP rs ts i j w)
structure PkO (M:Prop) where
 a:Prop
 out:(Unit->a)->M
structure PkA (M:Prop) where
 a:Prop
 b:Prop
 c:Prop
 d:Prop
 out:(Unit->a)->(Unit->b)->(Unit->c)->(Unit->d)->M
theorem zVt (A T:Option Addr)(cap cT:Nat)(rs:List Rul)(ts:List ByteArray):AllC A T cap cT rs ts 0:=by
 intro i j w hm hj hR hT;have HE:=zh (show allR rs ts i j=[] by unfold allR;rw[show j -i=0 by omega];rfl);have hij:(j:Int)<=(i:Int):=by omega
 clear hR hT hm hj;go_enter Tryz.func113,Tryz.ntmps113;go_wp2;go_ret;exact⟨_,rfl,by rw[HE.out];exact AppR.nil _ _ _,Below.refl _ _⟩
noncomputable def zO2:PkO (∀(A T:Option Addr) (cap cT:Nat) (rs:List Rul) (ts:List ByteArray) (_HV8:Hid (zAd rs=true)) (_hr8:rs.length<=64) (_ht6:ts.length<=7) (m:Nat) (_ih:AllC A T cap cT rs ts m),AllC A T cap cT rs ts (m+1)):=by
 apply PkO.mk
 intro hr A T cap cT rs ts HV8 hr8 ht6 m ih;obtain⟨i0,hi,hz0,hz1,hz2⟩:=info_parts zEe;intro i j w hm hj hR hT
 by_cases hij:j<=i
 ·have HE:=zh (show allR rs ts i j=[] by unfold allR;rw[show j -i=0 by omega];rfl);have hij:(j:Int)<=(i:Int):=by omega
  clear hR hT hm hj ih;go_enter Tryz.func113,Tryz.ntmps113;go_wp2;go_ret;exact⟨_,rfl,by rw[HE.out];exact AppR.nil _ _ _,Below.refl _ _⟩
 ·have IH:=zh ih;have HR0:=zh hR;have HT0:=zh hT;have HIJ:=zh (show i<j by omega);have HJ:=zh hj;have HM:=zh hm;obtain⟨s,hs⟩:∃s,ts[i]?=some s:=⟨_,gE (by omega)⟩
  obtain⟨hf,ad,rfl,hadl,c0⟩:=hT i s hs;have HTB:=zh (show tokB ts i zCb=(s.toList==zCb) by unfold tokB;rw[hs]);have j1:(0:Int)<=(i:Int):=by omega
  have j2:(i:Int)<(ts.length:Int):=by omega
  have j3:(j:Int)<=7:=by omega
  have j4:(i:Int)<(j:Int):=by omega
  have HS:=zh hs;clear ih hR hT hm hj hs hf hadl hij;go_enter Tryz.func113,Tryz.ntmps113;have HBB:=zh (show zD0 ts i j=if(decide (j=i+1)&&(s.toList==[35]))=true then[.mk (-1) i []] else[] by
   unfold zD0;rw[HTB.out];unfold zCb
   by_cases h1:j=i+1<;>by_cases h2:(s.toList==[35])=true<;>simp[h1,h2])
  have e24:((j:Int)==(i:Int)+1)=decide (j=i+1):=by
   rw[Bool.eq_iff_iff,beq_iff_eq,decide_eq_true_iff];omega
  go_upto_region 4 with(fail)
  go_cut [31] (fun b wc=>b= .bool (decide (j=i+1)&&(s.toList==[35]))/\w=wc)
  case first=>
   by_cases h1:j=i+1
   ·have e25:((j:Int)==(i:Int)+1)=true:=by rw[e24,decide_eq_true h1]
    have H1:=zh (decide_eq_true h1);clear h1 e24;go_wp2;go_meet
    case rel=>exact⟨by rw[H1.out,Bool.true_and],rfl⟩
   ·have e25:((j:Int)==(i:Int)+1)=false:=by rw[e24,decide_eq_false h1]
    have H1:=zh (decide_eq_false h1);clear h1 e24;go_wp2;go_meet
    case rel=>exact⟨by rw[H1.out,Bool.false_and],rfl⟩
  case rest=>
   obtain⟨rfl,rfl⟩:=hcut;clear e24 c0;go_upto_if 31 with(fail)
   go_cut [9] (fun v w1=>Hid (AppR (fun b=>w.heap.size<=b) w1 w.heap.size v (preR rs ts i j 0))/\Hid (Below w.heap.size w w1))
   case first=>
    cases hb:(decide (j=i+1)&&(s.toList==[35]))
    ·rw[hb] at HBB;have HZ:=zh (show preR rs ts i j 0=[] from zQp.trans HBB.out);clear hb;go_wp2;go_meet
     case rel=>exact⟨by rw[HZ.out];exact AppR.nil (fun b=>w.heap.size<=b) _ _,Below.refl _ _⟩
    ·rw[hb] at HBB;have HZ:=zh (show preR rs ts i j 0=[]++[.mk (-1) i []] from zQp.trans HBB.out);clear hb;have hba:=zA0 w (.cells (rdC (-1) i none 0 0) 42);have K6:=zh (Blk.new w 42 (rdC (-1) i none 0 0));have hE:=RdAt.of (ok:=fun b=>(Value.slice none 0 0).ownBlock≠some b/\w.heap.size<=b) (w:=w.alloc (.cells (rdC (-1) i none 0 0) 42)) (r:= -1) (a:=i) (ks:=[]) (A:=none) (cap:=0) (Nat.le_refl _) (by omega) (zAp.nil _ _ _);have ho:=AppR.nil (fun b=>w.heap.size<=b) (w.alloc (.cells (rdC (-1) i none 0 0) 42)) w.heap.size;obtain⟨css,ho,hl,hrr⟩:=ho;have HB:=zh (hba);go_wp2_with (at_builtin;refine zA9 _ rfl (.tmp 32) (.tmp 35) 29 rfl w.heap.size 42 i0 (.agg #[qI 0,qI 0,qN]) 3 40 Tryz.underlying29 hi hz0 hz1 hz2 rfl (by decide) _ _ _ rfl ho (w.heap.size+1) (some ⟨w.heap.size,0,none⟩) 1 1 (rdC (-1) i none 0 0).toList rfl (by have:=zBb K6.out rfl;rw[World.size_alloc] at this;exact this) (zH1 hE) (by unfold maxLen;simp) (by simp) HB.out.size ?_;intro v' w' g2 g3 g4)
     have HO:=zh (AppR.push hl hrr hE g2 g3 g4);rw[<-HZ.out] at HO;have HB:=zh (HB.out.grown g3 HB.out.size fun b hb=>by cases hb);clear ho hl hrr g2 g3 g4 hE hba;go_wp2;go_meet
     case rel=>exact⟨HO,HB⟩
   case rest=>
    obtain⟨HO,HB⟩:=hcut;clear HBB HTB;go_wp2_with fail
    go_loopw [9,10] (fun v t wr=>∃n:Nat,n<=rs.length/\t=qI n/\Hid (AppR (fun b=>w.heap.size<=b) wr w.heap.size v (preR rs ts i j n))/\Hid (Below w.heap.size w wr)) (fun _ t _=>rs.length -(intOf t).toNat)
    case atStart=>exact⟨0,by omega,rfl,HO,HB⟩
    case round=>
     clear HO HB
     rename_i K0 e0
     revert A cap cT rs ts m i j w s ad wc u18 u19 u20 u21 u22 u23 u24 u25 u26 u27 u28 u29 u30 u31 u32 u33 u34 u35 u36 u195 K0 wr u9 u10 u11 u12 u13 u14 u15 u16 u17 u37 u38 u39 u40 u41 u42 u43 u44 u45 u46 u47 u48 u49 u50 u51 u52 u53 u54 u55 u56 u57 u58 u59 u60 u61 u62 u63 u64 u65 u66 u67 u68 u69 u70 u71 u72 u73 u74 u75 u76 u77 u78 u79 u80 u81 u82 u83 u84 u85 u86 u87 u88 u89 u90 u91 u92 u93 u94 u95 u96 u97 u98 u99 u100 u101 u102 u103 u104 u105 u106 u107 u108 u109 u110 u111 u112 u113 u114 u115 u116 u117 u118 u119 u120 u121 u122 u123 u124 u125 u126 u127 u128 u129 u130 u131 u132 u133 u134 u135 u136 u137 u138 u139 u140 u141 u142 u143 u144 u145 u146 u147 u148 u149 u150 u151 u152 u153 u154 u155 u156 u157 u158 u159 u160 u161 u162 u163 u164 u165 u166 u167 u168 u169 u170 u171 u172 u173 u174 u175 u176 u177 u178 u179 u180 u181 u182 u183 u184 u185 u186 u187 u188 u189 u190 u191 u192 u193 u194;exact hr ()
noncomputable def zEn:PkA zO2.a:=by
 apply PkA.mk
 intro ha hb hc hd A cap cT rs ts HV8 hr8 ht6 m i j w HR0 HIJ HJ HM s ad IH HT0 j1 j2 j3 j4 HS _ wc u18 u19 u20 u21 u22 u23 u24 u25 u26 u27 u28 u29 u30 u31 u32 u33 u34 u35 u36 u195 K0 e0 wr u9 u10 u11 u12 u13 u14 u15 u16 u17 u37 u38 u39 u40 u41 u42 u43 u44 u45 u46 u47 u48 u49 u50 u51 u52 u53 u54 u55 u56 u57 u58 u59 u60 u61 u62 u63 u64 u65 u66 u67 u68 u69 u70 u71 u72 u73 u74 u75 u76 u77 u78 u79 u80 u81 u82 u83 u84 u85 u86 u87 u88 u89 u90 u91 u92 u93 u94 u95 u96 u97 u98 u99 u100 u101 u102 u103 u104 u105 u106 u107 u108 u109 u110 u111 u112 u113 u114 u115 u116 u117 u118 u119 u120 u121 u122 u123 u124 u125 u126 u127 u128 u129 u130 u131 u132 u133 u134 u135 u136 u137 u138 u139 u140 u141 u142 u143 u144 u145 u146 u147 u148 u149 u150 u151 u152 u153 u154 u155 u156 u157 u158 u159 u160 u161 u162 u163 u164 u165 u166 u167 u168 u169 u170 u171 u172 u173 u174 u175 u176 u177 u178 u179 u180 u181 u182 u183 u184 u185 u186 u187 u188 u189 u190 u191 u192 u193 u194 hrel;obtain⟨i0,hi,hz0,hz1,hz2⟩:=info_parts zEe;obtain⟨n,hn,rfl,HO,HB⟩:=hrel
 by_cases hlt:n<rs.length
 ·obtain⟨u,hu⟩:∃u,rs[n]?=some u:=⟨_,gE hlt⟩
  obtain⟨_,ad2,rfl,hadl9,d0,d1,d2,d3,d4,d5⟩:=(HR0.out.keep HB.out).at_ hu;have HU:=zh hu;have HPN:=zh (zXk (rs:=rs) (ts:=ts) (i:=i) (j:=j) (n:=n));clear hadl9;clear hu;go_upto_region 10 with(fail)
  have hba:=zA0 wr (.cells u.c 53);have KU:=zh (Blk.new wr 53 u.c);have HXG:=zh (show w.heap.size<=wr.heap.size from HB.out.size);have HFAR:=zh (show u9.ownBlock≠some wr.heap.size from fun e=>by have:=(AppR.lt HO.out _ e).2;omega);have HO:=zh (HO.out.keep hba);have HB:=jt HB hba;clear hba d0 d1 d2 d3 d4 d5;generalize wr.alloc (.cells #[qI u.kind,.string u.sym,.string u.nam,qI u.prec,qI u.left,qI u.right] 53)=w5 at*;have k0:=KU.out.cell 0;generalize wr.heap.size=g0 at*
  by_cases q1:u.kind=1
  ·rename_i Q1 K1 e1 K2 e2
   revert cap cT rs ts m i j w s ad wc u18 u19 u20 u21 u22 u23 u24 u25 u26 u27 u28 u29 u30 u31 u32 u33 u34 u35 u36 u195 K0 wr u9 u11 u12 u13 u14 u15 u16 u17 u37 u38 u39 u40 u41 u42 u43 u44 u45 u46 u47 u48 u49 u50 u51 u52 u53 u54 u55 u56 u57 u58 u59 u60 u61 u62 u63 u64 u65 u66 u67 u68 u69 u70 u71 u72 u73 u74 u75 u76 u77 u78 u79 u80 u81 u82 u83 u84 u85 u86 u87 u88 u89 u90 u91 u92 u93 u94 u95 u96 u97 u98 u99 u100 u101 u102 u103 u104 u105 u106 u107 u108 u109 u110 u111 u112 u113 u114 u115 u116 u117 u118 u119 u120 u121 u122 u123 u124 u125 u126 u127 u128 u129 u130 u131 u132 u133 u134 u135 u136 u137 u138 u139 u140 u141 u142 u143 u144 u145 u146 u147 u148 u149 u150 u151 u152 u153 u154 u155 u156 u157 u158 u159 u160 u161 u162 u163 u164 u165 u166 u167 u168 u169 u170 u171 u172 u173 u174 u175 u176 u177 u178 u179 u180 u181 u182 u183 u184 u185 u186 u187 u188 u189 u190 u191 u192 u193 u194 n u ad2 Q1 K1 K2 w5 g0;exact ha ()
  by_cases q2:u.kind=2
  ·rename_i Q1 K1 e1 K2 e2
   revert cap cT rs ts m i j w s ad wc u18 u19 u20 u21 u22 u23 u24 u25 u26 u27 u28 u29 u30 u31 u32 u33 u34 u35 u36 u195 K0 wr u9 u11 u12 u13 u14 u15 u16 u17 u37 u38 u39 u40 u41 u42 u43 u44 u45 u46 u47 u48 u49 u50 u51 u52 u53 u54 u55 u56 u57 u58 u59 u60 u61 u62 u63 u64 u65 u66 u67 u68 u69 u70 u71 u72 u73 u74 u75 u76 u77 u78 u79 u80 u81 u82 u83 u84 u85 u86 u87 u88 u89 u90 u91 u92 u93 u94 u95 u96 u97 u98 u99 u100 u101 u102 u103 u104 u105 u106 u107 u108 u109 u110 u111 u112 u113 u114 u115 u116 u117 u118 u119 u120 u121 u122 u123 u124 u125 u126 u127 u128 u129 u130 u131 u132 u133 u134 u135 u136 u137 u138 u139 u140 u141 u142 u143 u144 u145 u146 u147 u148 u149 u150 u151 u152 u153 u154 u155 u156 u157 u158 u159 u160 u161 u162 u163 u164 u165 u166 u167 u168 u169 u170 u171 u172 u173 u174 u175 u176 u177 u178 u179 u180 u181 u182 u183 u184 u185 u186 u187 u188 u189 u190 u191 u192 u193 u194 n u ad2 Q1 K1 K2 w5 g0;exact hb ()
  by_cases q3:u.kind=3
  ·rename_i Q1 K1 e1 K2 e2
   revert cap cT rs ts m i j w s ad wc u18 u19 u20 u21 u22 u23 u24 u25 u26 u27 u28 u29 u30 u31 u32 u33 u34 u35 u36 u195 K0 wr u9 u11 u12 u13 u14 u15 u16 u17 u37 u38 u39 u40 u41 u42 u43 u44 u45 u46 u47 u48 u49 u50 u51 u52 u53 u54 u55 u56 u57 u58 u59 u60 u61 u62 u63 u64 u65 u66 u67 u68 u69 u70 u71 u72 u73 u74 u75 u76 u77 u78 u79 u80 u81 u82 u83 u84 u85 u86 u87 u88 u89 u90 u91 u92 u93 u94 u95 u96 u97 u98 u99 u100 u101 u102 u103 u104 u105 u106 u107 u108 u109 u110 u111 u112 u113 u114 u115 u116 u117 u118 u119 u120 u121 u122 u123 u124 u125 u126 u127 u128 u129 u130 u131 u132 u133 u134 u135 u136 u137 u138 u139 u140 u141 u142 u143 u144 u145 u146 u147 u148 u149 u150 u151 u152 u153 u154 u155 u156 u157 u158 u159 u160 u161 u162 u163 u164 u165 u166 u167 u168 u169 u170 u171 u172 u173 u174 u175 u176 u177 u178 u179 u180 u181 u182 u183 u184 u185 u186 u187 u188 u189 u190 u191 u192 u193 u194 n u ad2 Q1 K1 K2 w5 g0;exact hc ()
  by_cases q4:u.kind=4
  ·rename_i Q1 K1 e1 K2 e2
   revert cap cT rs ts m i j w s ad wc u18 u19 u20 u21 u22 u23 u24 u25 u26 u27 u28 u29 u30 u31 u32 u33 u34 u35 u36 u195 K0 wr u9 u11 u12 u13 u14 u15 u16 u17 u37 u38 u39 u40 u41 u42 u43 u44 u45 u46 u47 u48 u49 u50 u51 u52 u53 u54 u55 u56 u57 u58 u59 u60 u61 u62 u63 u64 u65 u66 u67 u68 u69 u70 u71 u72 u73 u74 u75 u76 u77 u78 u79 u80 u81 u82 u83 u84 u85 u86 u87 u88 u89 u90 u91 u92 u93 u94 u95 u96 u97 u98 u99 u100 u101 u102 u103 u104 u105 u106 u107 u108 u109 u110 u111 u112 u113 u114 u115 u116 u117 u118 u119 u120 u121 u122 u123 u124 u125 u126 u127 u128 u129 u130 u131 u132 u133 u134 u135 u136 u137 u138 u139 u140 u141 u142 u143 u144 u145 u146 u147 u148 u149 u150 u151 u152 u153 u154 u155 u156 u157 u158 u159 u160 u161 u162 u163 u164 u165 u166 u167 u168 u169 u170 u171 u172 u173 u174 u175 u176 u177 u178 u179 u180 u181 u182 u183 u184 u185 u186 u187 u188 u189 u190 u191 u192 u193 u194 n u ad2 Q1 K1 K2 w5 g0;exact hd ()
  have HN:=zh (zU4 (ts:=ts) (i:=i) (j:=j) HU.out q1 q2 q3 q4);rw[HN.out,List.append_nil] at HPN;rw[<-HPN.out] at HO;have b1:(u.kind==1)=false:=bn q1;have b2:(u.kind==2)=false:=bn q2;have b3:(u.kind==3)=false:=bn q3;have b4:(u.kind==4)=false:=bn q4;clear q1 q2 q3 q4;go_wp2;go_roundw
  case rel=>exact⟨n+1,by omega,by go_num,HO,HB⟩
  case measure=>simp[intOf];omega
 ·obtain rfl:n=rs.length:=by omega
  have HA:=zh (zQv (rs:=rs) (ts:=ts) HIJ.out);rw[<-HA.out] at HO;go_wp2;go_ret;exact⟨_,rfl,HO.out,HB.out⟩
theorem yCr:zEn.a:=by
 intro cap cT rs ts HV8 hr8 ht6 m i j w HIJ HJ HM s ad HT0 j1 j2 j3 j4 HS _ wc u18 u19 u20 u21 u22 u23 u24 u25 u26 u27 u28 u29 u30 u31 u32 u33 u34 u35 u36 u195 K0 e0 wr u9 u11 u12 u13 u14 u15 u16 u17 u37 u38 u39 u40 u41 u42 u43 u44 u45 u46 u47 u48 u49 u50 u51 u52 u53 u54 u55 u56 u57 u58 u59 u60 u61 u62 u63 u64 u65 u66 u67 u68 u69 u70 u71 u72 u73 u74 u75 u76 u77 u78 u79 u80 u81 u82 u83 u84 u85 u86 u87 u88 u89 u90 u91 u92 u93 u94 u95 u96 u97 u98 u99 u100 u101 u102 u103 u104 u105 u106 u107 u108 u109 u110 u111 u112 u113 u114 u115 u116 u117 u118 u119 u120 u121 u122 u123 u124 u125 u126 u127 u128 u129 u130 u131 u132 u133 u134 u135 u136 u137 u138 u139 u140 u141 u142 u143 u144 u145 u146 u147 u148 u149 u150 u151 u152 u153 u154 u155 u156 u157 u158 u159 u160 u161 u162 u163 u164 u165 u166 u167 u168 u169 u170 u171 u172 u173 u174 u175 u176 u177 u178 u179 u180 u181 u182 u183 u184 u185 u186 u187 u188 u189 u190 u191 u192 u193 u194 n hn _ _ hlt u _ ad2 HR0 IH HU HPN Q1 K1 e1 K2 e2 w5 HO HB g0 HXG HFAR KU k0 q1;obtain⟨i0,hi,hz0,hz1,hz2⟩:=info_parts zEe;have HN:=zh (yCk (ts:=ts) (i:=i) (j:=j) HU.out q1);have b1:(u.kind==1)=true:=beq_iff_eq.2 q1;have HZ:=zh (show preR rs ts i j n=preR rs ts i j n++(List.range' (i+1) 0).flatMap (inG rs ts i j n u) by simp);rw[HZ.out] at HO;clear q1;go_wp2_with fail
 go_loopw [9,12] (fun v t wr=>∃m9:Nat,m9<=j -1 -(i+1)/\t=qI ((i+1+m9:Nat):Int)/\Hid (AppR (fun b=>w.heap.size<=b) wr w.heap.size v (preR rs ts i j n++(List.range' (i+1) m9).flatMap (inG rs ts i j n u)))/\Hid (Below w.heap.size w wr)/\Hid (Blk wr g0 53 u.c)/\Hid (v.ownBlock≠some g0)) (fun _ t _=>j -(intOf t).toNat)
 case atStart=>exact⟨0,by omega,rfl,HO,HB,KU,HFAR⟩
 case round=>
  clear HO HB KU HFAR;obtain⟨m9,hm9,rfl,HO,HB,HK,HF⟩:=hrel
  by_cases hlk:m9<j -1 -(i+1)
  ·obtain⟨s2,hs2⟩:∃s2,ts[i+1+m9]?=some s2:=⟨_,gE (by have:=HJ.out;omega)⟩
   obtain⟨hf2,ad3,e3,hadl3,c0⟩:=(HT0.out.keep HB.out) (i+1+m9) s2 hs2;obtain rfl:=sj e3;have c1:=HK.out.cell 1;have j5:((i+1+m9:Nat):Int)<(j:Int) -1:=by omega
   have j6:((i+1+m9:Nat):Int)<(ts.length:Int):=by have:=HJ.out;omega
   have j7:(0:Int)<=((i+1+m9:Nat):Int):=by omega
   have HTK:=zh (show tokB ts (i+1+m9) u.sym.toList=(s2.toList==u.sym.toList) by unfold tokB;rw[hs2]);clear hs2 e3 hf2 hadl3;go_upto_region 15 with(fail)
   go_quiet (fail)
   have HO:=zh (HO.out.keep (below_drewN (Below.refl _ _) nq));have HB:=zh (below_drewN HB.out nq);have HK:=zh (Blk.drewN HK.out nq);generalize wr.drewN nq=w7 at*;clear c0 c1 j6;cases hbq:(s2.toList==u.sym.toList)
   ·have HPT:=zh (show preR rs ts i j n++(List.range' (i+1) (m9+1)).flatMap (inG rs ts i j n u)=preR rs ts i j n++(List.range' (i+1) m9).flatMap (inG rs ts i j n u) by rw[zEp];unfold inG;rw[HTK.out,hbq];simp);rw[<-HPT.out] at HO;go_wp2;go_roundw
    case rel=>exact⟨m9+1,by omega,by go_num,HO,HB,HK,HF⟩
    case measure=>simp[intOf];omega
   ·have HPT:=zh (show preR rs ts i j n++(List.range' (i+1) (m9+1)).flatMap (inG rs ts i j n u)=(preR rs ts i j n++(List.range' (i+1) m9).flatMap (inG rs ts i j n u))++(zAm n i (zA5 rs (allR rs ts i (i+1+m9)) u.left) (zA5 rs (allR rs ts ((i+1+m9)+1) j) u.right)) by rw[zEp,<-List.append_assoc,show inG rs ts i j n u (i+1+m9)=(zAm n i (zA5 rs (allR rs ts i (i+1+m9)) u.left) (zA5 rs (allR rs ts ((i+1+m9)+1) j) u.right)) from by unfold inG;rw[HTK.out,hbq,if_pos rfl]]);have HLN:=zh (show(preR rs ts i j n++(List.range' (i+1) m9).flatMap (inG rs ts i j n u)).length+(zAm n i (zA5 rs (allR rs ts i (i+1+m9)) u.left) (zA5 rs (allR rs ts ((i+1+m9)+1) j) u.right)).length<=3000000000000 by
     have h1:(List.range' (i+1) (m9+1)).flatMap (inG rs ts i j n u)=(List.range' (i+1) m9).flatMap (inG rs ts i j n u)++(zAm n i (zA5 rs (allR rs ts i (i+1+m9)) u.left) (zA5 rs (allR rs ts ((i+1+m9)+1) j) u.right)):=by rw[zEp,show inG rs ts i j n u (i+1+m9)=(zAm n i (zA5 rs (allR rs ts i (i+1+m9)) u.left) (zA5 rs (allR rs ts ((i+1+m9)+1) j) u.right)) from by unfold inG;rw[HTK.out,hbq,if_pos rfl]]
     have h2:=zQr (g:=inG rs ts i j n u) (a:=i+1) (t:=m9+1) (N:=j -1 -(i+1)) (by omega);rw[h1,List.length_append] at h2;have h3:=zMm (rs:=rs) (ts:=ts) (n:=n+1) HIJ.out (by omega);rw[HPN.out,HN.out,List.length_append] at h3;have h4:=zBv HV8.out ht6 (i:=i) HJ.out;rw[List.length_append];omega)
    have HL1:=zh (show(allR rs ts i (i+1+m9)).length<=100000000 from Nat.le_trans (zBv HV8.out ht6 (i:=i) (j:=(i+1+m9)) (by have:=HJ.out;omega)) (by omega));have HL3:=zh (show(allR rs ts ((i+1+m9)+1) j).length<=100000000 from Nat.le_trans (zBv HV8.out ht6 (i:=(i+1+m9)+1) HJ.out) (by omega));have HPM:=zh (show(zA5 rs (allR rs ts i (i+1+m9)) u.left).length<=100000000 from Nat.le_trans zCq HL1.out);have HPL:=zh (show(zA5 rs (allR rs ts i (i+1+m9)) u.left).length*(zA5 rs (allR rs ts ((i+1+m9)+1) j) u.right).length+(zA5 rs (allR rs ts ((i+1+m9)+1) j) u.right).length<=3000000000000 from zLn (Nat.le_trans zCq (zBv HV8.out ht6 (by have:=HJ.out;omega))) (Nat.le_trans zCq (zBv HV8.out ht6 HJ.out)));have HA1:=zh (fun(wq:World) (hb:Below w.heap.size w wq)=>IH.out i (i+1+m9) wq (by have:=HM.out;have:=HIJ.out;omega) (by have:=HJ.out;omega) (HR0.out.keep hb) (HT0.out.keep hb));have HA2:=zh (fun(wq:World) (hb:Below w.heap.size w wq)=>IH.out ((i+1+m9)+1) j wq (by have:=HM.out;have:=HIJ.out;omega) HJ.out (HR0.out.keep hb) (HT0.out.keep hb));have HR7:=zh (HR0.out.keep HB.out);clear hbq HTK;go_upto_region 16 with(fail)
    refine zHw (X:=GA) (by as_aux_lemma=>kernel_rfl) [true,false,false,false,false,false,false,false,false,false,false,false,false,false,false,false,false,false,false,false,false,false,false,false,false] _ (fun gx=>[u9,qI (↑n),qI (↑i),.slice (some ad2) rs.length cap,.slice (some ad2) rs.length cap,.slice (some ad) ts.length cT,qI (↑i),qI (↑(i+1+m9)),gx.a,.pointer (some ⟨g0,4,none⟩),qI u.left,gx.b,.slice (some ad2) rs.length cap,.slice (some ad2) rs.length cap,.slice (some ad) ts.length cT,qI (↑(i+1+m9)),qI ((↑(i+1+m9))+1),qI (↑j),gx.c,.pointer (some ⟨g0,5,none⟩),qI u.right,gx.d,gx.e,gx.f,gx.f]) [true,true,true,true,true,true,true,true,true,true,true,true,true,true,true,true,true,true,true,true,true,true,true,true,true] [8,11,18,21,22,23] (InvA w w7 u9 (allR rs ts i (i+1+m9)) (zA5 rs (allR rs ts i (i+1+m9)) u.left) (allR rs ts ((i+1+m9)+1) j) (zA5 rs (allR rs ts ((i+1+m9)+1) j) u.right) (zAm n i (zA5 rs (allR rs ts i (i+1+m9)) u.left) (zA5 rs (allR rs ts ((i+1+m9)+1) j) u.right)) (preR rs ts i j n++(List.range' (i+1) m9).flatMap (inG rs ts i j n u))) ⟨.nilFunc,.nilFunc,.nilFunc,.nilFunc,.nilFunc,.nilFunc⟩ (by as_aux_lemma=>kernel_rfl) (fun gx=>by simp[fin,zBz,zAk,List.range,List.range.loop,Act.put];rfl) (fun _=>by as_aux_lemma=>kernel_rfl) (by as_aux_lemma=>kernel_rfl) InvA.start ?_ ?_
    ·refine⟨jS,jS,jS,jS,jS,jS,jS,jS,fun L gx wq hL hb ha hI=>?_,fun L gx wq hL hb ha hI=>?_,fun L gx wq hL hb ha hI=>?_,fun L gx wq hL hb ha hI=>?_,jS,jS,jS,jS,fun L gx wq hL hb ha hI=>?_,jS,fun L gx wq hL hb ha hI=>?_,fun L gx wq hL hb ha hI=>?_,fun L gx wq hL hb ha hI=>?_,fun L gx wq hL hb ha hI=>?_,fun L gx wq hL hb ha hI=>?_,fun L gx wq hL hb ha hI=>?_,jS,trivial⟩
     ·have e5:L 23=false:=ha 23 (by as_aux_lemma=>kernel_rfl);have hX:=hI.below (congrArg some e5);refine jc 113 (#[.slice (some ad2) rs.length cap,.slice (some ad) ts.length cT,qI (↑i),qI ((i+1+m9:Nat):Int)]) wq (by as_aux_lemma=>kernel_rfl) ((HA1.out wq (HB.out.trans (hX.mono HB.out.size))).mono ?_);rintro e wa ⟨v,rfl,ho,hb2⟩;exact⟨_,rfl,{gx with a:=v},rfl,(by refine zAg.of_same ⟨?_,?_,?_,?_,?_,?_,?_,?_,?_,?_,?_,?_,?_,?_,?_,?_,?_,?_,?_,?_,?_,?_,?_,?_,?_,trivial⟩<;>first|exact jK|exact .inl rfl|exact .inr (.inl (by kernel_rfl))),InvA.s0 e5 hI hb2 ho⟩
     ·exact jq (.pointer (some ⟨g0,4,none⟩)) wq (by simp[go_sem,evAct]) rfl hI
     ·have e5:L 23=false:=ha 23 (by as_aux_lemma=>kernel_rfl);have hX:=hI.below (congrArg some e5);have cu:=(keep hX HK.out).cell 4;exact jq (qI u.left) wq (by simp[go_sem,evAct,cu]) rfl hI
     ·have e5:L 23=false:=ha 23 (by as_aux_lemma=>kernel_rfl);have hX:=hI.below (congrArg some e5);have ex:L 8=true:=hb 8 (by as_aux_lemma=>kernel_rfl);obtain⟨ga,gb,gc,gd,ge,gf⟩:=gx;obtain⟨A1,c1,e1,h1⟩:=InvA.list ((hI.1 (congrArg some e5)).2.1 (congrArg some ex)) (fun b h=>h);obtain rfl:ga=_:=e1;refine jc 134 (#[.slice (some ad2) rs.length cap,.slice A1 (allR rs ts i (i+1+m9)).length c1,qI u.left]) wq (by as_aux_lemma=>kernel_rfl) ((zDy (fun b=>w7.heap.size<=b) (some ad2) A1 cap c1 rs (allR rs ts i (i+1+m9)) u.left wq (HR7.out.keep hX) h1 (fun x hx=>(zFa hx).2) HL1.out).mono ?_);rintro e wa ⟨v,rfl,ho,hb2⟩;exact⟨_,rfl,⟨_,v,gc,gd,ge,gf⟩,rfl,(by refine zAg.of_same ⟨?_,?_,?_,?_,?_,?_,?_,?_,?_,?_,?_,?_,?_,?_,?_,?_,?_,?_,?_,?_,?_,?_,?_,?_,?_,trivial⟩<;>first|exact jK|exact .inl rfl|exact .inr (.inl (by kernel_rfl))),InvA.s1 e5 hI hb2 ho⟩
     ·skip
      exact jq (qI ((↑(i+1+m9))+1)) wq (by simp[go_sem,evAct];exact IntWalk.i64_in _ (by omega)) rfl hI
     ·have e5:L 23=false:=ha 23 (by as_aux_lemma=>kernel_rfl);have hX:=hI.below (congrArg some e5);refine jc 113 (#[.slice (some ad2) rs.length cap,.slice (some ad) ts.length cT,qI ((i+1+m9+1:Nat):Int),qI (↑j)]) wq (by as_aux_lemma=>kernel_rfl) ((HA2.out wq (HB.out.trans (hX.mono HB.out.size))).mono ?_);rintro e wa ⟨v,rfl,ho,hb2⟩;exact⟨_,rfl,{gx with c:=v},rfl,(by refine zAg.of_same ⟨?_,?_,?_,?_,?_,?_,?_,?_,?_,?_,?_,?_,?_,?_,?_,?_,?_,?_,?_,?_,?_,?_,?_,?_,?_,trivial⟩<;>first|exact jK|exact .inl rfl|exact .inr (.inl (by kernel_rfl))),InvA.s2 e5 hI hb2 ho⟩
     ·exact jq (.pointer (some ⟨g0,5,none⟩)) wq (by simp[go_sem,evAct]) rfl hI
     ·have e5:L 23=false:=ha 23 (by as_aux_lemma=>kernel_rfl);have hX:=hI.below (congrArg some e5);have cu:=(keep hX HK.out).cell 5;exact jq (qI u.right) wq (by simp[go_sem,evAct,cu]) rfl hI
     ·have e5:L 23=false:=ha 23 (by as_aux_lemma=>kernel_rfl);have hX:=hI.below (congrArg some e5);have ex:L 18=true:=hb 18 (by as_aux_lemma=>kernel_rfl);obtain⟨ga,gb,gc,gd,ge,gf⟩:=gx;obtain⟨A1,c1,e1,h1⟩:=InvA.list ((hI.1 (congrArg some e5)).2.2.2.1 (congrArg some ex)) (fun b h=>h);obtain rfl:gc=_:=e1;refine jc 134 (#[.slice (some ad2) rs.length cap,.slice A1 (allR rs ts ((i+1+m9)+1) j).length c1,qI u.right]) wq (by as_aux_lemma=>kernel_rfl) ((zDy (fun b=>w7.heap.size<=b) (some ad2) A1 cap c1 rs (allR rs ts ((i+1+m9)+1) j) u.right wq (HR7.out.keep hX) h1 (fun x hx=>(zFa hx).2) HL3.out).mono ?_);rintro e wa ⟨v,rfl,ho,hb2⟩;exact⟨_,rfl,⟨ga,gb,_,v,ge,gf⟩,rfl,(by refine zAg.of_same ⟨?_,?_,?_,?_,?_,?_,?_,?_,?_,?_,?_,?_,?_,?_,?_,?_,?_,?_,?_,?_,?_,?_,?_,?_,?_,trivial⟩<;>first|exact jK|exact .inl rfl|exact .inr (.inl (by kernel_rfl))),InvA.s3 e5 hI hb2 ho⟩
     ·have e5:L 23=false:=ha 23 (by as_aux_lemma=>kernel_rfl);have hX:=hI.below (congrArg some e5);have ex:L 11=true:=hb 11 (by as_aux_lemma=>kernel_rfl);have ey:L 21=true:=hb 21 (by as_aux_lemma=>kernel_rfl);obtain⟨ga,gb,gc,gd,ge,gf⟩:=gx;obtain⟨A1,c1,e1,h1⟩:=InvA.list ((hI.1 (congrArg some e5)).2.2.1 (congrArg some ex)) (fun b h=>h);obtain⟨A2,c2,e2,h2⟩:=InvA.list ((hI.1 (congrArg some e5)).2.2.2.2.1 (congrArg some ey)) (fun b h=>h);obtain rfl:gb=_:=e1;obtain rfl:gd=_:=e2;refine jc 133 (#[qI (↑n),qI (↑i),.slice A1 (zA5 rs (allR rs ts i (i+1+m9)) u.left).length c1,.slice A2 (zA5 rs (allR rs ts ((i+1+m9)+1) j) u.right).length c2]) wq (by as_aux_lemma=>kernel_rfl) ((zNk (fun b=>w7.heap.size<=b) A1 A2 c1 c2 n i (zA5 rs (allR rs ts i (i+1+m9)) u.left) (zA5 rs (allR rs ts ((i+1+m9)+1) j) u.right) wq h1 h2 HPL.out HPM.out).mono ?_);rintro e wa ⟨v,rfl,ho,hb2⟩;exact⟨_,rfl,⟨ga,_,gc,_,v,gf⟩,rfl,(by refine zAg.of_same ⟨?_,?_,?_,?_,?_,?_,?_,?_,?_,?_,?_,?_,?_,?_,?_,?_,?_,?_,?_,?_,?_,?_,?_,?_,?_,trivial⟩<;>first|exact jK|exact .inl rfl|exact .inr (.inl (by kernel_rfl))),InvA.s4 e5 hI hb2 ho⟩
     ·have e5:L 23=false:=hL;have x0:L 8=true:=hb 8 (by as_aux_lemma=>kernel_rfl);have x1:L 11=true:=hb 11 (by as_aux_lemma=>kernel_rfl);have x2:L 18=true:=hb 18 (by as_aux_lemma=>kernel_rfl);have x3:L 21=true:=hb 21 (by as_aux_lemma=>kernel_rfl);have x4:L 22=true:=hb 22 (by as_aux_lemma=>kernel_rfl);simp only[List.map,e5,x0,x1,x2,x3,x4] at hI⊢;refine InvA.append (.tmp 66) (.tmp 88) rfl hi hz0 hz1 hz2 (by as_aux_lemma=>kernel_rfl) (by as_aux_lemma=>kernel_rfl) hI HO.out HB.out HLN.out ?_;intro v' w' h9;exact⟨{gx with f:=v'},rfl,(by refine zAg.of_same ⟨?_,?_,?_,?_,?_,?_,?_,?_,?_,?_,?_,?_,?_,?_,?_,?_,?_,?_,?_,?_,?_,?_,?_,?_,?_,trivial⟩<;>first|exact jK|exact .inl rfl|exact .inr (.inl (by kernel_rfl))),h9⟩
    ·intro gx wq hI;have hI:=hI.2 rfl;have HO:=zh hI.1;have HB:=zh hI.2.1;have HKF:=zh (hI.2.2 _ _ _ HK.out HF.out);have HK:=zh HKF.out.1;have HF:=zh HKF.out.2;clear hI HKF HA1 HA2;rw[<-HPT.out] at HO;generalize gx.f=v9 at*;go_wp2;go_roundw
     case rel=>exact⟨m9+1,by omega,by go_num,HO,HB,HK,HF⟩
     case measure=>simp[intOf];omega
  ·obtain rfl:m9=j -1 -(i+1):=by omega
   have j5:¬((i+1+(j -1 -(i+1)):Nat):Int)<(j:Int) -1:=by omega
   have HE:=zh (show preR rs ts i j (n+1)=preR rs ts i j n++(List.range' (i+1) (j -1 -(i+1))).flatMap (inG rs ts i j n u) by rw[HPN.out,HN.out]);rw[<-HE.out] at HO;go_wp2;go_roundw
   case rel=>exact⟨n+1,by omega,by go_num,HO,HB⟩
   case measure=>simp[intOf];omega
theorem yCy:zEn.b:=by
 intro cap cT rs ts HV8 hr8 ht6 m i j w HIJ HJ HM s ad HT0 j1 j2 j3 j4 HS _ wc u18 u19 u20 u21 u22 u23 u24 u25 u26 u27 u28 u29 u30 u31 u32 u33 u34 u35 u36 u195 K0 e0 wr u9 u11 u12 u13 u14 u15 u16 u17 u37 u38 u39 u40 u41 u42 u43 u44 u45 u46 u47 u48 u49 u50 u51 u52 u53 u54 u55 u56 u57 u58 u59 u60 u61 u62 u63 u64 u65 u66 u67 u68 u69 u70 u71 u72 u73 u74 u75 u76 u77 u78 u79 u80 u81 u82 u83 u84 u85 u86 u87 u88 u89 u90 u91 u92 u93 u94 u95 u96 u97 u98 u99 u100 u101 u102 u103 u104 u105 u106 u107 u108 u109 u110 u111 u112 u113 u114 u115 u116 u117 u118 u119 u120 u121 u122 u123 u124 u125 u126 u127 u128 u129 u130 u131 u132 u133 u134 u135 u136 u137 u138 u139 u140 u141 u142 u143 u144 u145 u146 u147 u148 u149 u150 u151 u152 u153 u154 u155 u156 u157 u158 u159 u160 u161 u162 u163 u164 u165 u166 u167 u168 u169 u170 u171 u172 u173 u174 u175 u176 u177 u178 u179 u180 u181 u182 u183 u184 u185 u186 u187 u188 u189 u190 u191 u192 u193 u194 n hn _ _ hlt u _ ad2 HR0 IH HU HPN Q1 K1 e1 K2 e2 w5 HO HB g0 HXG HFAR KU k0 q1 q2;obtain⟨i0,hi,hz0,hz1,hz2⟩:=info_parts zEe;have HN:=zh (zYh (ts:=ts) (i:=i) (j:=j) HU.out q2);have b1:(u.kind==1)=false:=bn q1;have b2:(u.kind==2)=true:=beq_iff_eq.2 q2;obtain⟨hf2,ad3,e3,hadl3,c0⟩:=(HT0.out.keep HB.out) i s HS.out;obtain rfl:=sj e3;have HTK:=zh (show tokB ts i u.sym.toList=(s.toList==u.sym.toList) by unfold tokB;rw[HS.out]);have c1:=KU.out.cell 1;clear e3 hf2 hadl3 q1 q2;go_upto_region 18 with(fail)
 go_quiet (fail)
 have HO:=zh (HO.out.keep (below_drewN (Below.refl _ _) nq));have HB:=zh (below_drewN HB.out nq);have KU:=zh (Blk.drewN KU.out nq);generalize w5.drewN nq=w7 at*;clear c0 c1;cases hbq:(s.toList==u.sym.toList)
 ·have HE:=zh (show preR rs ts i j (n+1)=preR rs ts i j n by rw[HPN.out,HN.out,HTK.out,hbq];simp);rw[<-HE.out] at HO;go_wp2;go_roundw
  case rel=>exact⟨n+1,by omega,by go_num,HO,HB⟩
  case measure=>simp[intOf];omega
 ·have HE:=zh (show preR rs ts i j (n+1)=preR rs ts i j n++zBe n i (zA5 rs (allR rs ts (i+1) j) u.right) by rw[HPN.out,HN.out,HTK.out,hbq,if_pos rfl]);have HA1:=zh (fun(wq:World) (hb:Below w.heap.size w wq)=>IH.out (i+1) j wq (by have:=HM.out;have:=HIJ.out;omega) (HJ.out) (HR0.out.keep hb) (HT0.out.keep hb));have HR7:=zh (HR0.out.keep HB.out);have HL1:=zh (show(allR rs ts (i+1) j).length<=100000000 from Nat.le_trans (zBv HV8.out ht6 HJ.out) (by omega));clear hbq HTK;go_upto_region 19 with(fail)
  refine zAs (X:=GA) (by as_aux_lemma=>kernel_rfl) _ (fun gx=>[.slice (some ad2) rs.length cap,.slice (some ad2) rs.length cap,.slice (some ad) ts.length cT,qI (↑i),qI ((↑i)+1),qI (↑j),gx.a,.pointer (some ⟨g0,5,none⟩),qI u.right,gx.b,gx.b]) [true,true,true,true,true,true,true,true,true,true,true] [6,9] (fun L g wq=>InvA w w7 u9 (allR rs ts (i+1) j) (zA5 rs (allR rs ts (i+1) j) u.right) [] [] [] [] (L++[false,false,false,false]) g wq) ⟨.nilFunc,.nilFunc,.nilFunc,.nilFunc,.nilFunc,.nilFunc⟩ (by as_aux_lemma=>kernel_rfl) (fun gx=>by simp[fin,zBz,zAk,List.range,List.range.loop,Act.put];rfl) (fun _=>by as_aux_lemma=>kernel_rfl) (by as_aux_lemma=>kernel_rfl) InvA.start ?_ ?_
  ·refine⟨jS,jS,jS,jS,fun L gx wq hL hb ha hI=>?_,jS,fun L gx wq hL hb ha hI=>?_,jT,fun L gx wq hL hb ha hI=>?_,fun L gx wq hL hb ha hI=>?_,jS,trivial⟩
   ·skip
    exact jq (qI ((↑i)+1)) wq (by simp[go_sem];exact IntWalk.i64_in _ (by omega)) rfl hI
   ·have hX:=hI.below rfl;refine jc 113 (#[.slice (some ad2) rs.length cap,.slice (some ad) ts.length cT,qI ((i+1:Nat):Int),qI (↑j)]) wq (by as_aux_lemma=>kernel_rfl) ((HA1.out wq (HB.out.trans (hX.mono HB.out.size))).mono ?_);rintro e wa ⟨v,rfl,ho,hb2⟩;exact⟨_,rfl,{gx with a:=v},rfl,(by refine zAg.of_same ⟨?_,?_,?_,?_,?_,?_,?_,?_,?_,?_,?_,trivial⟩<;>first|exact jK|exact .inl rfl|exact .inr (.inl (by kernel_rfl))),InvA.s0 rfl hI hb2 ho⟩
   ·have hX:=hI.below rfl;have cu:=(keep hX KU.out).cell 5;exact jq (qI u.right) wq (by simp[go_sem,cu]) rfl hI
   ·have hX:=hI.below rfl;have ex:L 6=true:=hb 6 (by as_aux_lemma=>kernel_rfl);obtain⟨ga,gb,gc,gd,ge,gf⟩:=gx;obtain⟨A1,c1,e1,h1⟩:=InvA.list ((hI.1 rfl).2.1 (congrArg some ex)) (fun b h=>h);obtain rfl:ga=_:=e1;refine jc 134 (#[.slice (some ad2) rs.length cap,.slice A1 (allR rs ts (i+1) j).length c1,qI u.right]) wq (by as_aux_lemma=>kernel_rfl) ((zDy (fun b=>w7.heap.size<=b) (some ad2) A1 cap c1 rs (allR rs ts (i+1) j) u.right wq (HR7.out.keep hX) h1 (fun x hx=>(zFa hx).2) HL1.out).mono ?_);rintro e wa ⟨v,rfl,ho,hb2⟩;exact⟨_,rfl,⟨_,v,gc,gd,ge,gf⟩,rfl,(by refine zAg.of_same ⟨?_,?_,?_,?_,?_,?_,?_,?_,?_,?_,?_,trivial⟩<;>first|exact jK|exact .inl rfl|exact .inr (.inl (by kernel_rfl))),InvA.s1 rfl hI hb2 ho⟩
  ·intro gx wq hI;have hI2:=hI.1 rfl;obtain⟨ga,gb,gc,gd,ge,gf⟩:=gx;obtain⟨L1,cl,e1,hc1,hc2,h3⟩:=(hI2.2.2.1 rfl).form (fun b h=>h);obtain rfl:gb=_:=e1;have HLT:=zh (show ∀b,u9.ownBlock=some b->b<w7.heap.size from fun b hb=>(AppR.lt HO.out b hb).2);have HSZ:=zh HB.out.size;have HO:=zh (HO.out.keep hI2.1);have HB:=zh (HB.out.trans (hI2.1.mono HB.out.size));have HL:=zh (h3.any (ok':=fun b=>u9.ownBlock≠some b/\w.heap.size<=b) fun b _ h=>⟨fun e=>by have:=HLT.out b e;omega,Nat.le_trans HSZ.out h⟩);have HXL:=zh (show(zA5 rs (allR rs ts (i+1) j) u.right).length<=100000000 from Nat.le_trans zCq HL1.out);clear hI hI2 h3 HA1 HL1 HLT HSZ HR7 KU HFAR;generalize (zA5 rs (allR rs ts (i+1) j) u.right)=X at*;dsimp only;have HZ:=zh (show preR rs ts i j n=preR rs ts i j n++zBe n i (X.take 0) by simp[zBe]);rw[HZ.out] at HO;have xl:X.length<=100000000:=HXL.out;have xc:=hc1;go_wp2_with fail
   go_loopw [9,14] (fun v t wr=>∃m9:Nat,m9<=X.length/\t=qI m9/\Hid (AppR (fun b=>w.heap.size<=b) wr w.heap.size v (preR rs ts i j n++zBe n i (X.take m9)))/\Hid (Below w.heap.size w wr)/\Hid (zAp (fun b=>v.ownBlock≠some b/\w.heap.size<=b) wr L1 X)) (fun _ t _=>X.length -(intOf t).toNat)
   case atStart=>exact⟨0,by omega,rfl,HO,HB,HL⟩
   case round=>
    clear HO HB HL;obtain⟨m9,hm9,rfl,HO,HB,HL⟩:=hrel
    by_cases hlk:m9<X.length
    ·obtain⟨x,hx⟩:∃x,X[m9]?=some x:=⟨_,gE hlk⟩
     obtain⟨ad5,rfl,hl5,hk5,_⟩:=HL.out m9 x hx;have HSN:=zh (zOr (r:=n) (a:=i) hx);have HPT:=zh (show preR rs ts i j n++zBe n i (X.take (m9+1))=(preR rs ts i j n++zBe n i (X.take m9))++[.mk n i [x]] by rw[HSN.out,List.append_assoc]);have HLN:=zh (show(preR rs ts i j n++zBe n i (X.take m9)).length<=3000000000000 by
      have h3:=zMm (rs:=rs) (ts:=ts) (n:=n) HIJ.out (by omega);have h4:=zBv HV8.out ht6 (i:=i) HJ.out;rw[List.length_append];unfold zBe;rw[List.length_map,List.length_take];omega)
     have HX:=zh (HL.out.one hx);have m0:(0:Int)<=(m9:Int):=by omega
     have m1:(m9:Int)<=(m9:Int)+1:=by omega
     have m2:(m9:Int)+1<=(cl:Int):=by omega
     have m3:¬cl=m9:=by omega
     clear hx hk5 HSN;generalize preR rs ts i j n++zBe n i (X.take m9)=Y at*;have hxl:=HLN.out;have hba:=zA0 wr (.cells (rdC n i (some (ad5.add (m9*3))) 1 (cl -m9)) 42);have K6:=zh (Blk.new wr 42 (rdC n i (some (ad5.add (m9*3))) 1 (cl -m9)));have hE:=RdAt.of (ok:=fun b=>u9.ownBlock≠some b/\w.heap.size<=b) (w:=wr.alloc (.cells (rdC n i (some (ad5.add (m9*3))) 1 (cl -m9)) 42)) (r:=n) (a:=i) (ks:=[x]) (A:=some (ad5.add (m9*3))) (cap:=cl -m9) (by show 1<=_;omega) (by omega) (HX.out.keep hba);obtain⟨css,ho,hl,hrr⟩:=HO.out.keep hba;have hbs:w.heap.size<=(wr.alloc (.cells (rdC n i (some (ad5.add (m9*3))) 1 (cl -m9)) 42)).heap.size:=Nat.le_trans HB.out.size hba.size;have HLa:=zh (HL.out.keep hba);have HBa:=jt HB hba;have hfar:∀b,u9.ownBlock=some b->w.heap.size<=b:=fun b hb=>(AppR.lt HO.out b hb).1
     clear hba HO HL HX HB;go_wp2_with (at_builtin;refine zA9 _ rfl (.tmp 115) (.tmp 124) 29 rfl w.heap.size 42 i0 (.agg #[qI 0,qI 0,qN]) 3 40 Tryz.underlying29 hi hz0 hz1 hz2 rfl (by decide) _ _ _ rfl ho (wr.heap.size+1) (some ⟨wr.heap.size,0,none⟩) 1 1 (rdC n i (some (ad5.add (m9*3))) 1 (cl -m9)).toList rfl (by have:=zBb K6.out rfl;rw[World.size_alloc] at this;exact this) (zH1 hE) (by unfold maxLen;omega) (by omega) hbs ?_);intro v' w' g2 g3 g4;rw[<-World.size_alloc wr (.cells (rdC n i (some (ad5.add (m9*3))) 1 (cl -m9)) 42)] at g4;have HO:=zh (AppR.push hl hrr hE g2 g3 g4);rw[<-HPT.out] at HO;have HB:=zh (HBa.out.grown g3 hbs hfar);have HL:=zh (zAp.push HLa.out g3 g4);clear ho hl hrr g2 g3 g4 hE hbs hfar HLa HBa K6;go_wp2;go_roundw
     case rel=>exact⟨m9+1,by omega,by go_num,HO,HB,HL⟩
     case measure=>simp[intOf];omega
    ·obtain rfl:m9=X.length:=by omega
     rw[List.take_of_length_le (Nat.le_refl _),<-HE.out] at HO;go_wp2;go_roundw
     case rel=>exact⟨n+1,by omega,by go_num,HO,HB⟩
     case measure=>simp[intOf];omega
theorem yD3:zEn.c:=by
 intro cap cT rs ts HV8 hr8 ht6 m i j w HIJ HJ HM s ad HT0 j1 j2 j3 j4 HS _ wc u18 u19 u20 u21 u22 u23 u24 u25 u26 u27 u28 u29 u30 u31 u32 u33 u34 u35 u36 u195 K0 e0 wr u9 u11 u12 u13 u14 u15 u16 u17 u37 u38 u39 u40 u41 u42 u43 u44 u45 u46 u47 u48 u49 u50 u51 u52 u53 u54 u55 u56 u57 u58 u59 u60 u61 u62 u63 u64 u65 u66 u67 u68 u69 u70 u71 u72 u73 u74 u75 u76 u77 u78 u79 u80 u81 u82 u83 u84 u85 u86 u87 u88 u89 u90 u91 u92 u93 u94 u95 u96 u97 u98 u99 u100 u101 u102 u103 u104 u105 u106 u107 u108 u109 u110 u111 u112 u113 u114 u115 u116 u117 u118 u119 u120 u121 u122 u123 u124 u125 u126 u127 u128 u129 u130 u131 u132 u133 u134 u135 u136 u137 u138 u139 u140 u141 u142 u143 u144 u145 u146 u147 u148 u149 u150 u151 u152 u153 u154 u155 u156 u157 u158 u159 u160 u161 u162 u163 u164 u165 u166 u167 u168 u169 u170 u171 u172 u173 u174 u175 u176 u177 u178 u179 u180 u181 u182 u183 u184 u185 u186 u187 u188 u189 u190 u191 u192 u193 u194 n hn _ _ hlt u _ ad2 HR0 IH HU HPN Q1 K1 e1 K2 e2 w5 HO HB g0 HXG HFAR KU k0 q1 q2 q3;obtain⟨i0,hi,hz0,hz1,hz2⟩:=info_parts zEe;have HN:=zh (zU1 (ts:=ts) (i:=i) (j:=j) HU.out q3);have b1:(u.kind==1)=false:=bn q1;have b2:(u.kind==2)=false:=bn q2;have b3:(u.kind==3)=true:=beq_iff_eq.2 q3;obtain⟨jj,hj1⟩:∃jj:Nat,j=jj+1:=⟨j -1,by have:=HIJ.out;omega⟩
 have ej:(j:Int) -1=(jj:Int):=by omega
 have HJJ:=zh hj1;have HN:=zh (HN.out);rw[show j -1=jj by omega] at HN;obtain⟨s2,hs2⟩:∃s2,ts[jj]?=some s2:=⟨_,gE (by have:=HJ.out;omega)⟩
 have HS:=zh hs2;have j6:(jj:Int)<(ts.length:Int):=by have:=HJ.out;omega
 have j7:(0:Int)<=(jj:Int):=by omega
 clear hj1 hs2;obtain⟨hf2,ad3,e3,hadl3,c0⟩:=(HT0.out.keep HB.out) jj s2 HS.out;obtain rfl:=sj e3;have HTK:=zh (show tokB ts jj u.sym.toList=(s2.toList==u.sym.toList) by unfold tokB;rw[HS.out]);have c1:=KU.out.cell 1;clear e3 hf2 hadl3 q1 q2 q3;go_upto_region 25 with(fail)
 go_quiet (fail)
 have HO:=zh (HO.out.keep (below_drewN (Below.refl _ _) nq));have HB:=zh (below_drewN HB.out nq);have KU:=zh (Blk.drewN KU.out nq);generalize w5.drewN nq=w7 at*;clear c0 c1;cases hbq:(s2.toList==u.sym.toList)
 ·have HE:=zh (show preR rs ts i j (n+1)=preR rs ts i j n by rw[HPN.out,HN.out,HTK.out,hbq];simp);rw[<-HE.out] at HO;go_wp2;go_roundw
  case rel=>exact⟨n+1,by omega,by go_num,HO,HB⟩
  case measure=>simp[intOf];omega
 ·have HE:=zh (show preR rs ts i j (n+1)=preR rs ts i j n++zBe n i (zA5 rs (allR rs ts i jj) u.left) by rw[HPN.out,HN.out,HTK.out,hbq,if_pos rfl]);have HA1:=zh (fun(wq:World) (hb:Below w.heap.size w wq)=>IH.out i jj wq (by have:=HM.out;have:=HIJ.out;have:=HJJ.out;omega) (by have:=HJ.out;have:=HJJ.out;omega) (HR0.out.keep hb) (HT0.out.keep hb));have HR7:=zh (HR0.out.keep HB.out);have HL1:=zh (show(allR rs ts i jj).length<=100000000 from Nat.le_trans (zBv HV8.out ht6 (by have:=HJ.out;have:=HJJ.out;omega)) (by omega));clear hbq HTK;go_upto_region 26 with(fail)
  refine zAs (X:=GA) (by as_aux_lemma=>kernel_rfl) _ (fun gx=>[.slice (some ad2) rs.length cap,.slice (some ad2) rs.length cap,.slice (some ad) ts.length cT,qI (↑i),qI (↑j),qI (↑jj),gx.a,.pointer (some ⟨g0,4,none⟩),qI u.left,gx.b,gx.b]) [true,true,true,true,true,true,true,true,true,true,true] [6,9] (fun L g wq=>InvA w w7 u9 (allR rs ts i jj) (zA5 rs (allR rs ts i jj) u.left) [] [] [] [] (L++[false,false,false,false]) g wq) ⟨.nilFunc,.nilFunc,.nilFunc,.nilFunc,.nilFunc,.nilFunc⟩ (by as_aux_lemma=>kernel_rfl) (fun gx=>by simp[fin,zBz,zAk,List.range,List.range.loop,Act.put];rfl) (fun _=>by as_aux_lemma=>kernel_rfl) (by as_aux_lemma=>kernel_rfl) InvA.start ?_ ?_
  ·refine⟨jS,jS,jS,jS,jS,fun L gx wq hL hb ha hI=>?_,fun L gx wq hL hb ha hI=>?_,jT,fun L gx wq hL hb ha hI=>?_,fun L gx wq hL hb ha hI=>?_,jS,trivial⟩
   ·skip
    exact jq (qI (↑jj)) wq (by simp[go_sem,ej];exact IntWalk.i64_in _ (by omega)) rfl hI
   ·have hX:=hI.below rfl;refine jc 113 (#[.slice (some ad2) rs.length cap,.slice (some ad) ts.length cT,qI (↑i),qI (↑jj)]) wq (by as_aux_lemma=>kernel_rfl) ((HA1.out wq (HB.out.trans (hX.mono HB.out.size))).mono ?_);rintro e wa ⟨v,rfl,ho,hb2⟩;exact⟨_,rfl,{gx with a:=v},rfl,(by refine zAg.of_same ⟨?_,?_,?_,?_,?_,?_,?_,?_,?_,?_,?_,trivial⟩<;>first|exact jK|exact .inl rfl|exact .inr (.inl (by kernel_rfl))),InvA.s0 rfl hI hb2 ho⟩
   ·have hX:=hI.below rfl;have cu:=(keep hX KU.out).cell 4;exact jq (qI u.left) wq (by simp[go_sem,cu]) rfl hI
   ·have hX:=hI.below rfl;have ex:L 6=true:=hb 6 (by as_aux_lemma=>kernel_rfl);obtain⟨ga,gb,gc,gd,ge,gf⟩:=gx;obtain⟨A1,c1,e1,h1⟩:=InvA.list ((hI.1 rfl).2.1 (congrArg some ex)) (fun b h=>h);obtain rfl:ga=_:=e1;refine jc 134 (#[.slice (some ad2) rs.length cap,.slice A1 (allR rs ts i jj).length c1,qI u.left]) wq (by as_aux_lemma=>kernel_rfl) ((zDy (fun b=>w7.heap.size<=b) (some ad2) A1 cap c1 rs (allR rs ts i jj) u.left wq (HR7.out.keep hX) h1 (fun x hx=>(zFa hx).2) HL1.out).mono ?_);rintro e wa ⟨v,rfl,ho,hb2⟩;exact⟨_,rfl,⟨_,v,gc,gd,ge,gf⟩,rfl,(by refine zAg.of_same ⟨?_,?_,?_,?_,?_,?_,?_,?_,?_,?_,?_,trivial⟩<;>first|exact jK|exact .inl rfl|exact .inr (.inl (by kernel_rfl))),InvA.s1 rfl hI hb2 ho⟩
  ·intro gx wq hI;have hI2:=hI.1 rfl;obtain⟨ga,gb,gc,gd,ge,gf⟩:=gx;obtain⟨L1,cl,e1,hc1,hc2,h3⟩:=(hI2.2.2.1 rfl).form (fun b h=>h);obtain rfl:gb=_:=e1;have HLT:=zh (show ∀b,u9.ownBlock=some b->b<w7.heap.size from fun b hb=>(AppR.lt HO.out b hb).2);have HSZ:=zh HB.out.size;have HO:=zh (HO.out.keep hI2.1);have HB:=zh (HB.out.trans (hI2.1.mono HB.out.size));have HL:=zh (h3.any (ok':=fun b=>u9.ownBlock≠some b/\w.heap.size<=b) fun b _ h=>⟨fun e=>by have:=HLT.out b e;omega,Nat.le_trans HSZ.out h⟩);have HXL:=zh (show(zA5 rs (allR rs ts i jj) u.left).length<=100000000 from Nat.le_trans zCq HL1.out);clear hI hI2 h3 HA1 HL1 HLT HSZ HR7 KU HFAR;generalize (zA5 rs (allR rs ts i jj) u.left)=X at*;dsimp only;have HZ:=zh (show preR rs ts i j n=preR rs ts i j n++zBe n i (X.take 0) by simp[zBe]);rw[HZ.out] at HO;have xl:X.length<=100000000:=HXL.out;have xc:=hc1;go_wp2_with fail
   go_loopw [9,16] (fun v t wr=>∃m9:Nat,m9<=X.length/\t=qI m9/\Hid (AppR (fun b=>w.heap.size<=b) wr w.heap.size v (preR rs ts i j n++zBe n i (X.take m9)))/\Hid (Below w.heap.size w wr)/\Hid (zAp (fun b=>v.ownBlock≠some b/\w.heap.size<=b) wr L1 X)) (fun _ t _=>X.length -(intOf t).toNat)
   case atStart=>exact⟨0,by omega,rfl,HO,HB,HL⟩
   case round=>
    clear HO HB HL;obtain⟨m9,hm9,rfl,HO,HB,HL⟩:=hrel
    by_cases hlk:m9<X.length
    ·obtain⟨x,hx⟩:∃x,X[m9]?=some x:=⟨_,gE hlk⟩
     obtain⟨ad5,rfl,hl5,hk5,_⟩:=HL.out m9 x hx;have HSN:=zh (zOr (r:=n) (a:=i) hx);have HPT:=zh (show preR rs ts i j n++zBe n i (X.take (m9+1))=(preR rs ts i j n++zBe n i (X.take m9))++[.mk n i [x]] by rw[HSN.out,List.append_assoc]);have HLN:=zh (show(preR rs ts i j n++zBe n i (X.take m9)).length<=3000000000000 by
      have h3:=zMm (rs:=rs) (ts:=ts) (n:=n) HIJ.out (by omega);have h4:=zBv HV8.out ht6 (i:=i) HJ.out;rw[List.length_append];unfold zBe;rw[List.length_map,List.length_take];omega)
     have HX:=zh (HL.out.one hx);have m0:(0:Int)<=(m9:Int):=by omega
     have m1:(m9:Int)<=(m9:Int)+1:=by omega
     have m2:(m9:Int)+1<=(cl:Int):=by omega
     have m3:¬cl=m9:=by omega
     clear hx hk5 HSN;generalize preR rs ts i j n++zBe n i (X.take m9)=Y at*;have hxl:=HLN.out;have hba:=zA0 wr (.cells (rdC n i (some (ad5.add (m9*3))) 1 (cl -m9)) 42);have K6:=zh (Blk.new wr 42 (rdC n i (some (ad5.add (m9*3))) 1 (cl -m9)));have hE:=RdAt.of (ok:=fun b=>u9.ownBlock≠some b/\w.heap.size<=b) (w:=wr.alloc (.cells (rdC n i (some (ad5.add (m9*3))) 1 (cl -m9)) 42)) (r:=n) (a:=i) (ks:=[x]) (A:=some (ad5.add (m9*3))) (cap:=cl -m9) (by show 1<=_;omega) (by omega) (HX.out.keep hba);obtain⟨css,ho,hl,hrr⟩:=HO.out.keep hba;have hbs:w.heap.size<=(wr.alloc (.cells (rdC n i (some (ad5.add (m9*3))) 1 (cl -m9)) 42)).heap.size:=Nat.le_trans HB.out.size hba.size;have HLa:=zh (HL.out.keep hba);have HBa:=jt HB hba;have hfar:∀b,u9.ownBlock=some b->w.heap.size<=b:=fun b hb=>(AppR.lt HO.out b hb).1
     clear hba HO HL HX HB;go_wp2_with (at_builtin;refine zA9 _ rfl (.tmp 152) (.tmp 161) 29 rfl w.heap.size 42 i0 (.agg #[qI 0,qI 0,qN]) 3 40 Tryz.underlying29 hi hz0 hz1 hz2 rfl (by decide) _ _ _ rfl ho (wr.heap.size+1) (some ⟨wr.heap.size,0,none⟩) 1 1 (rdC n i (some (ad5.add (m9*3))) 1 (cl -m9)).toList rfl (by have:=zBb K6.out rfl;rw[World.size_alloc] at this;exact this) (zH1 hE) (by unfold maxLen;omega) (by omega) hbs ?_);intro v' w' g2 g3 g4;rw[<-World.size_alloc wr (.cells (rdC n i (some (ad5.add (m9*3))) 1 (cl -m9)) 42)] at g4;have HO:=zh (AppR.push hl hrr hE g2 g3 g4);rw[<-HPT.out] at HO;have HB:=zh (HBa.out.grown g3 hbs hfar);have HL:=zh (zAp.push HLa.out g3 g4);clear ho hl hrr g2 g3 g4 hE hbs hfar HLa HBa K6;go_wp2;go_roundw
     case rel=>exact⟨m9+1,by omega,by go_num,HO,HB,HL⟩
     case measure=>simp[intOf];omega
    ·obtain rfl:m9=X.length:=by omega
     rw[List.take_of_length_le (Nat.le_refl _),<-HE.out] at HO;go_wp2;go_roundw
     case rel=>exact⟨n+1,by omega,by go_num,HO,HB⟩
     case measure=>simp[intOf];omega
end Go.Proofs.YtapgncbegadbnaaGreatDoor.Ch
