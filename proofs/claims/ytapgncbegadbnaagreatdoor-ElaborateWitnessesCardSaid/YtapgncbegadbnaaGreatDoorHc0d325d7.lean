/- A shared reading in new memory. -/
import Derived.Test.YtapgncbegadbnaaGreatDoorH67307cb5
import Derived.Lib.Case
import Derived.Lib.ItoaNum
import Derived.StringKeys
import Derived.Lib.SmallJoins
import Derived.Lib.ItoaLen
import Derived.Shelf.Strings.BuilderK
import Derived.Deep.WholeRow
set_option maxRecDepth 100000
set_option maxHeartbeats 4000000
namespace Go.Proofs.YtapgncbegadbnaaGreatDoor
namespace Ch
open Go.RowKit
variable{ok' P:Nat->Prop}{w w':World}{x:Rd}{A:Option Addr}{ks xs:List Rd}{B k:Nat}{css:List (Array Value)}{ts:List ByteArray}{s:ByteArray}
abbrev rdC (r a:Int)(A:Option Addr)(n cap:Nat):Array Value:= #[qI r,qI a,.slice A n cap]
inductive RdAt (ok:Nat->Prop) (w:World):Rd->Array Value->Prop
 |mk (r a:Int) (ks:List Rd) (A:Option Addr) (cap:Nat) (ad:Addr) (cs:Nat->Array Value) (hn:ks.length<=cap) (hc:cap<=9223372036854775807)
   (hA:ks=[]\/(A=some ad/\ad.block<w.heap.size/\ok ad.block)) (hcell:∀i,i<ks.length->∀j,j<3->w.cell? (ad.add (i*3+j))=(cs i)[j]?)
   (hk:∀(i:Nat) (h:i<ks.length),RdAt ok w ks[i] (cs i)):RdAt ok w (.mk r a ks) (rdC r a A ks.length cap)
def zAp (ok:Nat->Prop)(w:World)(A:Option Addr)(ks:List Rd):Prop:=∀(i:Nat) (x:Rd),ks[i]?=some x->∃ad:Addr,A=some ad/\ad.block<w.heap.size/\ok ad.block/\∃c,RdAt ok w x c/\∀j,j<3->w.cell? (ad.add (i*3+j))=c[j]?
theorem RdAt.map {ok:Nat->Prop}(hs:w.heap.size<=w'.heap.size)(hok:∀b,b<w.heap.size->ok b->ok' b)(hc:∀p:Addr,p.block<w.heap.size->ok p.block->w'.cell? p=w.cell? p){c:Array Value}(h:RdAt ok w x c):RdAt ok' w' x c:=by
 induction h with
 |mk r a ks A cap ad cs hn hcap hA hcell hk ih=>
  refine .mk r a ks A cap ad cs hn hcap (hA.imp id fun⟨h1,h2,h3⟩=>⟨h1,ll h2 hs,hok _ h2 h3⟩) (fun i hi j hj=>?_) ih;rcases hA with h|⟨h1,h2,h3⟩
  ·subst h;simp at hi
  ·rw[hc _ (by rw[add_block];exact h2) (by rw[add_block];exact h3)];exact hcell i hi j hj
theorem RdAt.keep {ok:Nat->Prop}{c:Array Value}(h:RdAt ok w x c)(hb:Below w.heap.size w w'):RdAt ok w' x c:=h.map hb.size (fun _ _ h=>h) fun _ hp _=>hb.cell hp
theorem RdAt.any {ok:Nat->Prop}{c:Array Value}(h:RdAt ok w x c)(hok:∀b,b<w.heap.size->ok b->ok' b):RdAt ok' w x c:=h.map (Nat.le_refl _) hok fun _ _ _=>rfl
theorem RdAt.grown {ok:Nat->Prop}{row:Option Nat}{c:Array Value}(h:RdAt ok w x c)(hg:w.grownBy w' row)(hr:∀b,b<w.heap.size->ok b->some b≠row)(hok:∀b,b<w.heap.size->ok b->ok' b):RdAt ok' w' x c:=
 h.map hg.size hok fun _ hp ho=>World.cell?_of_block (hg.block _ hp (hr _ hp ho))
theorem zAp.map {ok ok':Nat->Prop}{w w':World}(hs:w.heap.size<=w'.heap.size)(hok:∀b,b<w.heap.size->ok b->ok' b)(hc:∀p:Addr,p.block<w.heap.size->ok p.block->w'.cell? p=w.cell? p){A:Option Addr}{ks:List Rd}(h:zAp ok w A ks):zAp ok' w' A ks:=fun i x hi=>by
 obtain⟨ad,h1,h2,h3,c,h4,h5⟩:=h i x hi;exact⟨ad,h1,ll h2 hs,hok _ h2 h3,c,h4.map hs hok hc,fun j hj=>by rw[hc _ (by rw[add_block];exact h2) (by rw[add_block];exact h3)];exact h5 j hj⟩
theorem zAp.keep {ok:Nat->Prop}(h:zAp ok w A ks)(hb:Below w.heap.size w w'):zAp ok w' A ks:=h.map hb.size (fun _ _ h=>h) fun _ hp _=>hb.cell hp
theorem zAp.any {ok:Nat->Prop}(h:zAp ok w A ks)(hok:∀b,b<w.heap.size->ok b->ok' b):zAp ok' w A ks:=h.map (Nat.le_refl _) hok fun _ _ _=>rfl
theorem RdAt.size {ok:Nat->Prop}{w:World}{x:Rd}{c:Array Value}(h:RdAt ok w x c):c.size=3:=by cases h;rfl
theorem RdAt.form {ok:Nat->Prop}{c:Array Value}(h:RdAt ok w x c):∃A cap,c=rdC x.rule x.at_ A x.kids.length cap/\x.kids.length<=cap/\cap<=9223372036854775807/\zAp ok w A x.kids:=by
 cases h with
 |mk r a ks A cap ad cs hn hcap hA hcell hk=>
  refine⟨A,cap,rfl,hn,hcap,fun i x hi=>?_⟩;obtain⟨hl,rfl⟩:=List.getElem?_eq_some_iff.1 hi;have hl:i<ks.length:=hl;rcases hA with h|⟨h1,h2,h3⟩
  ·subst h;simp at hl
  ·exact⟨ad,h1,h2,h3,cs i,hk i hl,hcell i hl⟩
theorem RdAt.of {ok:Nat->Prop}{r a:Int}{cap:Nat}(hn:ks.length<=cap)(hc:cap<=9223372036854775807)(hk:zAp ok w A ks):RdAt ok w (.mk r a ks) (rdC r a A ks.length cap):=by
 by_cases h0:ks=[]
 ·subst h0;exact .mk r a [] A cap ⟨0,0,none⟩ (fun _=> #[]) hn hc (.inl rfl) (fun i hi=>by simp at hi) (fun i hi=>by simp at hi)
 ·have h1:0<ks.length:=List.length_pos_iff.2 h0;obtain⟨ad,hA,hlt,hok,_⟩:=hk 0 ks[0] (gE h1);have ex:∀i,∃c,∀h:i<ks.length,RdAt ok w ks[i] c/\∀j,j<3->w.cell? (ad.add (i*3+j))=c[j]?:=fun i=>by
   by_cases h:i<ks.length
   ·obtain⟨ad',hA',_,_,c,h2,h3⟩:=hk i ks[i] (gE h);obtain rfl:ad=ad':=by rw[hA] at hA';exact sj hA'
    exact⟨c,fun _=>⟨h2,h3⟩⟩
   ·exact⟨#[],fun h'=>absurd h' h⟩
  obtain⟨cs,hcs⟩:=Classical.axiomOfChoice ex;exact .mk r a ks A cap ad cs hn hc (.inr ⟨hA,hlt,hok⟩) (fun i hi=>(hcs i hi).2) (fun i hi=>(hcs i hi).1)
def OwnR (ok:Nat->Prop)(w:World)(B:Nat)(v:Value)(xs:List Rd):Prop:=∃css:List (Array Value),w.ownsRow B 42 3 v xs.length (css.flatMap (·.toList))/\css.length=xs.length/\(∀(j:Nat) c x,css[j]?=some c->xs[j]?=some x->RdAt ok w x c)
theorem flat3:∀(l:List (Array Value)) (k j:Nat) (c:Array Value),(∀c∈l,c.size=3)->l[k]?=some c->j<3->(l.flatMap (·.toList))[k*3+j]?=c[j]?
 |[],k,j,c,_,h,_=>by simp at h
 |x::r,0,j,c,hs,h,hj=>by
  obtain rfl:x=c:=by simpa using h
  have:=hs x List.mem_cons_self;rw[List.flatMap_cons,List.getElem?_append_left (by simp;omega)];simp
 |x::r,k+1,j,c,hs,h,hj=>by
  have ih:=flat3 r k j c (fun c hc=>hs c (List.mem_cons_of_mem _ hc)) (by simpa using h) hj;have:=hs x List.mem_cons_self;rw[List.flatMap_cons,List.getElem?_append_right (by simp;omega),<-ih]
  congr 1
  simp;omega
theorem OwnR.nil (ok:Nat->Prop)(w:World)(B:Nat):OwnR ok w B qN []:=⟨[],World.ownsRow_nil _ _ _ _,rfl,fun j c x h=>by simp at h⟩
theorem OwnR.size {ok:Nat->Prop}{w:World}{xs:List Rd}{css:List (Array Value)}(hl:css.length=xs.length)(h:∀(j:Nat) c x,css[j]?=some c->xs[j]?=some x->RdAt ok w x c):∀c∈css,c.size=3:=fun c hc=>by
 obtain⟨j,hj⟩:=List.mem_iff_getElem?.1 hc;have hj2:=(List.getElem?_eq_some_iff.1 hj).1;exact(h j c xs[j] hj (gE (by omega))).size
theorem OwnR.keep {ok:Nat->Prop}{w w':World}{B:Nat}{v:Value}{xs:List Rd}(h:OwnR ok w B v xs)(hb:Below w.heap.size w w'):OwnR ok w' B v xs:=by
 obtain⟨css,h1,h2,h3⟩:=h;exact⟨css,own_below h1 hb,h2,fun j c x hj hx=>(h3 j c x hj hx).keep hb⟩
theorem OwnR.more {ok:Nat->Prop}{B':Nat}{v:Value}(h:OwnR ok w B v xs)(hB:B'<=B):OwnR ok w B' v xs:=by
 obtain⟨css,h1,h2⟩:=h;exact⟨css,zG0 h1 hB,h2⟩
theorem OwnR.any {ok ok':Nat->Prop}{w:World}{B:Nat}{v:Value}{xs:List Rd}(h:OwnR ok w B v xs)(hok:∀b,b<w.heap.size->ok b->ok' b):OwnR ok' w B v xs:=by
 obtain⟨css,h1,h2,h3⟩:=h;exact⟨css,h1,h2,fun j c x hj hx=>(h3 j c x hj hx).any hok⟩
theorem OwnR.zOw {ok:Nat->Prop}{v:Value}(h:OwnR ok w B v xs)(hB:∀b,B<=b->P b)(hok:∀b,ok b->P b):∃A cap,v= .slice A xs.length cap/\xs.length<=cap/\cap<=9223372036854775807/\zAp P w A xs:=by
 obtain⟨css,ho,hl,hr⟩:=h;have hsz:=OwnR.size hl hr;rcases ho.2 with⟨rfl,h0⟩|⟨g,cap,cur,rfl,hg,hb,hn,hc,hs,ht⟩
 ·obtain rfl:xs=[]:=List.length_eq_zero_iff.1 h0;exact⟨none,0,rfl,by simp,by omega,fun j p hj=>by simp at hj⟩
 ·have hb':Blk w g 42 cur:=hb;refine⟨_,cap,rfl,hn,by unfold maxLen at hc;omega,fun i x hi=>⟨⟨g,0,none⟩,rfl,hb'.lt,hB g hg,?_⟩⟩;have hil:=(List.getElem?_eq_some_iff.1 hi).1;obtain⟨c,hci⟩:∃c,css[i]?=some c:=⟨_,gE (by omega)⟩
  refine⟨c,(hr i c x hci hi).any fun b _ h=>hok b h,fun j hj=>?_⟩;have h3:=flat3 css i j c hsz hci hj;have hjc:j<c.size:=by rw[hsz c (List.mem_of_getElem? hci)];exact hj
  have h4:c[j]?=some c[j]:=Array.getElem?_eq_getElem hjc;rw[show(⟨g,0,none⟩:Addr).add (i*3+j)=⟨g,i*3+j,none⟩ by unfold Addr.add;split<;>simp_all,hb'.cell];rw[h4] at h3⊢;rw[<-ht,List.getElem?_take] at h3
  split at h3
  ·rw[<-Array.getElem?_toList];exact h3
  ·cases h3
theorem OwnR.form {ok:Nat->Prop}{v:Value}(h:OwnR ok w B v xs):∃A cap,v= .slice A xs.length cap/\xs.length<=cap/\cap<=9223372036854775807/\zAp (fun _=>True) w A xs:=h.zOw (fun _ _=>trivial) fun _ _=>trivial
theorem OwnR.lt {ok:Nat->Prop}{w:World}{B:Nat}{v:Value}{xs:List Rd}(h:OwnR ok w B v xs):∀r,v.ownBlock=some r->B<=r/\r<w.heap.size:=by
 obtain⟨css,ho,_⟩:=h;exact World.ownsRow.lt ho
theorem OwnR.snoc {ok:Nat->Prop}{v v':Value}{c:Array Value}(hl:css.length=xs.length)(h:∀(j:Nat) c x,css[j]?=some c->xs[j]?=some x->RdAt ok w x c)(hx:RdAt ok w x c)(ho:w'.ownsRow B 42 3 v' (xs.length+1) (css.flatMap (·.toList)++c.toList))(hg:w.grownBy w' v.ownBlock)(hr:∀b,b<w.heap.size->ok b->some b≠v.ownBlock)(hok:∀b,b<w.heap.size->ok b->ok' b):OwnR ok' w' B v' (xs++[x]):=by
 refine⟨css++[c],?_,by simp[hl],fun j d y hj hy=>?_⟩
 ·rw[List.length_append,List.flatMap_append]
  simpa using ho
 ·rcases Nat.lt_or_ge j css.length with hlt|hge
  ·rw[List.getElem?_append_left hlt] at hj;rw[List.getElem?_append_left (by omega)] at hy;exact(h j d y hj hy).grown hg hr hok
  ·rw[List.getElem?_append_right hge] at hj;rw[List.getElem?_append_right (by omega),<-hl] at hy
   by_cases e:j -css.length=0
   ·rw[e] at hj hy;obtain rfl:c=d:=by simpa using hj
    obtain rfl:x=y:=by simpa using hy
    exact hx.grown hg hr hok
   ·rw[List.getElem?_eq_none (by simp;omega)] at hj;cases hj
def AppR (P:Nat->Prop)(w:World)(B:Nat)(v:Value)(xs:List Rd):Prop:=OwnR (fun b=>v.ownBlock≠some b/\P b) w B v xs
theorem AppR.nil (P:Nat->Prop)(w:World)(B:Nat):AppR P w B qN []:=OwnR.nil _ _ _
theorem AppR.keep {P:Nat->Prop}{w w':World}{B:Nat}{v:Value}{xs:List Rd}(h:AppR P w B v xs)(hb:Below w.heap.size w w'):AppR P w' B v xs:=OwnR.keep h hb
theorem AppR.push {v v':Value}{c:Array Value}(hl:css.length=xs.length)(h:∀(j:Nat) c x,css[j]?=some c->xs[j]?=some x->RdAt (fun b=>v.ownBlock≠some b/\P b) w x c)(hx:RdAt (fun b=>v.ownBlock≠some b/\P b) w x c)(ho:w'.ownsRow B 42 3 v' (xs.length+1) (css.flatMap (·.toList)++c.toList))(hg:w.grownBy w' v.ownBlock)(hv:v'.ownBlock=v.ownBlock\/v'.ownBlock=some w.heap.size):AppR P w' B v' (xs++[x]):=
 OwnR.snoc hl h hx ho hg (fun b _ hb e=>hb.1 e.symm) (fun b hb hok=>⟨by
  rcases hv with e|e
  ·rw[e];exact hok.1
  ·rw[e];intro h2;have:=sj h2;omega,hok.2⟩)
theorem AppR.set_ {v:Value}(h:AppR P w B v xs){p:Addr}(hp:¬P p.block)(hpB:p.block<B)(u:Value):AppR P (w.setCell p u) B v xs:=by
 obtain⟨css,h1,h2,h3⟩:=h;refine⟨css,World.ownsRow.kept h1 (zBs w p u) ?_,h2,fun j c x hj hx=>(h3 j c x hj hx).map (zBs w p u).size (fun _ _ h=>h) fun q _ ho=>World.cell?_setCell_other w p q u (fun e=>hp (by rw[e];exact ho.2))⟩;cases hv:v.ownBlock with
 |none=>exact .inl rfl
 |some b=>
  refine .inr fun e=>?_
  have:=(World.ownsRow.lt h1 b hv).1;have:=sj e;omega
theorem AppR.form {v:Value}(h:AppR P w B v xs)(hB:∀b,B<=b->P b):∃A cap,v= .slice A xs.length cap/\xs.length<=cap/\cap<=9223372036854775807/\zAp P w A xs:=OwnR.zOw h hB fun _ hb=>hb.2
theorem zBb {g:Nat}{t:TypeId}{c:Array Value}{n:Nat}(h:Blk w g t c)(hn:c.size=n):Reads w w.heap.size n (some ⟨g,0,none⟩) 1 c.toList:=
 ⟨by simp[hn],fun _=>⟨⟨g,0,none⟩,rfl,h.lt,fun j v hj=>by
  have e:(⟨g,0,none⟩:Addr).add j=⟨g,j,none⟩:=by unfold Addr.add;split<;>simp_all
  rw[e,h.cell]
  simpa using hj⟩⟩
theorem zH1 {ok:Nat->Prop}{c:Array Value}(h:RdAt ok w x c):∀u∈c.toList,u.oneCell'=true:=by
 obtain⟨A,cap,rfl,_⟩:=h.form;intro u hu;simp at hu;rcases hu with rfl|rfl|rfl<;>rfl
theorem zEe:(Tryz.prog.info? 42).map (fun i=>(i.zero,i.size,i.bytes))=some (some (.agg #[qI 0,qI 0,qN]),3,40):=by kernel_rfl
theorem ShAt.kids {rs:List Rul}{w:World}{g:Nat}{x:Rd}(h:ShAt rs w g x):∃kv:Nat->Value,Blk w g 149 (shC rs x.rule x.at_ (kv 0) (kv 1))/\x.kids.length<=2/\∀k,k<2->(x.kids.length<=k/\kv k= .pointer none)\/∃b y,x.kids[k]?=some y/\kv k=ptrV b/\ShAt rs w b y:=by
 cases h with
 |leaf _ r a hb=>
  refine⟨fun _=>.pointer none,hb,by simp[Rd.kids],fun k _=>.inl ⟨by simp[Rd.kids],rfl⟩⟩
 |one _ r a g0 x hb hx=>
  refine⟨fun k=>if k=0 then ptrV g0 else .pointer none,hb,by simp[Rd.kids],fun k hk=>?_⟩
  by_cases e:k=0
  ·subst e;exact .inr ⟨g0,x,rfl,rfl,hx⟩
  ·exact .inl ⟨by simp[Rd.kids];omega,if_neg e⟩
 |two _ r a g0 g1 x y hb hx hy=>
  refine⟨fun k=>if k=0 then ptrV g0 else ptrV g1,hb,by simp[Rd.kids],fun k hk=>?_⟩
  by_cases e:k=0
  ·subst e;exact .inr ⟨g0,x,rfl,rfl,hx⟩
  ·obtain rfl:k=1:=by omega
   exact .inr ⟨g1,y,rfl,rfl,hy⟩
theorem zC6 {y:Rd}(h:ks[k]?=some y):zB4 y<=zIy ks:=by
 induction ks generalizing k with
 |nil=>simp at h
 |cons a ks ih=>
  rw[zIy];cases k with
  |zero=>simp at h;subst h;omega
  |succ k=>have:=ih (k:=k) (by simpa using h);omega
def yBm (x:Rd)(w:World)(e:Ending)(w':World):Prop:=∃c,e= .returned (.agg c)/\RdAt (fun b=>w.heap.size<=b) w' x c/\Below w.heap.size w w'
abbrev rdZ:Array Value:= #[qI 0,qI 0,qN]
def InvX (w1:World)(r a:Int):List Bool->Unit->World->Prop
 |[ba,bs],_,wq=>Below w1.heap.size w1 wq/\(ba=false->wq.heap.size=w1.heap.size)/\(ba=true->Blk wq w1.heap.size 42 (if bs then #[qI r,qI a,qN] else rdZ))
 |_,_,_=>False
def InvY (wr:World)(B gB:Nat)(r a:Int)(v:Value)(xs:List Rd)(y:Rd):List Bool->Array Value×Nat×Value->World->Prop
 |[be,bb,ba,bs],gx,wq=>Below B wr wq/\Blk wq B 42 rdZ/\Blk wq gB 42 #[qI r,qI a,if bs then gx.2.2 else v]/\(ba=false->AppR (fun b=>B<b/\b≠gB) wq (gB+1) v xs)/\(be=true->ba=false->RdAt (fun b=>v.ownBlock≠some b/\B<b/\b≠gB) wq y gx.1)/\(bb=true->ba=false->Blk wq gx.2.1 42 gx.1)/\
   (ba=true->AppR (fun b=>B<b/\b≠gB) wq (gB+1) gx.2.2 (xs++[y]))
 |_,_,_=>False
theorem zL1 (a b:Value)(w:World):(Instr.index 147 (.agg #[a,b]) (qI 0)).run Tryz.prog w= .ok a w:=by kernel_rfl
theorem zL6 (a b:Value)(w:World):(Instr.index 147 (.agg #[a,b]) (qI 1)).run Tryz.prog w= .ok b w:=by kernel_rfl
theorem InvY.keep {wr:World}{B gB:Nat}{r a:Int}{v:Value}{xs:List Rd}{y:Rd}{be bb ba bs:Bool}{gx:Array Value×Nat×Value}{wq w':World}(h:InvY wr B gB r a v xs y [be,bb,ba,bs] gx wq)(hs:B<=wq.heap.size)(hb:Below wq.heap.size wq w'):InvY wr B gB r a v xs y [be,bb,ba,bs] gx w':=by
 obtain⟨h1,h2,h3,h4,h5,h6,h7⟩:=h;exact⟨h1.trans (hb.mono hs),jL hb h2,jL hb h3,fun e=>(h4 e).keep hb,fun e e'=>(h5 e e').keep hb,fun e e'=>jL hb (h6 e e'),fun e=>(h7 e).keep hb⟩
theorem zSh (rs:List Rul):∀(m:Nat) (b:Nat) (x:Rd) (w:World),zB4 x<=m->ShAt rs w b x->Calls Tryz.prog 51 #[ptrV b] w (yBm x w):=by
 intro m
 induction m with
 |zero=>intro b x w h;obtain⟨r,a,ks⟩:=x;simp only[zB4] at h;omega
 |succ m ih=>
  intro b x w hm hS;have IH:=zh ih;clear ih;obtain⟨i0,hi,hz0,hz1,hz2⟩:=info_parts zEe;have hba:=zA0 w (.cells rdZ 42);obtain⟨kv,hK,hkl,hkd⟩:=hS.kids;have HK0:=zh hK;have HK:=zh (keep hba hK);have HKD:=zh hkd;have HKL:=zh hkl;have HM:=zh hm;have HB:=zh hba;have K0:=zh (Blk.new w 42 rdZ);have HS1:=zh (World.size_alloc w (.cells rdZ 42));clear hba hK hkd hkl hm hS;go_enter Tryz.func51,Tryz.ntmps51;go_upto_region 1 with(fail)
  generalize w.alloc (.cells rdZ 42)=w1 at*;refine zAs (X:=Unit) (by kernel_rfl) _ (fun gx=>[qP b,qP b,qP b,qI x.rule,qP b,qP b,.pointer (some ⟨b,1,none⟩),qI x.at_,.agg #[qI x.rule,qI x.at_,qN],qP (w.heap.size+1),undef]) [true,true,true,true,true,true,true,true,true,true,true] [9,10] (InvX w1 x.rule x.at_) () (by kernel_rfl) (fun gx=>by simp[fin,zBz,zAk,List.range,List.range.loop,Act.put];rfl) (fun _=>by kernel_rfl) (by kernel_rfl) ⟨zA3 (Below.refl _ _),(fun _=>rfl),fun h=>by cases h⟩ ?_ ?_
  ·refine⟨jS,jT,jT,fun L gx wq hL hb ha hI=>?_,jS,jT,jT,fun L gx wq hL hb ha hI=>?_,jT,fun L gx wq hL hb ha hI=>?_,fun L gx wq hL hb ha hI=>?_,trivial⟩
   ·have cJ:=(keep hI.1 HK.out).cell 0;exact jq (qI x.rule) wq (by simp[go_sem,cJ]) rfl hI
   ·have cJ:=(keep hI.1 HK.out).cell 1;exact jq (qI x.at_) wq (by simp[go_sem,cJ]) rfl hI
   ·have e9:L 9=false:=hL;have e10:L 10=false:=ha 10 (by kernel_rfl);simp only[List.map,e9,e10] at hI⊢;obtain⟨hb1,hsz,_⟩:=hI;have hsz:=hsz rfl;have hba:=zA0 wq (.cells rdZ 42);exact jv (qP wq.heap.size) (wq.alloc (.cells rdZ 42)) (by simp[go_sem]) ⟨(),by rw[hsz,HS1.out];rfl,zAg.same,hb1.trans (hba.mono hb1.size),(fun h=>by cases h),fun _=>by rw[<-hsz];exact Blk.new _ _ _⟩
   ·have e9:L 9=true:=hb 9 (by kernel_rfl);have e10:L 10=false:=hL;simp only[List.map,e9,e10] at hI⊢;obtain⟨hb1,_,hk⟩:=hI;have hk:Blk wq (w.heap.size+1) 42 rdZ:=by rw[<-HS1.out];exact hk rfl
    have c0:=hk.cell 0;have c1:=hk.cell 1;have c2:=hk.cell 2;have fK:=fun i=>hk.frozen i
    exact Gives.skip (w':=((wq.setCell ⟨w.heap.size+1,0,none⟩ (qI x.rule)).setCell ⟨w.heap.size+1,1,none⟩ (qI x.at_)).setCell ⟨w.heap.size+1,2,none⟩ qN) (by simp[go_sem,c0,c1,c2,fK]) ⟨(),rfl,zAg.same,((hb1.setCell (p:=⟨w.heap.size+1,0,none⟩) (by rw[HS1.out];exact Nat.le_refl _) _).setCell (p:=⟨w.heap.size+1,1,none⟩) (by rw[HS1.out];exact Nat.le_refl _) _).setCell (p:=⟨w.heap.size+1,2,none⟩) (by rw[HS1.out];exact Nat.le_refl _) _,(fun h=>by cases h),fun _=>by rw[HS1.out];exact((hk.set_ 0 _).set_ 1 _).set_ 2 _⟩
  ·intro gx wq hI;obtain⟨hb1,_,hk⟩:=hI;have K1:Hid (Blk wq (w.heap.size+1) 42 #[qI x.rule,qI x.at_,qN]):=zh (by rw[<-HS1.out];exact hk rfl);have HKQ:=kp hb1 HK;have K0:=kp hb1 K0;have HB:=jt HB hb1;clear hb1 hk HK HS1;have c3:=HKQ.out.cell 3;have c4:=HKQ.out.cell 4;go_wp2_with fail;clear c3 c4
   go_loopw [19] (fun i wr=>∃(k:Nat) (v:Value),k<=2/\i=qI k/\Hid (AppR (fun b=>w.heap.size<b/\b≠w.heap.size+1) wr (w.heap.size+1+1) v (x.kids.take k))/\Hid (Blk wr (w.heap.size+1) 42 #[qI x.rule,qI x.at_,v])/\Hid (Blk wr w.heap.size 42 rdZ)/\Hid (Below w.heap.size w wr)) (fun i _=>2 -(intOf i).toNat)
   case atStart=>exact⟨0,_,by omega,rfl,by rw[List.take_zero];exact AppR.nil _ _ _,K1,K0,HB⟩
   case round=>
    clear K1 K0 HB;obtain⟨k,v,hk2,rfl,HO,K1,K0,HB⟩:=hrel
    by_cases hlt:k<2
    ·rcases HKD.out k hlt with⟨hkn,hkv⟩|⟨b',y,hy,hkv,hsy⟩
     ·have HTK:=zh (show x.kids.take (k+1)=x.kids.take k by rw[List.take_of_length_le (by omega),List.take_of_length_le hkn]);rw[<-HTK.out] at HO;have hk01:k=0\/k=1:=by omega
      clear hkn;rcases hk01 with rfl|rfl
      ·rw[hkv,show((0:Nat):Int)=0 from rfl];have hix:=zL1 (.pointer none) (kv 1);clear hkv;go_wp2;go_roundw
       case rel=>exact⟨1,_,by omega,rfl,HO,K1,K0,HB⟩
       case measure=>simp[intOf]
      ·rw[hkv,show((1:Nat):Int)=1 from rfl];have hix:=zL6 (kv 0) (.pointer none);clear hkv;go_wp2;go_roundw
       case rel=>exact⟨2,_,by omega,rfl,HO,K1,K0,HB⟩
       case measure=>simp[intOf]
     ·have HTK:=zh (show x.kids.take (k+1)=x.kids.take k++[y] by rw[List.take_add_one,hy];rfl);have HS0Y:=zh hsy;have HSZ:=zh (show zB4 y<=m by
       have h1:=HM.out;obtain⟨r9,a9,ks9⟩:=x;rw[zB4] at h1;have h2:=zC6 (show ks9[k]?=some y from hy);omega)
      have HXL:=zh (show(x.kids.take k).length<=2 by rw[List.length_take];omega);have hk01:k=0\/k=1:=by omega
      clear hy hsy;rcases hk01 with rfl|rfl
      ·rw[hkv,show((0:Nat):Int)=0 from rfl];have hix:=zL1 (ptrV b') (kv 1);clear hkv;go_upto_region 6 with(fail)
       clear hix;refine zAs (X:=Array Value×Nat×Value) (by kernel_rfl) _ (fun gx=>[.pointer (some ⟨w.heap.size+1,2,none⟩),v,ptrV b',.agg gx.1,.slice (some ⟨gx.2.1,0,none⟩) 1 1,gx.2.2,.pointer (some ⟨w.heap.size+1,2,none⟩),undef]) [true,true,true,true,true,true,true,true] [3,4,5,7] (InvY w w.heap.size (w.heap.size+1) x.rule x.at_ v (x.kids.take 0) y) (#[],0,.nilFunc) (by kernel_rfl) (fun gx=>by simp[fin,zBz,zAk,List.range,List.range.loop,Act.put];rfl) (fun _=>by kernel_rfl) (by kernel_rfl) ⟨zA3 HB.out,K0.out.drew,K1.out.drew,(fun _=>HO.out.keep (zA3 (Below.refl _ _))),(fun h=>by cases h),(fun h=>by cases h),fun h=>by cases h⟩ ?_ ?_
       ·refine⟨jT,fun L gx wq hL hb ha hI=>?_,jS,fun L gx wq hL hb ha hI=>?_,fun L gx wq hL hb ha hI=>?_,fun L gx wq hL hb ha hI=>?_,jT,fun L gx wq hL hb ha hI=>?_,trivial⟩
        ·have e7:L 7=false:=ha 7 (by kernel_rfl);have cJ:=hI.2.2.1.cell 2;simp only[e7] at cJ;exact jq v wq (by simp[go_sem,cJ]) rfl hI
        ·have e3:L 3=false:=hL;have e4:L 4=false:=ha 4 (by kernel_rfl);have e5:L 5=false:=ha 5 (by kernel_rfl);simp only[List.map,e3,e4,e5] at hI⊢;have hsz:w.heap.size<=wq.heap.size:=by have:=hI.2.1.lt;omega
         refine jc 51 (#[ptrV b']) wq (by kernel_rfl) ((IH.out b' y wq HSZ.out (HS0Y.out.keep hI.1)).mono ?_);rintro e wa ⟨c,rfl,hc,hb5⟩;have hK:=hI.keep hsz hb5;exact⟨_,rfl,(c,gx.2),rfl,jD,hK.1,hK.2.1,hK.2.2.1,hK.2.2.2.1,(fun _ _=>hc.any fun b _ hb=>⟨fun h=>by have:=((hI.2.2.2.1 rfl).lt b h).2;omega,by have:=hI.2.1.lt;omega,by have:=hI.2.2.1.lt;omega⟩),(fun h=>by cases h),fun h=>by cases h⟩
        ·have e3:L 3=true:=hb 3 (by kernel_rfl);have e4:L 4=false:=hL;have e5:L 5=false:=ha 5 (by kernel_rfl);simp only[List.map,e3,e4,e5] at hI⊢;have hsz:w.heap.size<=wq.heap.size:=by have:=hI.2.1.lt;omega
         have hK:=hI.keep hsz (zA0 wq (.cells gx.1 42));have hz:=(hI.2.2.2.2.1 rfl rfl).size;obtain⟨gc,gb,gv⟩:=gx;obtain⟨A8,c8,rfl,_⟩:=(hI.2.2.2.2.1 rfl rfl).form;exact jv (.slice (some ⟨wq.heap.size,0,none⟩) 1 1) (wq.alloc (.cells (rdC y.rule y.at_ A8 y.kids.length c8) 42)) (by simp[go_sem]) ⟨(_,wq.heap.size,gv),rfl,jD,hK.1,hK.2.1,hK.2.2.1,hK.2.2.2.1,hK.2.2.2.2.1,(fun _ _=>Blk.new _ _ _),fun h=>by cases h⟩
        ·have e3:L 3=true:=hb 3 (by kernel_rfl);have e4:L 4=true:=hb 4 (by kernel_rfl);have e5:L 5=false:=hL;have e7:L 7=false:=ha 7 (by kernel_rfl);simp only[List.map,e3,e4,e5,e7] at hI⊢;obtain⟨h1,h2,h3,h4,h5,h6,_⟩:=hI;obtain⟨css,ho,hl,hr⟩:=h4 rfl;have hxl:=HXL.out;have hrow:∀b,v.ownBlock=some b->w.heap.size+1+1<=b:=fun b hb=>((h4 rfl).lt b hb).1
         exact zB0 (.tmp 25) (.tmp 28) 29 rfl (w.heap.size+1+1) 42 i0 (.agg #[qI 0,qI 0,qN]) 3 40 Tryz.underlying29 hi hz0 hz1 hz2 rfl (by decide) v _ _ rfl ho wq.heap.size (some ⟨gx.2.1,0,none⟩) 1 1 gx.1.toList rfl (zBb (h6 rfl rfl) (h5 rfl rfl).size) (zH1 (h5 rfl rfl)) (by unfold maxLen;omega) (by omega) (by have:=h3.lt;omega) (fun v' w' g2 g3 g4=>⟨(gx.1,gx.2.1,v'),rfl,jD,h1.grown g3 (by have:=h2.lt;omega) (fun b hb=>by have:=hrow b hb;omega),h2.grown g3 (fun e=>by have:=hrow _ e.symm;omega),h3.grown g3 (fun e=>by have:=hrow _ e.symm;omega),(fun h=>by cases h),(fun _ h=>by cases h),(fun _ h=>by cases h),fun _=>AppR.push hl hr (h5 rfl rfl) g2 g3 g4⟩)
        ·have e3:L 3=true:=hb 3 (by kernel_rfl);have e4:L 4=true:=hb 4 (by kernel_rfl);have e5:L 5=true:=hb 5 (by kernel_rfl);have e7:L 7=false:=hL;simp only[List.map,e3,e4,e5,e7] at hI⊢;obtain⟨gc,gb,gv⟩:=gx;obtain⟨h1,h2,h3,_,_,_,h7⟩:=hI;have h3:Blk wq (w.heap.size+1) 42 #[qI x.rule,qI x.at_,v]:=h3;obtain⟨A5,c5,e9,_⟩:=(h7 rfl).form (fun b hb=>⟨by omega,by omega⟩);dsimp only at e9;subst e9;have cJ:=h3.cell 2;have fJ:=h3.frozen 2;have hfar:∀b,(Value.slice A5 (x.kids.take 0++[y]).length c5).ownBlock=some b->w.heap.size+1+1<=b:=fun b hb=>((h7 rfl).lt b hb).1
         exact Gives.skip (w':=wq.setCell ⟨w.heap.size+1,2,none⟩ (.slice A5 (x.kids.take 0++[y]).length c5)) (by simp[go_sem,cJ,fJ]) ⟨_,rfl,zAg.same,h1.setCell (p:=⟨w.heap.size+1,2,none⟩) (by show w.heap.size<=w.heap.size+1;omega) _,h2.far (by show w.heap.size≠w.heap.size+1;omega) _,h3.set_ 2 _,(fun h=>by cases h),(fun _ h=>by cases h),(fun _ h=>by cases h),fun _=>(h7 rfl).set_ (p:=⟨w.heap.size+1,2,none⟩) (fun h=>h.2 rfl) (by show w.heap.size+1<_;omega) _⟩
       ·intro gx wq hI;obtain⟨h1,h2,h3,_,_,_,h7⟩:=hI;have HB:=zh h1;have K0:=zh h2;have K1:=zh h3;have HO:=zh (h7 rfl);rw[<-HTK.out] at HO;clear h1 h2 h3 h7;go_wp2;go_roundw
        case rel=>exact⟨1,_,by omega,rfl,HO,K1,K0,HB⟩
        case measure=>simp[intOf]
      ·rw[hkv,show((1:Nat):Int)=1 from rfl];have hix:=zL6 (kv 0) (ptrV b');clear hkv;go_upto_region 6 with(fail)
       clear hix;refine zAs (X:=Array Value×Nat×Value) (by kernel_rfl) _ (fun gx=>[.pointer (some ⟨w.heap.size+1,2,none⟩),v,ptrV b',.agg gx.1,.slice (some ⟨gx.2.1,0,none⟩) 1 1,gx.2.2,.pointer (some ⟨w.heap.size+1,2,none⟩),undef]) [true,true,true,true,true,true,true,true] [3,4,5,7] (InvY w w.heap.size (w.heap.size+1) x.rule x.at_ v (x.kids.take 1) y) (#[],0,.nilFunc) (by kernel_rfl) (fun gx=>by simp[fin,zBz,zAk,List.range,List.range.loop,Act.put];rfl) (fun _=>by kernel_rfl) (by kernel_rfl) ⟨zA3 HB.out,K0.out.drew,K1.out.drew,(fun _=>HO.out.keep (zA3 (Below.refl _ _))),(fun h=>by cases h),(fun h=>by cases h),fun h=>by cases h⟩ ?_ ?_
       ·refine⟨jT,fun L gx wq hL hb ha hI=>?_,jS,fun L gx wq hL hb ha hI=>?_,fun L gx wq hL hb ha hI=>?_,fun L gx wq hL hb ha hI=>?_,jT,fun L gx wq hL hb ha hI=>?_,trivial⟩
        ·have e7:L 7=false:=ha 7 (by kernel_rfl);have cJ:=hI.2.2.1.cell 2;simp only[e7] at cJ;exact jq v wq (by simp[go_sem,cJ]) rfl hI
        ·have e3:L 3=false:=hL;have e4:L 4=false:=ha 4 (by kernel_rfl);have e5:L 5=false:=ha 5 (by kernel_rfl);simp only[List.map,e3,e4,e5] at hI⊢;have hsz:w.heap.size<=wq.heap.size:=by have:=hI.2.1.lt;omega
         refine jc 51 (#[ptrV b']) wq (by kernel_rfl) ((IH.out b' y wq HSZ.out (HS0Y.out.keep hI.1)).mono ?_);rintro e wa ⟨c,rfl,hc,hb5⟩;have hK:=hI.keep hsz hb5;exact⟨_,rfl,(c,gx.2),rfl,jD,hK.1,hK.2.1,hK.2.2.1,hK.2.2.2.1,(fun _ _=>hc.any fun b _ hb=>⟨fun h=>by have:=((hI.2.2.2.1 rfl).lt b h).2;omega,by have:=hI.2.1.lt;omega,by have:=hI.2.2.1.lt;omega⟩),(fun h=>by cases h),fun h=>by cases h⟩
        ·have e3:L 3=true:=hb 3 (by kernel_rfl);have e4:L 4=false:=hL;have e5:L 5=false:=ha 5 (by kernel_rfl);simp only[List.map,e3,e4,e5] at hI⊢;have hsz:w.heap.size<=wq.heap.size:=by have:=hI.2.1.lt;omega
         have hK:=hI.keep hsz (zA0 wq (.cells gx.1 42));have hz:=(hI.2.2.2.2.1 rfl rfl).size;obtain⟨gc,gb,gv⟩:=gx;obtain⟨A8,c8,rfl,_⟩:=(hI.2.2.2.2.1 rfl rfl).form;exact jv (.slice (some ⟨wq.heap.size,0,none⟩) 1 1) (wq.alloc (.cells (rdC y.rule y.at_ A8 y.kids.length c8) 42)) (by simp[go_sem]) ⟨(_,wq.heap.size,gv),rfl,jD,hK.1,hK.2.1,hK.2.2.1,hK.2.2.2.1,hK.2.2.2.2.1,(fun _ _=>Blk.new _ _ _),fun h=>by cases h⟩
        ·have e3:L 3=true:=hb 3 (by kernel_rfl);have e4:L 4=true:=hb 4 (by kernel_rfl);have e5:L 5=false:=hL;have e7:L 7=false:=ha 7 (by kernel_rfl);simp only[List.map,e3,e4,e5,e7] at hI⊢;obtain⟨h1,h2,h3,h4,h5,h6,_⟩:=hI;obtain⟨css,ho,hl,hr⟩:=h4 rfl;have hxl:=HXL.out;have hrow:∀b,v.ownBlock=some b->w.heap.size+1+1<=b:=fun b hb=>((h4 rfl).lt b hb).1
         exact zB0 (.tmp 25) (.tmp 28) 29 rfl (w.heap.size+1+1) 42 i0 (.agg #[qI 0,qI 0,qN]) 3 40 Tryz.underlying29 hi hz0 hz1 hz2 rfl (by decide) v _ _ rfl ho wq.heap.size (some ⟨gx.2.1,0,none⟩) 1 1 gx.1.toList rfl (zBb (h6 rfl rfl) (h5 rfl rfl).size) (zH1 (h5 rfl rfl)) (by unfold maxLen;omega) (by omega) (by have:=h3.lt;omega) (fun v' w' g2 g3 g4=>⟨(gx.1,gx.2.1,v'),rfl,jD,h1.grown g3 (by have:=h2.lt;omega) (fun b hb=>by have:=hrow b hb;omega),h2.grown g3 (fun e=>by have:=hrow _ e.symm;omega),h3.grown g3 (fun e=>by have:=hrow _ e.symm;omega),(fun h=>by cases h),(fun _ h=>by cases h),(fun _ h=>by cases h),fun _=>AppR.push hl hr (h5 rfl rfl) g2 g3 g4⟩)
        ·have e3:L 3=true:=hb 3 (by kernel_rfl);have e4:L 4=true:=hb 4 (by kernel_rfl);have e5:L 5=true:=hb 5 (by kernel_rfl);have e7:L 7=false:=hL;simp only[List.map,e3,e4,e5,e7] at hI⊢;obtain⟨gc,gb,gv⟩:=gx;obtain⟨h1,h2,h3,_,_,_,h7⟩:=hI;have h3:Blk wq (w.heap.size+1) 42 #[qI x.rule,qI x.at_,v]:=h3;obtain⟨A5,c5,e9,_⟩:=(h7 rfl).form (fun b hb=>⟨by omega,by omega⟩);dsimp only at e9;subst e9;have cJ:=h3.cell 2;have fJ:=h3.frozen 2;have hfar:∀b,(Value.slice A5 (x.kids.take 1++[y]).length c5).ownBlock=some b->w.heap.size+1+1<=b:=fun b hb=>((h7 rfl).lt b hb).1
         exact Gives.skip (w':=wq.setCell ⟨w.heap.size+1,2,none⟩ (.slice A5 (x.kids.take 1++[y]).length c5)) (by simp[go_sem,cJ,fJ]) ⟨_,rfl,zAg.same,h1.setCell (p:=⟨w.heap.size+1,2,none⟩) (by show w.heap.size<=w.heap.size+1;omega) _,h2.far (by show w.heap.size≠w.heap.size+1;omega) _,h3.set_ 2 _,(fun h=>by cases h),(fun _ h=>by cases h),(fun _ h=>by cases h),fun _=>(h7 rfl).set_ (p:=⟨w.heap.size+1,2,none⟩) (fun h=>h.2 rfl) (by show w.heap.size+1<_;omega) _⟩
       ·intro gx wq hI;obtain⟨h1,h2,h3,_,_,_,h7⟩:=hI;have HB:=zh h1;have K0:=zh h2;have K1:=zh h3;have HO:=zh (h7 rfl);rw[<-HTK.out] at HO;clear h1 h2 h3 h7;go_wp2;go_roundw
        case rel=>exact⟨2,_,by omega,rfl,HO,K1,K0,HB⟩
        case measure=>simp[intOf]
    ·obtain rfl:k=2:=by omega
     rw[List.take_of_length_le HKL.out] at HO;obtain⟨A5,cap5,rfl,hl5,hc5,hR5⟩:=HO.out.form (fun b hb=>⟨by omega,by omega⟩);have HR5:=zh hR5;have c1:=K1.out.cell;have c0:=K0.out.cell;have f1:=K1.out.frozen;have f0:=K0.out.frozen;go_wp2_with fail;have hwf:=((K0.out.set_ 0 (qI x.rule)).set_ 1 (qI x.at_)).set_ 2 (.slice A5 x.kids.length cap5);have hbf:=((HB.out.setCell (p:=⟨w.heap.size,0,none⟩) (Nat.le_refl _) (qI x.rule)).setCell (p:=⟨w.heap.size,1,none⟩) (Nat.le_refl _) (qI x.at_)).setCell (p:=⟨w.heap.size,2,none⟩) (Nat.le_refl _) (.slice A5 x.kids.length cap5);have hrf:zAp (fun b=>w.heap.size<=b) (((wr.setCell ⟨w.heap.size,0,none⟩ (qI x.rule)).setCell ⟨w.heap.size,1,none⟩ (qI x.at_)).setCell ⟨w.heap.size,2,none⟩ (.slice A5 x.kids.length cap5)) A5 x.kids:=by
      refine HR5.out.map (Nat.le_trans (zBs _ _ _).size (Nat.le_trans (zBs _ _ _).size (zBs _ _ _).size)) (fun b _ h=>by omega) fun q _ hq=>?_
      have hne:∀o,q≠⟨w.heap.size,o,none⟩:=fun o e=>by rw[e] at hq;exact Nat.lt_irrefl _ hq.1
      rw[World.cell?_setCell_other _ _ _ _ (fun e=>hne 2 e.symm),World.cell?_setCell_other _ _ _ _ (fun e=>hne 1 e.symm),World.cell?_setCell_other _ _ _ _ (fun e=>hne 0 e.symm)]
     generalize ((wr.setCell ⟨w.heap.size,0,none⟩ (qI x.rule)).setCell ⟨w.heap.size,1,none⟩ (qI x.at_)).setCell ⟨w.heap.size,2,none⟩ (.slice A5 x.kids.length cap5)=wf at*;have dC:=fun i=>hwf.cell i
     refine bodyPost_ret (v:=.agg (rdC x.rule x.at_ A5 x.kids.length cap5)) (by simp[results,Tryz.results51,go_sem,dC]) rfl ⟨_,rfl,?_,hbf⟩;obtain⟨r9,a9,ks9⟩:=x;exact RdAt.of hl5 hc5 hrf
def zGt (s:ByteArray):Bool:=s.toList==zCb||symB s.toList
def zD5 (ts:List ByteArray):Bool:=decide (ts.length<=200)&&ts.all zGt
theorem zH5 (hs:ts[k]?=some s)(h:∀(j:Nat) t,ts[j]?=some t->j<k->zGt t=true)(hq:zGt s=true):∀(j:Nat) t,ts[j]?=some t->j<k+1->zGt t=true:=fun j t hj hlt=>by
 rcases Nat.lt_or_ge j k with h'|h'
 ·exact h j t hj h'
 ·obtain rfl:j=k:=by omega
  rw[hs] at hj;obtain rfl:=sj hj;exact hq
theorem zR1 (hs:ts[k]?=some s)(hq:zGt s=false):zD5 ts=false:=by
 unfold zD5;have:ts.all zGt=false:=List.all_eq_false.2 ⟨s,List.mem_of_getElem? hs,by rw[hq];simp⟩;rw[this,Bool.and_false]
theorem zR4 {ts:List ByteArray}(h:∀(j:Nat) t,ts[j]?=some t->j<ts.length->zGt t=true):zD5 ts=decide (ts.length<=200):=by
 unfold zD5;have:ts.all zGt=true:=List.all_eq_true.2 fun s hs=>by
  obtain⟨j,hj⟩:=List.mem_iff_getElem?.1 hs;exact h j s hj (List.getElem?_eq_some_iff.1 hj).1
 rw[this,Bool.and_true]
theorem zXh (h:s.toList=zCb):zGt s=true:=by unfold zGt;rw[h];rfl
theorem zWn (h:¬s.toList=zCb):zGt s=symB s.toList:=by
 unfold zGt;rw[show(s.toList==zCb)=false from bn h,Bool.false_or]
theorem zI6 (T:Option Addr)(cT:Nat)(ts:List ByteArray)(w:World)(hT:zBp w T ts):Calls Tryz.prog 48 #[.slice T ts.length cT] w fun e w'=>e= .returned (.bool (zD5 ts))/\Below w.heap.size w w':=by
 have HT:=zh hT;clear hT
 by_cases hl:200<ts.length
 ·have HQ:=zh (show zD5 ts=false by unfold zD5;rw[decide_eq_false (by omega)];rfl);go_enter Tryz.func48,Tryz.ntmps48;go_wp2;go_ret;exact⟨zA1 HQ.out.symm,Below.refl _ _⟩
 ·have HQ:=zh (@zR4 ts);rw[decide_eq_true (show ts.length<=200 by omega)] at HQ;go_enter Tryz.func48,Tryz.ntmps48;go_wp2_with fail
  go_loopw [10] (fun i wr=>∃k:Nat,k<=ts.length/\i=qI k/\Hid (∀(j:Nat) t,ts[j]?=some t->j<k->zGt t=true)/\Hid (zBp wr T ts)/\Hid (Below w.heap.size w wr)) (fun i _=>ts.length -(intOf i).toNat)
  case atStart=>exact⟨0,by omega,rfl,(fun j _ _ h=>by omega),HT,Below.refl _ _⟩
  case round=>
   clear HT;obtain⟨k,hk,rfl,HJ,HT,H0⟩:=hrel
   by_cases hlt:k<ts.length
   ·obtain⟨s,hs⟩:∃s,ts[k]?=some s:=⟨_,gE hlt⟩
    obtain⟨hf,ad,rfl,hadl,c0⟩:=HT.out k s hs;have HS:=zh hs;have HF:=zh hf;clear hs hf hadl
    by_cases hq:s.toList=zCb
    ·have HO:=zh (zH5 HS.out HJ.out (zXh hq));have hq2:(s.toList==zCb)=true:=beq_iff_eq.2 hq;unfold zCb at hq2 hq;clear HJ;go_wp2;go_roundw
     case rel=>exact⟨k+1,by omega,by go_num,HO,HT,H0⟩
     case measure=>simp[intOf];omega
    ·have HNO:=zh (zWn hq);have hq2:(s.toList==zCb)=false:=bn hq;unfold zCb at hq2;clear hq;go_wp2_with fail;refine(zI5 s _ HF.out).mono ?_;rintro e w1 ⟨rfl,hb⟩;have NT:=zh (HT.out.keep hb);have NB:=jt H0 hb;clear HT H0 hb c0;cases hy:symB s.toList
     ·rw[hy] at HNO;have HBAD:=zh (zR1 HS.out HNO.out);clear hy;go_wp2;go_ret;exact⟨zA1 HBAD.out.symm,NB.out⟩
     ·rw[hy] at HNO;have HO:=zh (zH5 HS.out HJ.out HNO.out);clear hy HJ;go_wp2;go_roundw
      case rel=>exact⟨k+1,by omega,by go_num,HO,NT,NB⟩
      case measure=>simp[intOf];omega
   ·obtain rfl:k=ts.length:=by omega
    go_wp2;go_ret;exact⟨zA1 (HQ.out HJ.out).symm,H0.out⟩
theorem yA5 (ts:List ByteArray):(∀(j:Nat) t,ts[j]?=some t->j<ts.length->zGt t=true)->decide (ts.length<=200)=zD5 ts:=fun h=>(zR4 h).symm
theorem zPe (T:Option Addr)(cT:Nat)(ts:List ByteArray)(w:World)(hT:zBp w T ts)(hn:ts.length<=1000000):Calls Tryz.prog 62 #[.slice T ts.length cT] w fun e w'=>e= .returned (.bool (zD5 ts))/\Below w.heap.size w w':=by
 have HT:=zh hT;have HQ:=zh (yA5 ts);clear hT;go_enter Tryz.func62,Tryz.ntmps62;go_wp2_with fail
 go_loopw [3] (fun i wr=>∃k:Nat,k<=ts.length/\i=qI k/\Hid (∀(j:Nat) t,ts[j]?=some t->j<k->zGt t=true)/\Hid (zBp wr T ts)/\Hid (Below w.heap.size w wr)) (fun i _=>ts.length -(intOf i).toNat)
 case atStart=>exact⟨0,by omega,rfl,(fun j _ _ h=>by omega),HT,Below.refl _ _⟩
 case round=>
  clear HT;obtain⟨k,hk,rfl,HJ,HT,H0⟩:=hrel
  by_cases hlt:k<ts.length
  ·obtain⟨s,hs⟩:∃s,ts[k]?=some s:=⟨_,gE hlt⟩
   obtain⟨hf,ad,rfl,hadl,c0⟩:=HT.out k s hs;have HS:=zh hs;have HF:=zh hf;clear hs hf hadl
   by_cases hq:s.toList=zCb
   ·have HO:=zh (zH5 HS.out HJ.out (zXh hq));have hq2:(s.toList==zCb)=true:=beq_iff_eq.2 hq;unfold zCb at hq2 hq;clear HJ;go_wp2;go_roundw
    case rel=>exact⟨k+1,by omega,by go_num,HO,HT,H0⟩
    case measure=>simp[intOf];omega
   ·have HNO:=zh (zWn hq);have hq2:(s.toList==zCb)=false:=bn hq;unfold zCb at hq2;clear hq;go_wp2_with fail;refine(zGb s _ HF.out).mono ?_;rintro e w1 ⟨rfl,hb⟩;have NT:=zh (HT.out.keep hb);have NB:=jt H0 hb;clear HT H0 hb c0;cases hy:symB s.toList
    ·rw[hy] at HNO;have HBAD:=zh (zR1 HS.out HNO.out);clear hy;go_wp2;go_ret;exact⟨zA1 HBAD.out.symm,NB.out⟩
    ·rw[hy] at HNO;have HO:=zh (zH5 HS.out HJ.out HNO.out);clear hy HJ;go_wp2;go_roundw
     case rel=>exact⟨k+1,by omega,by go_num,HO,NT,NB⟩
     case measure=>simp[intOf];omega
  ·obtain rfl:k=ts.length:=by omega
   go_wp2;go_ret;exact⟨zA1 ((decide_eq_decide.2 (by omega)).trans (HQ.out HJ.out)),H0.out⟩
end Ch
namespace Sp
open At
inductive Trm where
 |mk (kind:Int) (nam vr form:ByteArray) (args:List Trm)
def Trm.kind:Trm->Int
 | .mk k _ _ _ _=>k
def Trm.nam:Trm->ByteArray
 | .mk _ a _ _ _=>a
def Trm.vr:Trm->ByteArray
 | .mk _ _ v _ _=>v
def Trm.form:Trm->ByteArray
 | .mk _ _ _ f _=>f
def Trm.args:Trm->List Trm
 | .mk _ _ _ _ ts=>ts
mutual
def cntM:Trm->Nat
 | .mk _ _ _ _ ts=>cntL ts+1
def cntL:List Trm->Nat
 |[]=>0
 |t::ts=>cntM t+cntL ts
end
def zCu (a:Nat)(l:List UInt8):Bool:=l.all fun c=>decide (a<=c.toNat)&&decide (c.toNat<=126)
def idB (l:List UInt8):Bool:=zAl l&&symB l
def idP (l:List UInt8):Bool:= !l.isEmpty&&(letB (l.headD 0)&&symB l)
theorem yBt (l:List UInt8):idP l=idB l:=by
 unfold idP idB
 match l with
 |[]=>rfl
 |[c]=>
  rw[show zAl [c]=letB c by simp[zAl,zB9],show symB [c]=(letB c||hasB zFf c) from rfl];show(true&&(letB c&&_))=_;rw[Bool.true_and]
 |c::d::r=>
  rw[show symB (c::d::r)=(decide (2<=(c::d::r).length)&&(decide ((c::d::r).length<=16)&&(zB9 (c::d::r)&&(!inB zB5 (c::d::r)&& !inB zAx (c::d::r))))) from rfl];unfold zAl;rw[show(c::d::r).isEmpty=false from rfl,show(c::d::r).headD 0=c from rfl,Bool.not_false,Bool.true_and];have h1:decide (1<=(c::d::r).length)=true:=by simp
  rw[h1,Bool.true_and];cases hl:zB9 (c::d::r)
  ·simp
  ·have hc:letB c=true:=by
    unfold zB9 at hl;rw[List.all_cons,Bool.and_eq_true] at hl;exact hl.1
   rw[hc,Bool.true_and];cases decide ((c::d::r).length<=16)<;>simp
def ownM (k:Int)(a v f:List UInt8)(n:Nat):Bool:=
 if k=1 then(v.isEmpty&&(f.isEmpty&&decide (n=0)))&&numP a
 else if k=2 then(v.isEmpty&&(f.isEmpty&&decide (n=0)))&&idB a
 else if k=3 then(v.isEmpty&&(f.isEmpty&&decide (n=0)))&&(zCu 32 a&&decide (a.length<=200))
 else if k=4 then(zCu 33 f&&decide (f.length<=16))&&(zAl a&&v.isEmpty)
 else if k=5 then(zCu 33 f&&decide (f.length<=16))&&(zAl a&&(idB v&&decide (0<n)))
 else false
mutual
def zH3:Trm->Bool
 | .mk k a v f ts=>ownM k a.data.toList v.data.toList f.data.toList ts.length&&zCx ts
def zCx:List Trm->Bool
 |[]=>true
 |t::ts=>zH3 t&&zCx ts
end
def zCs (t:Trm):Bool:=zH3 t&&decide (cntM t<=1000)
mutual
def chkM:Trm->Nat->Bool×Nat
 | .mk k a v f ts,n=>if 1000<n+1\/ownM k a.data.toList v.data.toList f.data.toList ts.length=false then(false,n+1) else zCw ts (n+1)
def zCw:List Trm->Nat->Bool×Nat
 |[],n=>(true,n)
 |t::ts,n=>if(chkM t n).1 then zCw ts (chkM t n).2 else(false,(chkM t n).2)
end
mutual
theorem zJa:∀(t:Trm) (n:Nat),((chkM t n).1=true↔zH3 t=true/\n+cntM t<=1000)/\((chkM t n).1=true->(chkM t n).2=n+cntM t)
 | .mk k a v f ts,n=>by
  unfold chkM zH3 cntM
  by_cases h:1000<n+1\/ownM k a.data.toList v.data.toList f.data.toList ts.length=false
  ·rw[if_pos h];refine⟨⟨fun e=>by simp at e,fun⟨h1,h2⟩=>?_⟩,fun e=>by simp at e⟩;rw[Bool.and_eq_true] at h1;rcases h with h|h
   ·omega
   ·rw[h] at h1;simp at h1
  ·rw[if_neg h];simp only[not_or,Bool.not_eq_false] at h;obtain⟨g1,g2⟩:=h;obtain⟨i1,i2⟩:=zOk ts (n+1) (by omega);rw[g2,Bool.true_and];refine⟨i1.trans ⟨fun⟨a,b⟩=>⟨a,by omega⟩,fun⟨a,b⟩=>⟨a,by omega⟩⟩,fun e=>?_⟩;rw[i2 e];omega
theorem zOk:∀(ts:List Trm) (n:Nat),n<=1000->((zCw ts n).1=true↔zCx ts=true/\n+cntL ts<=1000)/\((zCw ts n).1=true->(zCw ts n).2=n+cntL ts)
 |[],n,hn=>by
  unfold zCw zCx cntL;simp;omega
 |t::ts,n,hn=>by
  unfold zCw zCx cntL;obtain⟨a1,a2⟩:=zJa t n;cases hc:(chkM t n).1
  ·rw[if_neg (by simp)];rw[hc] at a1;refine⟨⟨fun e=>by simp at e,fun⟨h1,h2⟩=>?_⟩,fun e=>by simp at e⟩;simp only[Bool.and_eq_true] at h1;have:=a1.2 ⟨h1.1,by omega⟩;cases this
  ·rw[if_pos rfl];obtain⟨f1,f2⟩:=a1.1 hc;have e2:=a2 hc;rw[e2];obtain⟨b1,b2⟩:=zOk ts (n+cntM t) f2;rw[f1,Bool.true_and];refine⟨b1.trans ⟨fun⟨p,q⟩=>⟨p,by omega⟩,fun⟨p,q⟩=>⟨p,by omega⟩⟩,fun e=>?_⟩;rw[b2 e];omega
end
theorem zLt (t:Trm):(chkM t 0).1=zCs t:=by
 unfold zCs;rw[Bool.eq_iff_iff,(zJa t 0).1,Bool.and_eq_true,decide_eq_true_eq,Nat.zero_add]
theorem zWp {t:Trm}(h:zCs t=true):(chkM t 0).2=cntM t:=by
 rw[(zJa t 0).2 (by rw[zLt,h]),Nat.zero_add]
theorem zF8 (t:Trm):1<=cntM t:=by cases t;rw[cntM];omega
theorem zPj:∀{ts:List Trm} {i:Nat} {t:Trm},ts[i]?=some t->cntM t<=cntL ts
 |[],i,t,h=>by simp at h
 |x::r,0,t,h=>by simp at h;subst h;rw[cntL];omega
 |x::r,i+1,t,h=>by rw[List.getElem?_cons_succ] at h;have:=zPj h;rw[cntL];omega
theorem zWw {ks:List Trm}{k:Nat}{x:Trm}(h:ks[k]?=some x):cntL (ks.take (k+1))=cntL (ks.take k)+cntM x:=by
 rw[List.take_add_one,h,Option.toList];generalize ks.take k=l
 induction l with
 |nil=>simp[cntL]
 |cons a r ih=>rw[List.cons_append,cntL,cntL,ih];omega
theorem zX5 (ks:List Trm)(k:Nat):cntL (ks.take k)<=cntL ks:=by
 induction ks generalizing k with
 |nil=>simp[cntL]
 |cons a r ih=>
  cases k with
  |zero=>simp[cntL]
  |succ k=>rw[List.take_succ_cons,cntL,cntL];have:=ih k;omega
theorem zYp (ks:List Trm):ks.length<=cntL ks:=by
 induction ks with
 |nil=>simp
 |cons a r ih=>rw[List.length_cons,cntL];have:=zF8 a;omega
theorem zP4 {ks:List Trm}{k:Nat}{x:Trm}(h:ks[k]?=some x):zCx (ks.take (k+1))=(zCx (ks.take k)&&zH3 x):=by
 rw[List.take_add_one,h,Option.toList];generalize ks.take k=l
 induction l with
 |nil=>simp[zCx]
 |cons a r ih=>rw[List.cons_append,zCx,zCx,ih];simp[Bool.and_assoc]
theorem zNy {ks:List Trm}{k:Nat}(h:zCx (ks.take k)=false):zCx ks=false:=by
 induction ks generalizing k with
 |nil=>rw[List.take_nil] at h;rw[zCx] at h;cases h
 |cons a r ih=>
  cases k with
  |zero=>rw[List.take_zero,zCx] at h;cases h
  |succ k=>
   rw[List.take_succ_cons,zCx] at h;rw[zCx];cases ha:zH3 a
   ·rfl
   ·rw[ha,Bool.true_and] at h;rw[ih h];rfl
def sizM (t:Trm):Int:=if zH3 t=true/\cntM t<=1000 then(cntM t:Int) else -1
theorem zU7 (t:Trm):decide (0<sizM t)=zCs t:=by
 unfold sizM zCs;have:=zF8 t
 by_cases h:zH3 t=true/\cntM t<=1000
 ·rw[if_pos h,h.1,decide_eq_true h.2];simp;omega
 ·rw[if_neg h];cases hf:zH3 t
  ·rfl
  ·rw[Bool.true_and,decide_eq_false (fun h2=>h ⟨hf,h2⟩)];rfl
end Sp
namespace El
open At Ch Sp
inductive Mea (α:Type) where
 |ok (a:α)
 |bad (e:Int) (pos:List Int)
def Mea.then_ {α β:Type}(m:Mea α)(f:α->Mea β):Mea β:=match m with
 | .ok a=>f a
 | .bad e p=>.bad e p
def zBx (rs:List Rul)(s:List UInt8):Bool:= !s.isEmpty&&rs.any fun r=>decide (r.sym.data.toList=s)
def unsc (n:Tre):Tre:=if n.kind=7\/n.kind=8\/n.kind=9 then(match n.kids with
 |b::_=>match b.kids with
  |[x]=>x
  |_=>n
 |[]=>n) else n
def zDj (rs:List Rul)(n:Tre):Bool:=decide ((unsc n).kind=2)&&zBx rs (unsc n).text.data.toList
def zHq:ByteArray:=⟨#[35]⟩
def tokN (rs:List Rul)(n:Tre):Option ByteArray:=
 if zDj rs n=true then some (unsc n).text else if n.kind=2/\idB n.text.data.toList=false then none else some zHq
def zB2 (rs:List Rul):List Tre->Sum (List ByteArray) Nat
 |[]=>.inl []
 |n::ns=>match tokN rs n with
  |none=>.inr 0
  |some t=>match zB2 rs ns with
   | .inl ts=>.inl (t::ts)
   | .inr i=>.inr (i+1)
def kndR (rs:List Rul)(r:Int):Int:=match rs[r.toNat]? with
 |some x=>x.kind
 |none=>0
def zHi (ks:List Rd):Int:=match ks with
 |_::k::_=>k.at_
 |_=>0
def opI (rs:List Rul)(x:Rd)(fin:Int):Int:=
 if kndR rs x.rule=1 then zHi x.kids -1 else if kndR rs x.rule=2 then x.at_ else if kndR rs x.rule=3 then fin -1 else -1
def zAy (rs:List Rul)(x:Rd)(fin:Int):List Int:=
 if kndR rs x.rule=1 then[zHi x.kids -1,fin] else if kndR rs x.rule=2 then[fin] else if kndR rs x.rule=3 then[fin -1] else[zHi x.kids,fin]
mutual
def asgR (rs:List Rul):Rd->Int->List (Int×Int)
 | .mk r a ks,fin=>if r<0 then[] else(if 0<=opI rs (.mk r a ks) fin then[(opI rs (.mk r a ks) fin,r)] else[])++asgL rs ks (zAy rs (.mk r a ks) fin)
def asgL (rs:List Rul):List Rd->List Int->List (Int×Int)
 |k::ks,e::es=>asgR rs k e++asgL rs ks es
 |_,_=>[]
end
def zGs (ws:List (Int×Int))(n:Nat):List Int:=ws.foldl (fun l p=>l.set p.1.toNat p.2) (List.replicate n 0)
structure Prt where
 opnd:Trm
 scr:List Trm
 fin:ByteArray
 vr:ByteArray
def zerT:Trm:=.mk 0 ⟨#[]⟩ ⟨#[]⟩ ⟨#[]⟩ []
def zerP:Prt:=⟨zerT,[],⟨#[]⟩,⟨#[]⟩⟩
def infS:ByteArray:=⟨#[105,110,102,105,120]⟩
def preS:ByteArray:=⟨#[112,114,101,102,105,120]⟩
def posS:ByteArray:=⟨#[112,111,115,116,102,105,120]⟩
def juxS:ByteArray:=⟨#[106,117,120,116,97,112,111,115,101]⟩
def zHr:ByteArray:=⟨#[98,105,110,100]⟩
def zBf (k:Int):ByteArray:=if k=1 then infS else if k=2 then preS else if k=3 then posS else juxS
def mkOp (nam:ByteArray)(k:Int)(p:Option Prt)(args:List Trm):Trm:=match p with
 |none=>.mk 4 nam ⟨#[]⟩ (zBf k) args
 |some p=>if p.vr.data.toList=[] then .mk 4 nam ⟨#[]⟩ (zBf k++p.fin) (p.scr++args) else .mk 5 nam p.vr (zHr++p.fin) (p.scr++args)
def zKg (rs:List Rul)(r:Int):ByteArray:=match rs[r.toNat]? with
 |some x=>x.nam
 |none=>⟨#[]⟩
mutual
def trmR (rs:List Rul)(ps:List Prt):Rd->Int->Trm
 | .mk r a ks,fin=>if r<0 then(match ps[a.toNat]? with
   |some p=>p.opnd
   |none=>zerT) else mkOp (zKg rs r) (kndR rs r) (if 0<=opI rs (.mk r a ks) fin then ps[(opI rs (.mk r a ks) fin).toNat]? else none) (trmL rs ps ks (zAy rs (.mk r a ks) fin))
def trmL (rs:List Rul)(ps:List Prt):List Rd->List Int->List Trm
 |k::ks,e::es=>trmR rs ps k e::trmL rs ps ks es
 |_,_=>[]
end
def zGp (rs:List Rul)(sub:Tre):Option ByteArray:=match sub.kids with
 |a::b::_::_=>if(a.kind=2/\idB a.text.data.toList=true/\zBx rs a.text.data.toList=false)/\b.kind=2/\b.text.data.toList=[61] then some a.text else none
 |_=>none
def subS:ByteArray:=⟨#[115,117,98]⟩
def supS:ByteArray:=⟨#[115,117,112]⟩
def zK6:ByteArray:=⟨#[98,111,116,104]⟩
def divS:ByteArray:=⟨#[100,105,118,105,100,101]⟩
def zSl:ByteArray:=⟨#[102,114,97,99]⟩
def zKw:ByteArray:=⟨#[115,113,114,116]⟩
def zEf:ByteArray:=⟨#[114,111,111,116]⟩
def indS:ByteArray:=⟨#[105,110,100,101,120]⟩
def powS:ByteArray:=⟨#[112,111,119,101,114]⟩
def zTr:ByteArray:=⟨#[105,110,100,101,120,112,111,119,101,114]⟩
def accS:ByteArray:=⟨#[97,99,99,101,110,116]⟩
def matS:ByteArray:=⟨#[109,97,116,114,105,120]⟩
def fenS:ByteArray:=⟨#[102,101,110,99,101]⟩
def absS:ByteArray:=⟨#[97,98,115]⟩
def grpS:ByteArray:=⟨#[103,114,111,117,112]⟩
def endS (k:Int):ByteArray:=if k=7 then subS else if k=8 then supS else zK6
def zB1 (n:Tre):ByteArray×ByteArray:=
 if n.kind=5 then(divS,zSl)
 else if n.kind=6 then((match n.kids with
  |d::_=>if d.kids.isEmpty then zKw else zEf
  |[]=>zEf),zEf)
 else if n.kind=7 then(indS,subS) else if n.kind=8 then(powS,supS) else if n.kind=9 then(zTr,zK6)
 else if n.kind=10 then(n.text,accS)
 else if n.kind=12 then(matS,matS++bys (Lib.decDigits n.cols.toNat))
 else((if n.text.data.toList=[124,124] then absS else grpS),fenS++n.text)
def zAn (M:List Tre->List Int->Nat->Mea Trm)(path:List Int):List Tre->Nat->Nat->Mea (List Trm)
 |[],_,_=>.ok []
 |n::ns,s,b=>(M n.kids (path++[(s:Int)]) b).then_ fun t=>(zAn M path ns (s+1) 0).then_ fun ts=>.ok (t::ts)
def zCr (M:List Tre->List Int->Nat->Mea Trm)(n:Tre)(path:List Int):Mea Prt:=
 if n.kind=2 then .ok ⟨.mk 2 n.text ⟨#[]⟩ ⟨#[]⟩ [],[],⟨#[]⟩,⟨#[]⟩⟩
 else if n.kind=3 then .ok ⟨.mk 1 n.text ⟨#[]⟩ ⟨#[]⟩ [],[],⟨#[]⟩,⟨#[]⟩⟩
 else if n.kind=4 then .ok ⟨.mk 3 n.text ⟨#[]⟩ ⟨#[]⟩ [],[],⟨#[]⟩,⟨#[]⟩⟩
 else((match n.kids with
  |d::ks=>if n.kind=6/\d.kids.isEmpty=true then zAn M path ks 1 0 else zAn M path (d::ks) 0 0
  |[]=>.ok []):Mea (List Trm)).then_ fun ts=>.ok ⟨.mk 4 (zB1 n).1 ⟨#[]⟩ (zB1 n).2 ts,[],⟨#[]⟩,⟨#[]⟩⟩
def varN (rs:List Rul)(n:Tre)(p:Bool):Option ByteArray:=if p=true/\(n.kind=7\/n.kind=9) then(match n.kids with
 |_::sub::_=>zGp rs sub
 |_=>none) else none
def scrF (rs:List Rul)(M:List Tre->List Int->Nat->Mea Trm)(n:Tre)(path:List Int)(p:Bool):Mea Prt:=
 if n.kind=2 then .ok zerP
 else(zAn M path n.kids.tail 1 (if(varN rs n p).isSome then 2 else 0)).then_ fun ts=>.ok ⟨zerT,ts,endS n.kind,(varN rs n p).getD ⟨#[]⟩⟩
def zB3 (rs:List Rul)(M:List Tre->List Int->Nat->Mea Trm)(path:List Int)(kd:Nat->Int)(k:Nat):List Tre->List ByteArray->Nat->Mea (List Prt)
 |n::ns,t::ts,i=>(if t.data.toList=[35] then zCr M n (path++[((k+i:Nat):Int)]) else scrF rs M n (path++[((k+i:Nat):Int)]) (decide (kd i=2))).then_ fun p=>(zB3 rs M path kd k ns ts (i+1)).then_ fun ps=>.ok (p::ps)
 |_,_,_=>.ok []
def zFg (rs:List Rul)(ts:List ByteArray):List Rd:=if(zAd rs&&zD5 ts)=true then allR rs ts 0 ts.length else[]
def zHc (rs:List Rul)(M:List Tre->List Int->Nat->Mea Trm)(items:List Tre)(path:List Int)(k:Nat):Mea Trm:=
 if items.length<=k then .bad 15 (path++[(k:Int)])
 else match zB2 rs (items.drop k) with
  | .inr i=>.bad 15 (path++[((k+i:Nat):Int)])
  | .inl ts=>match zFg rs ts with
   |[]=>.bad 15 (path++[(k:Int)])
   |[x]=>(zB3 rs M path (fun i=>kndR rs ((zGs (asgR rs x ts.length) ts.length).getD i 0)) k (items.drop k) ts 0).then_ fun ps=>.ok (trmR rs ps x ts.length)
   |_::_::_=>.bad 14 (path++[(k:Int)])
def zAb (rs:List Rul):Nat->List Tre->List Int->Nat->Mea Trm
 |0,_,path,_=>.bad 0 path
 |f+1,items,path,k=>zHc rs (zAb rs f) items path k
end El
section
open Go.Maps (Keyed)
variable{P:Program}{e:TypeId}{ops:Array Oper}{rest:List Oper}{o:Oper}{a:Act}{Q:Exit->Act->World->Prop}
theorem zMp {H:Type}(he:P.underlying e=some .bool){v:Value}{z:DataW H×List MemPlace}(h:plainElem P e v=some z):∃a,v= .bool a/\z=(.lit (.bool a),[]):=by
 unfold plainElem at h;rw[he] at h;cases v<;>simp at h
 exact⟨_,rfl,h.symm⟩
theorem zK5 {H:Type}{w:World}{k b n:Nat}{D:DataW H}{t:TypeId}(h:w.ownsMap P k (plainElem P e) b n D)(K:Keyed P k)(ht:P.underlying t=some (.map k e))(he:P.underlying e=some .bool)(hz:(zeroValue e).run P w= .ok (.bool false) w)
  {key:Value} {kl:Lit} (hkey:keyOf P k key=some kl):∃c,(Instr.lookup t (.map (some b)) key false).run P w= .ok (.bool c) w/\D.atKey kl (.lit (.bool false))= .lit (.bool c):=by
 obtain⟨v,ps,hrun,hv⟩:=h.lookup K ht hz (plainElem_bool he false) hkey;obtain⟨c,rfl,hc⟩:=zMp he hv;simp only[Prod.mk.injEq] at hc;exact⟨c,hrun,hc.1⟩
theorem zCy {H:Type}(w:World)
  (hg:o.guard=none) (m x:Operand) (t:TypeId) (hop:o.op=Op.lookup t m x false)
  (k e:TypeId) (K:Keyed P k) (ht:P.underlying t=some (.map k e)) (he:P.underlying e=some .bool) (hz:(zeroValue e).run P w= .ok (.bool false) w) (b n:Nat) (D:DataW H)
  (hm:a.eval m= .map (some b)) (hown:w.ownsMap P k (plainElem P e) b n D) (key:Value) (kl:Lit) (hx:a.eval x=key) (hkey:keyOf P k key=some kl)
  (c:Bool) (hc:D.atKey kl (.lit (.bool false))= .lit (.bool c)) (hK:wpList P ops Q rest (a.put o.dst (.bool c)) w):
  wpList P ops Q (o::rest) a w:=by
 refine wpList_plain hg fun K' hK'=>?_
 obtain⟨c',hrun,hat⟩:=zK5 hown K ht he hz hkey;obtain rfl:c=c':=by
  rw[hc] at hat
  simpa using hat
 unfold Oper.wp;simp[execOp,hop,hm,hx,hrun,Result.andThen];exact hK' _ _ hK
theorem zI8 {H:Type}(w:World)
  (hg:o.guard=none) (m x v:Operand) (t:TypeId) (hop:o.op=Op.insert t m x v)
  (k e:TypeId) (K:Keyed P k) (ht:P.underlying t=some (.map k e)) (R:Value->Option (DataW H×List MemPlace)) (b n:Nat) (D:DataW H)
  (hm:a.eval m= .map (some b)) (hown:w.ownsMap P k R b n D) (hn:n<maxLen) (key val:Value) (kl:Lit) (hx:a.eval x=key) (hv:a.eval v=val) (hkey:keyOf P k key=some kl)
  (d:DataW H) (ps:List MemPlace) (hval:R val=some (d,ps))
  (hK:∀w',w'.ownsMap P k R b (n+1) (D.put kl d)->w.grownBy w' (some b)->wpList P ops Q rest (a.put o.dst undef) w'):
  wpList P ops Q (o::rest) a w:=by
 refine wpList_plain hg fun K' hK'=>?_
 obtain⟨w',hrun,r1,r2⟩:=hown.update K ht hn hkey hval;unfold Oper.wp;simp[execOp,hop,hm,hx,hv,hrun,Result.andThen];exact hK' _ _ (hK w' r1 r2)
def zGk (D:DataW Unit)(ss:List (List UInt8)):Prop:=∀x:List UInt8,D.atKey (.string x) (.lit (.bool false))= .lit (.bool (ss.contains x))
theorem zQo:zGk (.map []) []:=fun x=>by simp[DataW.atKey]
theorem zN1 {D:DataW Unit}{ss:List (List UInt8)}(h:zGk D ss)(hD:Maps.IsMap D)(s:List UInt8):zGk (D.put (.string s) (.lit (.bool true))) (ss++[s]):=fun x=>by
 by_cases e:x=s
 ·subst e;rw[Maps.atKey_put_same hD (by trivial)];simp
 ·rw[Maps.atKey_put_other (by simpa using e),h x]
  congr 2
  simp[e]
end
section
open Go.RowKit
theorem zJ4:(Tryz.prog.info? 9).map (fun i=>(i.zero,i.size,i.bytes))=some (some qE,1,16):=by kernel_rfl
end
end Go.Proofs.YtapgncbegadbnaaGreatDoor
