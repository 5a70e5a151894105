/- build of the reference: the term of a reading. -/
import Derived.Test.YtlefbenkhgbifaaGreatDoorH370ab7e8
import Derived.Test.YtlefbenkhgbifaaGreatDoorHe8cc1eb4
import Derived.Test.YtlefbenkhgbifaaGreatDoorH170e36ff
set_option linter.all false
set_option maxRecDepth 100000
set_option maxHeartbeats 400000000
namespace Go.Proofs.YtlefbenkhgbifaaGreatDoor.El
open At Ch Sp Sy Go.RowKit
variable{rs:List aD}{x:Rd}{j:Nat}{w w':World}{css:List (Array Value)}
def uS (rs:List aD)(k:Int)(po:Option (aG×List aC)):Int:=match po with
 |none=>4
 |some p=>if(dN rs p.1 (decide (k=2))).isSome=true then 5 else 4
def sV (rs:List aD)(k:Int)(po:Option (aG×List aC)):ByteArray:=match po with
 |none=>⟨#[]⟩
 |some p=>(dN rs p.1 (decide (k=2))).getD ⟨#[]⟩
def sW (rs:List aD)(k:Int)(po:Option (aG×List aC)):ByteArray:=match po with
 |none=>iW k
 |some p=>(if(dN rs p.1 (decide (k=2))).isSome=true then mh else iW k)++eT p.1.kind
def sZ (po:Option (aG×List aC)):List aC:=match po with
 |none=>[]
 |some p=>p.2
def Zv (rs:List aD)(nam:ByteArray)(k:Int)(po:Option (aG×List aC))(args:List aC):yK rs nam k po args= .mk (uS rs k po) nam (sV rs k po) (sW rs k po) (sZ po++args):=by
 unfold yK uS sV sW sZ;cases po with
 |none=>rfl
 |some p=>
  obtain⟨n,a⟩:=p;dsimp only;cases dN rs n (decide (k=2))<;>rfl
def Qw (k:Int):(iW k).size<=20:=by
 unfold iW
 split
 ·decide
 ·split
  ·decide
  ·split<;>decide
def Zw (k:Int):(eT k).size<=20:=by
 unfold eT
 split
 ·decide
 ·split
  ·decide
  ·split<;>decide
def Zx {n:aG}{v:ByteArray}(g:fJ n=true)(h:qV rs n=some v):v.size<=1000:=by
 unfold qV at h
 split at h
 ·cases f:n.kids with
  |nil=>rw[f] at h;cases h
  |cons a r=>
   cases r with
   |nil=>rw[f] at h;cases h
   |cons b r=>
    rw[f] at h;dsimp only at h;have i:=(Aq (s:=1) (d:=b) g (by rw[f];rfl)).1;unfold vY at h
    split at h
    ·next c d e r2 hs=>
     split at h
     ·injection h with h;rw[<-h];exact Au (Aq (s:=0) (d:=c) i (by rw[hs];rfl)).1
     ·cases h
    ·cases h
 ·cases h
def Zy {i:Nat}(h:mf rs x i j):(x.rule= -1/\x.at_=(i:Int))\/∃(r:Nat) (u:aD),x.rule=(r:Int)/\rs[r]?=some u/\
  ((u.kind=1/\∃y z k,x.kids=[y,z]/\mf rs y i k/\mf rs z (k+1) j/\eY rs x j=(k:Int)/\iI rs x j=[(k:Int),(j:Int)]/\k<j/\z.at_=((k+1:Nat):Int))\/
   (u.kind=2/\∃y,x.kids=[y]/\mf rs y (i+1) j/\eY rs x j=(i:Int)/\iI rs x j=[(j:Int)])\/
   (u.kind=3/\∃y,x.kids=[y]/\mf rs y i (j -1)/\eY rs x j=((j -1:Nat):Int)/\iI rs x j=[((j -1:Nat):Int)])\/
   (u.kind=4/\∃y z k,x.kids=[y,z]/\mf rs y i k/\mf rs z k j/\eY rs x j= -1/\iI rs x j=[(k:Int),(j:Int)]/\k<j/\z.at_=(k:Int))):=by
 cases h with
 |leaf i=>exact .inl ⟨rfl,rfl⟩
 |inf n u i k j y z c d f g e a b=>exact .inr ⟨n,u,rfl,c,.inl ⟨d,y,z,k,rfl,a,b,(Df c d e).1,(Df c d e).2,aa,e⟩⟩
 |pre n u i j y c d f a=>exact .inr ⟨n,u,rfl,c,.inr (.inl ⟨d,y,rfl,a,(Dg c d).1,(Dg c d).2⟩)⟩
 |pos n u i j y c d f a=>exact .inr ⟨n,u,rfl,c,.inr (.inr (.inl ⟨d,y,rfl,a,(Dh c d aa).1,(Dh c d aa).2⟩))⟩
 |jux n u i k j y z c d f g e a b=>exact .inr ⟨n,u,rfl,c,.inr (.inr (.inr ⟨d,y,z,k,rfl,a,b,(Di c d e).1,(Di c d e).2,aa,e⟩))⟩
def _root_.Go.Proofs.YtlefbenkhgbifaaGreatDoor.Sp.dU.zF8 {P:Nat->Prop}{B:Nat}{v v':Value}{xs ys:List aC}{dss:List (Array Value)}(k:css.length=xs.length)(h:∀(j:Nat) c x,css[j]?=some c->xs[j]?=some x->bH (λb=>v.ownBlock≠some b/\P b) w x c)(n:dss.length=ys.length)(i:∀(j:Nat) c x,dss[j]?=some c->ys[j]?=some x->bH (λb=>v.ownBlock≠some b/\P b) w x c)
  (a:w'.ownsRow B 25 5 v' (xs.length+ys.length) (css.flatMap (·.toList)++dss.flatMap (·.toList))) (o:w.grownBy w' v.ownBlock) (p:v'.ownBlock=v.ownBlock\/v'.ownBlock=some w.heap.size):dU P w' B v' (xs++ys):=by
 have l:∀{x:aC} {c:Array Value},bH (λb=>v.ownBlock≠some b/\P b) w x c->bH (λb=>v'.ownBlock≠some b/\P b) w' x c:=λq=>q.grown o (λb _ m e=>m.1 e.symm) λb m a=>⟨by
  rcases p with e|e
  ·rw[e];exact a.1
  ·rw[e];intro i;have:=sj i;omega,a.2⟩
 refine⟨css++dss,by rw[aO,fH];exact a,by simp[k,n],λj d y f g=>?_⟩;rcases bu j css.length with r|s
 ·rw[dz r] at f;rw[dz aa] at g;exact l (h j d y f g)
 ·rw[cO s] at f;rw[cO aa,<-k] at g;exact l (i _ d y f g)
def Zz {ok:Nat->Prop}{ks:List aC}(f:css.length=ks.length)(h:∀(j:Nat) c x,css[j]?=some c->ks[j]?=some x->bH ok w x c):∀u∈css.flatMap (·.toList),u.oneCell'=true:=λu b=>by
 obtain⟨c,d,e⟩:=oo.1 b;obtain⟨j,a⟩:=gz.1 d;have g:=(bP.1 a).1;exact yI (h j c _ a (gE aa)) u e
def Qx {g:Nat}{t:TypeId}{c d:Array Value}(h:au w g t (c.toList++d.toList).toArray)(a:c.size=5)(b:d.size=5):dL w w.heap.size 5 (some (ag g (0))) 2 (c.toList++d.toList):=
 ⟨by simp[a,b],λ_=>⟨(ag g (0)),rfl,h.lt,λj v e=>by
  rw[show(⟨g,0,none⟩:Addr).add j=(ag g j) by unfold Addr.add;split<;>simp_all,h.cell]
  simpa using e⟩⟩
structure yz (ok:Nat->Prop)(w:World)(rc ru:Array Value)(kk:Int)(nam vr frm:ByteArray)(v:Value)(xs:List aC)(x:World):Prop where
 bel:Below w.heap.size w x
 k0:au x w.heap.size 139 rc
 k1:au x (w.heap.size+1) 25 cK
 ku:au x (w.heap.size+2) 41 ru
 km:au x (w.heap.size+4) 25 #[qI kk,af nam,af vr,v,af frm]
 app:dU (λb=>ok b\/w.heap.size+4<b) x (w.heap.size+5) v xs
 lok:∀b,ok b->b<w.heap.size
def yz.keep {ok:Nat->Prop}{w x b:World}{c d:Array Value}{e:Int}{nam vr f:ByteArray}{v:Value}{xs:List aC}(h:yz ok w c d e nam vr f v xs x)(a:Below x.heap.size x b):yz ok w c d e nam vr f v xs b:=
 ⟨h.bel.trans (a.mono h.bel.size),jL a h.k0,jL a h.k1,jL a h.ku,jL a h.km,h.app.keep a,h.lok⟩
def yz.set_ {ok:Nat->Prop}{w x:World}{d f:Array Value}{i kk':Int}{nam vr j vr' frm':ByteArray}{v v':Value}{xs g:List aC}(h:yz ok w d f i nam vr j v xs x)(o:Nat)(u:Value)(k:au (x.setCell (ag (w.heap.size+4) o) u) (w.heap.size+4) 25 #[qI kk',af nam,af vr',v',af frm'])(l:dU (λb=>ok b\/w.heap.size+4<b) x (w.heap.size+5) v' g):yz ok w d f kk' nam vr' frm' v' g (x.setCell (ag (w.heap.size+4) o) u):=by
 have a:x.grownBy (x.setCell (ag (w.heap.size+4) o) u) (some (w.heap.size+4)):=kJ x (ag (w.heap.size+4) o) u;refine⟨h.bel.grown a h.bel.size λr e=>av (sj e),h.k0.grown a λe=>av (sj e),h.k1.grown a λe=>av (sj e),h.ku.grown a λe=>av (sj e),k,l.set_ (p:=ag (w.heap.size+4) o) ?_ (by show w.heap.size+4<w.heap.size+5;omega) u,h.lok⟩;show ¬(ok (w.heap.size+4)\/w.heap.size+4<w.heap.size+4);intro c;rcases c with c|c
 ·have:=h.lok _ c;omega
 ·omega
def yz.grow {ok:Nat->Prop}{x a:World}{i j:Array Value}{k:Int}{nam vr l:ByteArray}{v v':Value}{xs m:List aC}{row:Option Nat}(h:yz ok w i j k nam vr l v xs x)(c:x.grownBy a row)(d:∀b,row=some b->w.heap.size+5<=b)(n:dU (λb=>ok b\/w.heap.size+4<b) a (w.heap.size+5) v' m):yz ok w i j k nam vr l v' m (a.setCell ⟨w.heap.size+4,3,none⟩ v'):=by
 have f:a.grownBy (a.setCell ⟨w.heap.size+4,3,none⟩ v') (some (w.heap.size+4)):=kJ a ⟨w.heap.size+4,3,none⟩ v';have q:=c.size;have o:=h.bel.size;refine⟨(h.bel.grown c o λr e=>av (d r e)).grown f aa λr e=>av (sj e),(h.k0.grown c λe=>by have:=d _ e.symm;omega).grown f λe=>av (sj e),(h.k1.grown c λe=>by have:=d _ e.symm;omega).grown f λe=>av (sj e),(h.ku.grown c λe=>by have:=d _ e.symm;omega).grown f λe=>av (sj e),(h.km.grown c λe=>by have:=d _ e.symm;omega).set_ 3 v',n.set_ (p:=ag (w.heap.size+4) (3)) ?_ (by show w.heap.size+4<w.heap.size+5;omega) v',h.lok⟩;show ¬(ok (w.heap.size+4)\/w.heap.size+4<w.heap.size+4);intro g;rcases g with g|g
 ·have:=h.lok _ g;omega
 ·omega
def zD.below {ok:Nat->Prop}{A:Option Addr}{xs:List (List aC)}(h:zD ok w A xs)(a:Below w.heap.size w w'):zD ok w' A xs:=h.keep a
def ZA {its:List aG}{xs:List (List aC)}{r:Nat}{u:aD}(c:x.rule=(r:Int))(d:rs[r]?=some u){po:Option (aG×List aC)}(e:po=(if 0<=eY rs x j then some ((its[(eY rs x j).toNat]?).getD kR,(xs[(eY rs x j).toNat]?).getD []) else none)):
  dO rs its xs x j= .mk (uS rs u.kind po) u.nam (sV rs u.kind po) (sW rs u.kind po) (sZ po++lN rs its xs x.kids (iI rs x j)):=by
 have b:dF rs (r:Int)=u.kind/\vX rs (r:Int)=u.nam:=by unfold dF vX;rw[fU,d];exact⟨rfl,rfl⟩
 cases x with
 |mk f a h=>
  have g:f=(r:Int):=c;subst g;rw[xg,ai aa,b.1,b.2,<-e,Zv];rfl
def KE (okr ok:Nat->Prop)(g:Nat)(A:Option Addr)(cap:Nat)(rs:List aD)(Ai:Option Addr)(ci:Nat)(its:List aG)(Apt:Option Addr)(cpt:Nat)(xs:List (List aC))(vp vk:Value)(m:Nat):Prop:=
  ∀(x:Rd) (i j:Nat) (c:Array Value) (w:World),og x<=m->mf rs x i j->fG w A rs->dS okr w x c->mO w Ai its->au w g 158 #[.slice A rs.length cap,.slice Ai its.length ci,vp,vk,.slice Apt xs.length cpt]->zD ok w Apt xs->(∀b,ok b->b<w.heap.size)->j<=its.length->j<=xs.length->j<=1000000->
  Calls Tryz.prog 152 #[qP g,.agg c,qI (j:Int)] w (vP ok (dO rs its xs x j) w)
structure Qy (M:Prop) where
 a:Prop
 b:Prop
 c:Prop
 d:Prop
 o:(Unit->a)->(Unit->b)->(Unit->c)->(Unit->d)->M
noncomputable def EU:Qy (∀(okr ok:Nat->Prop) (g:Nat) (A:Option Addr) (cap:Nat) (rs:List aD) (Ai:Option Addr) (ci:Nat) (its:List aG) (Apt:Option Addr) (cpt:Nat) (xs:List (List aC)) (vp vk:Value) (_hrn:rs.length<=1000000) (_hfs:∀n∈its,fJ n=true/\n.kind≠1) (_hys:∀y∈xs,y.length<=1000) (_hkr:∀u∈rs,u.kind=1\/u.kind=2\/u.kind=3\/u.kind=4) (_hnm:∀u∈rs,u.nam.size<=9223372036854775807) (m:Nat) (_ih:KE okr ok g A cap rs Ai ci its Apt cpt xs vp vk m),KE okr ok g A cap rs Ai ci its Apt cpt xs vp vk (m+1)):=by
 apply Qy.mk
 intro ha hb hc hd okr ok g A cap rs Ai ci its Apt cpt xs vp vk hrn hfs hys hkr hnm m ih x i j c w hm hok hR hX hK hG hP hlt hji hjx hj6;obtain⟨i0,hi,hz0,hz1,hz2⟩:=Sp.info_parts zN;have IH:=zh ih;obtain⟨A2,cap2,rfl,hl,hc,hks⟩:=hX.form;have B1:=aN w (.cells (dw x.rule x.at_ A2 x.kids.length cap2) 139);have s1:(w.alloc (.cells (dw x.rule x.at_ A2 x.kids.length cap2) 139)).heap.size=w.heap.size+1:=aS
 have B2:=aN (w.alloc (.cells (dw x.rule x.at_ A2 x.kids.length cap2) 139)) (.cells cK 25);have HB:=zh (B1.trans (B2.mono B1.size));have K0:=zh (ae B2 (au.new w 139 (dw x.rule x.at_ A2 x.kids.length cap2)));have K1:=zh (au.new (w.alloc (.cells (dw x.rule x.at_ A2 x.kids.length cap2) 139)) 25 cK);rw[s1] at K1;have HS2:=ah (((w.alloc (.cells (dw x.rule x.at_ A2 x.kids.length cap2) 139)).alloc (.cells cK 25)).heap.size=w.heap.size+2) (by simp);have HR:=zh hR;have HX:=zh hX;have HKS:=zh hks;have HP:=zh hP;have HOK:=zh hlt;have HM:=zh hm;have HK:=zh hK;have HG:=zh hG;have HJ:=ah (j<=its.length/\j<=xs.length/\j<=1000000/\1<=j/\i<j) ⟨hji,hjx,hj6,av (CY hok),CY hok⟩;have HFS:=zh hfs;have HYS:=zh hys;have HGG:=ah (g<w.heap.size) hG.lt;rcases Zy hok with⟨h1,h3⟩|⟨r,u,hr,hu,hkk⟩
 ·revert okr ok g A cap rs Ai ci its Apt cpt xs vp vk m x i j w A2 cap2;exact ha ()
 ·have HLR:=zh hr;have HU:=zh hu;have HKK:=zh hkk;have hneg:¬((r:Int)<0):=by omega
  have hneg2:0<=(r:Int):=aa
  have hrl:(r:Int)<(rs.length:Int):=av ((bP.1 hu).1)
  have HTR0:=zh (λpo hpo=>ZA (rs:=rs) (its:=its) (xs:=xs) (x:=x) (j:=j) hr hu (po:=po) hpo);have HPC0:=zh (λ(w5:World) (hb:Below w.heap.size w w5)=>Zu okr A cap rs x (dw x.rule x.at_ A2 x.kids.length cap2) (j:Int) r u w5 (hR.keep hb) (hX.keep hb) hr hu aa (λhk=>by
   rcases hkk with⟨_,y,z,k,e,_,hz,_,_,_,ez⟩|⟨h,_⟩|⟨h,_⟩|⟨h,_⟩
   ·exact⟨y,z,[],e,aa,av (CY hz)⟩
   all_goals omega) (av HJ.o) (av HJ.o))
  have HKD:=zh (hkr u (dQ hu));have HNM:=zh (hnm u (dQ hu));have HOP:=zh (show eY rs x j= -1\/∃q:Nat,eY rs x j=(q:Int)/\q<j by
   rcases hkk with⟨_,y,z,k,_,_,_,e,_,hlt,_⟩|⟨_,y,_,_,e,_⟩|⟨_,y,_,_,e,_⟩|⟨_,y,z,k,_,_,_,e,_⟩
   ·exact .inr ⟨k,e,hlt⟩
   ·exact .inr ⟨i,e,HJ.o.2.2.2.2⟩
   ·exact .inr ⟨j -1,e,av HJ.o⟩
   ·exact .inl e)
  rw[hr] at K0 HB HX HS2 K1 HPC0;clear hok hR hX hP hks hm B1 B2 s1 hK hG hr hu hkk hlt hji hjx hj6;go_enter Tryz.func152,Tryz.ntmps152;rw[HLR.o];go_upto_region 1 with(fail)
  generalize (w.alloc (.cells (dw (r:Int) x.at_ A2 x.kids.length cap2) 139)).alloc (.cells cK 25)=w1 at*;have HRW:=zh (HR.o.keep HB.o);have HGW:=zh (ae HB.o HG.o);obtain⟨hfit,adr,rfl,hadl,c0,c1,c2,c3,c4,c5⟩:=HRW.o.at_ HU.o;have k00:=K0.o.cell 0;have b0:=HGW.o.cell 0;have hl1:=K0.o.lt;have hl2:=HGW.o.lt;have hadr:(adr.add (r*6)).block<w1.heap.size:=by rw[gX];exact hadl
  clear hfit;go_upto_region 3 with(fail)
  go_region;have hba:=fC (aN w1 (.cells #[qI u.kind,af u.sym,af u.nam,qI u.prec,qI u.left,qI u.right] 41));have K2:=zh ((au.new w1 41 #[qI u.kind,af u.sym,af u.nam,qI u.prec,qI u.left,qI u.right]).drew);rw[HS2.o] at K2;have HS3:=ah ((w1.alloc (.cells #[qI u.kind,af u.sym,af u.nam,qI u.prec,qI u.left,qI u.right] 41)).drew.heap.size=w.heap.size+3) (by show(w1.alloc (.cells #[qI u.kind,af u.sym,af u.nam,qI u.prec,qI u.left,qI u.right] 41)).heap.size=_;rw[dY,HS2.o]);replace HB:=jt HB hba;replace K0:=kp hba K0;replace K1:=kp hba K1;replace HRW:=zh (HRW.o.keep hba);replace HGW:=kp hba HGW;rw[HS2.o];clear k00 b0 hl1 hl2 c0 c1 c2 c3 c4 c5 hadl hadr hba HS2;generalize (w1.alloc (.cells #[qI u.kind,af u.sym,af u.nam,qI u.prec,qI u.left,qI u.right] 41)).drew=w2 at*;go_upto_region 5 with(fail)
  have hba:=aN w2 (.cells #[qE,af ⟨#[105,110,102,105,120]⟩,af ⟨#[112,114,101,102,105,120]⟩,af ⟨#[112,111,115,116,102,105,120]⟩,af ⟨#[106,117,120,116,97,112,111,115,101]⟩] 217);have K3:=zh (au.new w2 217 #[qE,af ⟨#[105,110,102,105,120]⟩,af ⟨#[112,114,101,102,105,120]⟩,af ⟨#[112,111,115,116,102,105,120]⟩,af ⟨#[106,117,120,116,97,112,111,115,101]⟩]);rw[HS3.o] at K3;have HS4:=ah ((w2.alloc (.cells #[qE,af ⟨#[105,110,102,105,120]⟩,af ⟨#[112,114,101,102,105,120]⟩,af ⟨#[112,111,115,116,102,105,120]⟩,af ⟨#[106,117,120,116,97,112,111,115,101]⟩] 217)).heap.size=w.heap.size+4) (by rw[dY,HS3.o]);replace HB:=jt HB hba;replace K0:=kp hba K0;replace K1:=kp hba K1;replace K2:=kp hba K2;replace HRW:=zh (HRW.o.keep hba);replace HGW:=kp hba HGW;rw[HS3.o];clear hba HS3;generalize w2.alloc (.cells #[qE,af ⟨#[105,110,102,105,120]⟩,af ⟨#[112,114,101,102,105,120]⟩,af ⟨#[112,111,115,116,102,105,120]⟩,af ⟨#[106,117,120,116,97,112,111,115,101]⟩] 217)=w3 at*
  go_cut [9] (λp wc=>p=qP (w.heap.size+4)/\Hy (yz ok w (dw (r:Int) x.at_ A2 x.kids.length cap2) #[qI u.kind,af u.sym,af u.nam,qI u.prec,qI u.left,qI u.right] 4 u.nam ⟨#[]⟩ (iW u.kind) qN [] wc)/\Hy (Below w3.heap.size w3 wc))
  case first=>
   skip
   have q2:=K2.o.cell 2;have hl2:=K2.o.lt;have hl3:=K3.o.lt;have hba:=fC (aN w3 (.cells #[qI 4,af u.nam,qE,qN,af (iW u.kind)] 25));have KM:=(au.new w3 25 #[qI 4,af u.nam,qE,qN,af (iW u.kind)]).drew;rw[HS4.o] at KM;have S:=zh (yz.mk (ok:=ok) (xs:=[]) (HB.o.trans (hba.mono HB.o.size)) (ae hba K0.o) (ae hba K1.o) (ae hba K2.o) KM (dU.nil _ _ _) HOK.o);have HBA:=zh hba;clear KM hba;rcases HKD.o with h|h|h|h
   ·have q0:w3.cell? ⟨w.heap.size+2,0,none⟩=some (qI 1):=by rw[<-h];exact K2.o.cell 0
    have qf:w3.cell? ⟨w.heap.size+3,1,none⟩=some (af ⟨#[105,110,102,105,120]⟩):=K3.o.cell 1;have hfs:iW u.kind=⟨#[105,110,102,105,120]⟩:=by unfold iW;rw[ak h];rfl
    rw[hfs] at S HBA;clear h;go_region;go_wp2;go_meet;rw[hfs];exact⟨by rw[HS4.o],S,HBA⟩
   ·have q0:w3.cell? ⟨w.heap.size+2,0,none⟩=some (qI 2):=by rw[<-h];exact K2.o.cell 0
    have qf:w3.cell? ⟨w.heap.size+3,2,none⟩=some (af ⟨#[112,114,101,102,105,120]⟩):=K3.o.cell 2;have hfs:iW u.kind=⟨#[112,114,101,102,105,120]⟩:=by unfold iW;rw[ai (show ¬u.kind=1 from aa),ak h];rfl
    rw[hfs] at S HBA;clear h;go_region;go_wp2;go_meet;rw[hfs];exact⟨by rw[HS4.o],S,HBA⟩
   ·have q0:w3.cell? ⟨w.heap.size+2,0,none⟩=some (qI 3):=by rw[<-h];exact K2.o.cell 0
    have qf:w3.cell? ⟨w.heap.size+3,3,none⟩=some (af ⟨#[112,111,115,116,102,105,120]⟩):=K3.o.cell 3;have hfs:iW u.kind=⟨#[112,111,115,116,102,105,120]⟩:=by unfold iW;rw[ai (show ¬u.kind=1 from aa),ai (show ¬u.kind=2 from aa),ak h];rfl
    rw[hfs] at S HBA;clear h;go_region;go_wp2;go_meet;rw[hfs];exact⟨by rw[HS4.o],S,HBA⟩
   ·have q0:w3.cell? ⟨w.heap.size+2,0,none⟩=some (qI 4):=by rw[<-h];exact K2.o.cell 0
    have qf:w3.cell? ⟨w.heap.size+3,4,none⟩=some (af ⟨#[106,117,120,116,97,112,111,115,101]⟩):=K3.o.cell 4;have hfs:iW u.kind=⟨#[106,117,120,116,97,112,111,115,101]⟩:=by unfold iW;rw[ai (show ¬u.kind=1 from aa),ai (show ¬u.kind=2 from aa),ai (show ¬u.kind=3 from aa)];rfl
    rw[hfs] at S HBA;clear h;go_region;go_wp2;go_meet;rw[hfs];exact⟨by rw[HS4.o],S,HBA⟩
  obtain⟨rfl,S,HB3⟩:=hcut;clear HB3 K0 K1 K2 K3 HB HS4 HRW HGW;have HRW:=zh (HR.o.keep S.o.bel);have HGW:=zh (ae S.o.bel HG.o);generalize wc=w4 at*;have HPC:=zh (λ(wq:World) (hb:Below w4.heap.size w4 wq)=>HPC0.o wq (S.o.bel.trans (hb.mono S.o.bel.size)));clear HPC0;obtain⟨oi,hoi⟩:∃oi,oi=eY rs x j:=⟨_,rfl⟩
  rw[<-hoi] at HPC HOP;have HOI:=zh hoi;clear hoi;go_upto_region 6 with(fail)
  refine qm [2,2,2,1,1,2,1,2] (List.replicate 8 false) (λgx=>[qP g,qP g,qP g,ay adr rs.length cap,.agg (dw (r:Int) x.at_ A2 x.kids.length cap2),qI (j:Int),qI oi,qI oi]) [] (λ_ _=>True) bV.nil (trivial) ?_ ?_
  ·refine⟨jC,jI,jI,jR λgx wq hB=>(ae hB HGW.o).cell 0,λgx wq hB hJ hf=>?_,jC,λgx wq hB hJ hf=>?_,jC,trivial⟩
   ·have c0:=(ae hB S.o.k0).cell 0;have c1:=(ae hB S.o.k0).cell 1;have c2:=(ae hB S.o.k0).cell 2;exact gs (.agg (dw (r:Int) x.at_ A2 x.kids.length cap2)) hJ aj (om c0 c1 c2) rfl
   ·refine jc 171 (#[ay adr rs.length cap,.agg (dw (r:Int) x.at_ A2 x.kids.length cap2),qI (j:Int)]) wq aj ((HPC.o wq hB).mono ?_);rintro e wz ⟨rfl,hb⟩;exact⟨_,rfl,gx,rfl,jD,hb,trivial,trivial⟩
  ·refine λgx wq hB hJ hf=>?_
   dsimp only[ji] at hf;change wpOps _ _ _ [] _ _;refine jo ?_;clear hf hJ;clear gx;replace S:=zh (S.o.keep hB);replace HRW:=zh (HRW.o.keep hB);replace HGW:=kp hB HGW;clear hB;generalize wq=w5 at*;obtain⟨po,hpo⟩:∃po,po=(if 0<=oi then some ((its[oi.toNat]?).getD kR,(xs[oi.toNat]?).getD []) else none):=⟨_,rfl⟩
   have HTR:=zh (HTR0.o po (by rw[<-HOI.o];exact hpo));have HPO:=zh hpo;clear hpo HTR0 HPC;go_upto_if 59 with(fail)
   go_cut [] (λwc=>∃v,Hy (yz ok w (dw (r:Int) x.at_ A2 x.kids.length cap2) #[qI u.kind,af u.sym,af u.nam,qI u.prec,qI u.left,qI u.right] (uS rs u.kind po) u.nam (sV rs u.kind po) (sW rs u.kind po) v (sZ po) wc)/\Hy ((sV rs u.kind po).size<=1000/\(sW rs u.kind po).size<=1000/\(sZ po).length<=1000))
   case first=>
    skip
    rcases HOP.o with h|⟨q,h,hq⟩
    ·skip
     have HPO2:=ah (po=none) (by rw[HPO.o,h];rfl);subst h;clear HOP HPO;go_wp2;go_meet;rw[HPO2.o];exact⟨_,S,zh ⟨by show(⟨#[]⟩:ByteArray).size<=1000;decide,by show(iW u.kind).size<=1000;have:=Qw u.kind;omega,by show([]:List aC).length<=1000;decide⟩⟩
    ·obtain⟨n,hn⟩:∃n,its[q]?=some n:=⟨_,gE (av HJ.o)⟩
     obtain⟨y,hy⟩:∃y,xs[q]?=some y:=⟨_,gE (av HJ.o)⟩
     have HPO2:=ah (po=some (n,y)) (by rw[HPO.o,h,ak aa,fU,hn,hy];rfl);subst h;have HFO:=zh (hfs n (dQ hn));have HYL:=zh (hys y (dQ hy));obtain⟨adi,A3,cap3,rfl,hadl,hsz3,hl3,hc3,hk3,hn3,d0,d1,d2,d3⟩:=HK.o.at_ hn;obtain⟨adp,rfl,hadp,A7,c7,d7,hy1,hy2,hty⟩:=HP.o q y hy;have HN0:=zh hn3;have HTY:=zh (hty.keep S.o.bel);have hadb:∀o,(⟨(adi.add (q*4)).block,o,none⟩:Addr).block<w.heap.size:=λo=>by show(adi.add (q*4)).block<_;rw[gX];exact hadl
     replace d0:=(S.o.bel.cell (p:=adi.add (q*4)) (by rw[gX];exact hadl)).trans d0;replace d1:=(S.o.bel.cell (hadb ((adi.add (q*4)).off+1))).trans d1;replace d2:=(S.o.bel.cell (hadb ((adi.add (q*4)).off+2))).trans d2;replace d3:=(S.o.bel.cell (hadb ((adi.add (q*4)).off+3))).trans d3;replace d7:=(S.o.bel.cell (p:=adp.add q) (by rw[gX];exact hadp)).trans d7;replace hadp:(adp.add q).block<w5.heap.size:=ll (by rw[gX];exact hadp) S.o.bel.size;have hq1:(0:Int)<=(q:Int):=aa
     have hqi:(q:Int)<(its.length:Int):=av HJ.o
     have hq2:(q:Int)<(xs.length:Int):=av HJ.o
     have b1:=HGW.o.cell 1;clear HOP HPO hn3 hty hn hy hk3 hadb hadl
     rename_i K0 e2 J0 L0 e1 e0
     revert okr ok g cap rs ci its cpt xs vp vk m x i j w A2 cap2 r u w1 adr w2 w3 wc u15 u16 u17 u18 u19 u20 u21 u22 u23 u24 u25 u26 u27 u28 u29 u30 u31 u32 u33 u34 u35 u36 u37 u38 u39 u40 u41 u42 u43 u44 u45 u46 u47 u48 u49 u50 u51 u52 u53 u54 u55 u56 u57 u58 u59 u60 u61 u62 u63 u64 u65 u66 u67 u68 u69 u70 u71 u72 u73 u74 u75 u76 u77 u78 u81 u83 u85 u86 u87 u88 u89 u90 u91 u92 u93 u94 u95 u96 u97 u98 u99 u100 u101 u102 u103 u104 u105 u106 u107 u108 u109 u110 u111 u112 u114 u115 u116 u117 u118 u119 u120 u121 u122 u123 u124 u125 u126 u127 u128 u129 u130 u131 u132 u133 u134 u135 u136 u138 u139 u140 u141 u142 u143 u144 u145 u146 u147 u148 u149 u150 u151 u152 u153 u154 u155 u156 u157 u159 u160 u161 u162 u163 u164 u165 u166 u167 u168 u169 u170 u171 u172 u174 u175 u176 u177 u178 u179 u180 u181 u182 u183 u184 u185 u186 u187 w4 wq w5 po K0 J0 L0 q n y adi A3 cap3 adp A7 c7;exact hb ()
   obtain⟨v,S1,HSZ0⟩:=hcut
   skip
   clear S;have S:=S1;clear S1 HRW HGW;generalize uS rs u.kind po=kk at*;generalize sV rs u.kind po=vr at*;generalize sW rs u.kind po=fm at*;generalize sZ po=sc at*;generalize wc=w8 at*;have HSZ:=ah (u.nam.size<=9223372036854775807/\vr.size<=9223372036854775807/\fm.size<=9223372036854775807) ⟨HNM.o,av HSZ0.o,av HSZ0.o⟩;have HSC:=ah (sc.length<=1000) HSZ0.o.2.2;clear HSZ0 HOP;obtain⟨Af,cf,rfl,hcf,hcm,_⟩:=S.o.app.form (λb hb=>.inr aa);have HRW:=zh (HR.o.keep S.o.bel);have HGW:=zh (ae S.o.bel HG.o);have HKW:=zh (HK.o.keep S.o.bel);have HPW:=zh (HP.o.keep S.o.bel);have ku0:=S.o.ku.cell 0
   go_upto_block 1 with(fail)
   go_cut [] (λwc=>∃(A6:Option Addr) (c6:Nat) (zs:List aC),zs.length<=c6/\c6<=9223372036854775807/\Hy (yz ok w (dw (r:Int) x.at_ A2 x.kids.length cap2) #[qI u.kind,af u.sym,af u.nam,qI u.prec,qI u.left,qI u.right] kk u.nam vr fm (.slice A6 zs.length c6) zs wc)/\Hy (dO rs its xs x j= .mk kk u.nam vr fm zs))
   case first=>
    skip
    rename_i rt K0 e2 J0 L0 e1 e0
    revert okr ok g cap rs Ai ci its Apt cpt xs vp vk m x i j w A2 cap2 r u w1 adr w2 w3 w4 oi wq w5 po wc u11 u12 u13 u14 u15 u16 u17 u18 u19 u20 u21 u22 u23 u24 u25 u26 u27 u28 u29 u30 u31 u32 u33 u34 u35 u36 u37 u38 u39 u40 u41 u42 u43 u44 u45 u46 u47 u48 u49 u50 u51 u52 u53 u54 u55 u56 u57 u58 u59 u60 u61 u62 u63 u64 u65 u66 u67 u68 u69 u70 u71 u72 u73 u74 u75 u76 u77 u78 u79 u80 u81 u82 u83 u84 u85 u86 u87 u88 u89 u90 u91 u92 u93 u94 u95 u96 u97 u98 u99 u100 u101 u102 u103 u104 u105 u106 u107 u108 u109 u110 u111 u112 u114 u115 u116 u117 u118 u119 u120 u121 u122 u123 u124 u125 u126 u127 u128 u129 u130 u131 u132 u133 u134 u135 u136 u138 u139 u140 u141 u142 u143 u144 u145 u146 u147 u148 u149 u150 u151 u152 u153 u154 u155 u156 u157 u159 u160 u161 u162 u163 u164 u165 u166 u167 u168 u169 u170 u171 u172 u174 u175 u176 u177 u178 u179 u180 u181 u182 u183 u184 u185 u186 u187 kk vr fm sc w8 Af cf K0 J0 L0;exact hc ()
   obtain⟨A6,c6,zs,h61,h62,S9,HTQ⟩:=hcut
   rename_i rt K0 e0
   revert okr ok g cap rs Ai ci its Apt cpt xs vp vk m x i j w A2 cap2 r u w1 adr w2 w3 w4 oi wq w5 po u11 u12 u13 u14 u79 u80 u82 u84 kk vr fm sc w8 Af cf K0 wc u15 u16 u17 u18 u19 u20 u21 u22 u23 u24 u25 u26 u27 u28 u29 u30 u31 u32 u33 u34 u35 u36 u37 u38 u39 u40 u41 u42 u43 u44 u45 u46 u47 u48 u49 u50 u51 u52 u53 u54 u55 u56 u57 u58 u59 u60 u61 u62 u63 u64 u65 u66 u67 u68 u69 u70 u71 u72 u73 u74 u75 u76 u77 u78 u81 u83 u85 u86 u87 u88 u89 u90 u91 u92 u93 u94 u95 u96 u97 u98 u99 u100 u101 u102 u103 u104 u105 u106 u107 u108 u109 u110 u111 u112 u114 u115 u116 u117 u118 u119 u120 u121 u122 u123 u124 u125 u126 u127 u128 u129 u130 u131 u132 u133 u134 u135 u136 u137 u138 u139 u140 u141 u142 u143 u144 u145 u146 u147 u148 u149 u150 u151 u152 u153 u154 u155 u156 u157 u158 u159 u160 u161 u162 u163 u164 u165 u166 u167 u168 u169 u170 u171 u172 u173 u174 u175 u176 u177 u178 u179 u180 u181 u182 u183 u184 u185 u186 u187 A6 c6 zs;exact hd ()
end Go.Proofs.YtlefbenkhgbifaaGreatDoor.El
