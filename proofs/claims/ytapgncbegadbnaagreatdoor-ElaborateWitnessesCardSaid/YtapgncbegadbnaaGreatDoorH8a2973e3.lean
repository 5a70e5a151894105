/- build of the reference: the term of a reading. -/
import Derived.Test.YtapgncbegadbnaaGreatDoorHa7d47b10
import Derived.Test.YtapgncbegadbnaaGreatDoorH76b74fc6
import Derived.Test.YtapgncbegadbnaaGreatDoorHb3db46ef
set_option maxRecDepth 100000
set_option maxHeartbeats 400000000
namespace Go.Proofs.YtapgncbegadbnaaGreatDoor.El
open At Ch Sp Sy Go.RowKit
variable{rs:List Rul}{x:Rd}{j:Nat}{w w':World}{css:List (Array Value)}
def bdKK (rs:List Rul)(k:Int)(po:Option (Tre×List Trm)):Int:=match po with
 |none=>4
 |some p=>if(varN rs p.1 (decide (k=2))).isSome=true then 5 else 4
def bdVr (rs:List Rul)(k:Int)(po:Option (Tre×List Trm)):ByteArray:=match po with
 |none=>⟨#[]⟩
 |some p=>(varN rs p.1 (decide (k=2))).getD ⟨#[]⟩
def bdFm (rs:List Rul)(k:Int)(po:Option (Tre×List Trm)):ByteArray:=match po with
 |none=>zBf k
 |some p=>(if(varN rs p.1 (decide (k=2))).isSome=true then zHr else zBf k)++sfxS p.1.kind
def bdSc (po:Option (Tre×List Trm)):List Trm:=match po with
 |none=>[]
 |some p=>p.2
theorem yDa (rs:List Rul)(nam:ByteArray)(k:Int)(po:Option (Tre×List Trm))(args:List Trm):mkB rs nam k po args= .mk (bdKK rs k po) nam (bdVr rs k po) (bdFm rs k po) (bdSc po++args):=by
 unfold mkB bdKK bdVr bdFm bdSc;cases po with
 |none=>rfl
 |some p=>
  obtain⟨n,ts⟩:=p;dsimp only;cases varN rs n (decide (k=2))<;>rfl
theorem zNd (k:Int):(zBf k).size<=20:=by
 unfold zBf
 split
 ·decide
 ·split
  ·decide
  ·split<;>decide
theorem zY9 (k:Int):(sfxS k).size<=20:=by
 unfold sfxS
 split
 ·decide
 ·split
  ·decide
  ·split<;>decide
theorem zSt {n:Tre}{v:ByteArray}(hF:zAt n=true)(h:zDu rs n=some v):v.size<=1000:=by
 unfold zDu at h
 split at h
 ·cases hn:n.kids with
  |nil=>rw[hn] at h;cases h
  |cons a r=>
   cases r with
   |nil=>rw[hn] at h;cases h
   |cons b r=>
    rw[hn] at h;dsimp only at h;have hb:=(zDa (s:=1) (d:=b) hF (by rw[hn];rfl)).1;unfold zGp at h
    split at h
    ·next c d e r2 hs=>
     split at h
     ·injection h with h;rw[<-h];exact zCp (zDa (s:=0) (d:=c) hb (by rw[hs];rfl)).1
     ·cases h
    ·cases h
 ·cases h
theorem zZk {i:Nat}(h:OkR rs x i j):(x.rule= -1/\x.at_=(i:Int))\/∃(r:Nat) (u:Rul),x.rule=(r:Int)/\rs[r]?=some u/\
  ((u.kind=1/\∃y z k,x.kids=[y,z]/\OkR rs y i k/\OkR rs z (k+1) j/\opI rs x j=(k:Int)/\zAy rs x j=[(k:Int),(j:Int)]/\k<j/\z.at_=((k+1:Nat):Int))\/
   (u.kind=2/\∃y,x.kids=[y]/\OkR rs y (i+1) j/\opI rs x j=(i:Int)/\zAy rs x j=[(j:Int)])\/
   (u.kind=3/\∃y,x.kids=[y]/\OkR rs y i (j -1)/\opI rs x j=((j -1:Nat):Int)/\zAy rs x j=[((j -1:Nat):Int)])\/
   (u.kind=4/\∃y z k,x.kids=[y,z]/\OkR rs y i k/\OkR rs z k j/\opI rs x j= -1/\zAy rs x j=[(k:Int),(j:Int)]/\k<j/\z.at_=(k:Int))):=by
 cases h with
 |leaf i=>exact .inl ⟨rfl,rfl⟩
 |inf n u i k j y z hu hk h1 h2 hz a b=>exact .inr ⟨n,u,rfl,hu,.inl ⟨hk,y,z,k,rfl,a,b,(zP2 hu hk hz).1,(zP2 hu hk hz).2,by omega,hz⟩⟩
 |pre n u i j y hu hk h1 a=>exact .inr ⟨n,u,rfl,hu,.inr (.inl ⟨hk,y,rfl,a,(zNx hu hk).1,(zNx hu hk).2⟩)⟩
 |pos n u i j y hu hk h1 a=>exact .inr ⟨n,u,rfl,hu,.inr (.inr (.inl ⟨hk,y,rfl,a,(zNe hu hk (by omega)).1,(zNe hu hk (by omega)).2⟩))⟩
 |jux n u i k j y z hu hk h1 h2 hz a b=>exact .inr ⟨n,u,rfl,hu,.inr (.inr (.inr ⟨hk,y,z,k,rfl,a,b,(zP3 hu hk hz).1,(zP3 hu hk hz).2,by omega,hz⟩))⟩
theorem _root_.Go.Proofs.YtapgncbegadbnaaGreatDoor.Sp.AppT.zGo {P:Nat->Prop}{B:Nat}{v v':Value}{xs ys:List Trm}{dss:List (Array Value)}(hl:css.length=xs.length)(h:∀(j:Nat) c x,css[j]?=some c->xs[j]?=some x->TmAt (fun b=>v.ownBlock≠some b/\P b) w x c)(hl2:dss.length=ys.length)(h2:∀(j:Nat) c x,dss[j]?=some c->ys[j]?=some x->TmAt (fun b=>v.ownBlock≠some b/\P b) w x c)
  (ho:w'.ownsRow B 47 5 v' (xs.length+ys.length) (css.flatMap (·.toList)++dss.flatMap (·.toList))) (hg:w.grownBy w' v.ownBlock) (hv:v'.ownBlock=v.ownBlock\/v'.ownBlock=some w.heap.size):AppT P w' B v' (xs++ys):=by
 have mv:∀{x:Trm} {c:Array Value},TmAt (fun b=>v.ownBlock≠some b/\P b) w x c->TmAt (fun b=>v'.ownBlock≠some b/\P b) w' x c:=fun hx=>hx.grown hg (fun b _ hb e=>hb.1 e.symm) fun b hb ho=>⟨by
  rcases hv with e|e
  ·rw[e];exact ho.1
  ·rw[e];intro h2;have:=sj h2;omega,ho.2⟩
 refine⟨css++dss,by rw[List.length_append,List.flatMap_append];exact ho,by simp[hl,hl2],fun j d y hj hy=>?_⟩;rcases Nat.lt_or_ge j css.length with hlt|hge
 ·rw[List.getElem?_append_left hlt] at hj;rw[List.getElem?_append_left (by omega)] at hy;exact mv (h j d y hj hy)
 ·rw[List.getElem?_append_right hge] at hj;rw[List.getElem?_append_right (by omega),<-hl] at hy;exact mv (h2 _ d y hj hy)
theorem yBk {ok:Nat->Prop}{ks:List Trm}(hl:css.length=ks.length)(h:∀(j:Nat) c x,css[j]?=some c->ks[j]?=some x->TmAt ok w x c):∀u∈css.flatMap (·.toList),u.oneCell'=true:=fun u hu=>by
 obtain⟨c,hc,hu2⟩:=List.mem_flatMap.1 hu;obtain⟨j,hj⟩:=List.mem_iff_getElem?.1 hc;have hjl:=(List.getElem?_eq_some_iff.1 hj).1;exact zFe (h j c _ hj (gE (by omega))) u hu2
theorem zP0 {g:Nat}{t:TypeId}{c d:Array Value}(h:Blk w g t (c.toList++d.toList).toArray)(hc:c.size=5)(hd:d.size=5):Reads w w.heap.size 5 (some ⟨g,0,none⟩) 2 (c.toList++d.toList):=
 ⟨by simp[hc,hd],fun _=>⟨⟨g,0,none⟩,rfl,h.lt,fun j v hj=>by
  rw[show(⟨g,0,none⟩:Addr).add j=⟨g,j,none⟩ by unfold Addr.add;split<;>simp_all,h.cell]
  simpa using hj⟩⟩
structure BuS (ok:Nat->Prop)(w:World)(rc ru:Array Value)(kk:Int)(nam vr frm:ByteArray)(v:Value)(xs:List Trm)(x:World):Prop where
 bel:Below w.heap.size w x
 k0:Blk x w.heap.size 42 rc
 k1:Blk x (w.heap.size+1) 47 zerC
 ku:Blk x (w.heap.size+2) 53 ru
 km:Blk x (w.heap.size+4) 47 #[qI kk,.string nam,.string vr,v,.string frm]
 app:AppT (fun b=>ok b\/w.heap.size+4<b) x (w.heap.size+5) v xs
 lok:∀b,ok b->b<w.heap.size
theorem BuS.keep {ok:Nat->Prop}{w x x':World}{rc ru:Array Value}{kk:Int}{nam vr frm:ByteArray}{v:Value}{xs:List Trm}(h:BuS ok w rc ru kk nam vr frm v xs x)(hb:Below x.heap.size x x'):BuS ok w rc ru kk nam vr frm v xs x':=
 ⟨h.bel.trans (hb.mono h.bel.size),jL hb h.k0,jL hb h.k1,jL hb h.ku,jL hb h.km,h.app.keep hb,h.lok⟩
theorem BuS.set_ {ok:Nat->Prop}{w x:World}{rc ru:Array Value}{kk kk':Int}{nam vr frm vr' frm':ByteArray}{v v':Value}{xs xs':List Trm}(h:BuS ok w rc ru kk nam vr frm v xs x)(o:Nat)(u:Value)(hc:Blk (x.setCell ⟨w.heap.size+4,o,none⟩ u) (w.heap.size+4) 47 #[qI kk',.string nam,.string vr',v',.string frm'])(ha:AppT (fun b=>ok b\/w.heap.size+4<b) x (w.heap.size+5) v' xs'):BuS ok w rc ru kk' nam vr' frm' v' xs' (x.setCell ⟨w.heap.size+4,o,none⟩ u):=by
 have hg:x.grownBy (x.setCell ⟨w.heap.size+4,o,none⟩ u) (some (w.heap.size+4)):=zA8 x ⟨w.heap.size+4,o,none⟩ u;refine⟨h.bel.grown hg h.bel.size fun r e=>by have:=sj e;omega,h.k0.grown hg fun e=>by have:=sj e;omega,h.k1.grown hg fun e=>by have:=sj e;omega,h.ku.grown hg fun e=>by have:=sj e;omega,hc,ha.set_ (p:=⟨w.heap.size+4,o,none⟩) ?_ (by show w.heap.size+4<w.heap.size+5;omega) u,h.lok⟩;show ¬(ok (w.heap.size+4)\/w.heap.size+4<w.heap.size+4);intro hq;rcases hq with hq|hq
 ·have:=h.lok _ hq;omega
 ·omega
theorem BuS.grow {ok:Nat->Prop}{x x':World}{rc ru:Array Value}{kk:Int}{nam vr frm:ByteArray}{v v':Value}{xs xs':List Trm}{row:Option Nat}(h:BuS ok w rc ru kk nam vr frm v xs x)(hg:x.grownBy x' row)(hr:∀b,row=some b->w.heap.size+5<=b)(ha:AppT (fun b=>ok b\/w.heap.size+4<b) x' (w.heap.size+5) v' xs'):BuS ok w rc ru kk nam vr frm v' xs' (x'.setCell ⟨w.heap.size+4,3,none⟩ v'):=by
 have hg2:x'.grownBy (x'.setCell ⟨w.heap.size+4,3,none⟩ v') (some (w.heap.size+4)):=zA8 x' ⟨w.heap.size+4,3,none⟩ v';have hs:=hg.size;have hbs:=h.bel.size;refine⟨(h.bel.grown hg hbs fun r e=>by have:=hr r e;omega).grown hg2 (by omega) fun r e=>by have:=sj e;omega,(h.k0.grown hg fun e=>by have:=hr _ e.symm;omega).grown hg2 fun e=>by have:=sj e;omega,(h.k1.grown hg fun e=>by have:=hr _ e.symm;omega).grown hg2 fun e=>by have:=sj e;omega,(h.ku.grown hg fun e=>by have:=hr _ e.symm;omega).grown hg2 fun e=>by have:=sj e;omega,(h.km.grown hg fun e=>by have:=hr _ e.symm;omega).set_ 3 v',ha.set_ (p:=⟨w.heap.size+4,3,none⟩) ?_ (by show w.heap.size+4<w.heap.size+5;omega) v',h.lok⟩;show ¬(ok (w.heap.size+4)\/w.heap.size+4<w.heap.size+4);intro hq;rcases hq with hq|hq
 ·have:=h.lok _ hq;omega
 ·omega
theorem zJi.below {ok:Nat->Prop}{A:Option Addr}{xs:List (List Trm)}(h:zJi ok w A xs)(hb:Below w.heap.size w w'):zJi ok w' A xs:=h.keep hb
theorem yCn {its:List Tre}{xs:List (List Trm)}{r:Nat}{u:Rul}(hr:x.rule=(r:Int))(hu:rs[r]?=some u){po:Option (Tre×List Trm)}(hpo:po=(if 0<=opI rs x j then some ((its[(opI rs x j).toNat]?).getD zerN,(xs[(opI rs x j).toNat]?).getD []) else none)):
  bldR rs its xs x j= .mk (bdKK rs u.kind po) u.nam (bdVr rs u.kind po) (bdFm rs u.kind po) (bdSc po++bldL rs its xs x.kids (zAy rs x j)):=by
 have hkn:kndR rs (r:Int)=u.kind/\zKg rs (r:Int)=u.nam:=by unfold kndR zKg;rw[Int.toNat_natCast,hu];exact⟨rfl,rfl⟩
 cases x with
 |mk r' a ks=>
  have e1:r'=(r:Int):=hr;subst e1;rw[zJw,if_neg (by omega),hkn.1,hkn.2,<-hpo,yDa];rfl
def BuC (okr ok:Nat->Prop)(g:Nat)(A:Option Addr)(cap:Nat)(rs:List Rul)(Ai:Option Addr)(ci:Nat)(its:List Tre)(Apt:Option Addr)(cpt:Nat)(xs:List (List Trm))(vp vk:Value)(m:Nat):Prop:=
  ∀(x:Rd) (i j:Nat) (c:Array Value) (w:World),zB4 x<=m->OkR rs x i j->zAc w A rs->RdAt okr w x c->zAo w Ai its->Blk w g 120 #[.slice A rs.length cap,.slice Ai its.length ci,vp,vk,.slice Apt xs.length cpt]->zJi ok w Apt xs->(∀b,ok b->b<w.heap.size)->j<=its.length->j<=xs.length->j<=1000000->
  Calls Tryz.prog 89 #[qP g,.agg c,qI (j:Int)] w (RTmP ok (bldR rs its xs x j) w)
structure Pk4 (M:Prop) where
 a:Prop
 b:Prop
 c:Prop
 d:Prop
 out:(Unit->a)->(Unit->b)->(Unit->c)->(Unit->d)->M
noncomputable def zEv:Pk4 (∀(okr ok:Nat->Prop) (g:Nat) (A:Option Addr) (cap:Nat) (rs:List Rul) (Ai:Option Addr) (ci:Nat) (its:List Tre) (Apt:Option Addr) (cpt:Nat) (xs:List (List Trm)) (vp vk:Value) (_hrn:rs.length<=1000000) (_hfs:∀n∈its,zAt n=true/\n.kind≠1) (_hys:∀y∈xs,y.length<=1000) (_hkr:∀u∈rs,u.kind=1\/u.kind=2\/u.kind=3\/u.kind=4) (_hnm:∀u∈rs,u.nam.size<=9223372036854775807) (m:Nat) (_ih:BuC okr ok g A cap rs Ai ci its Apt cpt xs vp vk m),BuC okr ok g A cap rs Ai ci its Apt cpt xs vp vk (m+1)):=by
 apply Pk4.mk
 intro ha hb hc hd okr ok g A cap rs Ai ci its Apt cpt xs vp vk hrn hfs hys hkr hnm m ih x i j c w hm hok hR hX hK hG hP hlt hji hjx hj6;obtain⟨i0,hi,hz0,hz1,hz2⟩:=Sp.info_parts zEd;have IH:=zh ih;obtain⟨A2,cap2,rfl,hl,hc,hks⟩:=hX.form;have B1:=zA0 w (.cells (rdC x.rule x.at_ A2 x.kids.length cap2) 42);have s1:(w.alloc (.cells (rdC x.rule x.at_ A2 x.kids.length cap2) 42)).heap.size=w.heap.size+1:=by simp
 have B2:=zA0 (w.alloc (.cells (rdC x.rule x.at_ A2 x.kids.length cap2) 42)) (.cells zerC 47);have HB:=zh (B1.trans (B2.mono B1.size));have K0:=zh (keep B2 (Blk.new w 42 (rdC x.rule x.at_ A2 x.kids.length cap2)));have K1:=zh (Blk.new (w.alloc (.cells (rdC x.rule x.at_ A2 x.kids.length cap2) 42)) 47 zerC);rw[s1] at K1;have HS2:=zh (show((w.alloc (.cells (rdC x.rule x.at_ A2 x.kids.length cap2) 42)).alloc (.cells zerC 47)).heap.size=w.heap.size+2 by simp);have HR:=zh hR;have HX:=zh hX;have HKS:=zh hks;have HP:=zh hP;have HOK:=zh hlt;have HM:=zh hm;have HK:=zh hK;have HG:=zh hG;have HJ:=zh (show j<=its.length/\j<=xs.length/\j<=1000000/\1<=j/\i<j from⟨hji,hjx,hj6,by have:=zSu hok;omega,zSu hok⟩);have HFS:=zh hfs;have HYS:=zh hys;have HGG:=zh (show g<w.heap.size from hG.lt);rcases zZk hok with⟨h1,h3⟩|⟨r,u,hr,hu,hkk⟩
 ·revert okr ok g A cap rs Ai ci its Apt cpt xs vp vk m x i j w A2 cap2;exact ha ()
 ·have HLR:=zh hr;have HU:=zh hu;have HKK:=zh hkk;have hneg:¬((r:Int)<0):=by omega
  have hneg2:0<=(r:Int):=by omega
  have hrl:(r:Int)<(rs.length:Int):=by have:=(List.getElem?_eq_some_iff.1 hu).1;omega
  have HTR0:=zh (fun po hpo=>yCn (rs:=rs) (its:=its) (xs:=xs) (x:=x) (j:=j) hr hu (po:=po) hpo);have HPC0:=zh (fun(w5:World) (hb:Below w.heap.size w w5)=>zVx okr A cap rs x (rdC x.rule x.at_ A2 x.kids.length cap2) (j:Int) r u w5 (hR.keep hb) (hX.keep hb) hr hu (by omega) (fun hk=>by
   rcases hkk with⟨_,y,z,k,e,_,hz,_,_,_,ez⟩|⟨h,_⟩|⟨h,_⟩|⟨h,_⟩
   ·exact⟨y,z,[],e,by omega,by have:=zSu hz;omega⟩
   all_goals omega) (by have:=HJ.out;omega) (by have:=HJ.out;omega))
  have HKD:=zh (hkr u (List.mem_of_getElem? hu));have HNM:=zh (hnm u (List.mem_of_getElem? hu));have HOP:=zh (show opI rs x j= -1\/∃q:Nat,opI rs x j=(q:Int)/\q<j by
   rcases hkk with⟨_,y,z,k,_,_,_,e,_,hlt,_⟩|⟨_,y,_,_,e,_⟩|⟨_,y,_,_,e,_⟩|⟨_,y,z,k,_,_,_,e,_⟩
   ·exact .inr ⟨k,e,hlt⟩
   ·exact .inr ⟨i,e,HJ.out.2.2.2.2⟩
   ·exact .inr ⟨j -1,e,by have:=HJ.out;omega⟩
   ·exact .inl e)
  rw[hr] at K0 HB HX HS2 K1 HPC0;clear hok hR hX hP hks hm B1 B2 s1 hK hG hr hu hkk hlt hji hjx hj6;go_enter Tryz.func89,Tryz.ntmps89;rw[HLR.out];go_upto_region 1 with(fail)
  generalize (w.alloc (.cells (rdC (r:Int) x.at_ A2 x.kids.length cap2) 42)).alloc (.cells zerC 47)=w1 at*;have HRW:=zh (HR.out.keep HB.out);have HGW:=zh (keep HB.out HG.out);obtain⟨hfit,adr,rfl,hadl,c0,c1,c2,c3,c4,c5⟩:=HRW.out.at_ HU.out;have k00:=K0.out.cell 0;have b0:=HGW.out.cell 0;have hl1:=K0.out.lt;have hl2:=HGW.out.lt;have hadr:(adr.add (r*6)).block<w1.heap.size:=by rw[zA2];exact hadl
  clear hfit;go_upto_region 3 with(fail)
  go_region;have hba:=zA3 (zA0 w1 (.cells #[qI u.kind,.string u.sym,.string u.nam,qI u.prec,qI u.left,qI u.right] 53));have K2:=zh ((Blk.new w1 53 #[qI u.kind,.string u.sym,.string u.nam,qI u.prec,qI u.left,qI u.right]).drew);rw[HS2.out] at K2;have HS3:=zh (show(w1.alloc (.cells #[qI u.kind,.string u.sym,.string u.nam,qI u.prec,qI u.left,qI u.right] 53)).drew.heap.size=w.heap.size+3 by show(w1.alloc (.cells #[qI u.kind,.string u.sym,.string u.nam,qI u.prec,qI u.left,qI u.right] 53)).heap.size=_;rw[World.size_alloc,HS2.out]);replace HB:=jt HB hba;replace K0:=kp hba K0;replace K1:=kp hba K1;replace HRW:=zh (HRW.out.keep hba);replace HGW:=kp hba HGW;rw[HS2.out];clear k00 b0 hl1 hl2 c0 c1 c2 c3 c4 c5 hadl hadr hba HS2;generalize (w1.alloc (.cells #[qI u.kind,.string u.sym,.string u.nam,qI u.prec,qI u.left,qI u.right] 53)).drew=w2 at*;go_upto_region 5 with(fail)
  have hba:=zA0 w2 (.cells #[qE,.string ⟨#[105,110,102,105,120]⟩,.string ⟨#[112,114,101,102,105,120]⟩,.string ⟨#[112,111,115,116,102,105,120]⟩,.string ⟨#[106,117,120,116,97,112,111,115,101]⟩] 177);have K3:=zh (Blk.new w2 177 #[qE,.string ⟨#[105,110,102,105,120]⟩,.string ⟨#[112,114,101,102,105,120]⟩,.string ⟨#[112,111,115,116,102,105,120]⟩,.string ⟨#[106,117,120,116,97,112,111,115,101]⟩]);rw[HS3.out] at K3;have HS4:=zh (show(w2.alloc (.cells #[qE,.string ⟨#[105,110,102,105,120]⟩,.string ⟨#[112,114,101,102,105,120]⟩,.string ⟨#[112,111,115,116,102,105,120]⟩,.string ⟨#[106,117,120,116,97,112,111,115,101]⟩] 177)).heap.size=w.heap.size+4 by rw[World.size_alloc,HS3.out]);replace HB:=jt HB hba;replace K0:=kp hba K0;replace K1:=kp hba K1;replace K2:=kp hba K2;replace HRW:=zh (HRW.out.keep hba);replace HGW:=kp hba HGW;rw[HS3.out];clear hba HS3;generalize w2.alloc (.cells #[qE,.string ⟨#[105,110,102,105,120]⟩,.string ⟨#[112,114,101,102,105,120]⟩,.string ⟨#[112,111,115,116,102,105,120]⟩,.string ⟨#[106,117,120,116,97,112,111,115,101]⟩] 177)=w3 at*
  go_cut [9] (fun p wc=>p=qP (w.heap.size+4)/\Hid (BuS ok w (rdC (r:Int) x.at_ A2 x.kids.length cap2) #[qI u.kind,.string u.sym,.string u.nam,qI u.prec,qI u.left,qI u.right] 4 u.nam ⟨#[]⟩ (zBf u.kind) qN [] wc)/\Hid (Below w3.heap.size w3 wc))
  case first=>
   skip
   have q2:=K2.out.cell 2;have hl2:=K2.out.lt;have hl3:=K3.out.lt;have hba:=zA3 (zA0 w3 (.cells #[qI 4,.string u.nam,qE,qN,.string (zBf u.kind)] 47));have KM:=(Blk.new w3 47 #[qI 4,.string u.nam,qE,qN,.string (zBf u.kind)]).drew;rw[HS4.out] at KM;have S:=zh (BuS.mk (ok:=ok) (xs:=[]) (HB.out.trans (hba.mono HB.out.size)) (keep hba K0.out) (keep hba K1.out) (keep hba K2.out) KM (AppT.nil _ _ _) HOK.out);have HBA:=zh hba;clear KM hba;rcases HKD.out with h|h|h|h
   ·have q0:w3.cell? ⟨w.heap.size+2,0,none⟩=some (qI 1):=by rw[<-h];exact K2.out.cell 0
    have qf:w3.cell? ⟨w.heap.size+3,1,none⟩=some (.string ⟨#[105,110,102,105,120]⟩):=K3.out.cell 1;have hfs:zBf u.kind=⟨#[105,110,102,105,120]⟩:=by unfold zBf;rw[if_pos h];rfl
    rw[hfs] at S HBA;clear h;go_region;go_wp2;go_meet;rw[hfs];exact⟨by rw[HS4.out],S,HBA⟩
   ·have q0:w3.cell? ⟨w.heap.size+2,0,none⟩=some (qI 2):=by rw[<-h];exact K2.out.cell 0
    have qf:w3.cell? ⟨w.heap.size+3,2,none⟩=some (.string ⟨#[112,114,101,102,105,120]⟩):=K3.out.cell 2;have hfs:zBf u.kind=⟨#[112,114,101,102,105,120]⟩:=by unfold zBf;rw[if_neg (show ¬u.kind=1 by omega),if_pos h];rfl
    rw[hfs] at S HBA;clear h;go_region;go_wp2;go_meet;rw[hfs];exact⟨by rw[HS4.out],S,HBA⟩
   ·have q0:w3.cell? ⟨w.heap.size+2,0,none⟩=some (qI 3):=by rw[<-h];exact K2.out.cell 0
    have qf:w3.cell? ⟨w.heap.size+3,3,none⟩=some (.string ⟨#[112,111,115,116,102,105,120]⟩):=K3.out.cell 3;have hfs:zBf u.kind=⟨#[112,111,115,116,102,105,120]⟩:=by unfold zBf;rw[if_neg (show ¬u.kind=1 by omega),if_neg (show ¬u.kind=2 by omega),if_pos h];rfl
    rw[hfs] at S HBA;clear h;go_region;go_wp2;go_meet;rw[hfs];exact⟨by rw[HS4.out],S,HBA⟩
   ·have q0:w3.cell? ⟨w.heap.size+2,0,none⟩=some (qI 4):=by rw[<-h];exact K2.out.cell 0
    have qf:w3.cell? ⟨w.heap.size+3,4,none⟩=some (.string ⟨#[106,117,120,116,97,112,111,115,101]⟩):=K3.out.cell 4;have hfs:zBf u.kind=⟨#[106,117,120,116,97,112,111,115,101]⟩:=by unfold zBf;rw[if_neg (show ¬u.kind=1 by omega),if_neg (show ¬u.kind=2 by omega),if_neg (show ¬u.kind=3 by omega)];rfl
    rw[hfs] at S HBA;clear h;go_region;go_wp2;go_meet;rw[hfs];exact⟨by rw[HS4.out],S,HBA⟩
  obtain⟨rfl,S,HB3⟩:=hcut;clear HB3 K0 K1 K2 K3 HB HS4 HRW HGW;have HRW:=zh (HR.out.keep S.out.bel);have HGW:=zh (keep S.out.bel HG.out);generalize wc=w4 at*;have HPC:=zh (fun(wq:World) (hb:Below w4.heap.size w4 wq)=>HPC0.out wq (S.out.bel.trans (hb.mono S.out.bel.size)));clear HPC0;obtain⟨oi,hoi⟩:∃oi,oi=opI rs x j:=⟨_,rfl⟩
  rw[<-hoi] at HPC HOP;have HOI:=zh hoi;clear hoi;go_upto_region 6 with(fail)
  refine qm [2,2,2,1,1,2,1,2] (List.replicate 8 false) (fun gx=>[qP g,qP g,qP g,.slice (some adr) rs.length cap,.agg (rdC (r:Int) x.at_ A2 x.kids.length cap2),qI (j:Int),qI oi,qI oi]) [] (fun _ _=>True) zA6.nil (trivial) ?_ ?_
  ·refine⟨jC,jI,jI,jR fun gx wq hB=>(keep hB HGW.out).cell 0,fun gx wq hB hJ hf=>?_,jC,fun gx wq hB hJ hf=>?_,jC,trivial⟩
   ·have c0:=(keep hB S.out.k0).cell 0;have c1:=(keep hB S.out.k0).cell 1;have c2:=(keep hB S.out.k0).cell 2;exact gs (.agg (rdC (r:Int) x.at_ A2 x.kids.length cap2)) hJ (by kernel_rfl) (by simp[go_sem,evAct,c0,c1,c2]) rfl
   ·refine jc 116 (#[.slice (some adr) rs.length cap,.agg (rdC (r:Int) x.at_ A2 x.kids.length cap2),qI (j:Int)]) wq (by kernel_rfl) ((HPC.out wq hB).mono ?_);rintro e wz ⟨rfl,hb⟩;exact⟨_,rfl,gx,rfl,jD,hb,trivial,trivial⟩
  ·refine fun gx wq hB hJ hf=>?_
   dsimp only[zAh] at hf;change wpOps _ _ _ [] _ _;refine zAa ?_;clear hf hJ;clear gx;replace S:=zh (S.out.keep hB);replace HRW:=zh (HRW.out.keep hB);replace HGW:=kp hB HGW;clear hB;generalize wq=w5 at*;obtain⟨po,hpo⟩:∃po,po=(if 0<=oi then some ((its[oi.toNat]?).getD zerN,(xs[oi.toNat]?).getD []) else none):=⟨_,rfl⟩
   have HTR:=zh (HTR0.out po (by rw[<-HOI.out];exact hpo));have HPO:=zh hpo;clear hpo HTR0 HPC;go_upto_if 59 with(fail)
   go_cut [] (fun wc=>∃v,Hid (BuS ok w (rdC (r:Int) x.at_ A2 x.kids.length cap2) #[qI u.kind,.string u.sym,.string u.nam,qI u.prec,qI u.left,qI u.right] (bdKK rs u.kind po) u.nam (bdVr rs u.kind po) (bdFm rs u.kind po) v (bdSc po) wc)/\Hid ((bdVr rs u.kind po).size<=1000/\(bdFm rs u.kind po).size<=1000/\(bdSc po).length<=1000))
   case first=>
    skip
    rcases HOP.out with h|⟨q,h,hq⟩
    ·skip
     have HPO2:=zh (show po=none by rw[HPO.out,h];rfl);subst h;clear HOP HPO;go_wp2;go_meet;rw[HPO2.out];exact⟨_,S,zh ⟨by show(⟨#[]⟩:ByteArray).size<=1000;decide,by show(zBf u.kind).size<=1000;have:=zNd u.kind;omega,by show([]:List Trm).length<=1000;decide⟩⟩
    ·obtain⟨n,hn⟩:∃n,its[q]?=some n:=⟨_,gE (by have:=HJ.out;omega)⟩
     obtain⟨y,hy⟩:∃y,xs[q]?=some y:=⟨_,gE (by have:=HJ.out;omega)⟩
     have HPO2:=zh (show po=some (n,y) by rw[HPO.out,h,if_pos (by omega),Int.toNat_natCast,hn,hy];rfl);subst h;have HFO:=zh (hfs n (List.mem_of_getElem? hn));have HYL:=zh (hys y (List.mem_of_getElem? hy));obtain⟨adi,A3,cap3,rfl,hadl,hsz3,hl3,hc3,hk3,hn3,d0,d1,d2,d3⟩:=HK.out.at_ hn;obtain⟨adp,rfl,hadp,A7,c7,d7,hy1,hy2,hty⟩:=HP.out q y hy;have HN0:=zh hn3;have HTY:=zh (hty.keep S.out.bel);have hadb:∀o,(⟨(adi.add (q*4)).block,o,none⟩:Addr).block<w.heap.size:=fun o=>by show(adi.add (q*4)).block<_;rw[zA2];exact hadl
     replace d0:=(S.out.bel.cell (p:=adi.add (q*4)) (by rw[zA2];exact hadl)).trans d0;replace d1:=(S.out.bel.cell (hadb ((adi.add (q*4)).off+1))).trans d1;replace d2:=(S.out.bel.cell (hadb ((adi.add (q*4)).off+2))).trans d2;replace d3:=(S.out.bel.cell (hadb ((adi.add (q*4)).off+3))).trans d3;replace d7:=(S.out.bel.cell (p:=adp.add q) (by rw[zA2];exact hadp)).trans d7;replace hadp:(adp.add q).block<w5.heap.size:=ll (by rw[zA2];exact hadp) S.out.bel.size;have hq1:(0:Int)<=(q:Int):=by omega
     have hqi:(q:Int)<(its.length:Int):=by have:=HJ.out;omega
     have hq2:(q:Int)<(xs.length:Int):=by have:=HJ.out;omega
     have b1:=HGW.out.cell 1;clear HOP HPO hn3 hty hn hy hk3 hadb hadl
     rename_i K0 e2 J0 L0 e1 e0
     revert okr ok g cap rs ci its cpt xs vp vk m x i j w A2 cap2 r u w1 adr w2 w3 wc u15 u16 u17 u18 u19 u20 u21 u22 u23 u24 u25 u26 u27 u28 u29 u30 u31 u32 u33 u34 u35 u36 u37 u38 u39 u40 u41 u42 u43 u44 u45 u46 u47 u48 u49 u50 u51 u52 u53 u54 u55 u56 u57 u58 u59 u60 u61 u62 u63 u64 u65 u66 u67 u68 u69 u70 u71 u72 u73 u74 u75 u76 u77 u78 u81 u83 u85 u86 u87 u88 u89 u90 u91 u92 u93 u94 u95 u96 u97 u98 u99 u100 u101 u102 u103 u104 u105 u106 u107 u108 u109 u110 u111 u112 u114 u115 u116 u117 u118 u119 u120 u121 u122 u123 u124 u125 u126 u127 u128 u129 u130 u131 u132 u133 u134 u135 u136 u138 u139 u140 u141 u142 u143 u144 u145 u146 u147 u148 u149 u150 u151 u152 u153 u154 u155 u156 u157 u159 u160 u161 u162 u163 u164 u165 u166 u167 u168 u169 u170 u171 u172 u174 u175 u176 u177 u178 u179 u180 u181 u182 u183 u184 u185 u186 u187 w4 wq w5 po K0 J0 L0 q n y adi A3 cap3 adp A7 c7;exact hb ()
   obtain⟨v,S1,HSZ0⟩:=hcut
   skip
   clear S;have S:=S1;clear S1 HRW HGW;generalize bdKK rs u.kind po=kk at*;generalize bdVr rs u.kind po=vr at*;generalize bdFm rs u.kind po=fm at*;generalize bdSc po=sc at*;generalize wc=w8 at*;have HSZ:=zh (show u.nam.size<=9223372036854775807/\vr.size<=9223372036854775807/\fm.size<=9223372036854775807 from⟨HNM.out,by have:=HSZ0.out;omega,by have:=HSZ0.out;omega⟩);have HSC:=zh (show sc.length<=1000 from HSZ0.out.2.2);clear HSZ0 HOP;obtain⟨Af,cf,rfl,hcf,hcm,_⟩:=S.out.app.form (fun b hb=>.inr (by omega));have HRW:=zh (HR.out.keep S.out.bel);have HGW:=zh (keep S.out.bel HG.out);have HKW:=zh (HK.out.keep S.out.bel);have HPW:=zh (HP.out.keep S.out.bel);have ku0:=S.out.ku.cell 0
   go_upto_block 1 with(fail)
   go_cut [] (fun wc=>∃(A6:Option Addr) (c6:Nat) (zs:List Trm),zs.length<=c6/\c6<=9223372036854775807/\Hid (BuS ok w (rdC (r:Int) x.at_ A2 x.kids.length cap2) #[qI u.kind,.string u.sym,.string u.nam,qI u.prec,qI u.left,qI u.right] kk u.nam vr fm (.slice A6 zs.length c6) zs wc)/\Hid (bldR rs its xs x j= .mk kk u.nam vr fm zs))
   case first=>
    skip
    rename_i rt K0 e2 J0 L0 e1 e0
    revert okr ok g cap rs Ai ci its Apt cpt xs vp vk m x i j w A2 cap2 r u w1 adr w2 w3 w4 oi wq w5 po wc u11 u12 u13 u14 u15 u16 u17 u18 u19 u20 u21 u22 u23 u24 u25 u26 u27 u28 u29 u30 u31 u32 u33 u34 u35 u36 u37 u38 u39 u40 u41 u42 u43 u44 u45 u46 u47 u48 u49 u50 u51 u52 u53 u54 u55 u56 u57 u58 u59 u60 u61 u62 u63 u64 u65 u66 u67 u68 u69 u70 u71 u72 u73 u74 u75 u76 u77 u78 u79 u80 u81 u82 u83 u84 u85 u86 u87 u88 u89 u90 u91 u92 u93 u94 u95 u96 u97 u98 u99 u100 u101 u102 u103 u104 u105 u106 u107 u108 u109 u110 u111 u112 u114 u115 u116 u117 u118 u119 u120 u121 u122 u123 u124 u125 u126 u127 u128 u129 u130 u131 u132 u133 u134 u135 u136 u138 u139 u140 u141 u142 u143 u144 u145 u146 u147 u148 u149 u150 u151 u152 u153 u154 u155 u156 u157 u159 u160 u161 u162 u163 u164 u165 u166 u167 u168 u169 u170 u171 u172 u174 u175 u176 u177 u178 u179 u180 u181 u182 u183 u184 u185 u186 u187 kk vr fm sc w8 Af cf K0 J0 L0;exact hc ()
   obtain⟨A6,c6,zs,h61,h62,S9,HTQ⟩:=hcut
   rename_i rt K0 e0
   revert okr ok g cap rs Ai ci its Apt cpt xs vp vk m x i j w A2 cap2 r u w1 adr w2 w3 w4 oi wq w5 po u11 u12 u13 u14 u79 u80 u82 u84 kk vr fm sc w8 Af cf K0 wc u15 u16 u17 u18 u19 u20 u21 u22 u23 u24 u25 u26 u27 u28 u29 u30 u31 u32 u33 u34 u35 u36 u37 u38 u39 u40 u41 u42 u43 u44 u45 u46 u47 u48 u49 u50 u51 u52 u53 u54 u55 u56 u57 u58 u59 u60 u61 u62 u63 u64 u65 u66 u67 u68 u69 u70 u71 u72 u73 u74 u75 u76 u77 u78 u81 u83 u85 u86 u87 u88 u89 u90 u91 u92 u93 u94 u95 u96 u97 u98 u99 u100 u101 u102 u103 u104 u105 u106 u107 u108 u109 u110 u111 u112 u114 u115 u116 u117 u118 u119 u120 u121 u122 u123 u124 u125 u126 u127 u128 u129 u130 u131 u132 u133 u134 u135 u136 u137 u138 u139 u140 u141 u142 u143 u144 u145 u146 u147 u148 u149 u150 u151 u152 u153 u154 u155 u156 u157 u158 u159 u160 u161 u162 u163 u164 u165 u166 u167 u168 u169 u170 u171 u172 u173 u174 u175 u176 u177 u178 u179 u180 u181 u182 u183 u184 u185 u186 u187 A6 c6 zs;exact hd ()
end Go.Proofs.YtapgncbegadbnaaGreatDoor.El
