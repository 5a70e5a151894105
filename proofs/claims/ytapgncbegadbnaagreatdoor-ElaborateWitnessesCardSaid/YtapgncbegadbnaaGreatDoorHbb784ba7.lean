/- term: the term of a reading. -/
import Derived.Test.YtapgncbegadbnaaGreatDoorHeffaea14
set_option maxRecDepth 100000
set_option maxHeartbeats 8000000
namespace Go.Proofs.YtapgncbegadbnaaGreatDoor.El
open At Ch Sp Sy Go.RowKit
variable{rs:List Rul}{x:Rd}{i j gm ge:Nat}{w:World}{rc cur:Array Value}{kk:Int}{xs xs':List Trm}{ad:Addr}{ps:List Prt}
def TrmP (ok:Nat->Prop)(t:Trm)(w:World)(e:Ending)(w':World):Prop:=∃c,e= .returned (.agg c)/\TmAt (fun b=>ok b\/w.heap.size<=b) w' t c/\Below w.heap.size w w'
def hdKK (po:Option Prt):Int:=match po with
 |none=>4
 |some p=>if p.vr.data.toList=[] then 4 else 5
def hdVr (po:Option Prt):ByteArray:=match po with
 |none=>⟨#[]⟩
 |some p=>if p.vr.data.toList=[] then⟨#[]⟩ else p.vr
def hdFm (k:Int)(po:Option Prt):ByteArray:=match po with
 |none=>zBf k
 |some p=>if p.vr.data.toList=[] then zBf k++p.fin else zHr++p.fin
def zK1 (po:Option Prt):List Trm:=match po with
 |none=>[]
 |some p=>p.scr
theorem yCi (nam:ByteArray)(k:Int)(po:Option Prt)(args:List Trm):mkOp nam k po args= .mk (hdKK po) nam (hdVr po) (hdFm k po) (zK1 po++args):=by
 unfold mkOp hdKK hdVr hdFm zK1;cases po with
 |none=>rfl
 |some p=>
  dsimp only
  split<;>rfl
theorem zYt (h:OkR rs x i j)(hr:0<=x.rule):0<x.kids.length:=by
 cases h with
 |leaf i=>exact absurd hr (by show ¬(0:Int)<=-1;omega)
 |inf=>exact Nat.succ_pos _
 |pre=>exact Nat.succ_pos _
 |pos=>exact Nat.succ_pos _
 |jux=>exact Nat.succ_pos _
theorem zO8 (k:Int):(zBf k).size<=20:=by
 unfold zBf
 split
 ·decide
 ·split
  ·decide
  ·split<;>decide
structure TrS (ok:Nat->Prop)(w:World)(rc:Array Value)(gm:Nat)(kk:Int)(nam vr frm:ByteArray)(v:Value)(xs:List Trm)(ge:Nat)(cur:Array Value)(x:World):Prop where
 bel:Below w.heap.size w x
 k0:Blk x w.heap.size 42 rc
 k1:Blk x (w.heap.size+1) 47 zerC
 km:Blk x gm 47 #[qI kk,.string nam,.string vr,v,.string frm]
 ke:Blk x ge 3 cur
 app:AppT (fun b=>ok b\/gm<b) x (gm+1) v xs
 lm:w.heap.size+2<=gm
 le:w.heap.size+2<=ge
 ne:ge<gm
 lok:∀b,ok b->b<w.heap.size
theorem TrS.keep {ok:Nat->Prop}{w x x':World}{rc:Array Value}{gm:Nat}{kk:Int}{nam vr frm:ByteArray}{v:Value}{xs:List Trm}{ge:Nat}{cur:Array Value}(h:TrS ok w rc gm kk nam vr frm v xs ge cur x)(hb:Below x.heap.size x x'):TrS ok w rc gm kk nam vr frm v xs ge cur x':=
 ⟨h.bel.trans (hb.mono h.bel.size),jL hb h.k0,jL hb h.k1,jL hb h.km,jL hb h.ke,h.app.keep hb,h.lm,h.le,h.ne,h.lok⟩
theorem TrS.set_ {ok:Nat->Prop}{w x:World}{rc:Array Value}{gm:Nat}{kk kk':Int}{nam vr frm vr' frm':ByteArray}{v:Value}{xs:List Trm}{ge:Nat}{cur:Array Value}(h:TrS ok w rc gm kk nam vr frm v xs ge cur x)(o:Nat)(u:Value)(hc:Blk (x.setCell ⟨gm,o,none⟩ u) gm 47 #[qI kk',.string nam,.string vr',v,.string frm']):TrS ok w rc gm kk' nam vr' frm' v xs ge cur (x.setCell ⟨gm,o,none⟩ u):=by
 have hg:x.grownBy (x.setCell ⟨gm,o,none⟩ u) (some gm):=zA8 x ⟨gm,o,none⟩ u;have h1:=h.lm;have h2:=h.ne;refine⟨h.bel.grown hg h.bel.size fun r e=>by have:=sj e;omega,h.k0.grown hg fun e=>by have:=sj e;omega,h.k1.grown hg fun e=>by have:=sj e;omega,hc,h.ke.grown hg fun e=>by have:=sj e;omega,h.app.set_ (p:=⟨gm,o,none⟩) ?_ (by show gm<gm+1;omega) u,h1,h.le,h2,h.lok⟩;show ¬(ok gm\/gm<gm);intro hq;rcases hq with hq|hq
 ·have:=h.lok gm hq;omega
 ·omega
theorem TrS.put {ok:Nat->Prop}{x:World}{nam vr frm:ByteArray}{v v':Value}(h:TrS ok w rc gm kk nam vr frm v xs ge cur x)(ha:AppT (fun b=>ok b\/gm<b) x (gm+1) v' xs'):TrS ok w rc gm kk nam vr frm v' xs' ge cur (x.setCell ⟨gm,3,none⟩ v'):=by
 have hg:x.grownBy (x.setCell ⟨gm,3,none⟩ v') (some gm):=zA8 x ⟨gm,3,none⟩ v';have h1:=h.lm;have h2:=h.ne;refine⟨h.bel.grown hg h.bel.size fun r e=>by have:=sj e;omega,h.k0.grown hg fun e=>by have:=sj e;omega,h.k1.grown hg fun e=>by have:=sj e;omega,h.km.set_ 3 v',h.ke.grown hg fun e=>by have:=sj e;omega,ha.set_ (p:=⟨gm,3,none⟩) ?_ (by show gm<gm+1;omega) v',h1,h.le,h2,h.lok⟩;show ¬(ok gm\/gm<gm);intro hq;rcases hq with hq|hq
 ·have:=h.lok gm hq;omega
 ·omega
theorem zTj {w':World}(h:w.grownBy w' none):Below w.heap.size w w':=⟨h.os,h.tape,h.output,h.size,fun i hi=>h.block i hi (by simp)⟩
theorem TrS.push {ok:Nat->Prop}{x x':World}{nam vr frm:ByteArray}{v v':Value}{row:Option Nat}(h:TrS ok w rc gm kk nam vr frm v xs ge cur x)(hg:x.grownBy x' row)(hr:∀b,row=some b->gm+1<=b)(ha:AppT (fun b=>ok b\/gm<b) x' (gm+1) v' xs'):TrS ok w rc gm kk nam vr frm v' xs' ge cur (x'.setCell ⟨gm,3,none⟩ v'):=by
 have hg2:x'.grownBy (x'.setCell ⟨gm,3,none⟩ v') (some gm):=zA8 x' ⟨gm,3,none⟩ v';have h1:=h.lm;have h2:=h.ne;have hs:=hg.size;have hbs:=h.bel.size;refine⟨(h.bel.grown hg hbs fun r e=>by have:=hr r e;omega).grown hg2 (by omega) fun r e=>by have:=sj e;omega,(h.k0.grown hg fun e=>by have:=hr _ e.symm;omega).grown hg2 fun e=>by have:=sj e;omega,(h.k1.grown hg fun e=>by have:=hr _ e.symm;omega).grown hg2 fun e=>by have:=sj e;omega,(h.km.grown hg fun e=>by have:=hr _ e.symm;omega).set_ 3 v',(h.ke.grown hg fun e=>by have:=hr _ e.symm;omega).grown hg2 fun e=>by have:=sj e;omega,ha.set_ (p:=⟨gm,3,none⟩) ?_ (by show gm<gm+1;omega) v',h1,h.le,h2,h.lok⟩;show ¬(ok gm\/gm<gm);intro hq;rcases hq with hq|hq
 ·have:=h.lok gm hq;omega
 ·omega
theorem zTy {ok:Nat->Prop}(h:PartsAt ok w ad ps){q:Nat}{p:Prt}(hp:ps[q]?=some p):p.fin.size<=1000/\p.vr.size<=1000/\p.scr.length<=1000:=by
 obtain⟨c,⟨k,a,v,f,A0,n0,c0,A,cap,rfl,_,_,_,_,h5⟩,_⟩:=h.2 q p hp;exact h5
theorem yB5 {ok:Nat->Prop}{oi:Int}{po:Option Prt}{k:Int}(hpo:po=(if 0<=oi then ps[oi.toNat]? else none))(hP:PartsAt ok w ad ps):(hdVr po).size<=1000/\(hdFm k po).size<=2000/\(zK1 po).length<=1000:=by
 have hf:=zO8 k;cases po with
 |none=>exact⟨by show(⟨#[]⟩:ByteArray).size<=1000;decide,by show(zBf k).size<=2000;omega,by show([]:List Trm).length<=1000;decide⟩
 |some p=>
  have hp:ps[oi.toNat]?=some p:=by
   by_cases h0:0<=oi
   ·rw[if_pos h0] at hpo;exact hpo.symm
   ·rw[if_neg h0] at hpo;cases hpo
  obtain⟨h1,h2,h3⟩:=zTy hP hp;refine⟨?_,?_,h3⟩
  ·unfold hdVr;dsimp only
   split
   ·decide
   ·exact h2
  ·unfold hdFm;dsimp only
   split
   ·rw[zE8];omega
   ·rw[zE8];have:zHr.size=4:=rfl;omega
theorem zXu (h:OkR rs x i j):x.kids.length<=3:=by
 cases h with
 |leaf i=>show 0<=3;omega
 |inf=>show 2<=3;omega
 |pre=>show 1<=3;omega
 |pos=>show 1<=3;omega
 |jux=>show 2<=3;omega
theorem zQs (okr ok:Nat->Prop)(g:Nat)(A:Option Addr)(cap:Nat)(rs:List Rul)(adp:Addr)(ps:List Prt)(cpp:Nat)(hpn:ps.length<=cpp)(hpc:cpp<=1000000):∀(m:Nat) (x:Rd) (i j:Nat) (c:Array Value) (w:World),zB4 x<=m->OkR rs x i j->zGv w g A cap rs->RdAt okr w x c->PartsAt ok w adp ps->(∀b,ok b->b<w.heap.size)->j<=ps.length->
  Calls Tryz.prog 44 #[qP g,.agg c,qI (j:Int),.slice (some adp) ps.length cpp] w (TrmP ok (trmR rs ps x j) w)
 |0,x,i,j,c,w,hm,_,_,_,_,_,_=>absurd (zJ5 x) (by omega)
 |m+1,x,i,j,c,w,hm,hok,hR,hX,hP,hlt,hj=>by
  obtain⟨i0,hi,hz0,hz1,hz2⟩:=Sp.info_parts zEd;have IH:=zh (zQs okr ok g A cap rs adp ps cpp hpn hpc m);obtain⟨A2,cap2,rfl,hl,hc,hks⟩:=hX.form;have B1:=zA0 w (.cells (rdC x.rule x.at_ A2 x.kids.length cap2) 42);have s1:(w.alloc (.cells (rdC x.rule x.at_ A2 x.kids.length cap2) 42)).heap.size=w.heap.size+1:=by simp
  have B2:=zA0 (w.alloc (.cells (rdC x.rule x.at_ A2 x.kids.length cap2) 42)) (.cells zerC 47);have HB:=zh (B1.trans (B2.mono B1.size));have K0:=zh (keep B2 (Blk.new w 42 (rdC x.rule x.at_ A2 x.kids.length cap2)));have K1:=zh (Blk.new (w.alloc (.cells (rdC x.rule x.at_ A2 x.kids.length cap2) 42)) 47 zerC);rw[s1] at K1;have HS2:=zh (show((w.alloc (.cells (rdC x.rule x.at_ A2 x.kids.length cap2) 42)).alloc (.cells zerC 47)).heap.size=w.heap.size+2 by simp);have HR:=zh hR;have HX:=zh hX;have HKS:=zh hks;have HP:=zh hP;have HOK:=zh hlt;have HM:=zh hm;have HJP:=zh hj;rcases zJ9 hok (by omega) with⟨h1,h2,h3,h4⟩|⟨r,u,hr,hu,hk2,hop,hel,hkid⟩
  ·obtain⟨p,hp⟩:∃p,ps[i]?=some p:=⟨_,gE (by omega)⟩
   have HQ:=zh (show trmR rs ps x j=p.opnd by
    cases x with
    |mk r a ks=>
     have e1:r= -1:=h1;have e3:a=(i:Int):=h3;rw[yAd,if_pos (by omega),e3,Int.toNat_natCast,hp])
   have HPP:=zh hp;have hneg:x.rule<0:=by omega
   have HI:=zh h3;have hi1:(i:Int)<(ps.length:Int):=by omega
   rw[h3] at K0 HB HX HS2 K1;clear h1 h2 h3 h4 hok hR hX hP hks hp hm hj IH B1 B2 s1;go_enter Tryz.func44,Tryz.ntmps44;rw[HI.out];go_upto_region 1 with(fail)
   generalize (w.alloc (.cells (rdC x.rule (i:Int) A2 x.kids.length cap2) 42)).alloc (.cells zerC 47)=w1 at*;have k00:=K0.out.cell 0;have k01:=K0.out.cell 1;have k1c:=K1.out.cell;have k1f:=K1.out.frozen;obtain⟨pk,pa,pv,pf,pA,pn,pc,pA2,pc2,htm,_,_,_,_,_,_,d0,d1,d2,d3,d4,_,_,_⟩:=(HP.out.keep HB.out).at_ HPP.out;have HTM:=zh htm;clear htm;go_wp2_with fail;obtain⟨w9,e9,KR,HB5,HG5⟩:=fin5 K1.out HB.out (by omega) (qI pk) (.string pa) (.string pv) (.slice pA pn pc) (.string pf);rw[e9];obtain⟨r0,r1,r2,r3,r4⟩:=jF KR;exact bodyPost_ret (v:=.agg #[qI pk,.string pa,.string pv,.slice pA pn pc,.string pf]) (by simp[results,Tryz.results44,go_sem,r0,r1,r2,r3,r4]) rfl (by rw[HQ.out];exact⟨_,rfl,HTM.out.grown HG5.out (fun b _ hb e=>by have:=sj e;have:=HOK.out b hb;omega) (fun b _ hb=>.inl hb),HB5.out⟩)
  ·have HKP:=zh (zYt hok (by omega));have HOKX:=zh hok;have HOP:=zh hop;have HEL:=zh hel;have HKID:=zh hkid;have HR9:=zh hr;have HU:=zh hu;have HK2:=zh hk2;have hneg:¬((r:Int)<0):=by omega
   have hneg2:0<=(r:Int):=by omega
   have hrl:(r:Int)<(rs.length:Int):=by have:=(List.getElem?_eq_some_iff.1 hu).1;omega
   have HJ1:=zh (show 1<=(j:Int)/\(j:Int)<=1000000 from by have:=zSu hok;omega);have HTQ:=zh (show trmR rs ps x j= .mk (hdKK (if 0<=opI rs x j then ps[(opI rs x j).toNat]? else none)) u.nam (hdVr (if 0<=opI rs x j then ps[(opI rs x j).toNat]? else none)) (hdFm u.kind (if 0<=opI rs x j then ps[(opI rs x j).toNat]? else none)) (zK1 (if 0<=opI rs x j then ps[(opI rs x j).toNat]? else none)++trmL rs ps x.kids (zAy rs x j)) by
    have hkn:kndR rs (r:Int)=u.kind/\zKg rs (r:Int)=u.nam:=by unfold kndR zKg;rw[Int.toNat_natCast,hu];exact⟨rfl,rfl⟩
    cases x with
    |mk r' a ks=>
     have e1:r'=(r:Int):=hr;subst e1;rw[yAd,if_neg hneg,hkn.1,hkn.2,yCi];rfl)
   rw[hr] at K0 HB HX HS2 K1;clear hok hR hX hP hks hm hj B1 B2 s1 hr hu hk2 hop hel hkid hlt;go_enter Tryz.func44,Tryz.ntmps44;rw[HR9.out];go_upto_region 1 with(fail)
   generalize (w.alloc (.cells (rdC (r:Int) x.at_ A2 x.kids.length cap2) 42)).alloc (.cells zerC 47)=w1 at*;have HRR:=zh (HR.out.keep HB.out);have HXX:=zh (HX.out.keep HB.out);have HPP:=zh (HP.out.keep HB.out);obtain⟨bb,nb,D,hbx,hmp,hse⟩:=HRR.out.box;obtain⟨hfit,ad,rfl,hadl,c0,c1,c2,c3,c4,c5⟩:=HRR.out.rul.at_ HU.out;have HFIT:=zh hfit;have k00:=K0.out.cell 0;have b0:=hbx.cell 0;have hl1:=K0.out.lt;have hl2:=hbx.lt;have hadr:(ad.add (r*6)).block<w1.heap.size:=by rw[zA2];exact hadl
   clear hbx hmp hse hfit;go_upto_region 3 with(fail)
   go_region;have hba:=zA3 (zA0 w1 (.cells #[qI u.kind,.string u.sym,.string u.nam,qI u.prec,qI u.left,qI u.right] 53));have K9:=zh ((Blk.new w1 53 #[qI u.kind,.string u.sym,.string u.nam,qI u.prec,qI u.left,qI u.right]).drew);rw[HS2.out] at K9;replace HB:=jt HB hba;replace K0:=kp hba K0;replace K1:=kp hba K1;replace HRR:=zh (HRR.out.keep hba);replace HXX:=zh (HXX.out.keep hba);replace HPP:=zh (HPP.out.keep hba);have HW2S:=zh (show w.heap.size+2<=(w1.alloc (.cells #[qI u.kind,.string u.sym,.string u.nam,qI u.prec,qI u.left,qI u.right] 53)).drew.heap.size by have:=K9.out.lt;omega);rw[HS2.out];clear k00 b0 hl1 hl2 c0 c1 c2 c3 c4 c5 hadl hadr hba;generalize (w1.alloc (.cells #[qI u.kind,.string u.sym,.string u.nam,qI u.prec,qI u.left,qI u.right] 53)).drew=w2 at*;have k00:=K0.out.cell;go_wp2_with fail;refine(zX7 okr g (some ad) cap rs x _ (j:Int) r u w2 HRR.out HXX.out HR9.out HU.out HK2.out HJ1.out.1 HJ1.out.2).mono ?_;rintro e w3 ⟨v,rfl,ho,hb⟩;have HE:=zh ho;replace HB:=jt HB hb;replace K0:=kp hb K0;replace K1:=kp hb K1;replace K9:=kp hb K9;replace HPP:=zh (HPP.out.keep hb);have HW2:=zh (show w.heap.size+2<=w2.heap.size from HW2S.out);have HW23:=zh (show w.heap.size+2<w3.heap.size from K9.out.lt);clear ho hb k00 HRR HXX;obtain⟨ge,capE,cur,rfl,hge,hbe,hne,hce,hev⟩:=zRx HE.out (by rw[HEL.out];exact HKP.out);have HBE:=zh hbe;have HEV:=zh hev;have HGE:=zh hge;clear hbe hev hge HE;rw[HEL.out] at hne⊢;generalize opI rs x (j:Int)=oi at*;have HW3:=zh (show w.heap.size+2<w3.heap.size from HW23.out);go_upto_region 5 with(fail)
   refine qm [2,1,2,1,1,2,1,3] (List.replicate 8 false) (fun gx=>[.pointer (some ⟨w.heap.size+2,2,none⟩),.string u.nam,qP (w.heap.size+2),qI u.kind,.string (zBf u.kind),.agg #[qI 4,.string u.nam,qE,qN,.string (zBf u.kind)],qP (gx.n 12),undef]) [(6,fun gx wx=>Blk wx (gx.n 12) 47 zerC/\w3.heap.size<=gx.n 12)] (fun _ _=>True) (zA6.cons (fun gx wx w2 h hb=>⟨keep hb h.1,h.2⟩) zA6.nil) (trivial) ?_ ?_
   ·refine⟨jI,jR fun gx wq hB=>(keep hB K9.out).cell 2,jI,jR fun gx wq hB=>(keep hB K9.out).cell 0,fun gx wq hB hJ hf=>?_,jI,fun gx wq hB hJ hf=>?_,trivial⟩
    ·refine jc 80 (#[qI u.kind]) wq (by kernel_rfl) ((zYm u.kind wq).mono ?_);rintro e wz ⟨rfl,rfl⟩;exact⟨_,rfl,gx,rfl,jD,(Below.refl _ _),⟨jH,trivial⟩,trivial⟩
    ·exact jv (qP wq.heap.size) (wq.alloc (.cells zerC 47)) (by simp[go_sem]) ⟨gx.setN 12 wq.heap.size,rfl,jD,zA0 wq _,⟨⟨Blk.new wq _ _,hB.size⟩,trivial⟩,trivial⟩
   ·refine fun gx wq hB hJ hf=>?_
    dsimp only[zAh] at hf;change wpOps _ _ _ [7] _ _;obtain⟨⟨hk12,hl12⟩,-⟩:=hf;have HK12:=zh hk12;have HL12:=zh hl12;have HB6:=jt HB hB;have K06:=kp hB K0;have K16:=kp hB K1;have HBE6:=kp hB HBE;have HGE3:=zh (show ge<w3.heap.size from HBE.out.lt);replace HPP:=zh (HPP.out.keep hB);clear hk12 hl12 hJ hB K0 K1 HBE HB K9;generalize gx.n 12=gm at*;clear gx;generalize wq=w4 at*;have kc:=HK12.out.cell;have kf:=HK12.out.frozen;have HG7:=zh (zEs w4 gm (qI 4) (.string u.nam) qE qN (.string (zBf u.kind)));have KM:=zh (set5 HK12.out (qI 4) (.string u.nam) qE qN (.string (zBf u.kind)));refine zAu (o:=_) rfl rfl (w':=((((w4.setCell ⟨gm,0,none⟩ (qI 4)).setCell ⟨gm,1,none⟩ (.string u.nam)).setCell ⟨gm,2,none⟩ qE).setCell ⟨gm,3,none⟩ qN).setCell ⟨gm,4,none⟩ (.string (zBf u.kind))) (by simp[go_sem,kc,kf]) ?_;refine zAa ?_;clear kc kf;have HW4:=zh (show w.heap.size<=w4.heap.size from HB6.out.size);replace HPP:=zh (show PartsAt ok _ adp ps from HPP.out.grown HG7.out (by have:=HL12.out;have:=HW3.out;have:=HP.out.1;omega) (fun b hb=>by have:=HOK.out b hb;have:=HL12.out;have:=HW3.out;omega));generalize ((((w4.setCell ⟨gm,0,none⟩ (qI 4)).setCell ⟨gm,1,none⟩ (.string u.nam)).setCell ⟨gm,2,none⟩ qE).setCell ⟨gm,3,none⟩ qN).setCell ⟨gm,4,none⟩ (.string (zBf u.kind))=w5 at*;have S5:=zh (TrS.mk (ok:=ok) (xs:=[]) (v:=qN) (HB6.out.grown HG7.out HB6.out.size fun r e=>by have:=sj e;have:=HL12.out;have:=HW3.out;omega) (K06.out.grown HG7.out fun e=>by have:=sj e;have:=HL12.out;have:=HW3.out;omega) (K16.out.grown HG7.out fun e=>by have:=sj e;have:=HL12.out;have:=HW3.out;omega) KM.out (HBE6.out.grown HG7.out fun e=>by have:=sj e;have:=HL12.out;have:=HGE3.out;omega) (AppT.nil _ _ _) (by have:=HL12.out;have:=HW3.out;omega) (by have:=HGE.out;have:=HW2.out;omega) (by have:=HL12.out;have:=HGE3.out;omega) HOK.out);clear HG7 KM HK12 HB6 K06 K16 HBE6;obtain⟨po,hpo⟩:∃po,po=(if 0<=oi then ps[oi.toNat]? else none):=⟨_,rfl⟩
    rw[<-hpo] at HTQ;have HPO:=zh hpo;clear hpo;go_upto_if 47 with(fail)
    go_cut [] (fun wc=>∃v,Hid (TrS ok w (rdC (r:Int) x.at_ A2 x.kids.length cap2) gm (hdKK po) u.nam (hdVr po) (hdFm u.kind po) v (zK1 po) ge cur wc))
    case first=>
     rcases HOP.out with rfl|⟨q,rfl,hq⟩
     ·have HPO2:=zh (show po=none by rw[HPO.out];rfl);clear HOP HPO;go_wp2;go_meet;rw[HPO2.out];exact⟨_,S5⟩
     ·obtain⟨p,hp⟩:∃p,ps[q]?=some p:=⟨_,gE (by have:=HJP.out;omega)⟩
      have HPO2:=zh (show po=some p by rw[HPO.out,if_pos (by omega),Int.toNat_natCast,hp]);obtain⟨pk,pa,pv,pf,pA,pn,pc,pA2,pc2,htm,hsl,hsc,hts,hfz,hvz,hsz,d0,d1,d2,d3,d4,d5,d6,d7⟩:=HPP.out.at_ hp;have HTS:=zh hts;have hq1:(0:Int)<=(q:Int):=by omega
      have hq2:(q:Int)<(ps.length:Int):=by have:=HJP.out;omega
      clear HOP HPO htm hts hp;go_upto_region 8 with(fail)
      have hba:=zA0 w5 (.cells #[qI pk,.string pa,.string pv,.slice pA pn pc,.string pf,.slice pA2 p.scr.length pc2,.string p.fin,.string p.vr] 101);have KP:=zh (Blk.new w5 101 #[qI pk,.string pa,.string pv,.slice pA pn pc,.string pf,.slice pA2 p.scr.length pc2,.string p.fin,.string p.vr]);have HGP:=zh (show gm<w5.heap.size from S5.out.km.lt);have S6:=zh (S5.out.keep hba);have HTS6:=zh (HTS.out.keep hba);clear hba d0 d1 d2 d3 d4 d5 d6 d7 S5 HTS;generalize w5.heap.size=gp at*;generalize w5.alloc (.cells #[qI pk,.string pa,.string pv,.slice pA pn pc,.string pf,.slice pA2 p.scr.length pc2,.string p.fin,.string p.vr] 101)=w6 at*;have m4:=S6.out.km.cell 4;have f4:=S6.out.km.frozen 4;have p6:=KP.out.cell 6;have hfs:=zO8 u.kind;go_upto_region 9 with(fail)
      have S7:=zh (S6.out.set_ 4 (.string (zBf u.kind++p.fin)) (S6.out.km.set_ 4 (.string (zBf u.kind++p.fin))));have hg7:w6.grownBy (w6.setCell ⟨gm,4,none⟩ (.string (zBf u.kind++p.fin))) (some gm):=zA8 w6 ⟨gm,4,none⟩ _;have KP7:=zh (KP.out.grown hg7 fun e=>by have:=sj e;have:=HGP.out;omega);have HNK:=zh (fun b (hb:ok b)=>show b≠gm by have:=HOK.out b hb;have:=S6.out.lm;omega);have HTS7:=zh (show zD2 ok (w6.setCell ⟨gm,4,none⟩ (.string (zBf u.kind++p.fin))) pA2 p.scr from HTS6.out.map hg7.size (fun _ _ h=>h) (fun p _ hb=>World.cell?_of_block (hg7.block _ ‹_› fun e=>HNK.out _ hb (sj e))));clear m4 f4 p6 hg7 S6 KP HTS6;generalize w6.setCell ⟨gm,4,none⟩ (.string (zBf u.kind++p.fin))=w7 at*;obtain⟨css,hcl,hct,hcr⟩:=zOx HTS7.out;have hone:∀uu∈css.flatMap (·.toList),uu.oneCell'=true:=fun uu huu=>by
       obtain⟨cc,hcc,hu2⟩:=List.mem_flatMap.1 huu;obtain⟨jj,hjj⟩:=List.mem_iff_getElem?.1 hcc;have hjl:=(List.getElem?_eq_some_iff.1 hjj).1;exact zFe (hct jj cc _ hjj (gE (by omega))) uu hu2
      have m3:=S7.out.km.cell 3;have p5:=KP7.out.cell 5;have HGM:=zh (show gm<w7.heap.size from S7.out.km.lt);go_wp2_with (at_builtin;refine zA9 _ rfl (.tmp 59) (.tmp 61) 45 rfl (gm+1) 47 i0 (.agg qT) 5 80 Tryz.underlying45 hi hz0 hz1 hz2 rfl (by decide) _ 0 [] rfl (World.ownsRow_nil _ _ _ _) _ pA2 p.scr.length pc2 (css.flatMap (·.toList)) rfl hcr hone (by unfold maxLen;omega) (by omega) (by have:=HGM.out;omega) ?_)
      intro v' w8 q2 q3 q4;have hb8:Below w7.heap.size w7 w8:=zTj q3;have HA8:=zh (AppT.copy (P:=fun b=>ok b\/gm<b) (B:=gm+1) (v:=v') hcl hct (by simpa using q2) hb8 (fun b _ hb=>⟨.inl hb,by have:=HOK.out b hb;have:=S7.out.lm;omega⟩));have S8:=zh (S7.out.keep hb8);have KP8:=kp hb8 KP7;clear m3 p5 hcl hct hcr hone q2 q3 q4 hb8 S7 KP7 HTS7;have m3:=S8.out.km.cell 3;have f3:=S8.out.km.frozen 3;obtain⟨A8,c8,e8,_⟩:=HA8.out.form (fun b hb=>.inr (by omega));subst e8;go_upto_region 10 with(fail)
      have S9:=zh (S8.out.put HA8.out);have KP9:=zh (KP8.out.grown (show w8.grownBy (w8.setCell ⟨gm,3,none⟩ (.slice A8 p.scr.length c8)) (some gm) from zA8 w8 ⟨gm,3,none⟩ _) fun e=>by have:=sj e;have:=HGP.out;omega);clear m3 f3 S8 KP8 HA8;generalize w8.setCell ⟨gm,3,none⟩ (.slice A8 p.scr.length c8)=w9 at*;have p7:=KP9.out.cell 7;have p6:=KP9.out.cell 6
      by_cases hv0:p.vr.data.toList=[]
      ·have qv:p.vr.toList.isEmpty=true:=by rw[ByteArray.toList_eq,hv0];rfl
       have qv':(!p.vr.toList.isEmpty)=false:=by rw[qv];rfl
       have HD:=zh (show hdKK po=4/\hdVr po=⟨#[]⟩/\hdFm u.kind po=zBf u.kind++p.fin/\zK1 po=p.scr by rw[HPO2.out];unfold hdKK hdVr hdFm zK1;dsimp only;rw[if_pos hv0,if_pos hv0,if_pos hv0];exact⟨rfl,rfl,rfl,rfl⟩);clear hv0;go_wp2;go_meet;rw[HD.out.1,HD.out.2.1,HD.out.2.2.1,HD.out.2.2.2];exact⟨_,S9⟩
      ·have qv:p.vr.toList.isEmpty=false:=by rw[ByteArray.toList_eq];exact List.isEmpty_eq_false_iff.2 hv0
       have qv':(!p.vr.toList.isEmpty)=true:=by rw[qv];rfl
       have HD:=zh (show hdKK po=5/\hdVr po=p.vr/\hdFm u.kind po=zHr++p.fin/\zK1 po=p.scr by rw[HPO2.out];unfold hdKK hdVr hdFm zK1;dsimp only;rw[if_neg hv0,if_neg hv0,if_neg hv0];exact⟨rfl,rfl,rfl,rfl⟩);clear hv0;have m0:=S9.out.km.cell 0;have m2:=S9.out.km.cell 2;have m4:=S9.out.km.cell 4;have f0:=S9.out.km.frozen 0;have f2:=S9.out.km.frozen 2;have f4:=S9.out.km.frozen 4;have hgq:gm≠gp:=by have:=HGP.out;omega
       have hgq2:gp≠gm:=by have:=HGP.out;omega
       go_upto_region 11 with(fail)
       go_region;go_wp2;go_meet;rw[HD.out.1,HD.out.2.1,HD.out.2.2.1,HD.out.2.2.2];have S9d:=S9.out.keep (zA3 (Below.refl w9.heap.size w9));have S9a:=S9d.set_ (kk':=5) 0 (qI 5) (S9d.km.set_ 0 (qI 5));have S9b:=S9a.set_ (kk':=5) (vr':=p.vr) 2 (.string p.vr) (S9a.km.set_ 2 (.string p.vr));exact⟨_,zh (S9b.set_ (kk':=5) (vr':=p.vr) (frm':=zHr++p.fin) 4 (.string (zHr++p.fin)) (S9b.km.set_ 4 (.string (zHr++p.fin))))⟩
    obtain⟨v0,HS0⟩:=hcut;have HFZ:=zh (show(hdVr po).size<=1000/\(hdFm u.kind po).size<=2000/\(zK1 po).length<=1000 from yB5 HPO.out HP.out);clear S5 HPP;generalize hdKK po=kk at*;generalize hdVr po=vr at*;generalize hdFm u.kind po=frm at*;generalize zK1 po=scr at*;have HEZ:=zh (show(zAy rs x j).length=x.kids.length from HEL.out);have k02:=HS0.out.k0.cell 2;dsimp only[rdC] at k02;go_wp2_with fail
    go_loopw [78] (fun i wr=>∃(t:Nat) (v:Value),t<=x.kids.length/\i=qI t/\Hid (TrS ok w (rdC (r:Int) x.at_ A2 x.kids.length cap2) gm kk u.nam vr frm v (scr++trmL rs ps (x.kids.take t) ((zAy rs x j).take t)) ge cur wr)) (fun i _=>x.kids.length -(intOf i).toNat)
    case atStart=>exact⟨0,v0,by omega,rfl,by rw[List.take_zero,List.take_zero,show trmL rs ps ([]:List Rd) ([]:List Int)=[] by simp[trmL],List.append_nil];exact HS0⟩
    case round=>
     clear HS0 k02;obtain⟨t,v,ht,rfl,HS⟩:=hrel
     by_cases hlt:t<x.kids.length
     ·obtain⟨y,hy⟩:∃y,x.kids[t]?=some y:=⟨_,gE hlt⟩
      obtain⟨i',j',he,hoky,hjj,hj1⟩:=HKID.out t y hy;obtain⟨adk,A3,cap3,rfl,hadl,hX3,hl3,hc3,hk3,d0,d1,d2⟩:=zAp.at_ HKS.out hy;have hadb:∀o,(⟨(adk.add (t*3)).block,o,none⟩:Addr).block<w.heap.size:=fun o=>by show(adk.add (t*3)).block<_;rw[zA2];exact hadl
      have e0:=(HS.out.bel.cell (p:=adk.add (t*3)) (by rw[zA2];exact hadl)).trans d0;have e1:=(HS.out.bel.cell (hadb ((adk.add (t*3)).off+1))).trans d1;have e2:=(HS.out.bel.cell (hadb ((adk.add (t*3)).off+2))).trans d2;have HTL:=zh (zNi (rs:=rs) (ps:=ps) hy he);have HCE:=zh (HEV.out t _ he);have HOKY:=zh hoky;have HJY:=zh (And.intro hjj hj1);have HSY:=zh (show zB4 y<=m by have h1:=zC6 hy;have:=HM.out;omega);have HXL:=zh (show(scr++trmL rs ps (x.kids.take t) ((zAy rs x j).take t)).length<=1000+t by
       have h1:=zQy (rs:=rs) (ps:=ps) (ks:=x.kids.take t) (es:=(zAy rs x j).take t);rw[List.length_take] at h1;rw[List.length_append];have:=HFZ.out.2.2;omega)
      have HKL:=zh (show x.kids.length<=3 from zXu HOKX.out);have HX3:=zh (hX3.keep HS.out.bel);have HRW:=zh (HR.out.keep HS.out.bel);have HPW:=zh (HP.out.keep HS.out.bel);clear d0 d1 d2 hX3 hk3 hoky hjj hj1 he hadb hy;obtain⟨xs,hxs⟩:∃xs,xs=scr++trmL rs ps (x.kids.take t) ((zAy rs x j).take t):=⟨_,rfl⟩
      have HXS:=zh hxs;rw[<-hxs] at HS HXL;clear hxs;go_upto_region 15 with(fail)
      have hba:=zA0 wr (.cells (rdC y.rule y.at_ A3 y.kids.length cap3) 42);have K3:=zh (Blk.new wr 42 (rdC y.rule y.at_ A3 y.kids.length cap3));have HWG:=zh (show gm<wr.heap.size from HS.out.km.lt);replace HS:=zh (HS.out.keep hba);replace HX3:=zh (HX3.out.keep hba);replace HRW:=zh (HRW.out.keep hba);replace HPW:=zh (HPW.out.keep hba);clear hba e0 e1 e2;generalize wr.heap.size=gk at*;generalize wr.alloc (.cells (rdC y.rule y.at_ A3 y.kids.length cap3) 42)=w6 at*;have he1:(t:Int)<((x.kids.length:Nat):Int):=by omega
      refine qm [2,1,2,1,2,2,2,1,2,1,1,3,2,3] (List.replicate 14 false) (fun gx=>[.pointer (some ⟨gm,3,none⟩),v,qP g,.agg (rdC y.rule y.at_ A3 y.kids.length cap3),.slice (some ⟨ge,0,none⟩) x.kids.length capE,qI (↑t),.pointer (some ⟨ge,t,none⟩),qI (j':Int),.slice (some adp) ps.length cpp,gx.v 92,.slice (some ⟨gx.n 93,0,none⟩) 1 1,undef,.pointer (some ⟨gm,3,none⟩),undef]) [(9,fun gx wx=>∃cc,gx.v 92= .agg cc/\TmAt (fun b=>ok b\/gx.n 92<=b) wx (trmR rs ps y j') cc/\w6.heap.size<=gx.n 92),(10,fun gx wx=>∃cc,gx.v 92= .agg cc/\Blk wx (gx.n 93) 47 cc)] (fun _ _=>True) (zA6.cons (fun gx wx w2 ⟨cc,h1,h2,h3⟩ hb=>⟨cc,h1,h2.keep hb,h3⟩) (zA6.cons (fun gx wx w2 ⟨cc,h1,h2⟩ hb=>⟨cc,h1,keep hb h2⟩) zA6.nil)) (trivial) ?_ ?_
      ·refine⟨jI,jR fun gx wq hB=>(keep hB HS.out.km).cell 3,jC,fun gx wq hB hJ hf=>?_,jC,jC,fun gx wq=>?_,jR fun gx wq hB=>((keep hB HS.out.ke).cell t).trans HCE.out,jC,fun gx wq hB hJ hf=>?_,fun gx wq hB hJ hf=>?_,jI,trivial⟩
       ·have c0:=(keep hB K3.out).cell 0;have c1:=(keep hB K3.out).cell 1;have c2:=(keep hB K3.out).cell 2;exact gs (.agg (rdC y.rule y.at_ A3 y.kids.length cap3)) hJ (by kernel_rfl) (by simp[go_sem,evAct,c0,c1,c2]) rfl
       ·exact jp (.pointer (some ⟨ge,t,none⟩)) (by simp[go_sem,evAct,hlt];try omega) rfl
       ·refine jc 44 (#[qP g,.agg (rdC y.rule y.at_ A3 y.kids.length cap3),qI (j':Int),.slice (some adp) ps.length cpp]) wq (by kernel_rfl) ((IH.out y i' j' _ wq HSY.out HOKY.out (HRW.out.keep hB) (HX3.out.keep hB) (HPW.out.keep hB) (fun b hb=>ll (HOK.out b hb) (Nat.le_trans HS.out.bel.size hB.size)) (by have:=HJY.out.1;have:=HJP.out;omega)).mono ?_);rintro e wz ⟨cc,rfl,htm,hb⟩;exact⟨_,rfl,(gx.setV 92 (.agg cc)).setN 92 wq.heap.size,rfl,jD,hb,⟨⟨cc,rfl,htm,hB.size⟩,jG,trivial⟩,trivial⟩
       ·have f92:=jE hf.1;obtain⟨cc,e8,htm,_⟩:=f92;obtain⟨tk,ta,tv,tA,tn,tcp,tf,rfl⟩:=htm.ext;exact jv (.slice (some ⟨wq.heap.size,0,none⟩) 1 1) (wq.alloc (.cells #[qI tk,.string ta,.string tv,.slice tA tn tcp,.string tf] 47)) (by simp[go_sem,evAct,e8]) ⟨gx.setN 93 wq.heap.size,rfl,jD,zA0 wq _,⟨jH,⟨_,e8,Blk.new wq _ _⟩,trivial⟩,trivial⟩
      ·refine fun gx wq hB hJ hf=>?_
       dsimp only[zAh] at hf;change wpOps _ _ _ [11,13] _ _;obtain⟨⟨cc,e92,htm,hlo⟩,⟨cc2,e93,hk93⟩,-⟩:=hf;have e94:cc2=cc:=by rw[e92] at e93;injection e93 with e95;exact e95.symm
       subst e94;have HSB:=zh (HS.out.keep hB);have HVB:=zh (fun b hb=>(HS.out.app.ltT b hb));have HT:=zh (htm.any (ok':=fun b=>v.ownBlock≠some b/\(ok b\/gm<b)) fun b _ hb=>by
        have hgm:=HWG.out;have hl:=HS.out.lm;have hks:=K3.out.lt;refine⟨fun e=>?_,hb.imp id fun h=>by omega⟩;have h1:=HVB.out b e;rcases hb with h|h
        ·have:=HOK.out b h;omega
        ·omega)
       have HK93:=zh hk93;rw[e92];clear htm hlo hk93 e92 e93 hB hJ HS K3 HPW HRW HX3;generalize gx.n 93=n93 at*;clear gx;generalize wq=w7 at*;obtain⟨css,ho,hl5,hr5⟩:=HSB.out.app;have hxl:xs.length<=1100:=by have:=HXL.out;have:=HKL.out;omega
       have HRA:=Sp.zBb HK93.out HT.out.size;have HTO:=zFe HT.out;have hgw:gm+1<=w7.heap.size:=HSB.out.km.lt;refine zC0 (o:=_) (R:=fun v' w'=>w'.ownsRow (gm+1) 47 5 v' (xs.length+1) (css.flatMap (·.toList)++cc2.toList)/\w7.grownBy w' v.ownBlock/\(v'.ownBlock=v.ownBlock\/v'.ownBlock=some w7.heap.size)) rfl rfl (zB0 (.tmp 84) (.tmp 93) 45 rfl (gm+1) 47 i0 (.agg qT) 5 80 Tryz.underlying45 hi hz0 hz1 hz2 rfl (by decide) v _ _ rfl ho w7.heap.size (some ⟨n93,0,none⟩) 1 1 cc2.toList rfl HRA HTO (by unfold maxLen;omega) (by omega) hgw fun v' w' q2 q3 q4=>⟨q2,q3,q4⟩) ?_;rintro v' w8 ⟨q2,q3,q4⟩;have HAP:=AppT.push hl5 hr5 HT.out q2 q3 q4;obtain⟨A5,c5,e9,_⟩:=HAP.form (fun b hb=>.inr (by omega));rw[List.length_append,List.length_singleton] at e9;subst e9;have k3:=(HSB.out.km.grown q3 fun e=>by have:=(HVB.out _ e.symm).1;omega).cell 3;have f3:=(HSB.out.km.grown q3 fun e=>by have:=(HVB.out _ e.symm).1;omega).frozen 3;have S9:=zh (HSB.out.push q3 (fun b hb=>(HVB.out b hb).1) HAP);refine zAu (o:=_) rfl rfl (w':=w8.setCell ⟨gm,3,none⟩ (.slice A5 (xs.length+1) c5)) (by simp[go_sem,k3,f3]) ?_;refine zAa ?_;clear k3 f3 HAP ho hl5 hr5 q2 q3 q4 HSB HRA HTO hgw;have hxe:xs++[trmR rs ps y j']=scr++trmL rs ps (x.kids.take (t+1)) ((zAy rs x j).take (t+1)):=by rw[HXS.out,List.append_assoc,<-HTL.out]
       rw[hxe] at S9;go_wp2;go_roundw
       case rel=>exact⟨t+1,_,by omega,by go_num,S9⟩
       case measure=>simp[intOf];omega
     ·obtain rfl:t=x.kids.length:=by omega
      rw[List.take_length,List.take_of_length_le (by rw[HEZ.out];exact Nat.le_refl _)] at HS;generalize scr++trmL rs ps x.kids (zAy rs x j)=xs at*;obtain⟨Af,cf,rfl,hcf,hcg,hts⟩:=HS.out.app.form fun b hb=>.inr (by omega)
      have HTS:=zh hts;have kmc:=fun i=>HS.out.km.cell i
      have k1c:=fun i=>HS.out.k1.cell i
      have k1f:=fun i=>HS.out.k1.frozen i
      have KK1:=zh HS.out.k1;clear hts;go_wp2_with fail;obtain⟨w9,e9,KR,HB5,HG5⟩:=fin5 KK1.out HS.out.bel (by omega) (qI kk) (.string u.nam) (.string vr) (.slice Af xs.length cf) (.string frm);rw[e9];obtain⟨r0,r1,r2,r3,r4⟩:=jF KR;exact bodyPost_ret (v:=.agg #[qI kk,.string u.nam,.string vr,.slice Af xs.length cf,.string frm]) (by simp[results,Tryz.results44,go_sem,r0,r1,r2,r3,r4]) rfl (by rw[HTQ.out];exact⟨_,rfl,TmAt.of (HFIT.out.2) (by have:=HFZ.out.1;omega) (by have:=HFZ.out.2.1;omega) hcf hcg (HTS.out.map HG5.out.size (fun b _ hb=>hb.elim .inl fun hb=>.inr (by have:=HS.out.lm;omega)) fun p _ hb=>World.cell?_of_block (HG5.out.block _ ‹_› fun e=>by have:=sj e;have:=HS.out.lm;rcases hb with hb|hb<;>(try have:=HOK.out _ hb)<;>omega)),HB5.out⟩)
end Go.Proofs.YtapgncbegadbnaaGreatDoor.El
