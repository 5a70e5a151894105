/- read of the reference: the meaning of a list. -/
import Derived.Test.YtapgncbegadbnaaGreatDoorH24561a75
set_option maxRecDepth 100000
set_option maxHeartbeats 8000000
namespace Go.Proofs.YtapgncbegadbnaaGreatDoor.El
open At Ch Sp Sy Go.RowKit
variable{w w':World}{g B lo:Nat}{rs:List Rul}{its:List Tre}{e:Ending}{n:Tre}{pth:List Int}{op pre:Bool}{cs:Array Value}
theorem zS1 {a:Int}(h:Blk w g 3 #[qI a]):zAr w (some ⟨g,0,none⟩) [a]:=by
 refine⟨rfl,fun _=>⟨_,rfl,h.lt,fun j u hj=>?_⟩⟩;rw[show(⟨g,0,none⟩:Addr).add j=⟨g,j,none⟩ by unfold Addr.add;split<;>simp_all,h.cell]
 match j,hj with
 |0,hj=>exact hj
 |j+1,hj=>simp[ints] at hj
theorem zQt {v:Value}{l:List Int}(h:zF7 w B v l):∃A c,v= .slice A l.length c/\l.length<=c/\c<=9223372036854775807/\zAr w A l/\∀ad,A=some ad->B<=ad.block:=by
 have h0:w.ownsRow B 3 1 v l.length (ints l):=h;rcases h0.2 with⟨rfl,hn⟩|⟨gq,cap,cur,rfl,hg,hk,hnc,hcm,hs,ht⟩
 ·obtain rfl:l=[]:=List.length_eq_zero_iff.1 hn;exact⟨none,0,rfl,Nat.le_refl _,by omega,⟨rfl,fun h=>absurd h (by simp)⟩,fun ad h=>by cases h⟩
 ·exact⟨_,cap,rfl,hnc,by unfold maxLen at hcm;omega,Reads.zH6 h0,fun ad h=>by cases h;exact hg⟩
theorem zY4 {v:Value}{ts:List ByteArray}(h:zBq w B v ts)(hs:∀t∈ts,t.size<=1000):∃AT cT,v= .slice AT ts.length cT/\ts.length<=cT/\cT<=9223372036854775807/\zBp w AT ts/\∀ad,AT=some ad->B<=ad.block:=by
 obtain⟨AT,cT,rfl,h1,h2,h3⟩:=zBq.at_ h hs;refine⟨AT,cT,rfl,h1,h2,h3,fun ad ha=>?_⟩;subst ha;rcases h.2 with⟨e,_⟩|⟨gq,cap,cur,e,hg,_⟩
 ·cases e
 ·injection e with e _ _;injection e with e;rw[e];exact hg
def TRs (rs:List Rul)(its:List Tre)(lo:Nat)(w:World)(a b c:Value):Prop:=match zB2 rs its with
 | .inl ts=>(b=qI 0/\c= .bool true)/\zBq w lo a ts
 | .inr i=>a=qN/\b=qI (i:Int)/\c= .bool false
theorem TRs.keep {a b c:Value}(h:TRs rs its lo w a b c)(hb:Below w.heap.size w w'):TRs rs its lo w' a b c:=by
 unfold TRs at*;cases ht:zB2 rs its with
 |inl ts=>rw[ht] at h;exact⟨h.1,World.ownsRow.kept (row:=none) h.2 ⟨hb.os,hb.tape,hb.output,hb.size,fun i hi _=>hb.block i hi⟩ (by cases a.ownBlock<;>simp)⟩
 |inr i=>rw[ht] at h;exact h
theorem zZ7 (h:yA7 rs its w e w')(hlo:lo<=w.heap.size):∃a b c,e= .returned (.tuple #[a,b,c])/\TRs rs its lo w' a b c/\Below w.heap.size w w':=by
 unfold yA7 at h;obtain⟨h1,hb⟩:=h;cases ht:zB2 rs its with
 |inl ts=>
  rw[ht] at h1;obtain⟨v,rfl,ho⟩:=h1;refine⟨v,_,_,rfl,?_,hb⟩;unfold TRs;rw[ht];exact⟨⟨rfl,rfl⟩,Sp.zG0 ho hlo⟩
 |inr i=>
  rw[ht] at h1;refine⟨_,_,_,h1,?_,hb⟩;unfold TRs;rw[ht];exact⟨rfl,rfl,rfl⟩
def SRs (rs:List Rul)(M:List Tre->List Int->Nat->Mea Trm)(items:List Tre)(path:List Int)(k:Nat)(n:Tre)(pth:List Int)(op pre:Bool)(lo:Nat)(w:World)(a b:Value):Prop:=match sltF rs M n pth op pre with
 | .ok ts=>(∃A cap,a= .slice A ts.length cap/\ts.length<=cap/\cap<=9223372036854775807/\zD2 (fun b=>lo<=b) w A ts)/\b= .pointer none
 | .bad er p=>a=qN/\∃gf,b=qP gf/\RFl (fun rds=>er=14->Amb rs items path k p rds) (fun b=>lo<=b) w gf er p
theorem SRs.keep {rs:List Rul}{M:List Tre->List Int->Nat->Mea Trm}{items:List Tre}{path:List Int}{k:Nat}{n:Tre}{pth:List Int}{op pre:Bool}{lo:Nat}{w w':World}{a b:Value}(h:SRs rs M items path k n pth op pre lo w a b)(hb:Below w.heap.size w w'):SRs rs M items path k n pth op pre lo w' a b:=by
 unfold SRs at*;cases hm:sltF rs M n pth op pre with
 |ok ts=>rw[hm] at h;obtain⟨⟨A,cap,h1,h2,h3,h4⟩,h5⟩:=h;exact⟨⟨A,cap,h1,h2,h3,h4.keep hb⟩,h5⟩
 |bad er p=>rw[hm] at h;obtain⟨h1,gf,h2,h3⟩:=h;exact⟨h1,gf,h2,h3.keep hb⟩
theorem yAq {M:List Tre->List Int->Nat->Mea Trm}{items:List Tre}{path:List Int}{k:Nat}(h:SltP (fun p rds=>Amb rs items path k p rds) (sltF rs M n pth op pre) w e w')(hlo:lo<=w.heap.size):∃a b,e= .returned (.tuple #[a,b])/\SRs rs M items path k n pth op pre lo w' a b/\Below w.heap.size w w':=by
 unfold SltP at h;obtain⟨h1,hb⟩:=h;cases hm:sltF rs M n pth op pre with
 |ok ts=>
  rw[hm] at h1;obtain⟨A,cap,rfl,h2,h3,h4⟩:=h1;refine⟨_,_,rfl,?_,hb⟩;unfold SRs;rw[hm];exact⟨⟨A,cap,rfl,h2,h3,h4.any fun b _ h=>Nat.le_trans hlo h⟩,rfl⟩
 |bad er p=>
  rw[hm] at h1;obtain⟨gf,rfl,hf⟩:=h1;refine⟨_,_,rfl,?_,hb⟩;unfold SRs;rw[hm];exact⟨rfl,gf,rfl,hf.any (fun _ h=>h) fun b _ h=>Nat.le_trans hlo h⟩
theorem yCe {M:List Tre->List Int->Nat->Mea Trm}{ts:List Trm}(h:sltF rs M n pth op pre= .ok ts):ts.length<=n.kids.length:=by
 unfold sltF at h
 split at h
 ·have:=zEu h;rw[this,List.length_tail];omega
 ·cases hk:n.kids with
  |nil=>rw[hk] at h;injection h with h;rw[<-h];simp
  |cons d ks=>
   rw[hk] at h;dsimp only at h
   split at h
   ·have:=zEu h;rw[this,List.length_cons];omega
   ·have:=zEu h;rw[this];exact Nat.le_refl _
theorem zU6 (n:Nat):((List.replicate n false).map Value.bool).toArray=Array.replicate n (.bool false):=by simp
theorem zTh (n:Nat):madeCells #[.bool false] n=Array.replicate n (.bool false):=by
 refine Array.ext (by simp[madeCells]) fun i h1 h2=>?_
 simp[madeCells,Nat.mod_one]
theorem zRh:∀(ws:List Int) (L:List Bool) (q:Nat) (b:Bool),(∀p∈ws,0<=p)->L[q]?=some b->(setB L ws)[q]?=some (b||decide ((q:Int)∈ws))
 |[],L,q,b,_,h=>by simp[setB,h]
 |p::ws,L,q,b,hp,h=>by
  have h0:=hp p List.mem_cons_self;have hl:=(List.getElem?_eq_some_iff.1 h).1;have h2:(L.set p.toNat true)[q]?=some (b||decide ((q:Int)=p)):=by
   rw[List.getElem?_set]
   by_cases e:p.toNat=q
   ·rw[if_pos e,decide_eq_true (show(q:Int)=p by omega),Bool.or_true,if_pos (by omega)]
   ·rw[if_neg e,h,decide_eq_false (fun e2=>e (by omega)),Bool.or_false]
  have h3:=zRh ws _ q _ (fun r hr=>hp r (List.mem_cons_of_mem _ hr)) h2;show(setB (L.set p.toNat true) ws)[q]?=_;rw[h3,Bool.or_assoc,<-Bool.decide_or];simp only[List.mem_cons]
theorem zWo {x:Rd}{m q:Nat}(h:OkR rs x 0 m)(hq:q<m):(setB (List.replicate m false) (pfxR rs x))[q]?=some (decide ((q:Int)∈pfxR rs x)):=by
 rw[zRh (pfxR rs x) _ q false (fun p hp=>by
  obtain⟨n,h1,_⟩:=(zPn h p).1 hp;obtain⟨a,b,e,_⟩:=zEj h _ h1;injection e with e _;omega) (by rw[List.getElem?_replicate,if_pos hq]),Bool.false_or]
theorem zZb {i:Nat}{v:Value}(hv:cs[i]?=some v):cs.setIfInBounds i v=cs:=by
 refine Array.ext_getElem? fun k=>?_
 rw[Array.getElem?_setIfInBounds]
 split
 ·next e=>
  subst e
  split
  ·exact hv.symm
  ·next hn=>rw[Array.getElem?_eq_none (Nat.le_of_not_lt hn)] at hv;cases hv
 ·rfl
theorem zDc {t:TypeId}(h:Blk w g t cs)(i:Nat)(v:Value)(hv:cs[i]?=some v):w.setCell ⟨g,i,none⟩ v=w:=by
 have e:(w.setCell ⟨g,i,none⟩ v).heap=w.heap:=by
  unfold World.setCell;refine Array.ext_getElem? fun k=>?_
  rw[Array.getElem?_modify]
  split
  ·next e=>
   subst e;have h':w.heap[g]?=some (.cells cs t (0,0)):=h;dsimp only;rw[h'];simp[zZb hv]
  ·rfl
 cases w;simp only[World.setCell] at e⊢;rw[e]
theorem zOh (h:Blk w g 47 zerC):((((w.setCell ⟨g,0,none⟩ (qI 0)).setCell ⟨g,1,none⟩ qE).setCell ⟨g,2,none⟩ qE).setCell ⟨g,3,none⟩ qN).setCell ⟨g,4,none⟩ qE=w:=by
 rw[zDc h 0 (qI 0) rfl,zDc h 1 qE rfl,zDc h 2 qE rfl,zDc h 3 qN rfl,zDc h 4 qE rfl]
theorem zVc:(Tryz.prog.info? 4).map (fun i=>(i.zero,i.size,i.bytes))=some (some (.bool false),1,1):=by kernel_rfl
theorem zZg:(Tryz.prog.info? 45).map (fun i=>(i.zero,i.size,i.bytes))=some (some qN,1,24):=by kernel_rfl
structure RdL (g lo:Nat)(w6:World)(cs:Array Value)(v:Value)(xs:List (List Trm))(x:World):Prop where
 gr:Gr g w6 x
 box:Blk x g 120 cs
 own:OwnP (fun b=>v.ownBlock≠some b/\lo<=b) x w6.heap.size v xs
theorem RdL.keep {g lo:Nat}{w6:World}{cs:Array Value}{v:Value}{xs:List (List Trm)}{x x':World}(h:RdL g lo w6 cs v xs x)(hb:Below x.heap.size x x'):RdL g lo w6 cs v xs x':=
 ⟨h.gr.below hb,jL hb h.box,h.own.keep hb⟩
theorem zZw (h:zBk 1 n.kind=false):n.kind≠1:=by
 intro e;rw[e] at h;revert h;decide
theorem zUz (A:Option Addr)(cap:Nat)(rs:List Rul)(hv:zAd rs=true)(hrn:rs.length<=1000)(f:Nat)(HRC:zXn A cap rs f):zXn A cap rs (f+1):=by
 intro items path k Ai Ap ci cp g w0 w hR hK hbw hgw hci hcm hP hpg hcp1 hcp2 hG hF hct hpl h7 hr7 hk2;have HFL:=zh (show ∀n∈items.drop k,zAt n=true/\n.kind≠1 from fun n hn=>by
  have h:=zEm hF n (List.mem_of_mem_drop hn);exact⟨h.1,zZw h.2⟩)
 have HSL:=zh (fun(q:Nat) (n:Tre) (op pre:Bool) (v:Value) (x:World) (h1:zAc x A rs) (h2:zAo x Ai (items.drop k)) (h3:zAr x Ap path) (h4:Blk x g 120 (lstC A cap rs Ai ci (items.drop k) Ap cp path k v)) (hn:(items.drop k)[q]?=some n)=>
  have hm:n∈items:=List.mem_of_mem_drop (List.mem_of_getElem? hn);have hcn:zA7 n<=zA4 items:=by obtain⟨j,hj⟩:=List.mem_iff_getElem?.1 hm;exact zKn hj
  have hql:q<items.length:=by have:=(List.getElem?_eq_some_iff.1 hn).1;rw[List.length_drop] at this;omega
  zUm A cap rs f HRC items path k Ai Ap ci cp g v q n op pre x h1 (by omega) h2 h3 hcp1 hcp2 h4 hn (HFL.out n (List.mem_of_getElem? hn)).1 (HFL.out n (List.mem_of_getElem? hn)).2 (by omega) (by omega) (zJq hr7 n hm) hk2 (by omega))
 have HAM0:=zh (fun ts x y zs ht ha=>Amb.here (rs:=rs) items path k ts x y zs ht ha);have HL0:=zh (fun h=>zV1 (rs:=rs) (f:=f) (items:=items) (path:=path) (k:=k) h);have HLR:=zh (fun i h0 h=>zWf (rs:=rs) (f:=f) (items:=items) (path:=path) (k:=k) (i:=i) h0 h);have HLZ:=zh (fun ts h0 h ha=>zUq (rs:=rs) (f:=f) (items:=items) (path:=path) (k:=k) (ts:=ts) h0 h ha);have HL2:=zh (fun ts x y zs h0 h ha=>zZe (rs:=rs) (f:=f) (items:=items) (path:=path) (k:=k) (ts:=ts) (x:=x) (y:=y) (zs:=zs) h0 h ha);have HL1:=zh (fun ts x h0 h ha=>zX8 (rs:=rs) (f:=f) (items:=items) (path:=path) (k:=k) (ts:=ts) (x:=x) h0 h ha (fun n hn=>yBd (HFL.out n hn).1));have hil:(items.drop k).length<=7:=by rw[List.length_drop];omega
 generalize items.drop k=its at*;have HNE:=zh (show ∀n∈its,scrB n.kind=true->n.kids≠[] from fun n hn hs=>by obtain⟨b0,sub,r,e⟩:=zIz (HFL.out n hn).1 hs;rw[e];simp);have HTS:=zh (fun ts (h:zB2 rs its= .inl ts)=>zFn (fun n hn=>(HFL.out n hn).1) h);have B1:=zA0 w (.cells zerC 47);have K0:=zh (Blk.new w 47 zerC);have HB:=zh B1;have HGL:=zh (show g<w.heap.size from hG.lt);have HG:=zh (keep B1 hG);have HP:=zh (hP.keep B1);have HBW:=zh hbw;have HR:=zh hR;have HK:=zh hK;have HIL:=zh hil;have HRN:=zh hrn;have HKR:=zh (show ∀u∈rs,u.kind=1\/u.kind=2\/u.kind=3\/u.kind=4 from fun u hu=>by
  obtain⟨j,hj⟩:=List.mem_iff_getElem?.1 hu;rcases zMb (zHj hv hj) with h|h|h|h
  ·exact .inl h
  ·exact .inr (.inl h)
  ·exact .inr (.inr (.inl h))
  ·exact .inr (.inr (.inr h.1)))
 have HNM:=zh (show ∀u∈rs,u.nam.size<=9223372036854775807 from fun u hu=>by
  obtain⟨j,hj⟩:=List.mem_iff_getElem?.1 hu;obtain⟨hfit,_⟩:=hR.at_ hj;exact hfit.2)
 have HPL0:=zh (show path.length<=900000 by omega);have HPG:=zh hpg;have HGW:=zh hgw;have HCI:=zh (And.intro hci hcm);have HK2:=zh hk2;clear hR hK hbw hgw hci hcm hP hpg hcp1 hcp2 hG hF hct hpl h7 hr7 hk2 hil B1;go_enter Tryz.func52,Tryz.ntmps52;go_upto_region 1 with(fail)
 generalize w.alloc (.cells zerC 47)=w1 at*;obtain⟨pq,hpq⟩:∃pq,pq=path++[(k:Int)]:=⟨_,rfl⟩
 have HPQ:=zh hpq;clear hpq;refine qm [2,2,2,1,2,2,2,1,1,1,2] (List.replicate 11 false) (fun gx=>[qP g,qP g,.pointer (some ⟨g,2,none⟩),.slice Ap path.length cp,qP g,qP g,.pointer (some ⟨g,3,none⟩),qI (k:Int),.slice (some ⟨gx.n 22,0,none⟩) 1 1,gx.v 23,gx.v 23]) [(8,fun gx wx=>Blk wx (gx.n 22) 3 #[qI (k:Int)]),(9,fun gx wx=>∃A8 c8,gx.v 23= .slice A8 pq.length c8/\pq.length<=c8/\c8<=9223372036854775807/\zAr wx A8 pq/\∀ad,A8=some ad->w.heap.size<ad.block)] (fun _ _=>True) (zA6.cons (fun gx wx w2 h hb=>keep hb h) (zA6.cons (fun gx wx w2 ⟨A8,c8,h1,h2,h3,h4,h5⟩ hb=>⟨A8,c8,h1,h2,h3,h4.keep hb,h5⟩) zA6.nil)) (trivial) ?_ ?_
 ·refine⟨jC,jI,jI,jR fun gx wq hB=>(keep hB HG.out).cell 2,jC,jI,jI,jR fun gx wq hB=>(keep hB HG.out).cell 3,fun gx wq hB hJ hf=>?_,fun gx wq hB hJ hf=>?_,jC,trivial⟩
  ·exact jv (.slice (some ⟨wq.heap.size,0,none⟩) 1 1) (wq.alloc (.cells #[qI (k:Int)] 3)) (by simp[go_sem,evAct]) ⟨gx.setN 22 wq.heap.size,rfl,jD,zA0 wq _,⟨Blk.new wq _ _,jG,trivial⟩,trivial⟩
  ·have f22:=jE hf.1;refine jc 85 (#[.slice Ap path.length cp,.slice (some ⟨gx.n 22,0,none⟩) 1 1]) wq (by kernel_rfl) ((zPo Ap (some ⟨gx.n 22,0,none⟩) cp 1 path [(k:Int)] wq (HP.out.keep hB) (zS1 f22) (by have:=HPL0.out;simp;omega)).mono ?_);rintro e wz ⟨v8,rfl,ho,hb⟩;obtain⟨A8,c8,rfl,hc1,hc2,hpa,hpl⟩:=zQt ho;rw[<-HPQ.out] at hc1 hpa;rw[<-HPQ.out];exact⟨_,rfl,gx.setV 23 (.slice A8 pq.length c8),rfl,jD,hb,⟨jH,⟨A8,c8,rfl,hc1,hc2,hpa,fun ad ha=>ll (keep hB K0.out).lt (hpl ad ha)⟩,trivial⟩,trivial⟩
 ·refine fun gx wq hB hJ hf=>?_
  dsimp only[zAh] at hf;change wpOps _ _ _ [] _ _;obtain⟨-,⟨A8,c8,e8,hc1,hc2,hpa,hpl⟩,-⟩:=hf;rw[e8];refine zAa ?_;have HPA:=zh hpa;have HPL:=zh hpl;replace HB:=jt HB hB;replace K0:=kp hB K0;replace HG:=kp hB HG;replace HP:=zh (HP.out.keep hB);clear hpa hpl hJ e8 hB;generalize gx.n 22=n22 at*;clear gx;generalize wq=w2 at*;have b1:=HG.out.cell 1
  by_cases hi0:its=[]
  ·have hq0:((its.length:Int)==0)=true:=by rw[hi0];rfl
   have HO:=zh (show zAb rs (f+1) items path k= .bad 15 pq by rw[HPQ.out];exact HL0.out hi0);clear hi0;have hba:=zA0 w2 (.cells #[qI 15,.slice A8 pq.length c8,qN] 71);have HBF:=jt HB hba;have K0F:=kp hba K0;have kc:=K0F.out.cell;have kf:=K0F.out.frozen;have HKF:=zh (Blk.new w2 71 #[qI 15,.slice A8 pq.length c8,qN]);have HPF:=zh (HPA.out.keep hba);have HWL:=zh (show w.heap.size<w2.heap.size from K0.out.lt);go_wp2_with fail;obtain⟨w9,e9,KR,HB5,HG5⟩:=fin5 K0F.out HBF.out (by omega) (qI 0) qE qE qN qE;rw[e9];obtain⟨r0,r1,r2,r3,r4⟩:=jF KR;exact bodyPost_ret (v:=.tuple #[.agg qT,qP w2.heap.size]) (by simp[results,Tryz.results52,go_sem,r0,r1,r2,r3,r4]) rfl (show zJv _ _ _ _ _ _ _ _ _ by rw[HO.out];exact⟨⟨_,rfl,A8,c8,none,0,[],HKF.out.grown HG5.out (fun e=>by have:=sj e;have:=HWL.out;omega),hc1,hc2,zEy HPF.out HG5.out (fun ad ha _ e=>by have:=HPL.out ad ha;omega),by have:=HWL.out;omega,fun ad ha _=>Nat.le_of_lt (HPL.out ad ha),Nat.le_refl _,by omega,zAp.nil _ _ _,fun e=>absurd e (by decide)⟩,(Gr.refl g w).below HB5.out⟩)
  have HI0:=zh hi0;have hq0:((its.length:Int)==0)=false:=by
   rw[beq_eq_false_iff_ne];have:=List.length_pos_iff.2 hi0;omega
  have HRW:=zh (HR.out.keep (HBW.out.trans (HB.out.mono HBW.out.size)));have HKW:=zh (HK.out.keep (HBW.out.trans (HB.out.mono HBW.out.size)));clear hi0;go_upto_region 4 with(fail)
  clear b1 hq0;refine qm [2,2,2,1,2,2,2,1,1,2,2,2,2,2,2,2] (List.replicate 16 false) (fun gx=>[qP g,qP g,qP g,.slice A rs.length cap,qP g,qP g,.pointer (some ⟨g,1,none⟩),.slice Ai its.length ci,.tuple #[gx.v 44,gx.v 45,gx.v 46],.tuple #[gx.v 44,gx.v 45,gx.v 46],gx.v 44,gx.v 45,gx.v 46,gx.v 44,gx.v 45,gx.v 46]) [(8,fun gx wx=>TRs rs its w2.heap.size wx (gx.v 44) (gx.v 45) (gx.v 46))] (fun _ _=>True) (zA6.cons (fun gx wx w2 h hb=>h.keep hb) zA6.nil) (trivial) ?_ ?_
  ·refine⟨jC,jI,jI,jR fun gx wq hB=>(keep hB HG.out).cell 0,jC,jI,jI,jR fun gx wq hB=>(keep hB HG.out).cell 1,fun gx wq hB hJ hf=>?_,jC,jC,jC,jC,jC,jC,jC,trivial⟩
   ·refine jc 30 (#[.slice A rs.length cap,.slice Ai its.length ci]) wq (by kernel_rfl) ((zJs A Ai cap ci rs its wq (HRW.out.keep hB) (by have:=HRN.out;omega) (HKW.out.keep hB) HNE.out (by have:=HIL.out;omega)).mono ?_);rintro e wz hm;obtain⟨ta,tb,tc,rfl,htr,hb⟩:=zZ7 hm hB.size;exact⟨_,rfl,((gx.setV 44 ta).setV 45 tb).setV 46 tc,rfl,jD,hb,⟨htr,trivial⟩,trivial⟩
  ·refine fun gx wq hB hJ hf=>?_
   dsimp only[zAh] at hf;change wpOps _ _ _ [] _ _;obtain⟨htr,-⟩:=hf;refine zAa ?_;have HTR:=zh htr;have HWL2:=zh (show w.heap.size<w2.heap.size from K0.out.lt);replace HB:=jt HB hB;replace K0:=kp hB K0;replace HG:=kp hB HG;replace HP:=zh (HP.out.keep hB);replace HPA:=zh (HPA.out.keep hB);clear htr hJ hB;generalize gx.v 44=ta at*;generalize gx.v 45=tb at*;generalize gx.v 46=tc at*;clear gx;generalize wq=w3 at*;cases htk:zB2 rs its with
   |inr ib=>
    have h9:=HTR.out;unfold TRs at h9;rw[htk] at h9;obtain⟨rfl,rfl,rfl⟩:=h9;have hib:=zN4 htk;obtain⟨pn,hpn⟩:∃pn,pn=path++[(k:Int)+(ib:Int)]:=⟨_,rfl⟩
    have HPN:=zh hpn;have HO:=zh (show zAb rs (f+1) items path k= .bad 15 pn by rw[hpn,<-Int.natCast_add];exact HLR.out ib HI0.out htk);have hki:IntKind.i64.wrap ((k:Int)+(ib:Int))=(k:Int)+(ib:Int):=IntWalk.i64_in _ (by have:=HK2.out;have:=HIL.out;omega);clear hpn htk hib HTR;go_upto_region 6 with(fail)
    refine qm [2,2,2,2,1,2,2,2,1,2,2,1,1,1,1,1,2] (List.replicate 17 false) (fun gx=>[.agg qT,qP g,qP g,.pointer (some ⟨g,2,none⟩),.slice Ap path.length cp,qP g,qP g,.pointer (some ⟨g,3,none⟩),qI (k:Int),qI (ib:Int),qI ((k:Int)+(ib:Int)),.slice (some ⟨gx.n 60,0,none⟩) 1 1,gx.v 61,.agg #[qI 15,gx.v 61,qN],qP (gx.n 63),undef,qP (gx.n 63)]) [(11,fun gx wx=>Blk wx (gx.n 60) 3 #[qI ((k:Int)+(ib:Int))]),(12,fun gx wx=>∃A9 c9,gx.v 61= .slice A9 pn.length c9/\pn.length<=c9/\c9<=9223372036854775807/\zAr wx A9 pn/\∀ad,A9=some ad->w.heap.size<ad.block),(14,fun gx wx=>(∃A9 c9,gx.v 61= .slice A9 pn.length c9/\pn.length<=c9/\c9<=9223372036854775807/\zAr wx A9 pn/\(∀ad,A9=some ad->w.heap.size<ad.block))/\Blk wx (gx.n 63) 71 #[qI 15,gx.v 61,qN]/\w.heap.size<gx.n 63)] (fun _ _=>True) (zA6.cons (fun gx wx w2 h hb=>keep hb h) (zA6.cons (fun gx wx w2 ⟨A8,c8,h1,h2,h3,h4,h5⟩ hb=>⟨A8,c8,h1,h2,h3,h4.keep hb,h5⟩) (zA6.cons (fun gx wx w2 ⟨⟨A8,c8,h1,h2,h3,h4,h5⟩,h6,h7⟩ hb=>⟨⟨A8,c8,h1,h2,h3,h4.keep hb,h5⟩,keep hb h6,h7⟩) zA6.nil))) (trivial) ?_ ?_
    ·refine⟨jI,jC,jI,jI,jR fun gx wq hB=>(keep hB HG.out).cell 2,jC,jI,jI,jR fun gx wq hB=>(keep hB HG.out).cell 3,jC,fun gx wq=>?_,fun gx wq hB hJ hf=>?_,fun gx wq hB hJ hf=>?_,fun gx wq hB hJ hf=>?_,fun gx wq hB hJ hf=>?_,fun gx wq hB hJ hf=>?_,jC,trivial⟩
     ·exact jp (qI ((k:Int)+(ib:Int))) (by simp[go_sem,evAct,hki]) rfl
     ·exact jv (.slice (some ⟨wq.heap.size,0,none⟩) 1 1) (wq.alloc (.cells #[qI ((k:Int)+(ib:Int))] 3)) (by simp[go_sem,evAct]) ⟨gx.setN 60 wq.heap.size,rfl,jD,zA0 wq _,⟨Blk.new wq _ _,jG,jG,trivial⟩,trivial⟩
     ·have f60:=jE hf.1;refine jc 85 (#[.slice Ap path.length cp,.slice (some ⟨gx.n 60,0,none⟩) 1 1]) wq (by kernel_rfl) ((zPo Ap (some ⟨gx.n 60,0,none⟩) cp 1 path [(k:Int)+(ib:Int)] wq (HP.out.keep hB) (zS1 f60) (by have:=HPL0.out;simp;omega)).mono ?_);rintro e wz ⟨v8,rfl,ho,hb⟩;obtain⟨A9,c9,rfl,hc1,hc2,hpa,hpl⟩:=zQt ho;rw[<-HPN.out] at hc1 hpa;rw[<-HPN.out];exact⟨_,rfl,gx.setV 61 (.slice A9 pn.length c9),rfl,jD,hb,⟨jH,⟨A9,c9,rfl,hc1,hc2,hpa,fun ad ha=>ll (keep hB K0.out).lt (hpl ad ha)⟩,jG,trivial⟩,trivial⟩
     ·have f60:=jE hf.1;have f61:=jE hf.2.1;obtain⟨A9,c9,e8,_⟩:=f61;exact jv (.agg #[qI 15,gx.v 61,qN]) wq (by simp[go_sem,evAct,e8]) ⟨gx,rfl,jD,(Below.refl _ _),⟨jH,jH,jG,trivial⟩,trivial⟩
     ·have f60:=jE hf.1;have f61:=jE hf.2.1;obtain⟨A9,c9,e8,e9,e10,e11,e12⟩:=f61;exact jv (qP wq.heap.size) (wq.alloc (.cells #[qI 15,gx.v 61,qN] 71)) (by simp[go_sem,evAct,e8]) ⟨gx.setN 63 wq.heap.size,rfl,jD,zA0 wq _,⟨jH,jH,⟨⟨A9,c9,e8,e9,e10,e11.keep (zA0 wq _),e12⟩,Blk.new wq _ _,(keep hB K0.out).lt⟩,trivial⟩,trivial⟩
     ·have K0q:=keep hB K0.out;have kc:=fun i=>K0q.cell i
      have kf:=fun i=>K0q.frozen i
      have h5:=zOh K0q;exact Gives.skip (w':=wq) (by simp[go_sem,evAct,kc,kf];exact h5) ⟨gx,rfl,zAg.same,Below.refl _ _,zC7.same (by kernel_rfl),hJ⟩
    ·refine fun gx wq hB hJ hf=>?_
     dsimp only[zAh] at hf;change wpOps _ _ _ [] _ _;obtain⟨-,-,⟨⟨A9,c9,e9,hc1,hc2,hpa,hpl⟩,hkf,hnl⟩,-⟩:=hf;rw[e9] at hkf;rw[e9];have HKF:=zh hkf;have HNL:=zh hnl;have HPF:=zh hpa;replace HPL:=zh hpl;replace HB:=jt HB hB;replace K0:=kp hB K0;clear hkf hnl hpa hpl hJ hB e9;generalize gx.n 63=n63 at*;generalize gx.n 60=n60 at*;clear gx;refine zAa ?_;have KQ:=zh K0.out;go_wp2_with fail;obtain⟨r0,r1,r2,r3,r4⟩:=qc KQ;exact bodyPost_ret (v:=.tuple #[.agg qT,qP n63]) (by simp[results,Tryz.results52,go_sem,r0,r1,r2,r3,r4]) rfl (show zJv _ _ _ _ _ _ _ _ _ by rw[HO.out];exact⟨⟨_,rfl,A9,c9,none,0,[],HKF.out,hc1,hc2,HPF.out,by have:=HNL.out;omega,fun ad ha _=>by have:=HPL.out ad ha;omega,Nat.le_refl _,by omega,zAp.nil _ _ _,fun e=>absurd e (by decide)⟩,(Gr.refl g w).below HB.out⟩)
   |inl ts=>
    have h9:=HTR.out;unfold TRs at h9;rw[htk] at h9;obtain⟨⟨rfl,rfl⟩,ho⟩:=h9;obtain⟨AT,cT,rfl,hT1,hT2,hT3,hT4⟩:=zY4 ho (HTS.out ts htk);have HT3:=zh hT3;have HT4:=zh hT4;have HTL:=zh (show ts.length=its.length from zCt htk);have HTK:=zh htk;have g0:=HG.out.cell 0;replace HRW:=zh (HR.out.keep (HBW.out.trans (HB.out.mono HBW.out.size)));clear hT3 hT4 ho HTR htk HKW;go_wp2_with fail;refine(zYl A AT cap cT rs ts w3 HRW.out HT3.out (by have:=HRN.out;omega) (by have:=HTL.out;have:=HIL.out;omega)).mono ?_;rintro e w4 ⟨AR,cR,rfl,hr1,hr2,hrd,hb⟩;have HRD:=zh (hrd.any (ok':=fun b=>w.heap.size<b) fun b _ h=>ll K0.out.lt h);have H12:=zh (And.intro hr1 hr2);replace HB:=jt HB hb;replace K0:=kp hb K0;replace HG:=kp hb HG;replace HP:=zh (HP.out.keep hb);replace HPA:=zh (HPA.out.keep hb);replace HT3:=zh (HT3.out.keep hb);clear hrd hb hr1 hr2 g0 HRW;rcases ha:allL rs ts with _|⟨x,_|⟨y0,zs⟩⟩
    ·have hz0:(((allL rs ts).length:Int)==0)=true:=by rw[ha];rfl
     have HO:=zh (show zAb rs (f+1) items path k= .bad 15 pq by rw[HPQ.out];exact HLZ.out ts HI0.out HTK.out ha);clear ha;have hba:=zA0 w4 (.cells #[qI 15,.slice A8 pq.length c8,qN] 71);have HBF:=jt HB hba;have K0F:=kp hba K0;have kc:=K0F.out.cell;have kf:=K0F.out.frozen;have HKF:=zh (Blk.new w4 71 #[qI 15,.slice A8 pq.length c8,qN]);have HPF:=zh (HPA.out.keep hba);have HWL:=zh (show w.heap.size<w4.heap.size from K0.out.lt);go_wp2_with fail;obtain⟨w9,e9,KR,HB5,HG5⟩:=fin5 K0F.out HBF.out (by omega) (qI 0) qE qE qN qE;rw[e9];obtain⟨r0,r1,r2,r3,r4⟩:=jF KR;exact bodyPost_ret (v:=.tuple #[.agg qT,qP w4.heap.size]) (by simp[results,Tryz.results52,go_sem,r0,r1,r2,r3,r4]) rfl (show zJv _ _ _ _ _ _ _ _ _ by rw[HO.out];exact⟨⟨_,rfl,A8,c8,none,0,[],HKF.out.grown HG5.out (fun e=>by have:=sj e;have:=HWL.out;omega),hc1,hc2,zEy HPF.out HG5.out (fun ad ha _ e=>by have:=HPL.out ad ha;omega),by have:=HWL.out;omega,fun ad ha _=>Nat.le_of_lt (HPL.out ad ha),Nat.le_refl _,by omega,zAp.nil _ _ _,fun e=>absurd e (by decide)⟩,(Gr.refl g w).below HB5.out⟩)
    ·have HA:=zh ha;have hz0:(((allL rs ts).length:Int)==0)=false:=by rw[ha];rfl
     have hz1:¬((1:Int)<((allL rs ts).length:Int)):=by rw[ha];show ¬((1:Int)<1);omega
     clear ha;have hx:=zXd (rs:=rs) (ts:=ts) (x:=x) (by rw[HA.out];exact List.mem_cons_self);have HOKX:=zh (zC5 _ 0 ts.length x (Nat.le_refl _) hx.2);have HO:=zh (HL1.out ts x HI0.out HTK.out HA.out);obtain⟨adR,A9,cap9,rfl,hadl9,hX9,hl9,hc9,hk9,x0,x1,x2⟩:=Ch.zAp.at_ HRD.out (k:=0) (x:=x) (by rw[HA.out];rfl);rw[show adR.add (0*3)=adR by unfold Addr.add;cases adR;simp] at x0 x1 x2;have HX9:=zh hX9;have XC4:=zh (And.intro x0 (And.intro x1 x2));have HARW:=zh (show w.heap.size<adR.block from by obtain⟨ad9,e9,_,h9,_⟩:=HRD.out 0 x (by rw[HA.out];rfl);rw[sj e9];exact h9);have HL1R:=zh (show(allL rs ts).length=1 by rw[HA.out];rfl);have HTN:=zh (show ts.length<=7 by have:=HTL.out;have:=HIL.out;omega);obtain⟨ib,hib,hibz,hibs,hibb⟩:=Sp.info_parts zVc;have hmk:=run_make (P:=Tryz.prog) w4 153 4 ib (.bool false) Tryz.underlying153 hib hibz .i64 .i64 (ts.length:Int) (ts.length:Int) (by omega) (Int.le_refl _) (by rw[hibb];have:=HTN.out;omega) (by have:=HTN.out;omega);rw[hibs,Int.toNat_natCast,Nat.mul_one] at hmk;have hmz:madeCells (Value.bool false).cells ts.length=(Array.replicate ts.length (.bool false)):=zTh ts.length;rw[hmz] at hmk;have HRW4:=zh (HR.out.keep (HBW.out.trans (HB.out.mono HBW.out.size)));have HWL4:=zh (show w.heap.size<w4.heap.size from K0.out.lt);clear hX9 hk9 hmz hx;go_upto_region 13 with(fail)
     have hba:=zA0 w4 (.cells (Array.replicate ts.length (.bool false)) 4);have HRB:=zh (show zLq (w4.alloc (.cells (Array.replicate ts.length (.bool false)) 4)) w4.heap.size (List.replicate ts.length false) from by show Blk _ _ _ _;rw[zU6];exact Blk.new w4 _ _);have HB45:=zh hba;replace x0:=(hba.cell (p:=adR) hadl9).trans x0;replace x1:=(hba.cell (p:=⟨adR.block,adR.off+1,none⟩) hadl9).trans x1;replace x2:=(hba.cell (p:=⟨adR.block,adR.off+2,none⟩) hadl9).trans x2;have HGW5:=kp hba HG;have HAR4:=zh hadl9;clear hba hmk hz0 hz1 hadl9;generalize w4.alloc (.cells (Array.replicate ts.length (.bool false)) 4)=w5 at*;have HAR:=zh (show adR.block<w5.heap.size/\∀o,(⟨adR.block,o,none⟩:Addr).block<w5.heap.size from⟨ll HAR4.out HB45.out.size,fun _=>ll HAR4.out HB45.out.size⟩);refine qm [2,2,2,1,2,2,1,2,3] (List.replicate 9 false) (fun gx=>[qP g,qP g,qP g,.slice A rs.length cap,.slice (some adR) 1 cR,.pointer (some adR),.agg (rdC x.rule x.at_ A9 x.kids.length cap9),.slice (some ⟨w4.heap.size,0,none⟩) ts.length ts.length,undef]) [] (fun _ _=>True) zA6.nil (trivial) ?_ ?_
     ·refine⟨jC,jI,jI,jR fun gx wq hB=>(keep hB HGW5.out).cell 0,jC,fun gx wq=>?_,fun gx wq hB hJ hf=>?_,jC,trivial⟩
      ·exact jp (.pointer (some adR)) (by simp[go_sem,evAct];try omega) rfl
      ·have c0:=(hB.cell HAR.out.1).trans x0;have c1:=(hB.cell (HAR.out.2 _)).trans x1;have c2:=(hB.cell (HAR.out.2 _)).trans x2;exact gs (.agg (rdC x.rule x.at_ A9 x.kids.length cap9)) hJ (by kernel_rfl) (by simp[go_sem,evAct,c0,c1,c2]) rfl
     ·refine fun gx wq hB hJ hf=>?_
      dsimp only[zAh] at hf;change wpOps _ _ _ [8] _ _;have HB5:=jt HB45 hB;refine zC0 (o:=_) (R:=fun v w'=>v= .tuple #[]/\zLq w' w4.heap.size (setB (List.replicate ts.length false) (pfxR rs x))/\Gr w4.heap.size wq w') rfl rfl (jc 87 (#[.slice A rs.length cap,.agg (rdC x.rule x.at_ A9 x.kids.length cap9),.slice (some ⟨w4.heap.size,0,none⟩) ts.length ts.length]) wq (by first|kernel_rfl|simp[go_sem,evAct]) ((zIq (fun b=>w.heap.size<b) A cap rs w4.heap.size ts.length (by have:=HTN.out;omega) (by have:=HRN.out;omega) (zB4 x) x 0 ts.length _ (List.replicate ts.length false) w4 wq (Nat.le_refl _) HOKX.out HRW4.out HX9.out HB5.out (Nat.le_refl _) (keep hB HRB.out) List.length_replicate (Nat.le_refl _)).mono fun e wz h=>⟨_,h.1,rfl,h.2⟩)) ?_;rintro v w6 ⟨rfl,hbl,hgr⟩;refine zAa ?_;have HB46:=zh (HB5.out.trans (hgr.down HB5.out.size (Nat.le_refl _)));have HBL:=zh hbl;have HB6:=zh (HB.out.trans (HB46.out.mono HB.out.size));have HBW6:=zh (HBW.out.trans (HB6.out.mono HBW.out.size));have K06:=zh (keep HB46.out K0.out);have HG6:=zh (keep HB46.out HG.out);have HP6:=zh (HP.out.keep HB46.out);have HT6:=zh (HT3.out.keep HB46.out);have HX6:=zh (HX9.out.keep HB46.out);have HARG:=zh (show adR.block≠g from by have:=HARW.out;have:=HGL.out;omega);have XC:=zh (show w6.cell? adR=some (qI x.rule)/\w6.cell? ⟨adR.block,adR.off+1,none⟩=some (qI x.at_)/\w6.cell? ⟨adR.block,adR.off+2,none⟩=some (.slice A9 x.kids.length cap9) from⟨(HB46.out.cell (p:=adR) HAR4.out).trans XC4.out.1,(HB46.out.cell (p:=⟨adR.block,adR.off+1,none⟩) HAR4.out).trans XC4.out.2.1,(HB46.out.cell (p:=⟨adR.block,adR.off+2,none⟩) HAR4.out).trans XC4.out.2.2⟩);have HWW:=zh (show w.heap.size+1<=w6.heap.size from K06.out.lt);have b16:=HG6.out.cell 1;clear hbl hgr hf hJ hB x0 x1 x2 K0 HG HP HT3 HX9 HRB HB5 HB45 HGW5 HRD HPA HRW4 HAR;clear gx;obtain⟨RQ,hRQ⟩:∃RQ:Nat->Mea (List (List Trm)),RQ=fun q=>zBr rs (zAb rs f) path (fun i=>decide ((i:Int)∈pfxR rs x)) k (its.drop q) (ts.drop q) q:=⟨_,rfl⟩
      have HRQ:=zh hRQ;have HTOT:=zh (show zAb rs (f+1) items path k=(RQ 0).then_ fun xs=>.ok (bldR rs its xs x ts.length) by rw[hRQ,HO.out];rfl);clear hRQ HO;go_wp2_with fail
      go_loopw [11] (fun i wr=>∃(q:Nat) (xs:List (List Trm)) (v:Value),q<=its.length/\i=qI q/\xs.length=q/\Hid (RSo (RQ 0) xs (RQ q))/\Hid (∀y∈xs,y.length<=1000)/\Hid (RdL g (w.heap.size+1) w6 (lstC A cap rs Ai ci its Ap cp path k v) v xs wr)) (fun i _=>its.length -(intOf i).toNat)
      case atStart=>exact⟨0,[],_,by omega,rfl,rfl,zh (RSo.start _),zh (fun y h=>by cases h),zh ⟨Gr.refl g w6,HG6.out,OwnP.nil _ _ _⟩⟩
      case round=>
       obtain⟨q,xs,v,hq,rfl,hxq,HSO,HYL,HS⟩:=hrel;have b1:=HS.out.box.cell 1;have HXQ:=zh hxq;have HBR:=zh (HBW6.out.trans (HS.out.gr.down HBW6.out.size HGW.out));have HRW:=zh (HR.out.keep HBR.out);have HKW:=zh (HK.out.keep HBR.out);have HGX:=zh (((Gr.refl g w).below HB6.out).trans HS.out.gr);have K0X:=zh (HS.out.gr.blk K06.out (by have:=HGL.out;omega));have HWX:=zh (show w6.heap.size<=wr.heap.size from HS.out.gr.size);clear hxq
       by_cases hlt:q<its.length
       ·obtain⟨n,hn⟩:∃n,its[q]?=some n:=⟨_,gE hlt⟩
        obtain⟨t,ht⟩:∃t,ts[q]?=some t:=⟨_,gE (by have:=HTL.out;omega)⟩
        have HNQ:=zh hn;obtain⟨htz,adt,rfl,hadt,htc⟩:=HT6.out q t ht;have hne:=HT4.out adt rfl;have HTC:=zh (show wr.cell? (adt.add q)=some (.string t) by rw[<-htc];exact World.cell?_of_block (HS.out.gr.block _ (by rw[zA2];exact hadt) (by rw[zA2];have:=HGL.out;have:=HWL2.out;omega)));have HAT:=zh (show(adt.add q).block<wr.heap.size by rw[zA2];exact ll hadt HWX.out);obtain⟨pb,hpb⟩:∃pb,pb=decide ((q:Int)∈pfxR rs x):=⟨_,rfl⟩
        have HBC:=zh (show wr.cell? ⟨w4.heap.size,q,none⟩=some (.bool pb) by
         rw[(HS.out.gr.blk HBL.out (by have:=HGL.out;have:=HWL4.out;omega)).cell q,hpb];have h9:=zWo HOKX.out (q:=q) (by have:=HTL.out;omega);simp only[List.getElem?_toArray,List.getElem?_map,h9,Option.map_some])
        have HAB:=zh (show(⟨w4.heap.size,q,none⟩:Addr).block<wr.heap.size from ll HBL.out.lt HWX.out);obtain⟨opb,hopb⟩:∃opb,opb= !decide (t.data.toList=[35]):=⟨_,rfl⟩
        have hop:(t.toList==[35])= !opb:=by
         rw[hopb,Bool.not_not,ByteArray.toList_eq,Bool.eq_iff_iff,beq_iff_eq,decide_eq_true_iff]
        have HSO2:=zh (show RSo (RQ 0) xs ((sltF rs (zAb rs f) n (path++[((k+q:Nat):Int)]) opb pb).then_ fun p=>(RQ (q+1)).then_ fun ps=>.ok (p::ps)) by
         have h9:=HSO.out;rw[HRQ.out] at h9⊢;dsimp only at h9⊢;rw[zQf hn ht] at h9;rw[hopb,hpb];exact h9)
        have HPW:=zh (zEy HP6.out HS.out.gr.own HPG.out);have hqt:(q:Int)<(ts.length:Int):=by have:=HTL.out;omega
        have HNK:=zh (show n.kids.length<=1000 by have:=zEz (HFL.out n (List.mem_of_getElem? hn)).1;omega);clear hn ht hne htc hpb hopb htz HSO hadt;go_upto_region 17 with(fail)
        clear b1;refine qm [2,2,2,2,2,1,2,2,2,2,1,1,2,2,2,2,2] (List.replicate 17 false) (fun gx=>[qP g,qI (↑q),.slice (some adt) ts.length cT,qI (↑q),.pointer (some (adt.add q)),.string t,.bool opb,.slice (some ⟨w4.heap.size,0,none⟩) ts.length ts.length,qI (↑q),.pointer (some ⟨w4.heap.size,q,none⟩),.bool pb,.tuple #[gx.v 125,gx.v 126],.tuple #[gx.v 125,gx.v 126],gx.v 125,gx.v 126,gx.v 125,gx.v 126]) [(11,fun gx wx=>SRs rs (zAb rs f) items path k n (path++[((k+q:Nat):Int)]) opb pb wr.heap.size wx (gx.v 125) (gx.v 126))] (fun _ _=>True) (zA6.cons (fun gx wx w2 h hb=>h.keep hb) zA6.nil) (trivial) ?_ ?_
        ·refine⟨jC,jC,jC,jC,fun gx wq=>?_,jR fun gx wq hB=>(hB.cell HAT.out).trans HTC.out,fun gx wq=>?_,jC,jC,fun gx wq=>?_,jR fun gx wq hB=>(hB.cell HAB.out).trans HBC.out,fun gx wq hB hJ hf=>?_,jC,jC,jC,jC,jC,trivial⟩
         ·exact jp (.pointer (some (adt.add q))) (by simp[go_sem,evAct,hqt];try omega) rfl
         ·exact jp (.bool opb) (by simp[go_sem,evAct,hop]) rfl
         ·exact jp (.pointer (some ⟨w4.heap.size,q,none⟩)) (by simp[go_sem,evAct,hqt];try omega) rfl
         ·refine jc 88 (#[qP g,qI (q:Int),.bool opb,.bool pb]) wq (by kernel_rfl) ((HSL.out q n opb pb _ wq (HRW.out.keep hB) (HKW.out.keep hB) (HPW.out.keep hB) (keep hB HS.out.box) HNQ.out).mono ?_);rintro e wz hm;obtain⟨sa,sb,rfl,hsr,hb⟩:=yAq hm hB.size;exact⟨_,rfl,(gx.setV 125 sa).setV 126 sb,rfl,jD,hb,⟨hsr,trivial⟩,trivial⟩
        ·refine fun gx wq hB hJ hf=>?_
         dsimp only[zAh] at hf;change wpOps _ _ _ [] _ _;obtain⟨hsr,-⟩:=hf;have HSR:=zh hsr;have HVB:=zh (fun b (hb:v.ownBlock=some b)=>(show w6.heap.size<=b/\b<wr.heap.size from by obtain⟨cs,ho,_⟩:=HS.out.own;exact World.ownsRow.lt ho b hb));replace HS:=zh (HS.out.keep hB);replace K0X:=kp hB K0X;replace HGX:=zh (HGX.out.below hB);have HWQ:=zh (show wr.heap.size<=wq.heap.size from hB.size);clear hsr hJ hB HRW HKW HPW HBR;cases hM:sltF rs (zAb rs f) n (path++[((k+q:Nat):Int)]) opb pb with
         |bad er p=>
          have h9:=HSR.out;unfold SRs at h9;rw[hM] at h9;obtain⟨e1,gf,e2,hff⟩:=h9;have HFF:=zh hff;have HO2:=zh (show zAb rs (f+1) items path k= .bad er p by rw[HTOT.out,HSO2.out.bad hM];rfl);rw[e1,e2];refine zAa ?_;clear hff hM e1 e2 HSR;clear gx;have kc:=K0X.out.cell;have kf:=K0X.out.frozen;go_wp2_with fail;obtain⟨w9,e9,KR,HG5⟩:=fin5n K0X.out (qI 0) qE qE qN qE;rw[e9];obtain⟨r0,r1,r2,r3,r4⟩:=jF KR;exact bodyPost_ret (v:=.tuple #[.agg qT,qP gf]) (by simp[results,Tryz.results52,go_sem,r0,r1,r2,r3,r4]) rfl (show zJv _ _ _ _ _ _ _ _ _ by rw[HO2.out];exact⟨⟨gf,rfl,(HFF.out.grown HG5.out fun hb=>by have:=HWX.out;have:=HWW.out;omega).any (fun _ h=>h) fun b _ hb=>by have:=HWX.out;have:=HWW.out;omega⟩,HGX.out.grown HG5.out fun r e=>.inl (by have:=sj e;omega)⟩)
         |ok y=>
          have h9:=HSR.out;unfold SRs at h9;rw[hM] at h9;obtain⟨⟨A7,c7,e1,h71,h72,hts⟩,e2⟩:=h9;have HSO3:=zh (HSO2.out.next hM);have HY7:=zh (show y.length<=1000 by have:=yCe hM;have:=HNK.out;omega);rw[e1,e2];refine zAa ?_;clear hM e1 e2 HSR HSO2;clear gx;obtain⟨Av,cv,rfl,hv1,hv2,_⟩:=HS.out.own.form;have b4:=HS.out.box.cell 4;have hba:=zA0 wq (.cells #[.slice A7 y.length c7] 45);have HS9:=zh (HS.out.keep hba);have HN9:=zh (Blk.new wq 45 #[.slice A7 y.length c7]);have HTY:=zh ((hts.keep hba).any (ok':=fun b=>(Value.slice Av xs.length cv).ownBlock≠some b/\w.heap.size+1<=b) fun b _ h=>⟨fun e=>by have:=(HVB.out b e).2;omega,by have:=HWX.out;have:=HWW.out;omega⟩);have HSZ9:=zh (show w6.heap.size<=wq.heap.size from Nat.le_trans HWX.out HWQ.out);obtain⟨css,ho,hcl,hcr⟩:=HS9.out.own;obtain⟨it,hit,hitz,hits,hitb⟩:=Sp.info_parts zZg;have HRA:=Ch.zEw HN9.out;have hxl:xs.length<=7:=by have:=HXQ.out;have:=HIL.out;omega
          clear hts hba;go_wp2_with (at_builtin;refine Ch.zA9 _ rfl (.tmp 135) (.tmp 137) 118 rfl w6.heap.size 45 it qN 1 24 Tryz.underlying118 hit hitz hits hitb rfl (by decide) _ _ _ rfl ho _ (some ⟨wq.heap.size,0,none⟩) 1 1 [.slice A7 y.length c7] rfl HRA (fun u hu=>by rw[List.mem_singleton.1 hu];rfl) (by unfold maxLen;omega) (by omega) (by have:=HSZ9.out;simp;omega) ?_)
          intro v' wz q2 q3 q4;have hOP:=OwnP.snoc (ok':=fun b=>v'.ownBlock≠some b/\w.heap.size+1<=b) hcl hcr h71 h72 HTY.out q2 q3 (fun b _ hb e=>hb.1 e.symm) (fun b hb h=>⟨by
           rcases q4 with e|e
           ·rw[e];exact h.1
           ·rw[e];intro h2;have:=sj h2;rw[World.size_alloc] at hb;omega,h.2⟩)
          have hrow:∀b,(Value.slice Av xs.length cv).ownBlock=some b->w6.heap.size<=b:=fun b hb=>(HVB.out b hb).1
          have HGZ:=zh (HS9.out.gr.grown q3 fun r e=>.inl (hrow r e));have HBZ:=zh (HS9.out.box.grown q3 fun e=>by have:=hrow _ e.symm;have:=HGL.out;have:=HWW.out;omega);obtain⟨A5,c5,e9,h51,h52,_⟩:=hOP.form;have HOP:=zh hOP;rw[List.length_append,List.length_singleton] at e9;subst e9;have f4:=HBZ.out.frozen 4;have c4:=HBZ.out.cell 4;clear ho hcl hcr q2 q3 q4 hrow HRA HS9 HN9 b4 hOP;go_wp2_with fail;have hgz:wz.grownBy (wz.setCell ⟨g,4,none⟩ (.slice A5 (xs.length+1) c5)) (some g):=zA8 wz ⟨g,4,none⟩ _;have HSZ:=zh (RdL.mk (lo:=w.heap.size+1) (xs:=xs++[y]) (v:=.slice A5 (xs.length+1) c5) (HGZ.out.set (p:=⟨g,4,none⟩) (.inr rfl) (.slice A5 (xs.length+1) c5)) (HBZ.out.set_ 4 (.slice A5 (xs.length+1) c5)) (HOP.out.yD5 hgz (by have:=HGL.out;have:=HWW.out;omega) fun b hb e=>by have:=hb.2;have:=HGL.out;have:=sj e;omega));go_roundw
          case rel=>exact⟨q+1,xs++[y],_,by omega,by go_num,by rw[List.length_append,List.length_singleton,HXQ.out],HSO3,zh (fun z hz=>by
           rcases List.mem_append.1 hz with h|h
           ·exact HYL.out z h
           ·rw[List.mem_singleton.1 h];exact HY7.out),HSZ⟩
          case measure=>simp[intOf];omega
       ·obtain rfl:q=its.length:=by omega
        obtain⟨Av,cv,rfl,hv1,hv2,hpls⟩:=HS.out.own.form;have HEND:=zh (show RQ 0= .ok xs by
         have h9:=HSO.out;have h8:RQ its.length= .ok []:=by rw[HRQ.out];exact zSe (Nat.le_refl _)
         rw[h8] at h9;exact h9.end)
        have HLM:=zh (show zAb rs (f+1) items path k= .ok (bldR rs its xs x ts.length) by rw[HTOT.out,HEND.out];rfl);have HPS:=zh (hpls.any (ok':=fun b=>w.heap.size+1<=b/\b<wr.heap.size) fun b hb h=>⟨h.2,hb⟩);have HXR:=zh (show RdAt (fun b=>w.heap.size<b) wr x _ from HX6.out.map HWX.out (fun _ _ h=>h) fun p hp hb=>World.cell?_of_block (HS.out.gr.block _ hp (by have:=HGL.out;omega)));have e0:wr.cell? adR=some (qI x.rule):=(World.cell?_of_block (HS.out.gr.block _ (ll HAR4.out HB46.out.size) HARG.out)).trans XC.out.1;have e1:wr.cell? ⟨adR.block,adR.off+1,none⟩=some (qI x.at_):=(World.cell?_of_block (a:=⟨adR.block,adR.off+1,none⟩) (HS.out.gr.block _ (ll HAR4.out HB46.out.size) HARG.out)).trans XC.out.2.1;have e2:wr.cell? ⟨adR.block,adR.off+2,none⟩=some (.slice A9 x.kids.length cap9):=(World.cell?_of_block (a:=⟨adR.block,adR.off+2,none⟩) (HS.out.gr.block _ (ll HAR4.out HB46.out.size) HARG.out)).trans XC.out.2.2;have hqq:¬((its.length:Int)<(its.length:Int)):=by omega
        clear hpls HSO;go_wp2_with fail;refine(zNr (fun b=>w.heap.size<b) (fun b=>w.heap.size+1<=b/\b<wr.heap.size) g A cap rs Ai ci its Av cv xs (.slice Ap path.length cp) (qI (k:Int)) (by have:=HRN.out;omega) HFL.out HYL.out HKR.out HNM.out (zB4 x) x 0 ts.length _ wr (Nat.le_refl _) HOKX.out HRW.out HXR.out HKW.out HS.out.box HPS.out (fun b h=>h.2) (by have:=HTL.out;omega) (by have:=HTL.out;have:=HXQ.out;omega) (by have:=HTN.out;omega)).mono ?_;rintro e wb ⟨cc,rfl,htm,hb⟩;obtain⟨tk,ta,tv,tA,tn,tcp,tf,rfl⟩:=htm.ext;have HTM:=zh (htm.any (ok':=fun b=>w.heap.size+1<=b) fun b _ h=>h.elim (fun h=>h.1) fun h=>by have:=HWX.out;have:=HWW.out;omega);have K0B:=kp hb K0X;have HGB:=zh (HGX.out.below hb);clear htm hb e0 e1 e2 b1;have kc:=K0B.out.cell;have kf:=K0B.out.frozen;go_wp2_with fail;obtain⟨w9,e9,KR,HG5⟩:=fin5n K0B.out (qI tk) (.string ta) (.string tv) (.slice tA tn tcp) (.string tf);rw[e9];obtain⟨r0,r1,r2,r3,r4⟩:=jF KR;exact bodyPost_ret (v:=.tuple #[.agg #[qI tk,.string ta,.string tv,.slice tA tn tcp,.string tf],.pointer none]) (by simp[results,Tryz.results52,go_sem,r0,r1,r2,r3,r4]) rfl (show zJv _ _ _ _ _ _ _ _ _ by rw[HLM.out];exact⟨⟨_,rfl,(HTM.out.grown (ok':=fun b=>w.heap.size+1<=b) HG5.out (fun b _ hb e=>by have:=sj e;omega) (fun _ _ h=>h)).any fun b _ hb=>by omega⟩,HGB.out.grown HG5.out fun r e=>.inl (by have:=sj e;omega)⟩)
    ·have HA:=zh ha;have hz0:(((allL rs ts).length:Int)==0)=false:=by rw[ha];rw[beq_eq_false_iff_ne];simp;omega
     have hz1:(1:Int)<((allL rs ts).length:Int):=by rw[ha,List.length_cons,List.length_cons];omega
     have HO:=zh (show zAb rs (f+1) items path k= .bad 14 pq by rw[HPQ.out];exact HL2.out ts x y0 zs HI0.out HTK.out ha);have HAM:=zh (show Amb rs items path k pq [x,y0] by rw[HPQ.out];exact HAM0.out ts x y0 zs HTK.out ha);have H2:=zh (show 2<=(allL rs ts).length/\2<=cR/\cR<=9223372036854775807 by have:=H12.out;rw[ha,List.length_cons,List.length_cons] at*;omega);have HRD2:=zh (show zAp (fun b=>w.heap.size<b) w4 AR [x,y0] from fun i x hi=>HRD.out i x (by
      rw[ha]
      match i,hi with
      |0,hi=>exact hi
      |1,hi=>exact hi
      |i+2,hi=>simp at hi))
     clear ha HRD;go_upto_region 11 with(fail)
     clear hz0 hz1;refine qm [2,2,2,2,2,1,1,2] (List.replicate 8 false) (fun gx=>[.agg qT,.slice A8 pq.length c8,.slice AR (zs.length+1+1) cR,.slice AR 2 cR,.agg #[qI 14,.slice A8 pq.length c8,.slice AR 2 cR],qP (gx.n 90),undef,qP (gx.n 90)]) [(5,fun gx wx=>Blk wx (gx.n 90) 71 #[qI 14,.slice A8 pq.length c8,.slice AR 2 cR]/\w.heap.size<gx.n 90)] (fun _ _=>True) (zA6.cons (fun gx wx w2 h hb=>⟨keep hb h.1,h.2⟩) zA6.nil) (trivial) ?_ ?_
     ·refine⟨jI,jC,jC,fun gx wq=>?_,jI,fun gx wq hB hJ hf=>?_,fun gx wq hB hJ hf=>?_,jC,trivial⟩
      ·have h2:2<=cR:=H2.out.2.1;exact jp (.slice AR 2 cR) (by simp[go_sem,evAct];try omega) rfl
      ·exact jv (qP wq.heap.size) (wq.alloc (.cells #[qI 14,.slice A8 pq.length c8,.slice AR 2 cR] 71)) (by simp[go_sem,evAct]) ⟨gx.setN 90 wq.heap.size,rfl,jD,zA0 wq _,⟨⟨Blk.new wq _ _,(keep hB K0.out).lt⟩,trivial⟩,trivial⟩
      ·have K0q:=keep hB K0.out;have kc:=fun i=>K0q.cell i
       have kf:=fun i=>K0q.frozen i
       have h5:=zOh K0q;exact Gives.skip (w':=wq) (by simp[go_sem,evAct,kc,kf];exact h5) ⟨gx,rfl,zAg.same,Below.refl _ _,zC7.same (by kernel_rfl),hJ⟩
     ·refine fun gx wq hB hJ hf=>?_
      dsimp only[zAh] at hf;change wpOps _ _ _ [] _ _;obtain⟨⟨hkf,hnl⟩,-⟩:=hf;have HKF:=zh hkf;have HNL:=zh hnl;replace HB:=jt HB hB;replace K0:=kp hB K0;replace HPA:=zh (HPA.out.keep hB);replace HRD2:=zh (HRD2.out.keep hB);clear hkf hnl hJ hB;generalize gx.n 90=n90 at*;clear gx;refine zAa ?_;have KQ:=zh K0.out;go_wp2_with fail;obtain⟨r0,r1,r2,r3,r4⟩:=qc KQ;exact bodyPost_ret (v:=.tuple #[.agg qT,qP n90]) (by simp[results,Tryz.results52,go_sem,r0,r1,r2,r3,r4]) rfl (show zJv _ _ _ _ _ _ _ _ _ by rw[HO.out];exact⟨⟨_,rfl,A8,c8,AR,cR,[x,y0],HKF.out,hc1,hc2,HPA.out,by have:=HNL.out;omega,fun ad ha _=>by have:=HPL.out ad ha;omega,by have:=H2.out;simp;omega,H2.out.2.2,HRD2.out.any (fun b _ hb=>by omega),fun _=>HAM.out⟩,(Gr.refl g w).below HB.out⟩)
end Go.Proofs.YtapgncbegadbnaaGreatDoor.El
