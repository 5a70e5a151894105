/- slots of the reference: the meanings of the slots of an operand or of the scripts of an operator. -/
import Derived.Test.YtapgncbegadbnaaGreatDoorH5b393dad
set_option maxRecDepth 100000
set_option maxHeartbeats 8000000
namespace Go.Proofs.YtapgncbegadbnaaGreatDoor.El
open At Ch Sp Sy Go.RowKit
variable{n d:Tre}{rs:List Rul}{s:Nat}{w:World}{A:Option Addr}{p:List Int}
structure SlS (w:World)(cs:Array Value)(v:Value)(xs:List Trm)(x:World):Prop where
 bel:Below w.heap.size w x
 k0:Blk x w.heap.size 25 cs
 app:AppT (fun b=>w.heap.size<b) x (w.heap.size+1) v xs
theorem SlS.keep {w x x':World}{cs:Array Value}{v:Value}{xs:List Trm}(h:SlS w cs v xs x)(hb:Below x.heap.size x x'):SlS w cs v xs x':=
 ⟨h.bel.trans (hb.mono h.bel.size),jL hb h.k0,h.app.keep hb⟩
theorem zRu (h:zAt n=true):n.kind=7\/n.kind=9->∃a s r,n.kids=a::s::r:=by
 intro e;have hk:=(zEb h).2;unfold zBu at hk;rw[if_neg (show ¬n.kind=12 by omega),Bool.and_eq_true,if_neg (show ¬n.kind=1 by omega),if_neg (show ¬(n.kind=2\/n.kind=3\/n.kind=4) by omega)] at hk;have h2:=hk.2
 match hn:n.kids with
 |a::s::r=>exact⟨a,s,r,rfl⟩
 |[a]=>
  rw[hn] at h2;exfalso;revert h2;rcases e with e|e<;>simp[e]
 |[]=>
  rw[hn] at h2;exfalso;revert h2;rcases e with e|e<;>simp[e]
theorem zSn {sub:Tre}{v:ByteArray}(h:zGp rs sub=some v):3<=sub.kids.length:=by
 unfold zGp at h
 split at h
 ·next a b c r hs=>rw[hs];simp
 ·cases h
theorem yAu {op pre:Bool}(hd:n.kids[s]?=some d)(h:begR rs n op pre s=2):3<=d.kids.length:=by
 unfold begR at h
 split at h
 ·next hc=>
  obtain⟨_,rfl,hv⟩:=hc;unfold varN at hv
  split at hv
  ·cases hn:n.kids with
   |nil=>rw[hn] at hd;simp at hd
   |cons a r=>
    cases r with
    |nil=>rw[hn] at hd;simp at hd
    |cons b r=>
     rw[hn] at hd hv;simp only[List.getElem?_cons_succ,List.getElem?_cons_zero,Option.some.injEq] at hd;subst hd;dsimp only at hv;cases hb:zGp rs b with
     |none=>rw[hb] at hv;cases hv
     |some v=>exact zSn hb
  ·cases hv
 ·omega
theorem zJq:∀{ts:List Tre},zH0 ts=true->∀t∈ts,zEr t=true
 |[],_,t,h=>by cases h
 |x::ts,h,t,hm=>by
  rw[zH0,Bool.and_eq_true] at h;rcases List.mem_cons.1 hm with rfl|hm
  ·exact h.1
  ·exact zJq h.2 t hm
theorem zVn (h:zEr n=true)(hd:n.kids[s]?=some d):zEr d=true:=by
 obtain⟨k,t,c,ks⟩:=n;rw[zEr,Bool.and_eq_true] at h;exact zJq h.2 d (List.mem_of_getElem? hd)
theorem zN8 (h:zEr n=true)(hk:n.kind=1):n.kids.length<=7/\zH0 n.kids=true:=by
 obtain⟨k,t,c,ks⟩:=n;have hk':k=1:=hk;rw[zEr,Bool.and_eq_true,hk'] at h;exact⟨show ks.length<=7 by simpa using h.1,h.2⟩
theorem zYf (h:zAt n=true)(hk:n.kind≠1)(hd:n.kids[s]?=some d):d.kind=1:=by
 obtain⟨h1,h2⟩:=zDa h hd;unfold zBk at h2;rw[decide_eq_false hk] at h2
 by_cases e:d.kind=1
 ·exact e
 ·rw[decide_eq_false e] at h2;cases h2
theorem yB2 (h:zAr w A p)(hn:0<p.length):∀ad,A=some ad->ad.block<w.heap.size:=fun ad ha=>by
 obtain⟨ad',r3,r4,_⟩:=h.2 hn;obtain rfl:ad=ad':=sj (ha.symm.trans r3);exact r4
theorem zEy {w':World}{q:Nat}(h:zAr w A p)(hg:w.grownBy w' (some q))(ho:∀ad,A=some ad->0<p.length->ad.block≠q):zAr w' A p:=by
 obtain⟨r1,r2⟩:=h;refine⟨r1,fun hn=>?_⟩;obtain⟨ad,r3,r4,r5⟩:=r2 hn;refine⟨ad,r3,ll r4 hg.size,fun j u hj=>?_⟩;rw[<-r5 j u hj];refine World.cell?_of_block (hg.block _ (by rw[zA2];exact r4) fun e=>?_);have e9:=sj e;rw[zA2] at e9;exact ho ad r3 hn e9
theorem zYv {g:Nat}{a b:Int}(h:Blk w g 3 #[qI a,qI b]):zAr w (some ⟨g,0,none⟩) [a,b]:=by
 refine⟨rfl,fun _=>⟨_,rfl,h.lt,fun j u hj=>?_⟩⟩;rw[show(⟨g,0,none⟩:Addr).add j=⟨g,j,none⟩ by unfold Addr.add;split<;>simp_all,h.cell]
 match j,hj with
 |0,hj=>exact hj
 |1,hj=>exact hj
 |j+2,hj=>simp[ints] at hj
theorem zUl {B:Nat}{v:Value}{l:List Int}(h:zF7 w B v l):∃A c,v= .slice A l.length c/\l.length<=c/\c<=9223372036854775807/\zAr w A l:=by
 have h0:w.ownsRow B 3 1 v l.length (ints l):=h;rcases h0.2 with⟨rfl,hn⟩|⟨gq,cap,cur,rfl,hg,hk,hnc,hcm,hs,ht⟩
 ·obtain rfl:l=[]:=List.length_eq_zero_iff.1 hn;exact⟨none,0,rfl,Nat.le_refl _,by omega,rfl,fun h=>absurd h (by simp)⟩
 ·exact⟨_,cap,rfl,hnc,by unfold maxLen at hcm;omega,Reads.zH6 h0⟩
theorem zUm (A:Option Addr)(cap:Nat)(rs:List Rul)(f:Nat)(HRC:zXn A cap rs f)(items:List Tre)(path:List Int)(k:Nat)(Ai Ap:Option Addr)(ci cp g:Nat)(v0:Value)(i:Nat)(n:Tre)(op pre:Bool)(w:World)(hR:zAc w A rs)(hrn:rs.length<=1000000)(hK:zAo w Ai (items.drop k))(hP:zAr w Ap path)(hcp1:path.length<=cp)(hcp2:cp<=9223372036854775807)
  (hG:Blk w g 120 (lstC A cap rs Ai ci (items.drop k) Ap cp path k v0)) (hn:(items.drop k)[i]?=some n) (hF:zAt n=true) (hk1:n.kind≠1) (hcnt:zA7 n<=f) (hpl:path.length+zA7 n+2<=900000) (h7:zEr n=true) (hk2:k<=2) (hi:i<=100):
  Calls Tryz.prog 88 #[qP g,qI (i:Int),.bool op,.bool pre] w (SltP (fun p rds=>Amb rs items path k p rds) (sltF rs (zAb rs f) n (path++[((k+i:Nat):Int)]) op pre) w):=by
 obtain⟨i0,hi0,hz0,hz1,hz2⟩:=Sp.info_parts zEd;have HAM:=zh (fun(s:Nat) (d:Tre) (b:Nat) (q:List Int) (rds:List Rd) (hd:n.kids[s]?=some d) (h:Amb rs d.kids (path++[((k+i:Nat):Int),(s:Int)]) b q rds)=>Amb.there items path k i s b n d q rds hn hd h);generalize items.drop k=its at hK hG hn;obtain⟨ad,A2,cap2,rfl,hadl,hsz,hl2,hc2,hk,hn2,d0,d1,d2,d3⟩:=hK.at_ hn;have hil:(i:Int)<(its.length:Int):=by have:=(List.getElem?_eq_some_iff.1 hn).1;omega
 have x1:=hG.cell 1;have B1:=zA0 w (qO n A2 cap2);have S0:=zh (SlS.mk (xs:=[]) (v:=qN) B1 (Blk.new w 25 (qC n A2 cap2)) (AppT.nil _ _ _));have HR:=zh hR;have HN:=zh hn2;have HK:=zh hk;have HP:=zh hP;have HG:=zh hG;have HFO:=zh hF;have HCN:=zh hcnt;have HPL:=zh hpl;have HK1:=zh hk1;have HRN:=zh hrn;have H7:=zh h7;have HLL:=zh HRC;have HK2:=zh hk2;have HI:=zh hi;have HGL:=zh hG.lt;have HCP:=zh (And.intro hcp1 hcp2);clear hR hn2 hk hP hG hF hcnt hpl hk1 hrn h7 HRC B1 hK hn hsz hk2 hi hcp1 hcp2;go_enter Tryz.func88,Tryz.ntmps88;go_upto_region 2 with(fail)
 clear d0 d1 d2 d3 x1;generalize w.alloc (qO n A2 cap2)=w1 at*;have HST:=zh (zTl rs (zAb rs f) n (path++[((k+i:Nat):Int)]) op pre);obtain⟨pn,hpn⟩:∃pn,pn=path++[((k+i:Nat):Int)]:=⟨_,rfl⟩
 rw[<-hpn] at HST;have HPN:=zh hpn;clear hpn;go_wp2_with fail
 go_loopw [11,12] (fun o i wr=>∃(s:Nat) (xs:List Trm) (Ao:Option Addr) (co:Nat),s<=n.kids.length/\i=qI s/\o= .slice Ao xs.length co/\xs.length<=s/\xs.length<=co/\co<=9223372036854775807/\Hid (zDs (sltR rs (zAb rs f) n pn op pre 0) xs (sltR rs (zAb rs f) n pn op pre s))/\Hid (SlS w (qC n A2 cap2) (.slice Ao xs.length co) xs wr)) (fun _ i _=>n.kids.length -(intOf i).toNat)
 case atStart=>exact⟨0,[],none,0,by omega,rfl,rfl,Nat.le_refl _,Nat.le_refl _,by omega,zh (zDs.start _),S0⟩
 case round=>
  clear S0;obtain⟨s,xs,Ao,co,hs,rfl,rfl,hxs,hco,hcm,HSF,HS⟩:=hrel;have k03:=HS.out.k0.cell 3
  by_cases hlt:s<n.kids.length
  ·obtain⟨d,hd⟩:∃d,n.kids[s]?=some d:=⟨_,gE hlt⟩
   obtain⟨ad2,A3,cap3,rfl,hadl2,hsz3,hl3,hc3,hk3,hn3,d0,d1,d2,d3⟩:=HK.out.at_ hd;have hadw:∀o,(⟨(ad2.add (s*4)).block,o,none⟩:Addr).block<w.heap.size:=fun o=>by show(ad2.add (s*4)).block<_;rw[zA2];exact hadl2
   have hadb:∀o,(⟨(ad2.add (s*4)).block,o,none⟩:Addr).block<wr.heap.size:=fun o=>ll (hadw o) HS.out.bel.size
   have e3:=(HS.out.bel.cell (hadw ((ad2.add (s*4)).off+3))).trans d3;have HKD:=zh hk3;have HCD:=zh (zI7 hd);have HFD:=zh (zJj HFO.out HK1.out hd);have H7D:=zh (zN8 (zVn H7.out hd) (zYf HFO.out HK1.out hd));have HD:=zh hd;have HHB:=zh hadb;clear hd hk3 hn3 d0 d1 d2 d3 hadw;obtain⟨pq,hpq⟩:∃pq,pq=path++[(k:Int)+(i:Int),(s:Int)]:=⟨_,rfl⟩
   have HPQ:=zh hpq;have HPS:=zh (show pq.length=path.length+2 by rw[hpq,List.length_append];rfl);have HPT:=zh (show pn++[(s:Int)]=pq by rw[HPN.out,hpq,List.append_assoc,Int.natCast_add];rfl);clear hpq;have HPW:=zh (HP.out.keep HS.out.bel);have HRW:=zh (HR.out.keep HS.out.bel);have HGW:=zh (keep HS.out.bel HG.out);have HDW:=zh (HKD.out.keep HS.out.bel);have hki:IntKind.i64.wrap ((k:Int)+(i:Int))=(k:Int)+(i:Int):=IntWalk.i64_in _ (by have:=HK2.out;have:=HI.out;omega);go_upto_region 6 with(fail)
   refine qm [2,2,2,1,2,1,2,2,2,1,2,2,2,1,2,2,2,1,2,2,2,1,1,1,1,2] (List.replicate 26 false) (fun gx=>[qP g,qP g,qP g,.slice A rs.length cap,.pointer (some ⟨w.heap.size,3,none⟩),.slice (some ad2) n.kids.length cap2,qI (↑s),.pointer (some (ad2.add (s*4))),.pointer (some ⟨(ad2.add (s*4)).block,(ad2.add (s*4)).off+3,none⟩),.slice A3 d.kids.length cap3,qP g,qP g,.pointer (some ⟨g,2,none⟩),.slice Ap path.length cp,qP g,qP g,.pointer (some ⟨g,3,none⟩),qI (k:Int),qI (i:Int),qI ((k:Int)+(i:Int)),qI (↑s),.slice (some ⟨gx.n 53,0,none⟩) 2 2,gx.v 54,.agg #[.slice A rs.length cap,.slice A3 d.kids.length cap3,gx.v 54,qI 0,qN],qP (gx.n 56),qP (gx.n 56)]) [(21,fun gx wx=>Blk wx (gx.n 53) 3 #[qI ((k:Int)+(i:Int)),qI (s:Int)]),(22,fun gx wx=>∃A8 c8,gx.v 54= .slice A8 pq.length c8/\pq.length<=c8/\c8<=9223372036854775807/\zAr wx A8 pq),(24,fun gx wx=>Blk wx (gx.n 56) 120 #[.slice A rs.length cap,.slice A3 d.kids.length cap3,gx.v 54,qI 0,qN]/\wr.heap.size<=gx.n 56/\∃A8 c8,gx.v 54= .slice A8 pq.length c8/\pq.length<=c8/\c8<=9223372036854775807/\zAr wx A8 pq/\∀ad,A8=some ad->ad.block<gx.n 56)] (fun _ _=>True) (zA6.cons (fun gx wx w2 h hb=>keep hb h) (zA6.cons (fun gx wx w2 ⟨A8,c8,h1,h2,h3,h4⟩ hb=>⟨A8,c8,h1,h2,h3,h4.keep hb⟩) (zA6.cons (fun gx wx w2 ⟨h1,h2,A8,c8,h3,h4,h5,h6,h7⟩ hb=>⟨keep hb h1,h2,A8,c8,h3,h4,h5,h6.keep hb,h7⟩) zA6.nil))) (trivial) ?_ ?_
   ·refine⟨jC,jI,jI,jR fun gx wq hB=>(keep hB HGW.out).cell 0,jI,jR fun gx wq hB=>(keep hB HS.out.k0).cell 3,jC,fun gx wq=>?_,jI,jR fun gx wq hB=>(hB.cell (hadb ((ad2.add (s*4)).off+3))).trans e3,jC,jI,jI,jR fun gx wq hB=>(keep hB HGW.out).cell 2,jC,jI,jI,jR fun gx wq hB=>(keep hB HGW.out).cell 3,jC,fun gx wq=>?_,jC,fun gx wq hB hJ hf=>?_,fun gx wq hB hJ hf=>?_,fun gx wq hB hJ hf=>?_,fun gx wq hB hJ hf=>?_,jC,trivial⟩
    ·exact jp (.pointer (some (ad2.add (s*4)))) (by simp[go_sem,evAct,hlt];try omega) rfl
    ·exact jp (qI ((k:Int)+(i:Int))) (by simp[go_sem,evAct,hki]) rfl
    ·exact jv (.slice (some ⟨wq.heap.size,0,none⟩) 2 2) (wq.alloc (.cells #[qI ((k:Int)+(i:Int)),qI (s:Int)] 3)) (by simp[go_sem,evAct]) ⟨gx.setN 53 wq.heap.size,rfl,jD,zA0 wq _,⟨Blk.new wq _ _,jG,jG,trivial⟩,trivial⟩
    ·have f53:=jE hf.1;refine jc 85 (#[.slice Ap path.length cp,.slice (some ⟨gx.n 53,0,none⟩) 2 2]) wq (by kernel_rfl) ((zPo Ap (some ⟨gx.n 53,0,none⟩) cp 2 path [(k:Int)+(i:Int),(s:Int)] wq (HPW.out.keep hB) (zYv f53) (by have:=HPL.out;simp;omega)).mono ?_);rintro e wz ⟨v8,rfl,ho,hb⟩;obtain⟨A8,c8,rfl,hc1,hc2,hpa⟩:=zUl ho;rw[<-HPQ.out] at hc1 hpa;rw[<-HPQ.out];exact⟨_,rfl,gx.setV 54 (.slice A8 pq.length c8),rfl,jD,hb,⟨jH,⟨A8,c8,rfl,hc1,hc2,hpa⟩,jG,trivial⟩,trivial⟩
    ·have f53:=jE hf.1;have f54:=jE hf.2.1;obtain⟨A8,c8,e8,_⟩:=f54;exact jv (.agg #[.slice A rs.length cap,.slice A3 d.kids.length cap3,gx.v 54,qI 0,qN]) wq (by simp[go_sem,evAct,e8]) ⟨gx,rfl,jD,(Below.refl _ _),⟨jH,jH,jG,trivial⟩,trivial⟩
    ·have f53:=jE hf.1;have f54:=jE hf.2.1;obtain⟨A8,c8,e8,e9,e10,e11⟩:=f54;exact jv (qP wq.heap.size) (wq.alloc (.cells #[.slice A rs.length cap,.slice A3 d.kids.length cap3,gx.v 54,qI 0,qN] 120)) (by simp[go_sem,evAct,e8]) ⟨gx.setN 56 wq.heap.size,rfl,jD,zA0 wq _,⟨jH,jH,⟨Blk.new wq _ _,hB.size,A8,c8,e8,e9,e10,e11.keep (zA0 wq _),yB2 e11 (by have:=HPS.out;omega)⟩,trivial⟩,trivial⟩
   ·refine fun gx wq hB hJ hf=>?_
    dsimp only[zAh] at hf;change wpOps _ _ _ [] _ _;obtain⟨-,-,⟨hk56,hl56,A8,c8,e8,hc1,hc2,hpa,hpb⟩,-⟩:=hf;rw[e8] at hk56;rw[e8];refine zAa ?_;have HK56:=zh hk56;have HL56:=zh hl56;have HPA:=zh hpa;have HPB:=zh hpb;have HC8:=zh (And.intro hc1 hc2);clear hk56 hl56 hpa hc1 hc2 hJ e8 hpb;generalize gx.n 56=gr at*;generalize gx.n 53=n53 at*;clear gx;replace e3:=(hB.cell (hadb ((ad2.add (s*4)).off+3))).trans e3;have HWS:=zh (show w.heap.size<wr.heap.size from HS.out.k0.lt);have HAP:=zh ((HS.out.app.weak (P':=fun b=>w.heap.size<b/\b<wr.heap.size) fun b hb h=>⟨h,hb⟩).keep hB);have HVB:=zh (fun b hb=>(HS.out.app.ltT b hb).2);replace HS:=zh (HS.out.keep hB);replace HPW:=zh (HPW.out.keep hB);replace HRW:=zh (HRW.out.keep hB);replace HGW:=kp hB HGW;replace HDW:=zh (HDW.out.keep hB);have HWQ:=zh (show wr.heap.size<=wq.heap.size from hB.size);clear hB k03;generalize wq=w5 at*;go_upto_region 7 with(fail)
    go_cut [78] (fun b wc=>b= .bool (skR n op s)/\wc=w5)
    case first=>
     have k0c:=HS.out.k0.cell 0;have k5c:=HK56.out.cell 1
     by_cases s0:s=0
     case neg=>
      have q0:((s:Int)==0)=false:=by rw[beq_eq_false_iff_ne];omega
      have HK:=zh (show skR n op s=false by unfold skR zCm;rw[decide_eq_false s0];simp);clear s0;cases op
      ·by_cases n6:n.kind=6
       ·have q6:(n.kind==6)=true:=beq_iff_eq.2 n6;clear n6;go_wp2;go_meet;exact⟨by rw[HK.out],rfl⟩
       ·have q6:(n.kind==6)=false:=bn n6;clear n6;go_wp2;go_meet;exact⟨by rw[HK.out],rfl⟩
      ·by_cases n6:n.kind=6
       ·have q6:(n.kind==6)=true:=beq_iff_eq.2 n6;clear n6;go_wp2;go_meet;exact⟨by rw[HK.out],rfl⟩
       ·have q6:(n.kind==6)=false:=bn n6;clear n6;go_wp2;go_meet;exact⟨by rw[HK.out],rfl⟩
     have q0:((s:Int)==0)=true:=by rw[s0];rfl
     cases op
     case true=>
      have HK:=zh (show skR n true s=true by unfold skR;rw[decide_eq_true s0];rfl);replace s0:=zh s0;go_wp2;go_meet;exact⟨by rw[HK.out],rfl⟩
     by_cases n6:n.kind=6
     case neg=>
      have q6:(n.kind==6)=false:=bn n6;have HK:=zh (show skR n false s=false by unfold skR zCm;rw[decide_eq_false n6];rfl);replace s0:=zh s0;clear n6;go_wp2;go_meet;exact⟨by rw[HK.out],rfl⟩
     have q6:(n.kind==6)=true:=beq_iff_eq.2 n6;have hkd:∃r,n.kids=d::r:=by
      have h:=HD.out;rw[s0] at h;cases hn:n.kids with
      |nil=>rw[hn] at h;simp at h
      |cons x r=>
             rw[hn] at h;obtain rfl:x=d:=by simpa using h
             exact⟨r,rfl⟩
     obtain⟨r,hkd⟩:=hkd
     by_cases e0:d.kids.length=0
     ·have q1:((d.kids.length:Int)==0)=true:=by rw[e0];rfl
      have HK:=zh (show skR n false s=true by unfold skR zCm;rw[decide_eq_true n6,decide_eq_true s0,hkd];exact List.isEmpty_iff.2 (List.length_eq_zero_iff.1 e0));replace hkd:=zh hkd;replace s0:=zh s0;replace e0:=zh e0;clear n6;go_wp2;go_meet;exact⟨by rw[HK.out],rfl⟩
     ·have q1:((d.kids.length:Int)==0)=false:=by rw[beq_eq_false_iff_ne];omega
      have HK:=zh (show skR n false s=false by unfold skR zCm;rw[decide_eq_true n6,decide_eq_true s0,hkd];exact List.isEmpty_eq_false_iff.2 fun e=>e0 (by rw[e];rfl));replace hkd:=zh hkd;replace s0:=zh s0;replace e0:=zh e0;clear n6;go_wp2;go_meet;exact⟨by rw[HK.out],rfl⟩
    obtain⟨rfl,rfl⟩:=hcut;cases hsk:skR n op s with
    |true=>
     have HSF2:=zh (show zDs (sltR rs (zAb rs f) n pn op pre 0) xs (sltR rs (zAb rs f) n pn op pre (s+1)) by rw[<-zTw hsk];exact HSF.out);clear hsk;go_wp2;go_roundw
     case rel=>exact⟨s+1,xs,Ao,co,by omega,by go_num,rfl,by omega,hco,hcm,HSF2,HS⟩
     case measure=>simp[intOf];omega
    |false=>
     have HSF2:=zh (show zDs (sltR rs (zAb rs f) n pn op pre 0) xs ((zAb rs f d.kids pq (begR rs n op pre s)).then_ fun t=>(sltR rs (zAb rs f) n pn op pre (s+1)).then_ fun ts=>.ok (t::ts)) by rw[<-HPT.out,<-yCj hsk HD.out];exact HSF.out);have HS0:=zh (show op=true->s≠0 from fun e h=>by rw[e,h] at hsk;cases hsk);clear hsk HSF;go_upto_region 8 with(fail)
     refine qm [2,2,2,1,1,1,2,2,2,2,2] (List.replicate 11 false) (fun gx=>[qP g,qP g,qP g,.slice A rs.length cap,.agg (qC n (some ad2) cap2),.tuple #[gx.v 86,gx.v 87],.tuple #[gx.v 86,gx.v 87],gx.v 86,gx.v 87,gx.v 86,gx.v 87]) [(5,fun gx wx=>∃sb bb,gx.v 86= .string sb/\gx.v 87= .bool bb/\zDu rs n=(if bb=true then some sb else none))] (fun _ _=>True) (zA6.cons (fun gx wx w2 h hb=>h) zA6.nil) (trivial) ?_ ?_
     ·refine⟨jC,jI,jI,jR fun gx wq hB=>(keep hB HGW.out).cell 0,fun gx wq hB hJ hf=>?_,fun gx wq hB hJ hf=>?_,jC,jC,jC,jC,jC,trivial⟩
      ·have c0:=(keep hB HS.out.k0).cell 0;have c1:=(keep hB HS.out.k0).cell 1;have c2:=(keep hB HS.out.k0).cell 2;have c3:=(keep hB HS.out.k0).cell 3;exact gs (.agg (qC n (some ad2) cap2)) hJ (by kernel_rfl) (by simp[go_sem,evAct,c0,c1,c2,c3]) rfl
      ·refine jc 114 (#[.slice A rs.length cap,.agg (qC n (some ad2) cap2)]) wq (by kernel_rfl) ((zK3 A cap rs n _ wq (HRW.out.keep hB) HRN.out (HN.out.keep (HS.out.bel.trans (hB.mono HS.out.bel.size))) (zRu HFO.out)).mono ?_);rintro e wz ⟨sb,bb,rfl,hbo,hb⟩;exact⟨_,rfl,((gx.setV 86 (.string sb)).setV 87 (.bool bb)),rfl,jD,hb,⟨⟨sb,bb,rfl,rfl,hbo⟩,trivial⟩,trivial⟩
     ·refine fun gx wq hB hJ hf=>?_
      dsimp only[zAh] at hf;change wpOps _ _ _ [] _ _;obtain⟨⟨sb,bb,e86,e87,hbo⟩,-⟩:=hf;rw[e86,e87];refine zAa ?_;have HBO:=zh hbo;clear hbo e86 e87 hJ;clear gx;replace HS:=zh (HS.out.keep hB);replace HAP:=zh (HAP.out.keep hB);replace HRW:=zh (HRW.out.keep hB);replace HGW:=kp hB HGW;replace HDW:=zh (HDW.out.keep hB);replace HPA:=zh (HPA.out.keep hB);replace HK56:=kp hB HK56;replace HWQ:=zh (Nat.le_trans HWQ.out hB.size);clear hB HPW;generalize wq=w6 at*;go_upto_region 9 with(fail)
      go_cut [98] (fun b wc=>b= .bool (decide (begR rs n op pre s=2))/\wc=w6)
      case first=>
       cases op
       case false=>
        have HD2:=zh (show decide (begR rs n false pre s=2)=false from decide_eq_false (by unfold begR;rw[if_neg (fun e=>by cases e.1)];omega));go_wp2;go_meet;exact⟨by rw[HD2.out],rfl⟩
       cases pre
       case false=>
        have HD2:=zh (show decide (begR rs n true false s=2)=false from decide_eq_false (by unfold begR;rw[(zHn rs n).2,if_neg (fun e=>by cases e.2.2)];omega));go_wp2;go_meet;exact⟨by rw[HD2.out],rfl⟩
       cases bb
       case false=>
        have HD2:=zh (show decide (begR rs n true true s=2)=false from decide_eq_false (by unfold begR;rw[(zHn rs n).1,show zDu rs n=none from HBO.out,if_neg (fun e=>by cases e.2.2)];omega));go_wp2;go_meet;exact⟨by rw[HD2.out],rfl⟩
       by_cases s1:s=1
       ·have q1:((s:Int)==1)=true:=by rw[s1];rfl
        have HD2:=zh (show decide (begR rs n true true s=2)=true from decide_eq_true (by unfold begR;rw[(zHn rs n).1,show zDu rs n=some sb from HBO.out,if_pos ⟨rfl,s1,rfl⟩]));replace s1:=zh s1;go_wp2;go_meet;exact⟨by rw[HD2.out],rfl⟩
       ·have q1:((s:Int)==1)=false:=by rw[beq_eq_false_iff_ne];omega
        have HD2:=zh (show decide (begR rs n true true s=2)=false from decide_eq_false (by unfold begR;rw[if_neg (fun e=>s1 e.2.1)];omega));clear s1;go_wp2;go_meet;exact⟨by rw[HD2.out],rfl⟩
      obtain⟨rfl,rfl⟩:=hcut;generalize wc=w6 at*;clear HBO;have HBG:=zh (show begR rs n op pre s=2->3<=d.kids.length from yAu HD.out);have HBZ:=zh (show begR rs n op pre s=2\/begR rs n op pre s=0 by unfold begR;split<;>simp);generalize begR rs n op pre s=bg at*;have HGR:=zh HL56.out;go_upto_if 98 with(fail)
      go_cut [] (fun wc=>∃(A9:Option Addr) (c9:Nat),Hid (Blk wc gr 120 (lstC A cap rs A9 c9 (d.kids.drop bg) A8 c8 pq bg qN)/\zAo w A9 (d.kids.drop bg)/\(d.kids.drop bg).length<=c9/\c9<=9223372036854775807/\w6.grownBy wc (some gr)))
      case first=>
       by_cases hb2:bg=2
       ·have hd3:=HBG.out hb2;subst hb2;obtain⟨ad3,rfl⟩:∃ad3,A3=some ad3:=by
         obtain⟨ad3,h,_⟩:=HDW.out 0 _ (gE (by omega));exact⟨ad3,h⟩
        have kc:=HK56.out.cell;have kf:=HK56.out.frozen;have qk:¬(cap3=2):=by omega
        have qk2:2<=cap3:=by omega
        have qk3:2<=d.kids.length:=by omega
        have hdl:d.kids.length -2=(d.kids.drop 2).length:=by rw[List.length_drop]
        have HDL:=zh hdl;clear hdl;have hdt:decide (2=2)=true:=rfl;go_wp2;go_meet;have hg:w6.grownBy ((w6.setCell ⟨gr,1,none⟩ (.slice (some (ad3.add (2*4))) (d.kids.length -2) (cap3 -2))).setCell ⟨gr,3,none⟩ (qI 2)) (some gr):=zB6 (zA8 w6 ⟨gr,1,none⟩ _) (zA8 _ ⟨gr,3,none⟩ _);have hb:=(HK56.out.set_ 1 (.slice (some (ad3.add (2*4))) (d.kids.length -2) (cap3 -2))).set_ 3 (qI 2);rw[HDL.out] at hb hg⊢;exact⟨some (ad3.add (2*4)),cap3 -2,zh ⟨hb,zHs HKD.out 2,by rw[List.length_drop];omega,by omega,hg⟩⟩
       ·have h0:bg=0:=HBZ.out.resolve_left hb2;subst h0;clear hb2;go_wp2;go_meet;exact⟨A3,cap3,zh ⟨by rw[List.drop_zero];exact HK56.out,by rw[List.drop_zero];exact HKD.out,by rw[List.drop_zero];exact hl3,hc3,⟨rfl,rfl,rfl,Nat.le_refl _,fun _ _ _=>rfl⟩⟩⟩
      obtain⟨A9,c9,H9⟩:=hcut;have HBG2:=zh (show bg<=2 by rcases HBZ.out with h|h<;>omega);have HG9:=zh H9.out.2.2.2.2;have HA9:=zh (HAP.out.zS3 HG9.out (fun b hb e=>by have:=HVB.out b hb;have:=HGR.out;have:=sj e;omega) (fun b hb e=>by have:=hb.2;have:=HGR.out;have:=sj e;omega));have HS9:=zh (SlS.mk (HS.out.bel.grown HG9.out HS.out.bel.size fun r e=>by have:=HGR.out;have:=HWS.out;have:=sj e;omega) (HS.out.k0.grown HG9.out fun e=>by have:=HGR.out;have:=HWS.out;have:=sj e;omega) (HA9.out.weak fun b _ hb=>hb.1));have HP9:=zh (zEy HPA.out HG9.out fun ad ha _ e=>by have:=HPB.out ad ha;omega);clear HPA HAP HS HGW HDW HK56 HRW;go_wp2_with fail;refine(HLL.out d.kids pq bg A9 A8 c9 c8 gr w wc HR.out H9.out.2.1 HS9.out.bel (by have:=HGR.out;have:=HWS.out;omega) H9.out.2.2.1 H9.out.2.2.2.1 HP9.out (fun ad ha _ e=>by have:=HPB.out ad ha;omega) HC8.out.1 HC8.out.2 H9.out.1 HFD.out (by have:=HCN.out;have:=HCD.out;omega) (by have:=HPS.out;have:=HPL.out;have:=HCD.out;omega) H7D.out.1 H7D.out.2 HBG2.out).mono ?_;rintro e w8 ⟨hm,hgr⟩;have HG8:=zh hgr;have HA8:=zh (HA9.out.zS3 hgr.own (fun b hb e=>by have:=HVB.out b hb;have:=HGR.out;have:=sj e;omega) (fun b hb e=>by have:=hb.2;have:=HGR.out;have:=sj e;omega));have HB8:=zh (HS9.out.bel.trans (hgr.down HS9.out.bel.size (by have:=HGR.out;have:=HWS.out;omega)));have K08:=zh (hgr.blk HS9.out.k0 (by have:=HGR.out;have:=HWS.out;omega));have HWC:=zh (show wr.heap.size<=wc.heap.size from Nat.le_trans HWQ.out HG9.out.size);clear hgr HA9 HS9 HP9 H9;cases hM:zAb rs f d.kids pq bg with
      |bad er p=>
       rw[hM] at hm;obtain⟨gf,rfl,hff⟩:=hm;have HFF:=zh hff;have HO2:=zh (show sltF rs (zAb rs f) n pn op pre= .bad er p by rw[HST.out];exact HSF2.out.bad hM);clear hff hM;go_wp2_with fail;have hba:=zA0 w8 (.cells qT 47);exact bodyPost_ret (v:=.tuple #[qN,qP gf]) (by simp[results,Tryz.results88,go_sem]) rfl (show SltP _ _ _ _ _ by rw[<-HPN.out,HO2.out];exact⟨⟨gf,rfl,(HFF.out.keep hba).any (fun rds h e=>HAM.out s d bg p rds HD.out (by have h1:=h e;rw[HPQ.out,<-Int.natCast_add] at h1;exact h1)) fun b _ hb=>by have:=HWC.out;have:=HWS.out;omega⟩,HB8.out.trans (hba.mono HB8.out.size)⟩)
      |ok t=>
       rw[hM] at hm;obtain⟨cc,rfl,htm⟩:=hm;obtain⟨tk,ta,tv,tA,tn,tcp,tf,rfl⟩:=htm.ext;have HSF3:=zh (HSF2.out.next hM);have hba:=zA0 w8 (.cells #[qI tk,.string ta,.string tv,.slice tA tn tcp,.string tf] 47);have HT7:=zh ((htm.keep hba).any (ok':=fun b=>(Value.slice Ao xs.length co).ownBlock≠some b/\w.heap.size<b) fun b _ hb=>⟨fun e=>by have:=HVB.out b e;have:=HWC.out;omega,by have:=HWC.out;have:=HWS.out;omega⟩);have HB7:=jt HB8 hba;have K07:=kp hba K08;have HA7:=zh ((HA8.out.weak (P':=fun b=>w.heap.size<b) fun b _ hb=>hb.1).keep hba);have K7:=zh (Blk.new w8 47 #[qI tk,.string ta,.string tv,.slice tA tn tcp,.string tf]);clear htm hM hba HB8 K08 HA8 HSF2;go_upto_region 12 with(fail)
       generalize w8.heap.size=g7 at*;generalize w8.alloc (.cells #[qI tk,.string ta,.string tv,.slice tA tn tcp,.string tf] 47)=w7 at*;obtain⟨a0,a1,a2,a3,a4⟩:=qc K7;have hba:=zA0 w7 (.cells #[qI tk,.string ta,.string tv,.slice tA tn tcp,.string tf] 47);have HB9:=jt HB7 hba;have K09:=kp hba K07;have HA9:=zh (HA7.out.keep hba);have HT9:=zh (HT7.out.keep hba);have HN9:=zh (Blk.new w7 47 #[qI tk,.string ta,.string tv,.slice tA tn tcp,.string tf]);have HW7:=zh (show w.heap.size<w7.heap.size from K07.out.lt);obtain⟨css,ho,hl5,hr5⟩:=HA9.out;have hxl:xs.length<=1001:=by have:=zEz HFO.out;omega
       have HRA:=Sp.zBb HN9.out rfl (n:=5);have HTO:=zFe HT9.out;clear hba HA7 HB7 K07 HT7 HA9;go_wp2_with (at_builtin;refine zA9 _ rfl (.tmp 118) (.tmp 120) 45 rfl (w.heap.size+1) 47 i0 (.agg qT) 5 80 Tryz.underlying45 hi0 hz0 hz1 hz2 rfl (by decide) _ _ _ rfl ho _ (some ⟨w7.heap.size,0,none⟩) 1 1 (#[qI tk,.string ta,.string tv,.slice tA tn tcp,.string tf]:Array Value).toList rfl HRA HTO (by unfold maxLen;omega) (by omega) (by have:=HW7.out;simp;omega) ?_)
       intro v' wz q2 q3 q4;have HAP:=AppT.push hl5 hr5 HT9.out q2 q3 (by rw[World.size_alloc];exact q4);have hrow:∀b,(Value.slice Ao xs.length co).ownBlock=some b->w.heap.size+1<=b:=fun b hb=>(World.ownsRow.lt ho b hb).1
       have SZ:=zh (SlS.mk (HB9.out.grown q3 HB9.out.size fun r e=>by have:=hrow r e;omega) (K09.out.grown q3 fun e=>by have:=hrow _ e.symm;omega) HAP);clear HAP ho hl5 hr5 q2 q3 q4 hrow HB9 K09 HT9 HN9 a0 a1 a2 a3 a4 K7;obtain⟨A5,c5,e9,h51,h52,_⟩:=SZ.out.app.form (fun b hb=>by omega);rw[List.length_append,List.length_singleton] at e9 h51;subst e9;go_wp2;go_roundw
       case rel=>exact⟨s+1,xs++[t],A5,c5,by omega,by go_num,by rw[List.length_append,List.length_singleton],by rw[List.length_append,List.length_singleton];omega,by rw[List.length_append,List.length_singleton];exact h51,h52,HSF3,by rw[List.length_append,List.length_singleton];exact SZ⟩
       case measure=>simp[intOf];omega
  ·obtain rfl:s=n.kids.length:=by omega
   rw[zZs] at HSF;have HT:=zh HSF.out.end;obtain⟨Af,cf,e9,hcf,hcg,hts⟩:=HS.out.app.form fun b hb=>by omega
   injection e9 with e9 e10 e11;subst e9;have HTS:=zh hts;have HB:=zh HS.out.bel;clear hts e10 e11;go_wp2;exact bodyPost_ret (v:=.tuple #[.slice Ao xs.length co,.pointer none]) (by simp[results,Tryz.results88,go_sem]) rfl (show SltP _ _ _ _ _ by rw[<-HPN.out,HST.out,HT.out];exact⟨⟨_,_,rfl,hco,hcm,HTS.out.any fun b _ hb=>by omega⟩,HB.out⟩)
end Go.Proofs.YtapgncbegadbnaaGreatDoor.El
