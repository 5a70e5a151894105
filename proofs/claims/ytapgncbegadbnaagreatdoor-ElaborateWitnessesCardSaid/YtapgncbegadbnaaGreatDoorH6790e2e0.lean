/- operand: the meaning of an operand. -/
import Derived.Test.YtapgncbegadbnaaGreatDoorH9ee7ed43
set_option maxRecDepth 100000
set_option maxHeartbeats 8000000
namespace Go.Proofs.YtapgncbegadbnaaGreatDoor.El
open At Ch Sp Sy Go.RowKit
theorem zEz {n:Tre}(h:zAt n=true):n.kids.length<=256:=by
 have h:=(zEb h).2;unfold zBu at h
 split at h
 ·simp only[Bool.and_eq_true,decide_eq_true_eq] at h;omega
 ·rw[Bool.and_eq_true] at h;have h2:=h.2
  repeat' split at h2
  all_goals (try simp only[decide_eq_true_eq] at h2)
  all_goals (first|omega|cases h2)
structure OpS (w:World)(cs:Array Value)(nam frm:ByteArray)(v:Value)(xs:List Trm)(x:World):Prop where
 bel:Below w.heap.size w x
 k0:Blk x w.heap.size 25 cs
 k1:Blk x (w.heap.size+1) 47 zerC
 k2:Blk x (w.heap.size+2) 47 #[qI 4,.string nam,qE,v,.string frm]
 app:AppT (fun b=>w.heap.size+2<b) x (w.heap.size+3) v xs
theorem OpS.keep {w x x':World}{cs:Array Value}{nam frm:ByteArray}{v:Value}{xs:List Trm}(h:OpS w cs nam frm v xs x)(hb:Below x.heap.size x x'):OpS w cs nam frm v xs x':=
 ⟨h.bel.trans (hb.mono h.bel.size),jL hb h.k0,jL hb h.k1,jL hb h.k2,h.app.keep hb⟩
theorem OpS.grow {w x x':World}{cs:Array Value}{nam frm:ByteArray}{v:Value}{xs:List Trm}{g:Nat}(h:OpS w cs nam frm v xs x)(hg:x.grownBy x' (some g))(h1:w.heap.size+2<g)(h2:∀b,v.ownBlock=some b->b<g)(h3:AppT (fun b=>w.heap.size+2<b/\b<g) x (w.heap.size+3) v xs):OpS w cs nam frm v xs x':=
 ⟨h.bel.grown hg h.bel.size fun r e=>by have:=sj e;omega,h.k0.grown hg fun e=>by have:=sj e;omega,h.k1.grown hg fun e=>by have:=sj e;omega,h.k2.grown hg fun e=>by have:=sj e;omega,
  (h3.zS3 hg (fun b hb e=>by have:=h2 b hb;have:=sj e;omega) (fun b hb e=>by have:=sj e;omega)).weak fun b _ hb=>hb.1⟩
theorem zPg (g:Nat)(A:Option Addr)(cap:Nat)(rs:List Rul)(f:Nat)(HL:zV7 g A cap rs f)(n:Tre)(c:Array Value)(path:List Int)(Ap:Option Addr)(cp:Nat)(w:World)(hR:zGv w g A cap rs)(hN:zAv w n c)(hP:zAr w Ap path)(hF:zAt n=true)(hk1:n.kind≠1)(hcnt:zA7 n<=f)(hpl:path.length+zA7 n<=900000):
  Calls Tryz.prog 42 #[qP g,.agg c,.slice Ap path.length cp] w (zT4 (zCr (zAb rs f) n path) w):=by
 obtain⟨i0,hi,hz0,hz1,hz2⟩:=Sp.info_parts zEd;obtain⟨A2,cap2,rfl,hsz,hl,hc,hk⟩:=hN.form;have B1:=zA0 w (qO n A2 cap2);have s1:(w.alloc (qO n A2 cap2)).heap.size=w.heap.size+1:=by simp
 have B2:=zA0 (w.alloc (qO n A2 cap2)) (.cells zerC 47);have HB:=zh (B1.trans (B2.mono B1.size));have K0:=zh (keep B2 (Blk.new w 25 (qC n A2 cap2)));have K1:=zh (Blk.new (w.alloc (qO n A2 cap2)) 47 zerC);rw[s1] at K1;have HS2:=zh (show((w.alloc (qO n A2 cap2)).alloc (.cells zerC 47)).heap.size=w.heap.size+2 by simp);have HR:=zh hR;have HN:=zh hN;have HK:=zh hk;have HP:=zh hP;have HFO:=zh hF;have HCN:=zh hcnt;have HPL:=zh hpl;have HK1:=zh hk1;have HSZ:=zh hsz;have HLL:=zh HL;clear hR hN hk hP hF hcnt hpl hk1 hsz HL B1 B2 s1;go_enter Tryz.func42,Tryz.ntmps42;go_upto_region 1 with(fail)
 generalize (w.alloc (qO n A2 cap2)).alloc (.cells zerC 47)=w1 at*;obtain⟨k00,k01,k02,k03⟩:=qb K0;have k1c:=K1.out.cell;have k1f:=K1.out.frozen
 by_cases n2:n.kind=2
 ·have q2:(n.kind==2)=true:=beq_iff_eq.2 n2;have HO:=zh (show zCr (zAb rs f) n path= .ok ⟨.mk 2 n.text ⟨#[]⟩ ⟨#[]⟩ [],[],⟨#[]⟩,⟨#[]⟩⟩ by unfold zCr;rw[if_pos n2]);clear n2;go_wp2_with fail;obtain⟨w9,e9,KR,HB5,HG5⟩:=fin5 K1.out HB.out (by omega) (qI 2) (.string n.text) qE qN qE;rw[e9];obtain⟨r0,r1,r2,r3,r4⟩:=jF KR;exact bodyPost_ret (v:=.tuple #[.agg #[qI 2,.string n.text,qE,qN,qE],.pointer none]) (by simp[results,Tryz.results42,go_sem,r0,r1,r2,r3,r4]) rfl (show zT4 _ _ _ _ by rw[HO.out];exact⟨⟨_,rfl,TmAt.zero _ _ 2 n.text HSZ.out⟩,HB5.out⟩)
 have q2:(n.kind==2)=false:=bn n2
 by_cases n3:n.kind=3
 ·have q3:(n.kind==3)=true:=beq_iff_eq.2 n3;have HO:=zh (show zCr (zAb rs f) n path= .ok ⟨.mk 1 n.text ⟨#[]⟩ ⟨#[]⟩ [],[],⟨#[]⟩,⟨#[]⟩⟩ by unfold zCr;rw[if_neg n2,if_pos n3]);clear n2 n3;go_wp2_with fail;obtain⟨w9,e9,KR,HB5,HG5⟩:=fin5 K1.out HB.out (by omega) (qI 1) (.string n.text) qE qN qE;rw[e9];obtain⟨r0,r1,r2,r3,r4⟩:=jF KR;exact bodyPost_ret (v:=.tuple #[.agg #[qI 1,.string n.text,qE,qN,qE],.pointer none]) (by simp[results,Tryz.results42,go_sem,r0,r1,r2,r3,r4]) rfl (show zT4 _ _ _ _ by rw[HO.out];exact⟨⟨_,rfl,TmAt.zero _ _ 1 n.text HSZ.out⟩,HB5.out⟩)
 have q3:(n.kind==3)=false:=bn n3
 by_cases n4:n.kind=4
 ·have q4:(n.kind==4)=true:=beq_iff_eq.2 n4;have HO:=zh (show zCr (zAb rs f) n path= .ok ⟨.mk 3 n.text ⟨#[]⟩ ⟨#[]⟩ [],[],⟨#[]⟩,⟨#[]⟩⟩ by unfold zCr;rw[if_neg n2,if_neg n3,if_pos n4]);clear n2 n3 n4;go_wp2_with fail;obtain⟨w9,e9,KR,HB5,HG5⟩:=fin5 K1.out HB.out (by omega) (qI 3) (.string n.text) qE qN qE;rw[e9];obtain⟨r0,r1,r2,r3,r4⟩:=jF KR;exact bodyPost_ret (v:=.tuple #[.agg #[qI 3,.string n.text,qE,qN,qE],.pointer none]) (by simp[results,Tryz.results42,go_sem,r0,r1,r2,r3,r4]) rfl (show zT4 _ _ _ _ by rw[HO.out];exact⟨⟨_,rfl,TmAt.zero _ _ 3 n.text HSZ.out⟩,HB5.out⟩)
 have q4:(n.kind==4)=false:=bn n4;have HNE:=zh (show n.kids≠[] from fun e=>by
  have h:=(zEb HFO.out).2;rw[e] at h;unfold zBu at h;rw[if_neg HK1.out] at h;simp only[List.length_nil] at h;revert h
  by_cases h12:n.kind=12<;>simp[h12,n2,n3,n4])
 have HO:=zh (zVv (M:=zAb rs f) (path:=path) n2 n3 n4 HNE.out);have HSH:=zh (fun(wq:World) (hb:Below w.heap.size w wq)=>zVh n (qC n A2 cap2) wq (HN.out.keep hb) (fun _=>HNE.out) (fun e=>zHa HFO.out e) (by have:=zCp HFO.out;omega));clear n2 n3 n4;go_upto_region 9 with(fail)
 have B3:=zA0 w1 (.cells #[qI 4,qE,qE,qN,qE] 47);have K2:=zh (Blk.new w1 47 #[qI 4,qE,qE,qN,qE]);rw[HS2.out] at K2;replace HB:=jt HB B3;replace K0:=kp B3 K0;replace K1:=kp B3 K1;rw[HS2.out];clear k00 k01 k02 k03 k1c k1f B3;generalize w1.alloc (.cells #[qI 4,qE,qE,qN,qE] 47)=w2 at*;obtain⟨k00,k01,k02,k03⟩:=qb K0;have k2c:=K2.out.cell;have k2f:=K2.out.frozen;go_wp2_with fail;refine(HSH.out w2 HB.out).mono ?_;rintro e w3 ⟨rfl,hb⟩;replace HB:=jt HB hb;replace K0:=kp hb K0;replace K1:=kp hb K1;replace K2:=kp hb K2;have HSN:=zh (show(zB1 n).1.size<=2000/\(zB1 n).2.size<=2000 from zLf (zCp HFO.out) (fun e=>(zHa HFO.out e).2));clear hb k00 k01 k02 k03 k2c k2f HSH;generalize (zB1 n).1=nam at*;generalize (zB1 n).2=frm at*;have k2c:=K2.out.cell;have k2f:=K2.out.frozen;go_upto_region 10 with(fail)
 have h2:=(K2.out.set_ 1 (.string nam)).set_ 4 (.string frm);have hg2:w3.grownBy ((w3.setCell ⟨w.heap.size+2,1,none⟩ (.string nam)).setCell ⟨w.heap.size+2,4,none⟩ (.string frm)) (some (w.heap.size+2)):=zB6 (zA8 w3 ⟨w.heap.size+2,1,none⟩ (.string nam)) (zA8 _ ⟨w.heap.size+2,4,none⟩ (.string frm));have S0:=zh (OpS.mk (xs:=[]) (v:=qN) (HB.out.grown hg2 HB.out.size fun r e=>by have:=sj e;omega) (K0.out.grown hg2 fun e=>by have:=sj e;omega) (K1.out.grown hg2 fun e=>by have:=sj e;omega) h2 (AppT.nil _ _ _));clear k2c k2f h2 hg2 HB K0 K1 K2;generalize (w3.setCell ⟨w.heap.size+2,1,none⟩ (.string nam)).setCell ⟨w.heap.size+2,4,none⟩ (.string frm)=w4 at*;have k0c:=S0.out.k0.cell 3;go_wp2_with fail
 go_loopw [41] (fun i wr=>∃(s:Nat) (xs:List Trm) (v:Value),s<=n.kids.length/\i=qI s/\xs.length<=s/\Hid (zDs (zF6 (zAb rs f) n path 0) xs (zF6 (zAb rs f) n path s))/\Hid (OpS w (qC n A2 cap2) nam frm v xs wr)) (fun i _=>n.kids.length -(intOf i).toNat)
 case atStart=>exact⟨0,[],_,by omega,rfl,by simp,zh (zDs.start _),S0⟩
 case round=>
  clear S0;obtain⟨s,xs,v,hs,rfl,hxs,HSF,HS⟩:=hrel
  by_cases hlt:s<n.kids.length
  ·obtain⟨d,hd⟩:∃d,n.kids[s]?=some d:=⟨_,gE hlt⟩
   obtain⟨ad,A3,cap3,rfl,hadl,hsz3,hl3,hc3,hk3,hn3,d0,d1,d2,d3⟩:=HK.out.at_ hd;have hadb:∀o,(⟨(ad.add (s*4)).block,o,none⟩:Addr).block<w.heap.size:=fun o=>by show(ad.add (s*4)).block<_;rw[zA2];exact hadl
   have e0:=(HS.out.bel.cell (p:=ad.add (s*4)) (by rw[zA2];exact hadl)).trans d0;have e1:=(HS.out.bel.cell (hadb ((ad.add (s*4)).off+1))).trans d1;have e2:=(HS.out.bel.cell (hadb ((ad.add (s*4)).off+2))).trans d2;have e3:=(HS.out.bel.cell (hadb ((ad.add (s*4)).off+3))).trans d3;have HKD:=zh hk3;have HCD:=zh (zI7 hd);have HFD:=zh (zJj HFO.out HK1.out hd);have HD:=zh hd;clear hd hk3 hn3 d0 d1 d2 d3 hadb;go_upto_region 13 with(fail)
   have hba:=zA0 wr (qO d A3 cap3);have HWR:=zh (show w.heap.size+2<wr.heap.size from HS.out.k2.lt);have K5:=zh (Blk.new wr 25 (qC d A3 cap3));replace HS:=zh (HS.out.keep hba);clear hba e0 e1 e2 e3;generalize wr.heap.size=gd at*;generalize wr.alloc (qO d A3 cap3)=w5 at*
   go_cut [58] (fun b wc=>b= .bool (zCm n s)/\wc=w5)
   case first=>
    have k0c:=HS.out.k0.cell 0;have k5c:=K5.out.cell 3
    by_cases n6:n.kind=6
    case neg=>
     have q6:(n.kind==6)=false:=bn n6;have HK:=zh (show zCm n s=false by unfold zCm;rw[decide_eq_false n6];rfl);clear n6;go_wp2;go_meet;exact⟨by rw[HK.out],rfl⟩
    have q6:(n.kind==6)=true:=beq_iff_eq.2 n6
    by_cases s0:s=0
    case neg=>
     have q0:((s:Int)==0)=false:=by rw[beq_eq_false_iff_ne];omega
     have HK:=zh (show zCm n s=false by unfold zCm;rw[decide_eq_false s0];simp);clear n6 s0;go_wp2;go_meet;exact⟨by rw[HK.out],rfl⟩
    have q0:((s:Int)==0)=true:=by rw[s0];rfl
    have hkd:∃r,n.kids=d::r:=by
     have h:=HD.out;rw[s0] at h;cases hn:n.kids with
     |nil=>rw[hn] at h;simp at h
     |cons x r=>
            rw[hn] at h;obtain rfl:x=d:=by simpa using h
            exact⟨r,rfl⟩
    obtain⟨r,hkd⟩:=hkd
    by_cases e0:d.kids.length=0
    ·have q1:((d.kids.length:Int)==0)=true:=by rw[e0];rfl
     have HK:=zh (show zCm n s=true by unfold zCm;rw[decide_eq_true n6,decide_eq_true s0,hkd];exact List.isEmpty_iff.2 (List.length_eq_zero_iff.1 e0));replace hkd:=zh hkd;replace s0:=zh s0;replace e0:=zh e0;clear n6;go_wp2;go_meet;exact⟨by rw[HK.out],rfl⟩
    ·have q1:((d.kids.length:Int)==0)=false:=by rw[beq_eq_false_iff_ne];omega
     have HK:=zh (show zCm n s=false by unfold zCm;rw[decide_eq_true n6,decide_eq_true s0,hkd];exact List.isEmpty_eq_false_iff.2 fun e=>e0 (by rw[e];rfl));replace hkd:=zh hkd;replace s0:=zh s0;replace e0:=zh e0;clear n6;go_wp2;go_meet;exact⟨by rw[HK.out],rfl⟩
   obtain⟨rfl,rfl⟩:=hcut;cases hsk:zCm n s with
   |true=>
    have HSF2:=zh (show zDs (zF6 (zAb rs f) n path 0) xs (zF6 (zAb rs f) n path (s+1)) by rw[<-zNm hsk];exact HSF.out);clear hsk;go_wp2;go_roundw
    case rel=>exact⟨s+1,xs,v,by omega,by go_num,by omega,HSF2,HS⟩
    case measure=>simp[intOf];omega
   |false=>
    have HSF2:=zh (show zDs (zF6 (zAb rs f) n path 0) xs ((zAb rs f d.kids (path++[(s:Int)]) 0).then_ fun t=>(zF6 (zAb rs f) n path (s+1)).then_ fun ts=>.ok (t::ts)) by rw[<-zXi hsk HD.out];exact HSF.out);clear hsk HSF;obtain⟨pq,hpq⟩:∃pq,pq=path++[(s:Int)]:=⟨_,rfl⟩
    have HPQ:=zh hpq;have HPS:=zh (show pq.length=path.length+1 by rw[hpq,List.length_append];rfl);rw[<-hpq] at HSF2;clear hpq;have HPW:=zh (HP.out.keep HS.out.bel);have HRW:=zh (HR.out.keep HS.out.bel);have HDW:=zh (HKD.out.keep HS.out.bel);have HGD:=zh (show gd<wc.heap.size from K5.out.lt);go_upto_region 14 with(fail)
    refine qm [2,2,1,2,2,1,1,1,1,2,2,2,1,3,2] (List.replicate 15 false) (fun gx=>[qP g,.pointer (some ⟨gd,3,none⟩),.slice A3 d.kids.length cap3,.slice Ap path.length cp,qI (s:Int),.slice (some ⟨gx.n 65,0,none⟩) 1 1,.slice (some ⟨gx.n 66,0,none⟩) 2 2,gx.v 67,.tuple #[gx.v 68,gx.v 69],.tuple #[gx.v 68,gx.v 69],gx.v 68,gx.v 69,qP (gx.n 11),undef,gx.v 69]) [(5,fun gx wx=>Blk wx (gx.n 65) 3 #[qI (s:Int)]),(6,fun gx wx=>Blk wx (gx.n 66) 30 #[.slice Ap path.length cp,.slice (some ⟨gx.n 65,0,none⟩) 1 1]),(7,fun gx wx=>∃A8 c8,gx.v 67= .slice A8 pq.length c8/\pq.length<=c8/\c8<=9223372036854775807/\zAr wx A8 pq),(8,fun gx wx=>LRes (gx.n 68) (gx.n 69) (zAb rs f d.kids pq 0) wx (gx.v 68) (gx.v 69)/\wc.heap.size<=gx.n 68/\gx.n 68<=gx.n 69),(12,fun gx wx=>Blk wx (gx.n 11) 47 zerC/\wc.heap.size<=gx.n 11)] (fun gx wx=>(gx.n 11=0\/gx.n 11<wx.heap.size)/\gx.n 69<=wx.heap.size/\(gx.n 11=0\/gx.n 69=0\/gx.n 11<gx.n 68\/gx.n 69<=gx.n 11)) (zA6.cons (fun gx wx w2 h hb=>keep hb h) (zA6.cons (fun gx wx w2 h hb=>keep hb h) (zA6.cons (fun gx wx w2 ⟨A8,c8,h1,h2,h3,h4⟩ hb=>⟨A8,c8,h1,h2,h3,h4.keep hb⟩) (zA6.cons (fun gx wx w2 h hb=>⟨h.1.keep hb,h.2⟩) (zA6.cons (fun gx wx w2 h hb=>⟨keep hb h.1,h.2⟩) zA6.nil))))) (⟨.inl rfl,Nat.zero_le _,.inl rfl⟩) ?_ ?_
    ·refine⟨jC,jI,jR fun gx wq hB=>(keep hB K5.out).cell 3,jC,jC,fun gx wq hB hJ hf=>?_,fun gx wq hB hJ hf=>?_,fun gx wq hB hJ hf=>?_,fun gx wq hB hJ hf=>?_,jC,jC,jC,fun gx wq hB hJ hf=>?_,jC,trivial⟩
     ·exact jv (.slice (some ⟨wq.heap.size,0,none⟩) 1 1) (wq.alloc (.cells #[qI (s:Int)] 3)) (by simp[go_sem,evAct]) ⟨gx.setN 65 wq.heap.size,rfl,jD,zA0 wq _,⟨Blk.new wq _ _,jG,jG,jG,jH,trivial⟩,(by obtain⟨j1,j2,j3⟩:=hJ;have hs:=(zA0 wq (.cells #[qI (s:Int)] 3)).size;exact⟨j1.imp id (fun h=>ll h hs),Nat.le_trans j2 hs,j3⟩)⟩
     ·have f65:=jE hf.1;exact jv (.slice (some ⟨wq.heap.size,0,none⟩) 2 2) (wq.alloc (.cells #[.slice Ap path.length cp,.slice (some ⟨gx.n 65,0,none⟩) 1 1] 30)) (by simp[go_sem,evAct]) ⟨gx.setN 66 wq.heap.size,rfl,jD,zA0 wq _,⟨jH,Blk.new wq _ _,jG,jG,jH,trivial⟩,(by obtain⟨j1,j2,j3⟩:=hJ;have hs:=(zA0 wq (.cells #[.slice Ap path.length cp,.slice (some ⟨gx.n 65,0,none⟩) 1 1] 30)).size;exact⟨j1.imp id (fun h=>ll h hs),Nat.le_trans j2 hs,j3⟩)⟩
     ·have f65:=jE hf.1;have f66:=jE hf.2.1;refine jc 41 (#[.slice (some ⟨gx.n 66,0,none⟩) 2 2]) wq (by kernel_rfl) ((zJ1 (gx.n 66) (gx.n 65) Ap path cp (s:Int) wq f66 f65 (HPW.out.keep hB) (by have:=HPL.out;omega)).mono ?_);rintro e wz ⟨⟨q8,A8,c8,hq8,rfl,hc1,hc2,hpa,_⟩,hb⟩;rw[<-HPQ.out] at hq8;subst hq8;exact⟨_,rfl,gx.setV 67 (.slice A8 q8.length c8),rfl,jD,hb,⟨jH,jH,⟨A8,c8,rfl,hc1,hc2,hpa⟩,jG,jH,trivial⟩,(by obtain⟨j1,j2,j3⟩:=hJ;have hs:=hb.size;exact⟨j1.imp id (fun h=>ll h hs),Nat.le_trans j2 hs,j3⟩)⟩
     ·have f65:=jE hf.1;have f66:=jE hf.2.1;have f67:=jE hf.2.2.1;obtain⟨A8,c8,e8,hc1,hc2,hpa⟩:=f67;refine jc 21 (#[qP g,.slice A3 d.kids.length cap3,.slice A8 pq.length c8,qI 0]) wq (by simp[go_sem,evAct,e8]) ((HLL.out d.kids pq 0 A3 A8 cap3 c8 wq (HRW.out.keep hB) (HDW.out.keep hB) hl3 hc3 hpa (by have:=HPS.out;have:=HPL.out;have:=HCD.out;omega) (by have:=HCN.out;have:=HCD.out;omega) HFD.out (by omega)).mono ?_);rintro e wz hm;obtain⟨c9,f9,rfl,hres,hb⟩:=hm.res;exact⟨_,rfl,(((gx.setV 68 c9).setV 69 f9).setN 68 wq.heap.size).setN 69 wz.heap.size,rfl,jD,hb,⟨jH,jH,jH,⟨hres,hB.size,hb.size⟩,jH,trivial⟩,(by obtain⟨j1,j2,j3⟩:=hJ;exact⟨j1.imp id (fun h=>ll h hb.size),Nat.le_refl _,j1.elim .inl (fun h=>.inr (.inr (.inl h)))⟩)⟩
     ·exact jv (qP wq.heap.size) (wq.alloc (.cells zerC 47)) (by simp[go_sem]) ⟨gx.setN 11 wq.heap.size,rfl,jD,zA0 wq _,⟨jH,jH,jH,jH,⟨Blk.new wq _ _,hB.size⟩,trivial⟩,(by obtain⟨j1,j2,j3⟩:=hJ;exact⟨.inr (by show wq.heap.size<_;simp),Nat.le_trans j2 (zA0 wq (.cells zerC 47)).size,.inr (.inr (.inr j2))⟩)⟩
    ·refine fun gx wq hB hJ hf=>?_
     dsimp only[zAh] at hf;change wpOps _ _ _ [13] _ _;obtain⟨-,-,-,⟨hres,hlo,hhi⟩,⟨hk11,hl11⟩,-⟩:=hf;obtain⟨-,-,j3⟩:=hJ;have HSB:=zh (HS.out.keep hB);have HAP:=zh ((HS.out.app.weak (P':=fun b=>w.heap.size+2<b/\b<wc.heap.size) fun b hb h=>⟨h,hb⟩).keep hB);have HVB:=zh (fun b hb=>(HS.out.app.ltT b hb).2);have HK11:=zh hk11;have HN:=zh (show gx.n 11<gx.n 68\/gx.n 69<=gx.n 11 by have:=HGD.out;omega);have HL:=zh (And.intro hlo (And.intro hhi hl11));have HRES:=zh hres;have HW6:=zh hB.size;clear hres hlo hhi hk11 hl11 j3 hB HS K5 HPW HRW HDW;generalize gx.n 11=g11 at*;generalize gx.n 68=n68 at*;generalize gx.n 69=n69 at*;generalize gx.v 68=c68 at*;generalize gx.v 69=c69 at*;generalize gx.n 65=n65 at*;generalize gx.n 66=n66 at*;generalize gx.v 67=v67 at*;clear gx;generalize wq=w6 at*;have kc:=HK11.out.cell;have kf:=HK11.out.frozen;cases hM:zAb rs f d.kids pq 0 with
     |bad er p=>
      have HR2:=HRES.out;rw[hM] at HR2;obtain⟨rfl,gf,rfl,hff⟩:=HR2;have HFF:=zh hff;have HO2:=zh (show zCr (zAb rs f) n path= .bad er p by rw[HO.out,HSF2.out.bad hM];rfl);clear hff HRES hM;have HG7:=zh (zEs w6 g11 (qI 0) qE qE qN qE);refine zAu (o:=_) rfl rfl (w':=((((w6.setCell ⟨g11,0,none⟩ (qI 0)).setCell ⟨g11,1,none⟩ qE).setCell ⟨g11,2,none⟩ qE).setCell ⟨g11,3,none⟩ qN).setCell ⟨g11,4,none⟩ qE) (by simp[go_sem,kc,kf]) ?_;refine zAa ?_;clear kc kf;generalize ((((w6.setCell ⟨g11,0,none⟩ (qI 0)).setCell ⟨g11,1,none⟩ qE).setCell ⟨g11,2,none⟩ qE).setCell ⟨g11,3,none⟩ qN).setCell ⟨g11,4,none⟩ qE=w7 at*;have HS7:=zh (HSB.out.grow HG7.out (by have:=HL.out.2.2;have:=HGD.out;have:=HWR.out;omega) (fun b hb=>by have:=HVB.out b hb;have:=HL.out.2.2;omega) (HAP.out.weak fun b _ hb=>⟨hb.1,by have:=HL.out.2.2;omega⟩));have HF7:=zh ((HFF.out.grown HG7.out fun hb=>by have:=HN.out;omega).any (ok':=fun b=>w.heap.size+2<b) fun b _ hb=>by have:=HL.out.1;have:=HGD.out;have:=HWR.out;omega);clear HG7 HFF HSB HAP HK11 HVB;have k1c:=fun i=>HS7.out.k1.cell i
      have k1f:=fun i=>HS7.out.k1.frozen i
      have KK1:=zh HS7.out.k1;go_wp2_with fail;obtain⟨w9,e9,KR,HB5,HG5⟩:=fin5 KK1.out HS7.out.bel (by omega) (qI 0) qE qE qN qE;rw[e9];obtain⟨r0,r1,r2,r3,r4⟩:=jF KR;exact bodyPost_ret (v:=.tuple #[.agg qT,qP gf]) (by simp[results,Tryz.results42,go_sem,r0,r1,r2,r3,r4]) rfl (show zT4 _ _ _ _ by rw[HO2.out];exact⟨⟨gf,rfl,(HF7.out.grown HG5.out fun hb=>by omega).any fun b _ hb=>by omega⟩,HB5.out⟩)
     |ok t=>
      have HR2:=HRES.out;rw[hM] at HR2;obtain⟨cc,rfl,rfl,htt⟩:=HR2;obtain⟨tk,ta,tv,tA,tn,tcp,tf,rfl⟩:=htt.ext;have HTT:=zh htt;have HSF3:=zh (HSF2.out.next hM);clear htt HRES hM;have HG7:=zh (zEs w6 g11 (qI tk) (.string ta) (.string tv) (.slice tA tn tcp) (.string tf));have HK7:=zh (set5 HK11.out (qI tk) (.string ta) (.string tv) (.slice tA tn tcp) (.string tf));refine zAu (o:=_) rfl rfl (w':=((((w6.setCell ⟨g11,0,none⟩ (qI tk)).setCell ⟨g11,1,none⟩ (.string ta)).setCell ⟨g11,2,none⟩ (.string tv)).setCell ⟨g11,3,none⟩ (.slice tA tn tcp)).setCell ⟨g11,4,none⟩ (.string tf)) (by simp[go_sem,kc,kf]) ?_;refine zAa ?_;clear kc kf;generalize ((((w6.setCell ⟨g11,0,none⟩ (qI tk)).setCell ⟨g11,1,none⟩ (.string ta)).setCell ⟨g11,2,none⟩ (.string tv)).setCell ⟨g11,3,none⟩ (.slice tA tn tcp)).setCell ⟨g11,4,none⟩ (.string tf)=w7 at*;have HS7:=zh (HSB.out.grow HG7.out (by have:=HL.out.2.2;have:=HGD.out;have:=HWR.out;omega) (fun b hb=>by have:=HVB.out b hb;have:=HL.out.2.2;omega) (HAP.out.weak fun b _ hb=>⟨hb.1,by have:=HL.out.2.2;omega⟩));have HT7:=zh (HTT.out.grown (ok':=fun b=>v.ownBlock≠some b/\w.heap.size+2<b) HG7.out (fun b _ hb e=>by have:=sj e;have:=HN.out;omega) fun b _ hb=>⟨fun e=>by have:=HVB.out b e;have:=HL.out.1;omega,by have:=HL.out.1;have:=HGD.out;have:=HWR.out;omega⟩);clear HG7 HTT HSB HAP HK11;obtain⟨a0,a1,a2,a3,a4⟩:=qc HK7;have k23:=HS7.out.k2.cell 3;have hba:=zA0 w7 (.cells #[qI tk,.string ta,.string tv,.slice tA tn tcp,.string tf] 47);have HS8:=zh (HS7.out.keep hba);have HT8:=zh (HT7.out.keep hba);have HN8:=zh (Blk.new w7 47 #[qI tk,.string ta,.string tv,.slice tA tn tcp,.string tf]);have HMW:=zh (show w.heap.size+2<w7.heap.size from HS7.out.k2.lt);clear hba;obtain⟨css,ho,hl5,hr5⟩:=HS8.out.app;have hxl:xs.length<=1001:=by have:=zEz HFO.out;omega
      have HRA:=Sp.zBb HN8.out rfl (n:=5);have HTO:=zFe HT8.out;have hby1:(xs.length+1)*80<=maxLen:=by unfold maxLen;omega
      go_wp2_with (at_builtin;refine zA9 _ rfl (.tmp 76) (.tmp 78) 45 rfl (w.heap.size+3) 47 i0 (.agg qT) 5 80 Tryz.underlying45 hi hz0 hz1 hz2 rfl (by decide) _ _ _ rfl ho _ (some ⟨w7.heap.size,0,none⟩) 1 1 (#[qI tk,.string ta,.string tv,.slice tA tn tcp,.string tf]:Array Value).toList rfl HRA HTO (by unfold maxLen;omega) (by omega) (by have:=HMW.out;simp;omega) ?_)
      intro v' w8 q2 q3 q4;have HAP:=AppT.push hl5 hr5 HT8.out q2 q3 (by rw[World.size_alloc];exact q4);have hrow:∀b,v.ownBlock=some b->w.heap.size+3<=b:=fun b hb=>(HS8.out.app.ltT b hb).1
      have HB9:=zh (HS8.out.bel.grown q3 HS8.out.bel.size fun r e=>by have:=hrow r e;omega);have K90:=zh (HS8.out.k0.grown q3 fun e=>by have:=hrow _ e.symm;omega);have K91:=zh (HS8.out.k1.grown q3 fun e=>by have:=hrow _ e.symm;omega);have K92:=zh (HS8.out.k2.grown q3 fun e=>by have:=hrow _ e.symm;omega);have HAP9:=zh HAP;clear HAP ho hl5 hr5 q2 q3 q4 hrow HS8 HT8 HN8 a0 a1 a2 a3 a4 k23 HS7 HT7;obtain⟨A5,c5,e9,_⟩:=HAP9.out.form (fun b hb=>by omega);rw[List.length_append,List.length_singleton] at e9;subst e9;have k3:=K92.out.cell 3;have f3:=K92.out.frozen 3;have HG9:=zh (zA8 w8 ⟨w.heap.size+2,3,none⟩ (.slice A5 (xs.length+1) c5));have S9:=zh (OpS.mk (HB9.out.grown HG9.out HB9.out.size fun r e=>by have h9:w.heap.size+2=r:=sj e;omega) (K90.out.grown HG9.out fun e=>by have h9:w.heap.size=w.heap.size+2:=sj e;omega) (K91.out.grown HG9.out fun e=>by have h9:w.heap.size+1=w.heap.size+2:=sj e;omega) (K92.out.set_ 3 (.slice A5 (xs.length+1) c5)) (HAP9.out.set_ (p:=⟨w.heap.size+2,3,none⟩) (by show ¬(w.heap.size+2<w.heap.size+2);omega) (by show w.heap.size+2<w.heap.size+3;omega) (.slice A5 (xs.length+1) c5)));clear HB9 K90 K91 K92 HAP9 HG9;go_wp2;go_roundw
      case rel=>exact⟨s+1,xs++[t],_,by omega,by go_num,by rw[List.length_append,List.length_singleton];omega,HSF3,S9⟩
      case measure=>simp[intOf];omega
  ·obtain rfl:s=n.kids.length:=by omega
   rw[rest_end HNE.out] at HSF;have HT:=zh HSF.out.end;have HO2:=zh (show zCr (zAb rs f) n path= .ok ⟨.mk 4 nam ⟨#[]⟩ frm xs,[],⟨#[]⟩,⟨#[]⟩⟩ by rw[HO.out,HT.out];rfl);obtain⟨Af,cf,rfl,hcf,hcg,hts⟩:=HS.out.app.form fun b hb=>by omega
   have HTS:=zh hts;have k2c:=fun i=>HS.out.k2.cell i
   have k1c:=fun i=>HS.out.k1.cell i
   have k1f:=fun i=>HS.out.k1.frozen i
   have KK1:=zh HS.out.k1;clear hts;go_wp2_with fail;obtain⟨w9,e9,KR,HB5,HG5⟩:=fin5 KK1.out HS.out.bel (by omega) (qI 4) (.string nam) qE (.slice Af xs.length cf) (.string frm);rw[e9];obtain⟨r0,r1,r2,r3,r4⟩:=jF KR;exact bodyPost_ret (v:=.tuple #[.agg #[qI 4,.string nam,qE,.slice Af xs.length cf,.string frm],.pointer none]) (by simp[results,Tryz.results42,go_sem,r0,r1,r2,r3,r4]) rfl (show zT4 _ _ _ _ by rw[HO2.out];exact⟨⟨_,rfl,TmAt.of (by have:=HSN.out.1;omega) (by decide) (by have:=HSN.out.2;omega) hcf hcg (HTS.out.map HG5.out.size (fun b _ hb=>by omega) fun p _ ho=>World.cell?_of_block (HG5.out.block _ ‹_› fun e=>by have:=sj e;omega))⟩,HB5.out⟩)
end Go.Proofs.YtapgncbegadbnaaGreatDoor.El
