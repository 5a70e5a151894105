/- Read and Tree of the reference. -/
import Derived.Test.YtapgncbegadbnaaGreatDoorH0ad04415
import Derived.Test.YtapgncbegadbnaaGreatDoorH42fe39cf
set_option maxRecDepth 100000
set_option maxHeartbeats 8000000
namespace Go.Proofs.YtapgncbegadbnaaGreatDoor
namespace El
open At Ch Sp Sy Go.RowKit
theorem zS7 (A:Option Addr)(cap:Nat)(rs:List Rul)(hv:zAd rs=true)(hrn:rs.length<=1000):∀f,zXn A cap rs f
 |0=>fun _ _ _ _ _ _ _ _ _ _ _ _ _ _ _ _ _ _ _ _ _ _ h=>absurd h (by omega)
 |f+1=>zUz A cap rs hv hrn f (zS7 A cap rs hv hrn f)
def RdP (rs:List Rul)(n:Tre)(m:Mea Trm)(w:World)(e:Ending)(w':World):Prop:=(match m with
 | .ok t=>∃c,e= .returned (.tuple #[.agg c,.pointer none])/\TmAt (fun b=>w.heap.size<=b) w' t c
 | .bad er p=>∃gf,e= .returned (.tuple #[.agg zerC,qP gf])/\RFl (fun rds=>er=14->Amb rs n.kids [] 0 p rds) (fun b=>w.heap.size<=b) w' gf er p)/\Below w.heap.size w w'
theorem zVd (A:Option Addr)(cap:Nat)(rs:List Rul)(f:Nat)(n:Tre)(c:Array Value)(w:World)(hR:zAc w A rs)(hrn:rs.length<=1000)(hN:zAv w n c)(hf:zA4 n.kids<f)(hcn:zA7 n<=1000)(hr7:zEr n=true):
  Calls Tryz.prog 25 #[.slice A rs.length cap,.agg c] w (RdP rs n (zBh rs f n) w):=by
 obtain⟨A2,cap2,rfl,hsz,hl2,hc2,hk⟩:=hN.form;have B1:=zA0 w (qO n A2 cap2);have s1:(w.alloc (qO n A2 cap2)).heap.size=w.heap.size+1:=by simp
 have B2:=zA0 (w.alloc (qO n A2 cap2)) (.cells zerC 47);have HB:=zh (B1.trans (B2.mono B1.size));have K0:=zh (keep B2 (Blk.new w 25 (qC n A2 cap2)));have K1:=zh (Blk.new (w.alloc (qO n A2 cap2)) 47 zerC);rw[s1] at K1;have HR0:=zh hR;have HN0:=zh hN;have HK0:=zh hk;have HF:=zh hf;have HCN:=zh hcn;have HR7:=zh hr7;clear hR hN hk hf hsz B1 B2 s1 hcn hr7;go_enter Tryz.func25,Tryz.ntmps25;go_upto_region 1 with(fail)
 generalize (w.alloc (qO n A2 cap2)).alloc (.cells zerC 47)=w1 at*;cases hv:zAd rs with
 |false=>
  have HV:=zh hv;have HO:=zh (show zBh rs f n= .bad 1 [] by unfold zBh;rw[hv];rfl);clear hv;obtain⟨n0,n1,n2,n3⟩:=qb K0;go_wp2_with fail;refine(Go.Proofs.YtapgncbegadbnaaGreatDoor.zB8 A cap rs w1 (HR0.out.keep HB.out) (by omega)).mono ?_;rintro e w2 ⟨rfl,hb⟩;replace HB:=jt HB hb;replace K0:=kp hb K0;replace K1:=kp hb K1;clear hb n0 n1 n2 n3;rw[HV.out];have hba:=zA0 w2 (.cells #[qI 1,qN,qN] 71);have HBF:=jt HB hba;have K1F:=kp hba K1;have HKF:=zh (Blk.new w2 71 #[qI 1,qN,qN]);have HWF:=zh (show w.heap.size+1<w2.heap.size from K1.out.lt);have kc:=K1F.out.cell;have kf:=K1F.out.frozen;go_wp2_with fail;obtain⟨w9,e9,KR,HB5,HG5⟩:=fin5 K1F.out HBF.out (by omega) (qI 0) qE qE qN qE;rw[e9];obtain⟨r0,r1,r2,r3,r4⟩:=jF KR;exact bodyPost_ret (v:=.tuple #[.agg qT,qP w2.heap.size]) (by simp[results,Tryz.results25,go_sem,r0,r1,r2,r3,r4]) rfl (show RdP _ _ _ _ _ _ by rw[HO.out];exact⟨⟨_,rfl,none,0,none,0,[],HKF.out.grown HG5.out (fun e=>by have:=sj e;have:=HWF.out;omega),Nat.le_refl _,by omega,zDw,by have:=HWF.out;omega,fun ad h=>(by cases h),Nat.le_refl _,by omega,zAp.nil _ _ _,fun e=>absurd e (by decide)⟩,HB5.out⟩)
 |true=>
  have HV:=zh hv;cases ht:zBa n with
  |false=>
   have HT:=zh ht;have HO:=zh (show zBh rs f n= .bad 1 [] by unfold zBh;rw[hv,ht];rfl);clear hv ht;obtain⟨n0,n1,n2,n3⟩:=qb K0;go_wp2_with fail;refine(Go.Proofs.YtapgncbegadbnaaGreatDoor.zB8 A cap rs w1 (HR0.out.keep HB.out) (by omega)).mono ?_;rintro e w2 ⟨rfl,hb⟩;replace HB:=jt HB hb;replace K0:=kp hb K0;replace K1:=kp hb K1;clear hb n0 n1 n2 n3;rw[HV.out];obtain⟨n0,n1,n2,n3⟩:=qb K0;go_wp2_with fail;refine(At.zB8 n _ w2 (by have:=HCN.out;omega) (HN0.out.keep HB.out)).mono ?_;rintro e wq ⟨rfl,hb⟩;replace HB:=jt HB hb;replace K0:=kp hb K0;replace K1:=kp hb K1;clear hb n0 n1 n2 n3;generalize wq=w2 at*;rw[HT.out];have hba:=zA0 w2 (.cells #[qI 1,qN,qN] 71);have HBF:=jt HB hba;have K1F:=kp hba K1;have HKF:=zh (Blk.new w2 71 #[qI 1,qN,qN]);have HWF:=zh (show w.heap.size+1<w2.heap.size from K1.out.lt);have kc:=K1F.out.cell;have kf:=K1F.out.frozen;go_wp2_with fail;obtain⟨w9,e9,KR,HB5,HG5⟩:=fin5 K1F.out HBF.out (by omega) (qI 0) qE qE qN qE;rw[e9];obtain⟨r0,r1,r2,r3,r4⟩:=jF KR;exact bodyPost_ret (v:=.tuple #[.agg qT,qP w2.heap.size]) (by simp[results,Tryz.results25,go_sem,r0,r1,r2,r3,r4]) rfl (show RdP _ _ _ _ _ _ by rw[HO.out];exact⟨⟨_,rfl,none,0,none,0,[],HKF.out.grown HG5.out (fun e=>by have:=sj e;have:=HWF.out;omega),Nat.le_refl _,by omega,zDw,by have:=HWF.out;omega,fun ad h=>(by cases h),Nat.le_refl _,by omega,zAp.nil _ _ _,fun e=>absurd e (by decide)⟩,HB5.out⟩)
  |true=>
   have HT:=zh ht;have HO:=zh (show zBh rs f n=match zAb rs f n.kids [] 0 with
    | .ok t=>if zCs t=true then .ok t else .bad 6 [0]
    | .bad e p=>.bad e p by unfold zBh;rw[hv,ht];rfl)
   have HFL:=zh (zC3 ht).2.2.2;have H7:=zh (zN8 HR7.out (zC3 ht).1);have HCT:=zh (show zA4 n.kids<1000 from by have h2:=zCz n;have:=HCN.out;omega);clear hv ht;obtain⟨n0,n1,n2,n3⟩:=qb K0;go_wp2_with fail;refine(Go.Proofs.YtapgncbegadbnaaGreatDoor.zB8 A cap rs w1 (HR0.out.keep HB.out) (by omega)).mono ?_;rintro e w2 ⟨rfl,hb⟩;replace HB:=jt HB hb;replace K0:=kp hb K0;replace K1:=kp hb K1;clear hb n0 n1 n2 n3;rw[HV.out];obtain⟨n0,n1,n2,n3⟩:=qb K0;go_wp2_with fail;refine(At.zB8 n _ w2 (by have:=HCN.out;omega) (HN0.out.keep HB.out)).mono ?_;rintro e wq ⟨rfl,hb⟩;replace HB:=jt HB hb;replace K0:=kp hb K0;replace K1:=kp hb K1;clear hb n0 n1 n2 n3;generalize wq=w2 at*;rw[HT.out];have n3:=K0.out.cell 3;go_upto_region 4 with(fail)
   have hba:=zA0 w2 (.cells (lstC A cap rs A2 cap2 n.kids none 0 [] 0 qN) 120);have KL:=zh (show Blk (w2.alloc (.cells (lstC A cap rs A2 cap2 n.kids none 0 [] 0 qN) 120)) w2.heap.size 120 (lstC A cap rs A2 cap2 (n.kids.drop 0) none 0 [] 0 qN) from Blk.new w2 _ _);have HBA:=zh hba;have HBL:=jt HB hba;have K1L:=kp hba K1;have HWL:=zh (show w.heap.size+1<w2.heap.size from K1.out.lt);clear hba n3 K0 K1;change Code.wp _ _ _ _ (w2.alloc (.cells (lstC A cap rs A2 cap2 n.kids none 0 [] 0 qN) 120));generalize w2.alloc (.cells (lstC A cap rs A2 cap2 n.kids none 0 [] 0 qN) 120)=w3 at*;go_wp2_with fail;refine(zS7 A cap rs HV.out hrn f n.kids [] 0 A2 none cap2 0 w2.heap.size w2 w3 (HR0.out.keep HB.out) (by rw[List.drop_zero];exact HK0.out.keep HB.out) HBA.out (Nat.le_refl _) hl2 hc2 zDw (fun ad h=>by cases h) (Nat.le_refl _) (by omega) KL.out HFL.out HF.out (by have:=HCT.out;simp only[List.length_nil];omega) H7.out.1 H7.out.2 (by omega)).mono ?_;rintro e w4 ⟨hm,hgr⟩;have HB4:=zh (HBL.out.trans (hgr.down HBL.out.size (by have:=HWL.out;omega)));have K14:=zh (hgr.blk K1L.out (by have:=HWL.out;omega));have HW3:=zh (show w.heap.size<=w3.heap.size from HBL.out.size);have HW31:=zh (show w.heap.size+1<w3.heap.size from K1L.out.lt);clear hgr KL HBL K1L HB;cases hM:zAb rs f n.kids [] 0 with
   |bad er p=>
    rw[hM] at hm;obtain⟨gf,rfl,hff⟩:=hm;have hba:=zA0 w4 (.cells qT 47);have HFF:=zh (hff.keep hba);have K7:=zh (Blk.new w4 47 qT);have HB7:=jt HB4 hba;have K17:=kp hba K14;have HO2:=zh (show zBh rs f n= .bad er p by rw[HO.out,hM]);clear hff hM hba;go_upto_region 5 with(fail)
    generalize w4.heap.size=g7 at*;generalize w4.alloc (.cells qT 47)=w7 at*;obtain⟨k70,k71,k72,k73,k74⟩:=qc K7;have kc:=K17.out.cell;have kf:=K17.out.frozen;go_wp2_with fail;obtain⟨w9,e9,KR,HB5,HG5⟩:=fin5 K17.out HB7.out (by omega) (qI 0) qE qE qN qE;rw[e9];obtain⟨r0,r1,r2,r3,r4⟩:=jF KR;exact bodyPost_ret (v:=.tuple #[.agg qT,qP gf]) (by simp[results,Tryz.results25,go_sem,r0,r1,r2,r3,r4]) rfl (show RdP _ _ _ _ _ _ by rw[HO2.out];exact⟨⟨gf,rfl,(HFF.out.grown HG5.out fun hb=>by have:=HW31.out;omega).any (fun _ h=>h) fun b _ hb=>by have:=HW3.out;omega⟩,HB5.out⟩)
   |ok t=>
    rw[hM] at hm;obtain⟨cc,rfl,htm⟩:=hm;obtain⟨tk,ta,tv,tA,tn,tcp,tf,rfl⟩:=htm.ext;have hba:=zA0 w4 (.cells #[qI tk,.string ta,.string tv,.slice tA tn tcp,.string tf] 47);have HTM:=zh ((htm.keep hba).any (ok':=fun b=>w.heap.size+1<b) fun b _ h=>by have:=HW31.out;omega);have K7:=zh (Blk.new w4 47 #[qI tk,.string ta,.string tv,.slice tA tn tcp,.string tf]);have HB7:=jt HB4 hba;have K17:=kp hba K14;have HCM:=zh (show cntM t<=1000000 by have h1:=zR2 rs f n.kids [] 0 t hM;have:=HCT.out;omega);have HO2:=zh (show zBh rs f n=if zCs t=true then .ok t else .bad 6 [0] by rw[HO.out,hM]);have HW4:=zh (show w.heap.size+1<w4.heap.size from K14.out.lt);clear htm hM hba HB4 K14;go_upto_region 5 with(fail)
    generalize w4.heap.size=g7 at*;generalize w4.alloc (.cells #[qI tk,.string ta,.string tv,.slice tA tn tcp,.string tf] 47)=w7 at*;obtain⟨k70,k71,k72,k73,k74⟩:=qc K7;go_wp2_with fail;refine(Sp.zB8 t _ w7 HCM.out HTM.out.mat).mono ?_;rintro e w8 ⟨rfl,hb⟩;replace HB7:=jt HB7 hb;replace K17:=kp hb K17;replace K7:=kp hb K7;replace HTM:=zh (HTM.out.keep hb);clear hb k70 k71 k72 k73 k74;obtain⟨k70,k71,k72,k73,k74⟩:=qc K7;cases hvm:zCs t with
    |true=>
     have HO3:=zh (show zBh rs f n= .ok t by rw[HO2.out,if_pos hvm]);clear hvm;have kc:=K17.out.cell;have kf:=K17.out.frozen;go_wp2_with fail;obtain⟨w9,e9,KR,HB5,HG5⟩:=fin5 K17.out HB7.out (by omega) (qI tk) (.string ta) (.string tv) (.slice tA tn tcp) (.string tf);rw[e9];obtain⟨r0,r1,r2,r3,r4⟩:=jF KR;exact bodyPost_ret (v:=.tuple #[.agg #[qI tk,.string ta,.string tv,.slice tA tn tcp,.string tf],.pointer none]) (by simp[results,Tryz.results25,go_sem,r0,r1,r2,r3,r4]) rfl (show RdP _ _ _ _ _ _ by rw[HO3.out];exact⟨⟨_,rfl,(HTM.out.grown (ok':=fun b=>w.heap.size+1<b) HG5.out (fun b _ hb e=>by have:=sj e;omega) (fun _ _ h=>h)).any fun b _ hb=>by omega⟩,HB5.out⟩)
    |false=>
     have HO3:=zh (show zBh rs f n= .bad 6 [0] by rw[HO2.out,if_neg (by rw[hvm];decide)]);clear hvm k70 k71 k72 k73 k74;have hba:=zA0 w8 (.cells #[qI 0] 3);have HPZ:=zh (zO1 w8);have HB8:=jt HB7 hba;have K18:=kp hba K17;have HW8:=zh (show w.heap.size+1<w8.heap.size from K17.out.lt);have hbf:=zA0 (w8.alloc (.cells #[qI 0] 3)) (.cells #[qI 6,.slice (some ⟨w8.heap.size,0,none⟩) 1 1,qN] 71);have HB9:=jt HB8 hbf;have K19:=kp hbf K18;have HKF:=zh (Blk.new (w8.alloc (.cells #[qI 0] 3)) 71 #[qI 6,.slice (some ⟨w8.heap.size,0,none⟩) 1 1,qN]);have HPF:=zh (HPZ.out.keep hbf);have kc:=K19.out.cell;have kf:=K19.out.frozen;clear hba hbf;go_wp2_with fail;obtain⟨w9,e9,KR,HB5,HG5⟩:=fin5 K19.out HB9.out (by omega) (qI 0) qE qE qN qE;rw[e9];obtain⟨r0,r1,r2,r3,r4⟩:=jF KR;exact bodyPost_ret (v:=.tuple #[.agg qT,.pointer (some ⟨(w8.alloc (.cells #[qI 0] 3)).heap.size,0,none⟩)]) (by simp[results,Tryz.results25,go_sem,r0,r1,r2,r3,r4]) rfl (show RdP _ _ _ _ _ _ by rw[HO3.out];exact⟨⟨_,rfl,some ⟨w8.heap.size,0,none⟩,1,none,0,[],HKF.out.grown HG5.out (fun e=>by have:=sj e;rw[World.size_alloc] at this;have:=HW8.out;omega),Nat.le_refl _,by omega,zEy HPF.out HG5.out (fun ad ha _ e=>by cases ha;have h9:w8.heap.size=w.heap.size+1:=e;have:=HW8.out;omega),by rw[World.size_alloc];have:=HW8.out;omega,fun ad ha _=>by cases ha;show w.heap.size<=w8.heap.size;have:=HW8.out;omega,Nat.le_refl _,by omega,zAp.nil _ _ _,fun e=>absurd e (by decide)⟩,HB5.out⟩)
end El
namespace Rn
open At Ch Sp Sy El Go.RowKit
theorem yAz {rs:List Rul}{n:Tre}{p:List Int}{rds:List Rd}(h:Amb rs n.kids [] 0 p rds):∃x y,rds=[x,y]/\WitR rs n p x y:=by
 obtain⟨pth,j,r,ts,x,y,zs,h3,h4,h5,h6,h7⟩:=zRs h n n rfl rfl;exact⟨x,y,h7,pth,j,r,ts,zs,h3,h4,h5,h6⟩
theorem zQi (A:Option Addr)(cap:Nat)(rs:List Rul)(f:Nat)(n:Tre)(c:Array Value)(w:World)(hR:zAc w A rs)(hrn:rs.length<=1000)(hN:zAv w n c)(hf:zA4 n.kids<f)(hcn:zA7 n<=1000)(hr7:zEr n=true):
  Calls Tryz.prog 8 #[.slice A rs.length cap,.agg c] w (WtP rs n (zBh rs f n) w):=by
 obtain⟨A2,cap2,rfl,hsz,hl2,hc2,hk⟩:=hN.form;have B1:=zA0 w (qO n A2 cap2);have HB:=zh B1;have K0:=zh (Blk.new w 25 (qC n A2 cap2));have HR1:=zh (hR.keep B1);have HN1:=zh (hN.keep B1);have HF:=zh hf;have HCN:=zh hcn;have H7:=zh hr7;clear hR hN hk hf hsz B1 hcn hr7;go_enter Tryz.func8,Tryz.ntmps8;go_upto_region 1 with(fail)
 generalize w.alloc (qO n A2 cap2)=w1 at*;obtain⟨n0,n1,n2,n3⟩:=qb K0;go_wp2_with fail;refine(zVd A cap rs f n _ w1 HR1.out hrn HN1.out HF.out HCN.out H7.out).mono ?_;rintro e w4 ⟨hm,hb⟩;replace HB:=jt HB hb;clear hb n0 n1 n2 n3 HN1 HR1 K0;cases hM:zBh rs f n with
 |ok t=>
  have HM:=zh hM;rw[hM] at hm;obtain⟨cc,rfl,htt⟩:=hm;obtain⟨tk,ta,tv,tA,tn,tcp,tf,rfl⟩:=htt.ext;have HX:=zh (zA0 w4 (.cells #[qI tk,.string ta,.string tv,.slice tA tn tcp,.string tf] 47));clear htt hM;go_wp2;exact bodyPost_ret (v:=.tuple #[qN,qN,qI 8]) (by simp[results,Tryz.results8,go_sem]) rfl (WtP.none (fun p h=>by rw[HM.out] at h;cases h) (by rw[HM.out];rfl) (HB.out.trans (HX.out.mono HB.out.size)))
 |bad er p=>
  have HM:=zh hM;rw[hM] at hm;clear hM;obtain⟨gf,rfl,Ap,cp,Ar,cr,rds,hkf,hpc,hpm,hpa,-,-,hrc,hrm,hrd,hq⟩:=hm;have hba:=zA0 w4 (.cells qT 47);have HKF:=zh (keep hba hkf);have HPA:=zh (hpa.keep hba);have HRDS:=zh (hrd.keep hba);have HQ:=zh hq;replace HB:=jt HB hba;clear hkf hpa hrd hq hba;go_upto_region 2 with(fail)
  generalize w4.alloc (.cells qT 47)=w5 at*;obtain⟨f0,f1,f2⟩:=qa HKF
  by_cases h1:er=1
  ·subst h1;go_wp2;exact bodyPost_ret (v:=.tuple #[qN,qN,qI 1]) (by simp[results,Tryz.results8,go_sem]) rfl (WtP.none (fun p h=>by rw[HM.out] at h;cases h) (by rw[HM.out];rfl) HB.out)
  by_cases h14:er=14
  ·subst h14;obtain⟨x,y,rfl,hw⟩:=yAz (HQ.out rfl);have HW:=zh hw;have hr2:2<=cr:=hrc;clear hw hrc HQ h1;go_wp2_with fail
   go_quiet (fail)
   have hdb:=below_drewN (Below.refl w5.heap.size w5) nq;replace HRDS:=zh (HRDS.out.keep hdb);replace HPA:=zh (HPA.out.keep hdb);replace HB:=jt HB hdb;clear hdb f0 f1 f2;generalize w5.drewN nq=wz at*;go_wp2;exact bodyPost_ret (v:=.tuple #[.slice Ar 2 cr,.slice Ap p.length cp,qI 0]) (by simp[results,Tryz.results8,go_sem]) rfl ⟨.inl ⟨p,x,y,HM.out,HW.out,Ar,cr,Ap,cp,rfl,hr2,hrm,HRDS.out.any fun _ _ _=>trivial,HPA.out,hpc,hpm⟩,HB.out⟩
  ·have q1:(er==(1:Int))=false:=bn h1;have q2:(er==(14:Int))=false:=bn h14;have q3:(er !=(1:Int))=true:=by rw[bne,q1];rfl
   have q4:(er !=(14:Int))=true:=by rw[bne,q2];rfl
   have HO:=zh (show ∀q,zBh rs f n≠ .bad 14 q from fun q h=>by rw[HM.out] at h;injection h with h _;exact h14 h);have HO3:=zh (show(witF (zBh rs f n)).1=8 by rw[HM.out];unfold witF;dsimp only;rw[if_neg h1,if_neg h14]);clear h1 h14;go_wp2;exact bodyPost_ret (v:=.tuple #[qN,qN,qI 8]) (by simp[results,Tryz.results8,go_sem]) rfl (WtP.none HO.out HO3.out HB.out)
end Rn
namespace El
open At Ch Sp Sy Go.RowKit
def rowT (l:List Tre):Tre:=.mk 1 ⟨#[]⟩ 0 l
def TokP (rs:List Rul)(l:List Tre)(w:World)(e:Ending)(w':World):Prop:=(if(zAd rs&&zBa (rowT l))=true then(match zB2 rs l with
 | .inl ts=>∃v,e= .returned (.tuple #[v,qI 0,qI 0])/\zBq w' w.heap.size v ts
 | .inr i=>e= .returned (.tuple #[qN,qI (i:Int),qI 15])) else e= .returned (.tuple #[qN,qI 0,qI 1]))/\Below w.heap.size w w'
theorem zZy {l:List Tre}(h:zBa (rowT l)=true):∀n∈l,scrB n.kind=true->n.kids≠[]:=by
 intro n hn hs;have hf:zC2 1 l=true:=by
  unfold zBa rowT at h;simp only[Bool.and_eq_true] at h;have h2:=h.2.1;rw[zAt,Bool.and_eq_true] at h2;exact h2.2
 have key:∀(ts:List Tre),zC2 1 ts=true->n∈ts->zAt n=true:=by
  intro ts
  induction ts with
  |nil=>intro _ h;cases h
  |cons x ts ih=>
   intro h hm;rw[zC2] at h;simp only[Bool.and_eq_true] at h;rcases List.mem_cons.1 hm with rfl|hm
   ·exact h.2.1
   ·exact ih h.2.2 hm
 have h3:=key l hf hn;obtain⟨k,s,c,ks⟩:=n;rw[zAt,Bool.and_eq_true,ownT,Bool.and_eq_true] at h3;have h4:=h3.1.2;unfold scrB at hs;have hk:k=7\/k=8\/k=9:=of_decide_eq_true hs;rintro(e:ks=[]);rw[e] at h4;unfold zBu at h4;rw[if_neg (by omega),Bool.and_eq_true,if_neg (by omega),if_neg (by omega)] at h4;rcases hk with hk|hk|hk
 ·rw[if_pos (by omega)] at h4;exact absurd (of_decide_eq_true h4.2) (by simp)
 ·rw[if_pos (by omega)] at h4;exact absurd (of_decide_eq_true h4.2) (by simp)
 ·rw[if_neg (by omega),if_pos hk] at h4;exact absurd (of_decide_eq_true h4.2) (by simp)
theorem zW9 (A A1:Option Addr)(cap cap1:Nat)(rs:List Rul)(l:List Tre)(w:World)(hR:zAc w A rs)(hrn:rs.length<=1000000)(hK:zAo w A1 l)(hlc:l.length<=cap1)(hlm:cap1<=9223372036854775807)(hln:l.length<=1000000)(hct:zA4 l<900000):Calls Tryz.prog 11 #[.slice A rs.length cap,.slice A1 l.length cap1] w (TokP rs l w):=by
 have HR:=zh hR;have HK:=zh hK;clear hR hK;go_enter Tryz.func11,Tryz.ntmps11;go_upto_region 1 with(fail)
 cases hv:zAd rs with
 |false=>
  have HV:=zh hv;have HO:=zh (show ¬((zAd rs&&zBa (rowT l))=true) by rw[hv];simp);clear hv;go_wp2_with fail;refine(Go.Proofs.YtapgncbegadbnaaGreatDoor.zB8 A cap rs w (HR.out) hrn).mono ?_;rintro e wa ⟨rfl,hB⟩;rw[HV.out];generalize wa=wq at*;have HB:=zh (show Below w.heap.size w wq from hB);clear hB;generalize wq=w2 at*;go_wp2;exact bodyPost_ret (v:=.tuple #[qN,qI 0,qI 1]) (by simp[results,Tryz.results11,go_sem]) rfl (show TokP _ _ _ _ _ by unfold TokP;rw[if_neg HO.out];exact⟨rfl,HB.out⟩)
 |true=>
  have HV:=zh hv;cases ht:zBa (rowT l) with
  |false=>
   have HT:=zh ht;have HO:=zh (show ¬((zAd rs&&zBa (rowT l))=true) by rw[ht];simp);clear hv ht;go_wp2_with fail;refine(Go.Proofs.YtapgncbegadbnaaGreatDoor.zB8 A cap rs w (HR.out) hrn).mono ?_;rintro e wa ⟨rfl,hB⟩;rw[HV.out];go_wp2_with fail;refine(zL9 A1 cap1 l wa (HK.out.keep hB) hlc hlm hct).mono ?_;rintro e wq ⟨rfl,hC⟩;rw[show Tre.mk 1 ⟨#[]⟩ 0 l=rowT l from rfl,HT.out];replace hB:=hB.trans (hC.mono hB.size);clear hC;have HB:=zh (show Below w.heap.size w wq from hB);clear hB;generalize wq=w2 at*;go_wp2;exact bodyPost_ret (v:=.tuple #[qN,qI 0,qI 1]) (by simp[results,Tryz.results11,go_sem]) rfl (show TokP _ _ _ _ _ by unfold TokP;rw[if_neg HO.out];exact⟨rfl,HB.out⟩)
  |true=>
   have HT:=zh ht;have HO:=zh (show(zAd rs&&zBa (rowT l))=true by rw[hv,ht];rfl);clear hv ht;go_wp2_with fail;refine(Go.Proofs.YtapgncbegadbnaaGreatDoor.zB8 A cap rs w (HR.out) hrn).mono ?_;rintro e wa ⟨rfl,hB⟩;rw[HV.out];go_wp2_with fail;refine(zL9 A1 cap1 l wa (HK.out.keep hB) hlc hlm hct).mono ?_;rintro e wq ⟨rfl,hC⟩;rw[show Tre.mk 1 ⟨#[]⟩ 0 l=rowT l from rfl,HT.out];replace hB:=hB.trans (hC.mono hB.size);clear hC;have HB:=zh (show Below w.heap.size w wq from hB);clear hB;generalize wq=w2 at*;go_wp2_with fail;refine(zJs A A1 cap cap1 rs l w2 (HR.out.keep HB.out) hrn (HK.out.keep HB.out) (zZy HT.out) hln).mono ?_;rintro e w4 ⟨hm,hb⟩;have HB4:=jt HB hb;have HBZ:=zh HB.out.size;clear hb;cases htk:zB2 rs l with
   |inr ib=>
    rw[htk] at hm;subst hm;have HQ:=zh htk;clear htk;go_wp2;exact bodyPost_ret (v:=.tuple #[qN,qI (ib:Int),qI 15]) (by simp[results,Tryz.results11,go_sem]) rfl (show TokP _ _ _ _ _ by unfold TokP;rw[if_pos HO.out,HQ.out];exact⟨rfl,HB4.out⟩)
   |inl ts=>
    rw[htk] at hm;obtain⟨v,rfl,ho⟩:=hm;have HQ:=zh htk;have HV4:=zh (Ch.zG0 ho HBZ.out);clear htk ho;go_wp2;exact bodyPost_ret (v:=.tuple #[v,qI 0,qI 0]) (by simp[results,Tryz.results11,go_sem]) rfl (show TokP _ _ _ _ _ by unfold TokP;rw[if_pos HO.out,HQ.out];exact⟨⟨_,rfl,HV4.out⟩,HB4.out⟩)
end El
namespace Ch
variable{y z y' z':Rd}{r a b:Int}{rs:List Rul}{l:List Rd}
def zIi (a b:Int):Int:=if a<b then -1 else if b<a then 1 else 0
def zIt (x y:Rd):Int:=
 if zIi x.rule y.rule≠0 then zIi x.rule y.rule
 else if zIi x.kids.length y.kids.length≠0 then zIi x.kids.length y.kids.length
 else match x.kids.getLast?,y.kids.getLast? with
  |some a,some b=>zIi a.at_ b.at_
  |_,_=>0
mutual
def cmpR:Rd->Rd->Int
 | .mk r a ks,.mk r' a' ks'=>if zIt (.mk r a ks) (.mk r' a' ks')≠0 then zIt (.mk r a ks) (.mk r' a' ks') else cmpL ks ks'
def cmpL:List Rd->List Rd->Int
 |x::xs,y::ys=>if cmpR x y≠0 then cmpR x y else cmpL xs ys
 |_,_=>0
end
theorem zDl (a:Int):zIi a a=0:=by unfold zIi;rw[if_neg (by omega),if_neg (by omega)]
theorem zV8 (x:Rd):zIt x x=0:=by
 unfold zIt;rw[zDl,zDl];cases x.kids.getLast?<;>simp[zDl]
theorem zKp (x y:Rd):cmpR x y=if zIt x y≠0 then zIt x y else cmpL x.kids y.kids:=by
 obtain⟨r,a,ks⟩:=x;obtain⟨r',a',ks'⟩:=y;rw[cmpR];rfl
mutual
theorem zMj:∀x:Rd,cmpR x x=0
 | .mk r a ks=>by
  rw[cmpR,zV8];simp[zNu ks]
theorem zNu:∀l:List Rd,cmpL l l=0
 |[]=>by rw[cmpL];intros;simp_all
 |x::l=>by
  rw[cmpL,zMj x];simp[zNu l]
end
def Lt (x y:Rd):Prop:=cmpR x y= -1
theorem zW6 {x:Rd}(h:x.rule<y.rule):Lt x y:=by
 unfold Lt;rw[zKp];have e:zIi x.rule y.rule= -1:=by unfold zIi;rw[if_pos h]
 have e2:zIt x y= -1:=by unfold zIt;rw[e];rfl
 rw[e2];rfl
theorem zM6 :zIt (.mk r a [y,z]) (.mk r a [y',z'])=zIi z.at_ z'.at_:=by
 unfold zIt;simp only[Rd.rule,Rd.kids,zDl,List.length_cons,List.length_nil];simp
theorem zZp :zIt (.mk r a [y]) (.mk r a [y'])=zIi y.at_ y'.at_:=by
 unfold zIt;simp only[Rd.rule,Rd.kids,zDl,List.length_cons,List.length_nil];simp
theorem zU2 (h:z.at_<z'.at_):Lt (.mk r a [y,z]) (.mk r a [y',z']):=by
 unfold Lt;have e:zIi z.at_ z'.at_= -1:=by unfold zIi;rw[if_pos h]
 rw[zKp,zM6,e];rfl
theorem zYe (ha:z.at_=z'.at_)(h:Lt y y'):Lt (.mk r a [y,z]) (.mk r a [y',z']):=by
 unfold Lt at*;rw[zKp,zM6,ha,zDl];simp only[Rd.kids,cmpL];rw[h];rfl
theorem zUs (ha:z.at_=z'.at_)(h:Lt z z'):Lt (.mk r a [y,z]) (.mk r a [y,z']):=by
 unfold Lt at*;rw[zKp,zM6,ha,zDl];simp only[Rd.kids,cmpL];rw[zMj,h];rfl
theorem yD7 (ha:y.at_=y'.at_)(h:Lt y y'):Lt (.mk r a [y]) (.mk r a [y']):=by
 unfold Lt at*;rw[zKp,zZp,ha,zDl];simp only[Rd.kids,cmpL];rw[h];rfl
theorem zFy {p:Int}(h:l.Pairwise Lt):(zA5 rs l p).Pairwise Lt:=h.filter _
theorem zXg (h:l.Pairwise Lt)(ha:∀x∈l,x.at_=b):(zBe r a l).Pairwise Lt:=by
 unfold zBe;rw[List.pairwise_map];exact h.imp_of_mem fun {x y} hx hy hxy=>yD7 ((ha x hx).trans (ha y hy).symm) hxy
theorem zS8 {m:List Rd}(hl:l.Pairwise Lt)(hm:m.Pairwise Lt)(ha:∀x∈m,x.at_=b):(zAm r a l m).Pairwise Lt:=by
 unfold zAm;rw[List.pairwise_flatMap];constructor
 ·intro x _;rw[List.pairwise_map];exact hm.imp_of_mem fun {y z} hy hz hyz=>zUs ((ha y hy).trans (ha z hz).symm) hyz
 ·refine hl.imp fun {x y} hxy u hu v hv=>?_
  obtain⟨z,hz,rfl⟩:=List.mem_map.1 hu;obtain⟨z',hz',rfl⟩:=List.mem_map.1 hv;exact zYe ((ha z hz).trans (ha z' hz').symm) hxy
theorem zRk (a n:Nat):(List.range' a n).Pairwise (·<·):=List.pairwise_lt_range'
theorem zSs {ts:List ByteArray}:∀(m i j:Nat),j -i<=m->(allR rs ts i j).Pairwise Lt:=by
 intro m
 induction m with
 |zero=>intro i j h;rw[zEc (by omega)];exact List.Pairwise.nil
 |succ m ih=>
  intro i j hm
  by_cases hij:j<=i
  ·rw[zEc hij];exact List.Pairwise.nil
  rw[zOf (by omega)];unfold zMr;rw[List.pairwise_append];refine⟨?_,?_,?_⟩
  ·unfold zD0
   split
   ·exact List.pairwise_singleton _ _
   ·exact List.Pairwise.nil
  ·rw[List.pairwise_flatMap];constructor
   ·intro n _;unfold zB7;cases hu:rs[n]? with
    |none=>exact List.Pairwise.nil
    |some u=>
     dsimp only
     split
     ·rw[List.pairwise_flatMap];constructor
      ·intro k hk;have:=zCi hk
       split
       ·exact zS8 (b:=((k+1:Nat):Int)) (zFy (ih _ _ (by omega))) (zFy (ih _ _ (by omega))) fun x hx=>(zAi hx).1
       ·exact List.Pairwise.nil
      ·refine(zRk _ _).imp fun {k k'} hkk x hx y hy=>?_
       split at hx
       ·split at hy
        ·obtain⟨a,b,_,hb,rfl⟩:=zDm.1 hx;obtain⟨a',b',_,hb',rfl⟩:=zDm.1 hy;refine zU2 ?_;rw[(zAi hb).1,(zAi hb').1];omega
        ·cases hy
       ·cases hx
     ·split
      ·split
       ·exact zXg (b:=((i+1:Nat):Int)) (zFy (ih _ _ (by omega))) fun x hx=>(zAi hx).1
       ·exact List.Pairwise.nil
      ·split
       ·split
        ·exact zXg (b:=(i:Int)) (zFy (ih _ _ (by omega))) fun x hx=>(zAi hx).1
        ·exact List.Pairwise.nil
       ·split
        ·rw[List.pairwise_flatMap];constructor
         ·intro k hk;have:=zCi hk;exact zS8 (b:=(k:Int)) (zFy (ih _ _ (by omega))) (zFy (ih _ _ (by omega))) fun x hx=>(zAi hx).1
         ·refine(zRk _ _).imp fun {k k'} hkk x hx y hy=>?_
          obtain⟨a,b,_,hb,rfl⟩:=zDm.1 hx;obtain⟨a',b',_,hb',rfl⟩:=zDm.1 hy;refine zU2 ?_;rw[(zAi hb).1,(zAi hb').1];omega
        ·exact List.Pairwise.nil
   ·refine List.pairwise_lt_range.imp fun {n n'} hnn x hx y hy=>zW6 ?_
    rw[(zFb hx).1,(zFb hy).1];omega
  ·intro x hx y hy;obtain⟨n,_,hn⟩:=List.mem_flatMap.1 hy;unfold zD0 at hx
   split at hx
   ·rw[List.mem_singleton] at hx;subst hx;refine zW6 ?_;rw[(zFb hn).1];show(-1:Int)<n;omega
   ·cases hx
end Ch
namespace Rn
open At Ch Sp Sy El Go.RowKit
variable{l:List Tre}{n d:Tre}{i:Nat}{p:List Int}{rs:List Rul}{x y:Rd}{w:World}{A:Option Addr}
theorem zL8 {k:Int}:∀{l:List Tre} (j:Nat),zC2 k l=true->zC2 k (l.drop j)=true
 |l,0,h=>by rw[List.drop_zero];exact h
 |[],j+1,h=>by rw[List.drop_nil];exact h
 |t::l,j+1,h=>by
  rw[zC2,Bool.and_eq_true,Bool.and_eq_true] at h;rw[List.drop_succ_cons];exact zL8 j h.2.2
theorem zKj:∀(l:List Tre) (j:Nat),zC9 (l.drop j)<=zC9 l
 |l,0=>by rw[List.drop_zero];exact Nat.le_refl _
 |[],j+1=>by rw[List.drop_nil];exact Nat.le_refl _
 |t::l,j+1=>by
  have:=zKj l j;rw[List.drop_succ_cons,zC9];omega
theorem zIl:∀(l:List Tre) (j:Nat),zA4 (l.drop j)<=zA4 l
 |l,0=>by rw[List.drop_zero];exact Nat.le_refl _
 |[],j+1=>by rw[List.drop_nil];exact Nat.le_refl _
 |t::l,j+1=>by
  have:=zIl l j;rw[List.drop_succ_cons,zA4];omega
theorem zOv {t:Tre}:∀{i:Nat},l[i]?=some t->zCc t<=zC9 l:=by
 induction l with
 |nil=>intro i h;simp at h
 |cons x l ih=>
  intro i h;rw[zC9];cases i with
  |zero=>
   obtain rfl:x=t:=by simpa using h
   exact Nat.le_max_left _ _
  |succ i=>
   have h2:l[i]?=some t:=by simpa using h
   have:=ih h2;omega
theorem zHy (n:Tre):zCc n=zC9 n.kids+1:=by cases n;rw[zCc];rfl
theorem zN9 (h:zAt n=true)(hi:n.kids[i]?=some d):zBk n.kind d.kind=false/\zAt d=true:=by
 cases n;rw[zAt,Bool.and_eq_true] at h;have h2:=zEm h.2 d (List.mem_of_getElem? hi);exact⟨h2.2,h2.1⟩
theorem zRf:∀(p:List Int) (n r:Tre),zBw p n=some r->zAt n=true->n.kind=1->zAt r=true/\r.kind=1/\zCc r<=zCc n/\zA7 r<=zA7 n
 |[],n,r,h,hf,hk=>by rw[zBw] at h;injection h with h;rw[<-h];exact⟨hf,hk,Nat.le_refl _,Nat.le_refl _⟩
 |[_],n,r,h,hf,hk=>by rw[zBw] at h;cases h
 |i::s::p,n,r,h,hf,hk=>by
  have hcr:=zJ3 _ _ _ h;obtain⟨a,b,d,m,rfl,rfl,h1,h2,h3⟩:=zDx h;obtain⟨b1,f1⟩:=zN9 hf h1;obtain⟨b2,f2⟩:=zN9 f1 h2;have hm:m.kind=1:=by
   rw[hk] at b1;unfold zBk at b1 b2
   by_cases e:d.kind=1
   ·rw[e] at b1;simp at b1
   ·rw[decide_eq_false e] at b2
    by_cases e2:m.kind=1
    ·exact e2
    ·rw[decide_eq_false e2] at b2;simp at b2
  obtain⟨g1,g2,g3,_⟩:=zRf p m r h3 f2 hm;refine⟨g1,g2,?_,hcr⟩;have e1:=zOv h1;have e2:=zOv h2;have e3:=zHy n;have e4:=zHy d;omega
theorem zXb {r:Tre}(h:zBw p n=some r)(hv:zBa n=true)(j:Nat):zBa (rowT (r.kids.drop j))=true:=by
 unfold zBa at hv;simp only[Bool.and_eq_true,decide_eq_true_eq] at hv;obtain⟨hk,hf,hc,hd⟩:=hv;obtain⟨f1,f2,f3,f4⟩:=zRf p n r h hf hk;have e1:=zHy r;have e2:=zKj r.kids j;have e3:=zIl r.kids j;have e4:=zCz r;have hl:r.kids.length<=200/\zC2 1 r.kids=true:=by
  obtain⟨k,t,c,ks⟩:=r;have hk1:k=1:=f2;subst hk1;rw[zAt,Bool.and_eq_true] at f1;refine⟨?_,f1.2⟩;have h1:=f1.1;unfold ownT zBu at h1;simp only[Bool.and_eq_true] at h1;have h2:=h1.2;rw[if_neg (by decide)] at h2;simp only[Bool.and_eq_true] at h2;show ks.length<=200
  simpa using h2.2
 unfold zBa rowT;simp only[Bool.and_eq_true,decide_eq_true_eq];refine⟨rfl,?_,?_,?_⟩
 ·rw[zAt,Bool.and_eq_true];refine⟨?_,zL8 j hl.2⟩;unfold ownT zE3 zBu;simp;omega
 ·rw[zA7];omega
 ·rw[zCc];omega
theorem zZr {x' y':Rd}(h:WitR rs n p x y)(h2:WitR rs n p x' y'):x=x'/\y=y':=by
 obtain⟨q,j,r,ts,zs,h3,h4,h5,h6⟩:=h;obtain⟨q',j',r',ts',zs',g3,g4,g5,g6⟩:=h2;rw[h3] at g3;obtain⟨rfl,e⟩:=List.append_inj' g3 rfl;have e2:j=j':=by
  have:=List.cons.inj e;omega
 subst e2;rw[h4] at g4;obtain rfl:=sj g4;rw[h5] at g5;injection g5 with g5;subst g5;rw[h6] at g6;injection g6 with g6 g7;injection g7 with g7 _;exact⟨g6,g7⟩
theorem yB7 (h:zBh rs 102 n= .bad 14 p):p.length<=1000000:=by
 unfold zBh at h
 split at h
 ·cases hl:zAb rs 102 n.kids [] 0 with
  |ok u=>rw[hl] at h;dsimp only at h;split at h<;>cases h
  |bad e q=>
   rw[hl] at h;have h2:=zNz rs 102 n.kids [] 0 e q hl;simp only[List.length_nil] at h2;injection h with _ h3;rw[<-h3];omega
 ·cases h
theorem zS0 {f:Nat}(h:zBh rs f n= .bad 14 p):zAd rs=true/\zBa n=true:=by
 unfold zBh at h
 split at h
 ·rename_i h2
  rw[Bool.and_eq_true] at h2;exact h2
 ·cases h
theorem zUf (h:zBa (rowT l)=true):∀n∈l,zAt n=true:=fun n hn=>by
 unfold zBa rowT at h;simp only[Bool.and_eq_true,decide_eq_true_eq] at h;have h2:=h.2.1;rw[zAt,Bool.and_eq_true] at h2;exact(zEm h2.2 n hn).1
theorem zV9 (h:zBa (rowT l)=true):zA4 l<900000:=by
 unfold zBa rowT at h;simp only[Bool.and_eq_true,decide_eq_true_eq] at h;have h2:=h.2.2.1;rw[zA7] at h2;omega
theorem yBr {ts:List ByteArray}{zs:List Rd}(h:allL rs ts=x::y::zs):x≠y:=by
 unfold allL at h
 split at h
 ·have h2:=zSs (rs:=rs) (ts:=ts) ts.length 0 ts.length (by omega);rw[h] at h2;have h3:cmpR x y= -1:=(List.pairwise_cons.1 h2).1 y List.mem_cons_self;intro e;subst e;rw[zMj] at h3;cases h3
 ·cases h
theorem zMx {ok:Nat->Prop}(h:zAp ok w A [x,y]):∃(ad:Addr) (A1 A2:Option Addr) (c1 c2:Nat),A=some ad/\RdAt ok w x (rdC x.rule x.at_ A1 x.kids.length c1)/\RdAt ok w y (rdC y.rule y.at_ A2 y.kids.length c2)/\ad.block<w.heap.size/\w.cell? ad=some (qI x.rule)/\w.cell? ⟨ad.block,ad.off+1,none⟩=some (qI x.at_)/\w.cell? ⟨ad.block,ad.off+2,none⟩=some (.slice A1 x.kids.length c1)/\
  w.cell? ⟨ad.block,ad.off+3,none⟩=some (qI y.rule)/\w.cell? ⟨ad.block,ad.off+3+1,none⟩=some (qI y.at_)/\w.cell? ⟨ad.block,ad.off+3+2,none⟩=some (.slice A2 y.kids.length c2):=by
 obtain⟨ad,A1,c1,rfl,h1,h2,_,_,_,h3,h4,h5⟩:=zAp.at_ h (k:=0) (x:=x) rfl;obtain⟨ad',A2,c2,e,_,g2,_,_,_,g3,g4,g5⟩:=zAp.at_ h (k:=1) (x:=y) rfl;obtain rfl:=sj e;have e0:ad.add (0*3)=ad:=by unfold Addr.add;simp
 have e1:ad.add (1*3)=⟨ad.block,ad.off+3,none⟩:=by unfold Addr.add;simp
 rw[e0] at h3 h4 h5;rw[e1] at g3 g4 g5;exact⟨ad,A1,A2,c1,c2,rfl,h2,g2,h1,h3,h4,h5,g3,g4,g5⟩
theorem zX2 {ok:Nat->Prop}{m:Tre}{k:Int}{s:ByteArray}{c:Int}{n cap:Nat}(h:NdAt ok w m #[qI k,.string s,qI c,.slice A n cap])(hi:m.kids[i]?=some d):∃ad:Addr,A=some ad/\ad.block<w.heap.size/\ok ad.block/\∃cd,NdAt ok w d cd/\∀j,j<4->w.cell? (ad.add (i*4+j))=cd[j]?:=by
 obtain⟨A',cap',e,_,_,_,hk⟩:=h.form;cases e;exact hk i d hi
theorem zX1 (ok0:Nat->Prop)(path:List Int)(t r:Tre)(hf:zBw path t=some r)(c:Array Value)(Ap:Option Addr)(cp:Nat)(w:World)(hN:zAv w t c)(hO:NdAt ok0 w t c)(hQ:PIx w Ap path)(hc1:path.length<=cp)(hc2:cp<=9223372036854775807):
  Calls Tryz.prog 27 #[.agg c,.slice Ap path.length cp] w fun e w'=>∃A9 cap9,e= .returned (.tuple #[.agg (qC r A9 cap9),.bool true])/\NdAt ok0 w' r (qC r A9 cap9)/\Below w.heap.size w w':=by
 have HN:=zh hO;obtain⟨A,cap,rfl,hsz,hl,hc,hk⟩:=hN.form;have B1:=zA0 w (qO t A cap);have B2:=zA0 (w.alloc (qO t A cap)) (.cells qZ 25);have hbb:=B1.trans (B2.mono B1.size);have HB:=zh hbb;have K0:=zh (keep B2 (Blk.new w 25 (qC t A cap)));have K1:=Blk.new (w.alloc (qO t A cap)) 25 qZ;rw[show(w.alloc (qO t A cap)).heap.size=w.heap.size+1 by simp] at K1;replace K1:=zh K1;have HQ:=zh hQ;have HF:=zh hf;clear hN hO hk hQ hf B1 B2 hbb hsz hl hc;go_enter Tryz.func27,Tryz.ntmps27;go_wp2_with fail;generalize (w.alloc (qO t A cap)).alloc (.cells qZ 25)=w1 at*
 go_loopw [1] (fun v1 wr=>∃(q:List Int) (m:Tre) (A2:Option Addr) (c2:Nat) (aq:Option Addr) (cq:Nat),v1= .slice aq q.length cq/\q.length<=cq/\cq<=9223372036854775807/\Hid (zBw q m=some r)/\Hid (Blk wr w.heap.size 25 (qC m A2 c2))/\Hid (NdAt ok0 w m (qC m A2 c2))/\Hid (PIx w aq q)/\Hid (Blk wr (w.heap.size+1) 25 qZ)/\Hid (Below w.heap.size w wr)) (fun v1 _=>lenV v1)
 case atStart=>exact⟨path,t,A,cap,Ap,cp,rfl,hc1,hc2,HF,K0,HN,HQ,K1,HB⟩
 case round=>
  clear HF K0 HN HQ K1 HB;obtain⟨q,m,A2,c2,aq,cq,rfl,hq1,hq2,HF,K0,HN,HQ,K1,HB⟩:=hrel
  match q,hq1,HF,HQ with
  |[],hq1,HF,HQ=>
   have HE:=zh (show m=r from by have h:=HF.out;rw[zBw] at h;exact sj h);obtain⟨k0,k1,k2,k3⟩:=qb K0;have rc:=K1.out.cell;have rf:=K1.out.frozen;clear HF HQ;go_wp2_with fail;obtain⟨w9,e9,K9,HB9,HG9⟩:=zO9 K1.out HB.out (Nat.le_succ _) (qI m.kind) (.string m.text) (qI m.cols) (.slice A2 m.kids.length c2);rw[e9];obtain⟨r0,r1,r2,r3⟩:=qb K9;obtain rfl:=HE.out;exact bodyPost_ret (v:=.tuple #[.agg (qC m A2 c2),.bool true]) (by simp[results,Tryz.results27,go_sem,r0,r1,r2,r3]) rfl ⟨A2,c2,rfl,HN.out.keep HB9.out,HB9.out⟩
  |[_],hq1,HF,HQ=>exact absurd HF.out (by rw[zBw];simp)
  |i::s::q,hq1,HF,HQ=>
   obtain⟨a,b,d,m',rfl,rfl,h1,h2,h3⟩:=zDx HF.out;obtain⟨ad,rfl,hl0,k0⟩:=HQ.out 0 _ rfl;obtain⟨ad',e1,_,k1⟩:=HQ.out 1 _ rfl;obtain rfl:=sj e1;obtain⟨ak,rfl,hla,hob,cd,hcd,dcell⟩:=zX2 HN.out h1;have HF3:=zh h3;have k0b:w.cell? ad=some (qI a):=by rw[addz] at k0;exact k0
   have k1b:w.cell? ⟨ad.block,ad.off+1,none⟩=some (qI b):=by unfold Addr.add at k1;simpa using k1
   have HQ2:=zh (HQ.out.two);have HQ3:=zh (show q.length+2<=cq from hq1);have hl1:=(List.getElem?_eq_some_iff.1 h1).1;have hl2:=(List.getElem?_eq_some_iff.1 h2).1;have HL1:=zh hl1;have HL2:=zh hl2;rw[show((a:Int)::(b:Int)::q).length=q.length+2 from rfl];have m5:(2:Int)<=((q.length+2:Nat):Int):=by omega
   generalize hn:q.length+2=n at*;have m6:(0:Int)<(n:Int):=by omega
   have m7:(1:Int)<(n:Int):=by omega
   have m8:0<n:=by omega
   have m9:1<n:=by omega
   have c0:=(HB.out.cell hl0).trans k0b;have c1:=(HB.out.cell (p:=⟨ad.block,ad.off+1,none⟩) hl0).trans k1b;have b3:=K0.out.cell 3;clear HF h3 e1;go_wp2_with fail
   go_quiet (fail)
   have hdb:=below_drewN (Below.refl wr.heap.size wr) nq;have g1:decide ((a:Int)<0)=false:=decide_eq_false (by omega);have g2:decide (m.kids.length<=a)=false:=decide_eq_false (by have:=HL1.out;omega);rw[g1,g2,Bool.or_self];replace K0:=kp hdb K0;replace K1:=kp hdb K1;replace HB:=jt HB hdb;clear hdb c0 c1 b3 g1 g2;generalize wr.drewN nq=wy at*;obtain⟨A3,c3,rfl,hs3,hn3,hm3,hk3⟩:=hcd.form;have HD:=zh hcd;have e0:=(HB.out.cell (by rw[zA2];exact hla)).trans (dcell 0 (by omega));have e1:=(HB.out.cell (p:=⟨(ak.add (a*4)).block,(ak.add (a*4)).off+1,none⟩) (by show(ak.add (a*4)).block<_;rw[zA2];exact hla)).trans (At.zBc (j:=0) (dcell 1 (by omega)));have e2:=(HB.out.cell (p:=⟨(ak.add (a*4)).block,(ak.add (a*4)).off+2,none⟩) (by show(ak.add (a*4)).block<_;rw[zA2];exact hla)).trans (At.zBc (j:=1) (dcell 2 (by omega)));have e3:=(HB.out.cell (p:=⟨(ak.add (a*4)).block,(ak.add (a*4)).off+3,none⟩) (by show(ak.add (a*4)).block<_;rw[zA2];exact hla)).trans (At.zBc (j:=2) (dcell 3 (by omega)));rw[Nat.add_zero] at e0;have c0:=(HB.out.cell hl0).trans k0b;have b3:=K0.out.cell 3;have i1:(0:Int)<=(a:Int):=by omega
   have i2:(a:Int)<(m.kids.length:Int):=by have:=HL1.out;omega
   clear hcd dcell hob;go_upto_region 4 with(fail)
   go_still_tail 7,(by kernel_rfl)
   change wpList _ _ _ _ _ wy.drew;have hdb:=zA3 (Below.refl wy.heap.size wy);replace K0:=kp hdb K0;replace K1:=kp hdb K1;replace HB:=jt HB hdb;clear hdb c0 b3 e0 e1 e2 e3;generalize wy.drew=wz at*;have kc:=K0.out.cell;have kf:=K0.out.frozen;go_wp2_with fail;obtain⟨w9,e9,KZ,HBZ,HGZ⟩:=zO9 K0.out HB.out (Nat.le_refl _) (qI d.kind) (.string d.text) (qI d.cols) (.slice A3 d.kids.length c3);rw[e9];have K19:=zh (K1.out.grown HGZ.out fun e=>by have h9:w.heap.size+1=w.heap.size:=sj e;omega);clear e9 kc kf HGZ K0 K1 HB;have c1:=(HBZ.out.cell (p:=⟨ad.block,ad.off+1,none⟩) hl0).trans k1b;have b3:=KZ.out.cell 3;go_upto_region 5 with(fail)
   go_quiet (fail)
   have hdb:=below_drewN (Below.refl w9.heap.size w9) nq;have g1:decide ((b:Int)<0)=false:=decide_eq_false (by omega);have g2:decide (d.kids.length<=b)=false:=decide_eq_false (by have:=HL2.out;omega);rw[g1,g2,Bool.or_self];replace KZ:=kp hdb KZ;replace K19:=kp hdb K19;replace HBZ:=jt HBZ hdb;clear hdb c1 b3 g1 g2 i1 i2;generalize w9.drewN nq=wx at*;obtain⟨al,rfl,hla4,hob4,ce,hce,ecell⟩:=zX2 HD.out h2;obtain⟨A4,c4,rfl,hs4,hn4,hm4,hk4⟩:=hce.form;have HM:=zh hce;have e0:=(HBZ.out.cell (by rw[zA2];exact hla4)).trans (ecell 0 (by omega));have e1:=(HBZ.out.cell (p:=⟨(al.add (b*4)).block,(al.add (b*4)).off+1,none⟩) (by show(al.add (b*4)).block<_;rw[zA2];exact hla4)).trans (At.zBc (j:=0) (ecell 1 (by omega)));have e2:=(HBZ.out.cell (p:=⟨(al.add (b*4)).block,(al.add (b*4)).off+2,none⟩) (by show(al.add (b*4)).block<_;rw[zA2];exact hla4)).trans (At.zBc (j:=1) (ecell 2 (by omega)));have e3:=(HBZ.out.cell (p:=⟨(al.add (b*4)).block,(al.add (b*4)).off+3,none⟩) (by show(al.add (b*4)).block<_;rw[zA2];exact hla4)).trans (At.zBc (j:=2) (ecell 3 (by omega)));rw[Nat.add_zero] at e0;have c1:=(HBZ.out.cell (p:=⟨ad.block,ad.off+1,none⟩) hl0).trans k1b;have b3:=KZ.out.cell 3;have i1:(0:Int)<=(b:Int):=by omega
   have i2:(b:Int)<(d.kids.length:Int):=by have:=HL2.out;omega
   clear hce ecell hob4;go_upto_region 7 with(fail)
   go_still_tail 7,(by kernel_rfl)
   change wpList _ _ _ _ _ wx.drew;have hdb:=zA3 (Below.refl wx.heap.size wx);replace KZ:=kp hdb KZ;replace K19:=kp hdb K19;replace HBZ:=jt HBZ hdb;clear hdb c1 b3 e0 e1 e2 e3;generalize wx.drew=wv at*;have kc:=KZ.out.cell;have kf:=KZ.out.frozen;go_wp2_with fail;obtain⟨w8,e8,K8,HB8,HG8⟩:=zO9 KZ.out HBZ.out (Nat.le_refl _) (qI m'.kind) (.string m'.text) (qI m'.cols) (.slice A4 m'.kids.length c4);rw[e8];have K18:=zh (K19.out.grown HG8.out fun e=>by have h9:w.heap.size+1=w.heap.size:=sj e;omega);have HQ4:=zh (show PIx w (if cq=2 then some ad else some ⟨ad.block,ad.off+2,none⟩) q by
    split
    ·rename_i h
     have h9:=HQ3.out;obtain rfl:q=[]:=List.eq_nil_of_length_eq_zero (by omega);exact PIx.nil _
    ·have h9:=HQ2.out;unfold Addr.add at h9
     simpa using h9)
   clear e8 kc kf HG8 KZ K19 HBZ;go_wp2;go_roundw
   case rel=>exact⟨q,m',A4,c4,_,cq -2,by rw[show n -2=q.length by omega],by have:=HQ3.out;omega,by omega,HF3,K8,HM,HQ4,K18,HB8⟩
   case measure=>show n -2<n;omega
theorem zZ1 (ok0:Nat->Prop)(path:List Int)(t r:Tre)(hf:zBw path t=some r)(hv:zBa t=true)(c:Array Value)(Ap:Option Addr)(cp:Nat)(w:World)(hN:zAv w t c)(hO:NdAt ok0 w t c)(hok:∀b,ok0 b->b<w.heap.size)(hQ:PIx w Ap path)(hc1:path.length<=cp)(hc2:cp<=9223372036854775807):
  Calls Tryz.prog 10 #[.agg c,.slice Ap path.length cp] w fun e w'=>∃A9 cap9,e= .returned (.tuple #[.agg (qC r A9 cap9),qI 0])/\NdAt ok0 w' r (qC r A9 cap9)/\Below w.heap.size w w':=by
 obtain⟨A,cap,rfl,hsz,hl,hc,hk⟩:=hN.form;have B1:=zA0 w (qO t A cap);have B2:=zA0 (w.alloc (qO t A cap)) (.cells qZ 25);have hbb:=B1.trans (B2.mono B1.size);have HB:=zh hbb;have K0:=zh (keep B2 (Blk.new w 25 (qC t A cap)));have K1:=Blk.new (w.alloc (qO t A cap)) 25 qZ;rw[show(w.alloc (qO t A cap)).heap.size=w.heap.size+1 by simp] at K1;replace K1:=zh K1;have HN:=zh (hN.keep hbb);have HO:=zh (hO.keep hbb);have HOK:=zh hok;have HQ:=zh (hQ.keep hbb);have HF:=zh hf;have HV:=zh hv;have HCT:=zh (show zA7 t<=900000 by unfold zBa at hv;simp only[Bool.and_eq_true,decide_eq_true_eq] at hv;omega);clear hN hO hok hk hQ hf hv B1 B2 hbb;go_enter Tryz.func10,Tryz.ntmps10;go_upto_region 1 with(fail)
 generalize (w.alloc (qO t A cap)).alloc (.cells qZ 25)=w1 at*;obtain⟨k0,k1,k2,k3⟩:=qb K0;go_wp2_with fail;refine(At.zB8 t _ w1 HCT.out HN.out).mono ?_;rw[HV.out];rintro e w2 ⟨rfl,hb⟩;replace HB:=jt HB hb;replace K0:=kp hb K0;replace K1:=kp hb K1;replace HN:=zh (HN.out.keep hb);replace HQ:=zh (HQ.out.keep hb);replace HO:=zh (HO.out.keep hb);clear hb k0 k1 k2 k3;obtain⟨k0,k1,k2,k3⟩:=qb K0;go_wp2_with fail;refine(zX1 ok0 path t r HF.out _ Ap cp w2 HN.out HO.out HQ.out hc1 hc2).mono ?_;rintro e w3 ⟨A9,cap9,rfl,hn,hb⟩;replace HB:=jt HB hb;replace K1:=kp hb K1;have hba:=zA0 w3 (qO r A9 cap9);have HNR:=zh (hn.keep hba);have HB4:=jt HB hba;have K14:=kp hba K1;have rc:=K14.out.cell;have rf:=K14.out.frozen;clear hb hn hba K0 HN HO HQ k0 k1 k2 k3;go_wp2_with fail;obtain⟨w9,e9,K9,HB9,HG9⟩:=zO9 K14.out HB4.out (Nat.le_succ _) (qI r.kind) (.string r.text) (qI r.cols) (.slice A9 r.kids.length cap9);rw[e9];obtain⟨r0,r1,r2,r3⟩:=qb K9;exact bodyPost_ret (v:=.tuple #[.agg (qC r A9 cap9),qI 0]) (by simp[results,Tryz.results10,go_sem,r0,r1,r2,r3]) rfl ⟨A9,cap9,rfl,HNR.out.grown HG9.out (fun b _ hb e=>by have h9:b=w.heap.size+1:=sj e;have:=HOK.out b hb;omega) fun _ _ h=>h,HB9.out⟩
end Rn
namespace Rn
open At Ch Sp Go.RowKit
theorem yC6 (x:Rd):1<=zB4 x:=by obtain⟨r,a,ks⟩:=x;rw[zB4];omega
theorem zYa (x:Rd):zB4 x=zIy x.kids+1:=by obtain⟨r,a,ks⟩:=x;rw[zB4];rfl
def InvB (wr:World):List Bool->Unit->World->Prop:=fun _ _ wq=>Below wr.heap.size wr wq
mutual
def zGw:Rd->Rd->Bool
 | .mk r a ks,.mk r' a' ks'=>decide (r=r')&&(decide (a=a')&&zFw ks ks')
def zFw:List Rd->List Rd->Bool
 |[],[]=>true
 |x::xs,y::ys=>zGw x y&&zFw xs ys
 |_,_=>false
end
mutual
theorem same_iff:∀x y:Rd,zGw x y=true↔x=y
 | .mk r a ks,.mk r' a' ks'=>by
  rw[zGw];simp only[Bool.and_eq_true,decide_eq_true_eq,zJm ks ks',Rd.mk.injEq]
theorem zJm:∀l m:List Rd,zFw l m=true↔l=m
 |[],[]=>by simp[zFw]
 |[],_::_=>by simp[zFw]
 |_::_,[]=>by simp[zFw]
 |x::l,y::m=>by
  rw[zFw];simp only[Bool.and_eq_true,same_iff x y,zJm l m,List.cons.injEq]
end
theorem zZf (x y:Rd):zGw x y=(decide (x.rule=y.rule)&&(decide (x.at_=y.at_)&&zFw x.kids y.kids)):=by
 obtain⟨r,a,ks⟩:=x;obtain⟨r',a',ks'⟩:=y;rw[zGw];rfl
theorem zYx {ks ls:List Rd}{k:Nat}{a b:Rd}(ha:ks[k]?=some a)(hb:ls[k]?=some b):zFw (ks.drop k) (ls.drop k)=(zGw a b&&zFw (ks.drop (k+1)) (ls.drop (k+1))):=by
 obtain⟨h1,rfl⟩:=List.getElem?_eq_some_iff.1 ha;obtain⟨h2,rfl⟩:=List.getElem?_eq_some_iff.1 hb;rw[List.drop_eq_getElem_cons h1,List.drop_eq_getElem_cons h2,zFw]
theorem zU3 {ks ls:List Rd}(h:ks.length=ls.length):zFw (ks.drop ks.length) (ls.drop ks.length)=true:=by rw[List.drop_length,h,List.drop_length,zFw]
theorem zX0 {ks ls:List Rd}(h:ks.length≠ls.length):zFw ks ls=false:=by
 cases hb:zFw ks ls with
 |false=>rfl
 |true=>exact absurd (congrArg List.length ((zJm ks ls).1 hb)) h
theorem zI9 (ok ok':Nat->Prop):∀(z:Nat) (x y:Rd) (c d:Array Value) (w:World),zB4 x<=z->RdAt ok w x c->RdAt ok' w y d->Calls Tryz.prog 12 #[.agg c,.agg d] w fun e w'=>e= .returned (.bool (zGw x y))/\Below w.heap.size w w':=by
 intro z
 induction z with
 |zero=>intro x y c d w h;have:=yC6 x;omega
 |succ z ih=>
  intro x y c d w hz hR hS;have IH:=zh ih;clear ih;have HZ:=zh hz;obtain⟨A,cap,rfl,hl,hc,hk⟩:=hR.form;obtain⟨B,cap2,rfl,hm,hd,hk2⟩:=hS.form;have hb1:=zA0 w (.cells (rdC x.rule x.at_ A x.kids.length cap) 42);have hb2:=zA0 (w.alloc (.cells (rdC x.rule x.at_ A x.kids.length cap) 42)) (.cells (rdC y.rule y.at_ B y.kids.length cap2) 42);have K1:=zh (keep hb2 (Blk.new w 42 (rdC x.rule x.at_ A x.kids.length cap)));have K2:=zh (show Blk _ (w.heap.size+1) _ _ by have:=Blk.new (w.alloc (.cells (rdC x.rule x.at_ A x.kids.length cap) 42)) 42 (rdC y.rule y.at_ B y.kids.length cap2);rw[World.size_alloc] at this;exact this);have HK:=zh ((hk.keep hb1).keep hb2);have HL:=zh ((hk2.keep hb1).keep hb2);have HB:=zh (hb1.trans (hb2.mono hb1.size));have HD:=zh (zZf x y);have HLN:=zh (@zX0 x.kids y.kids);have hx:x.kids.length<=9223372036854775807:=by omega
  have hy:y.kids.length<=9223372036854775807:=by omega
  clear hz hR hS hk hk2 hb1 hb2 hl hc hm hd;go_enter Tryz.func12,Tryz.ntmps12;go_upto_region 1 with(fail)
  generalize (w.alloc (.cells #[qI x.rule,qI x.at_,.slice A x.kids.length cap] 42)).alloc (.cells #[qI y.rule,qI y.at_,.slice B y.kids.length cap2] 42)=w1 at*;obtain⟨c0,c1,c2⟩:=qa K1;obtain⟨d0,d1,d2⟩:=qa K2
  by_cases q0:x.rule=y.rule
  case neg=>
   have HF:=zh (show zGw x y=false by rw[HD.out,decide_eq_false q0];rfl);have p0:(x.rule==y.rule)=false:=bn q0;have p0':(x.rule !=y.rule)=true:=by rw[bne,p0];rfl
   clear q0;go_wp2;go_ret;exact⟨zA1 HF.out.symm,HB.out⟩
  have p0:(x.rule==y.rule)=true:=beq_iff_eq.2 q0;have p0':(x.rule !=y.rule)=false:=by rw[bne,p0];rfl
  rw[decide_eq_true q0,Bool.true_and] at HD;clear q0
  by_cases q1:x.at_=y.at_
  case neg=>
   have HF:=zh (show zGw x y=false by rw[HD.out,decide_eq_false q1];rfl);have p1:(x.at_==y.at_)=false:=bn q1;have p1':(x.at_ !=y.at_)=true:=by rw[bne,p1];rfl
   clear q1;go_wp2;go_ret;exact⟨zA1 HF.out.symm,HB.out⟩
  have p1:(x.at_==y.at_)=true:=beq_iff_eq.2 q1;have p1':(x.at_ !=y.at_)=false:=by rw[bne,p1];rfl
  rw[decide_eq_true q1,Bool.true_and] at HD;clear q1
  by_cases q2:x.kids.length=y.kids.length
  case neg=>
   have HF:=zh (HD.out.trans (HLN.out q2));have p2:((x.kids.length:Int)==(y.kids.length:Int))=false:=by rw[beq_eq_false_iff_ne];omega
   have p2':((x.kids.length:Int) !=(y.kids.length:Int))=true:=by rw[bne,p2];rfl
   clear q2;go_wp2;go_ret;exact⟨zA1 HF.out.symm,HB.out⟩
  have p2:((x.kids.length:Int)==(y.kids.length:Int))=true:=by rw[beq_iff_eq];omega
  have p2':((x.kids.length:Int) !=(y.kids.length:Int))=false:=by rw[bne,p2];rfl
  have HLE:=zh q2;clear q2;go_wp2_with fail;clear c0 c1 c2 d0 d1 d2 p0 p1 p2 p0' p1' p2'
  go_loopw [5] (fun i wr=>∃k:Nat,k<=x.kids.length/\i=qI k/\Hid (zFw x.kids y.kids=zFw (x.kids.drop k) (y.kids.drop k))/\Hid (Blk wr w.heap.size 42 (rdC x.rule x.at_ A x.kids.length cap))/\Hid (Blk wr (w.heap.size+1) 42 (rdC y.rule y.at_ B y.kids.length cap2))/\Hid (zAp ok wr A x.kids)/\Hid (zAp ok' wr B y.kids)/\Hid (Below w.heap.size w wr)) (fun i _=>x.kids.length -(intOf i).toNat)
  case atStart=>exact⟨0,by omega,rfl,rfl,K1,K2,HK,HL,HB⟩
  case round=>
   clear K1 K2 HK HL HB;obtain⟨k,hk,rfl,HDL,K1,K2,HK,HL,HB⟩:=hrel;have c2:=K1.out.cell 2
   by_cases hlt:k<x.kids.length
   ·obtain⟨a,ha⟩:∃a,x.kids[k]?=some a:=⟨_,gE (by omega)⟩
    obtain⟨b,hb⟩:∃b,y.kids[k]?=some b:=⟨_,gE (by have:=HLE.out;omega)⟩
    obtain⟨ad,A1,k1,rfl,hal,hra,_,_,_,d0,d1,d2⟩:=HK.out.at_ ha;obtain⟨bd,B1,k2,rfl,hbl,hrb,_,_,_,f0,f1,f2⟩:=HL.out.at_ hb;have HAL:=zh hal;have HBL:=zh hbl;have HRA:=zh hra;have HRB:=zh hrb;have HSZ:=zh (show zB4 a<=z by have h1:=HZ.out;rw[zYa] at h1;have:=zC6 ha;omega);have HS:=zh (zYx ha hb);have i1:(0:Int)<=(k:Int):=by omega
    have i2:(k:Int)<(x.kids.length:Int):=by omega
    have i3:(k:Int)<(y.kids.length:Int):=by have:=HLE.out;omega
    clear ha hb hal hbl hra hrb;go_wp2_with fail;clear c2;refine zAs (X:=Unit) (by kernel_rfl) _ (fun gx=>[.pointer (some ⟨w.heap.size,2,none⟩),.slice (some ad) x.kids.length cap,qI (↑k),.pointer (some (ad.add (k*3))),.agg (rdC a.rule a.at_ A1 a.kids.length k1),.pointer (some ⟨w.heap.size+1,2,none⟩),.slice (some bd) y.kids.length cap2,qI (↑k),.pointer (some (bd.add (k*3))),.agg (rdC b.rule b.at_ B1 b.kids.length k2),.bool (zGw a b),.bool (!(zGw a b))]) [true,true,true,true,true,true,true,true,true,true,true,true] [] (InvB wr) () (by kernel_rfl) (fun gx=>by simp[fin,zBz,zAk,List.range,List.range.loop,Act.put];rfl) (fun _=>by kernel_rfl) (by kernel_rfl) (zA3 (Below.refl _ _)) ?_ ?_
    ·refine⟨jT,fun L gx wq hL hb ha hI=>?_,jS,fun L gx wq hL hb ha hI=>?_,fun L gx wq hL hb ha hI=>?_,jT,fun L gx wq hL hb ha hI=>?_,jS,fun L gx wq hL hb ha hI=>?_,fun L gx wq hL hb ha hI=>?_,fun L gx wq hL hb ha hI=>?_,jT,trivial⟩
     ·have hW:Below wr.heap.size wr wq:=hI;have cJ:=(keep hW K1.out).cell 2;exact jq (.slice (some ad) x.kids.length cap) wq (by simp[go_sem,cJ]) rfl hI
     ·skip
      exact jq (.pointer (some (ad.add (k*3)))) wq (by simp[go_sem,i1,i2];try omega) rfl hI
     ·have hW:Below wr.heap.size wr wq:=hI;have e0:=(hW.cell (p:=ad.add (k*3)) (by rw[add_block];exact HAL.out)).trans d0;have e1:=(hW.cell (p:=⟨(ad.add (k*3)).block,(ad.add (k*3)).off+1,none⟩) (by show(ad.add (k*3)).block<_;rw[add_block];exact HAL.out)).trans d1;have e2:=(hW.cell (p:=⟨(ad.add (k*3)).block,(ad.add (k*3)).off+2,none⟩) (by show(ad.add (k*3)).block<_;rw[add_block];exact HAL.out)).trans d2;exact jq (.agg (rdC a.rule a.at_ A1 a.kids.length k1)) wq (by simp[go_sem,e0,e1,e2]) rfl hI
     ·have hW:Below wr.heap.size wr wq:=hI;have cJ:=(keep hW K2.out).cell 2;exact jq (.slice (some bd) y.kids.length cap2) wq (by simp[go_sem,cJ]) rfl hI
     ·skip
      exact jq (.pointer (some (bd.add (k*3)))) wq (by simp[go_sem,i1,i3];try omega) rfl hI
     ·have hW:Below wr.heap.size wr wq:=hI;have e0:=(hW.cell (p:=bd.add (k*3)) (by rw[add_block];exact HBL.out)).trans f0;have e1:=(hW.cell (p:=⟨(bd.add (k*3)).block,(bd.add (k*3)).off+1,none⟩) (by show(bd.add (k*3)).block<_;rw[add_block];exact HBL.out)).trans f1;have e2:=(hW.cell (p:=⟨(bd.add (k*3)).block,(bd.add (k*3)).off+2,none⟩) (by show(bd.add (k*3)).block<_;rw[add_block];exact HBL.out)).trans f2;exact jq (.agg (rdC b.rule b.at_ B1 b.kids.length k2)) wq (by simp[go_sem,e0,e1,e2]) rfl hI
     ·have hW:Below wr.heap.size wr wq:=hI;refine jc 12 (#[.agg (rdC a.rule a.at_ A1 a.kids.length k1),.agg (rdC b.rule b.at_ B1 b.kids.length k2)]) wq (by kernel_rfl) ((IH.out a b _ _ wq HSZ.out (HRA.out.keep hW) (HRB.out.keep hW)).mono ?_);rintro e wa ⟨rfl,hb5⟩;exact⟨_,rfl,(),rfl,zAg.same,Below.trans hW (hb5.mono (Below.size hW))⟩
    ·intro gx wq hI;have hW:Below wr.heap.size wr wq:=hI;clear d0 d1 d2 f0 f1 f2;have K1:=kp hW K1;have K2:=kp hW K2;have HK:=zh (HK.out.keep hW);have HL:=zh (HL.out.keep hW);have HB:=jt HB hW;clear hI hW;cases s3:zGw a b
     ·have HF:=zh (HD.out.trans (HDL.out.trans (HS.out.trans (by rw[s3,Bool.false_and]))));go_wp2;go_ret;exact⟨zA1 HF.out.symm,HB.out⟩
     ·have HDL:=zh (HDL.out.trans (HS.out.trans (by rw[s3,Bool.true_and])));go_wp2;go_roundw
      case rel=>exact⟨k+1,by omega,by go_num,HDL,K1,K2,HK,HL,HB⟩
      case measure=>simp[intOf];omega
   ·obtain rfl:k=x.kids.length:=by omega
    have HF:=zh (HD.out.trans (HDL.out.trans (zU3 HLE.out)));go_wp2;go_ret;exact⟨zA1 HF.out.symm,HB.out⟩
end Rn
end Go.Proofs.YtapgncbegadbnaaGreatDoor
