/- Witnesses of the program. -/
import Derived.Test.YtapgncbegadbnaaGreatDoorHedda5c12
set_option maxRecDepth 100000
set_option maxHeartbeats 8000000
namespace Go.Proofs.YtapgncbegadbnaaGreatDoor.Rn
open At Ch Sp Sy El Go.RowKit
variable{rs:List Rul}{n:Tre}{w:World}{p:List Int}
def WitR (rs:List Rul)(n:Tre)(p:List Int)(x y:Rd):Prop:=∃(pth:List Int) (j:Nat) (r:Tre) (ts:List ByteArray) (zs:List Rd),p=pth++[(j:Int)]/\zBw pth n=some r/\zB2 rs (r.kids.drop j)= .inl ts/\allL rs ts=x::y::zs
def WtP (rs:List Rul)(n:Tre)(m:Mea Trm)(w:World)(e:Ending)(w':World):Prop:=((∃p x y,m= .bad 14 p/\WitR rs n p x y/\∃Ar cr Ap cp,e= .returned (.tuple #[.slice Ar 2 cr,.slice Ap p.length cp,qI 0])/\2<=cr/\cr<=9223372036854775807/\zAp (fun _=>True) w' Ar [x,y]/\zAr w' Ap p/\p.length<=cp/\cp<=9223372036854775807)\/
 ((∀p,m≠ .bad 14 p)/\e= .returned (.tuple #[qN,qN,qI (witF m).1])))/\Below w.heap.size w w'
theorem WtP.none {m:Mea Trm}{w':World}{k:Int}(h:∀p,m≠ .bad 14 p)(hk:(witF m).1=k)(hb:Below w.heap.size w w'):WtP rs n m w (.returned (.tuple #[qN,qN,qI k])) w':=⟨.inr ⟨h,by rw[hk]⟩,hb⟩
theorem PIx.left {A:Option Addr}{q:List Int}(h:PIx w A (p++q)):PIx w A p:=fun k x hk=>h k x (by rw[List.getElem?_append_left (List.getElem?_eq_some_iff.1 hk).1];exact hk)
theorem yAo {ks:List Tre}{j:Nat}{ts:List ByteArray}{x:Rd}{zs:List Rd}(h:zB2 rs (ks.drop j)= .inl ts)(ha:allL rs ts=x::zs):j<ks.length/\0<ts.length:=by
 have h1:0<ts.length:=by
  rcases Nat.eq_zero_or_pos ts.length with e|e
  ·obtain rfl:=List.eq_nil_of_length_eq_zero e;unfold allL at ha
   split at ha
   ·unfold allR at ha;cases ha
   ·cases ha
  ·exact e
 have h2:=zCt h;rw[List.length_drop] at h2;exact⟨by omega,h1⟩
theorem yCv {f:Nat}(h:zAb rs f n.kids [] 0= .bad 14 p):∃x y,WitR rs n p x y:=by
 obtain⟨rds,h2⟩:=zS6 rs f n.kids [] 0 p h;obtain⟨pth,j,r,ts,x,y,zs,h3,h4,h5,h6,_⟩:=zRs h2 n n rfl rfl;exact⟨x,y,pth,j,r,ts,zs,h3,h4,h5,h6⟩
theorem zMu {t d:Tre}(ht:zAt t=true)(hd:d∈t.kids):zAt d=true:=by
 cases t;rw[zAt,Bool.and_eq_true] at ht;exact(zEm ht.2 d hd).1
theorem zKq:∀(p:List Int) (n r:Tre),zBw p n=some r->zAt n=true->zAt r=true
 |[],n,r,h,hf=>by rw[zBw] at h;injection h with h;rw[<-h];exact hf
 |[_],n,r,h,hf=>by rw[zBw] at h;cases h
 |i::s::p,n,r,h,hf=>by
  obtain⟨a,b,d,m,rfl,rfl,h1,h2,h3⟩:=zDx h;exact zKq p m r h3 (zMu (zMu hf (List.mem_of_getElem? h1)) (List.mem_of_getElem? h2))
theorem yC1 (A:Option Addr)(cap:Nat)(rs:List Rul)(f:Nat)(n:Tre)(c:Array Value)(w:World)(hR:zAc w A rs)(hr:rs.length<=1000000)(hrc:rs.length<=cap)(hcc:cap<=9223372036854775807)(hN:zAv w n c)(hf:zA4 n.kids<f):
  Calls Tryz.prog 7 #[.slice A rs.length cap,.agg c] w (WtP rs n (zBh rs f n) w):=by
 obtain⟨A2,cap2,rfl,hsz,hl2,hc2,hk⟩:=hN.form;have B1:=zA0 w (qO n A2 cap2);have HB:=zh B1;have K0:=zh (Blk.new w 25 (qC n A2 cap2));have HR1:=zh (hR.keep B1);have HN1:=zh (hN.keep B1);have HK1:=zh (hk.keep B1);have HF:=zh hf;clear hR hN hk hf hsz B1;go_enter Tryz.func7,Tryz.ntmps7;go_upto_region 1 with(fail)
 generalize w.alloc (qO n A2 cap2)=w1 at*;obtain⟨n0,n1,n2,n3⟩:=qb K0;cases hv:zAd rs with
 |false=>
  have HV:=zh hv;have HO:=zh (show zBh rs f n= .bad 1 [] by unfold zBh;rw[hv];rfl);clear hv;go_wp2_with fail;refine(zCo A cap rs w1 HR1.out hrc hcc).mono ?_;rintro e wa ⟨rfl,hB⟩;rw[HV.out];replace HB:=jt HB hB;go_wp2;exact bodyPost_ret (v:=.tuple #[qN,qN,qI 1]) (by simp[results,Tryz.results7,go_sem]) rfl (WtP.none (fun p h=>by rw[HO.out] at h;cases h) (by rw[HO.out];rfl) HB.out)
 |true=>
  have HV:=zh hv;cases ht:zBa n with
  |false=>
   have HT:=zh ht;have HO:=zh (show zBh rs f n= .bad 1 [] by unfold zBh;rw[hv,ht];rfl);clear hv ht;go_wp2_with fail;refine(zCo A cap rs w1 HR1.out hrc hcc).mono ?_;rintro e wa ⟨rfl,hB⟩;rw[HV.out];clear n0 n1 n2 n3;have n0:=(keep hB K0.out).cell 0;have n1:=(keep hB K0.out).cell 1;have n2:=(keep hB K0.out).cell 2;have n3:=(keep hB K0.out).cell 3;go_wp2_with fail;refine(zEq n _ wa (HN1.out.keep hB)).mono ?_;rintro e wq ⟨rfl,hC⟩;rw[HT.out];replace hB:=hB.trans (hC.mono hB.size);replace HB:=jt HB hB;clear hC n0 n1 n2 n3;go_wp2;exact bodyPost_ret (v:=.tuple #[qN,qN,qI 1]) (by simp[results,Tryz.results7,go_sem]) rfl (WtP.none (fun p h=>by rw[HO.out] at h;cases h) (by rw[HO.out];rfl) HB.out)
  |true=>
   have HT:=zh ht;have HO:=zh (show zBh rs f n=match zAb rs f n.kids [] 0 with
    | .ok t=>if zCs t=true then .ok t else .bad 6 [0]
    | .bad e p=>.bad e p by unfold zBh;rw[hv,ht];rfl)
   have HFL:=zh (zC3 ht).2.2.2;have HFN:=zh (zC3 ht).2.1;have HCT:=zh (show zA4 n.kids<1000 from by have h1:=(zC3 ht).2.2.1;have h2:=zCz n;omega);clear hv ht;go_wp2_with fail;refine(zCo A cap rs w1 HR1.out hrc hcc).mono ?_;rintro e wa ⟨rfl,hB⟩;rw[HV.out];clear n0 n1 n2 n3;have n0:=(keep hB K0.out).cell 0;have n1:=(keep hB K0.out).cell 1;have n2:=(keep hB K0.out).cell 2;have n3:=(keep hB K0.out).cell 3;go_wp2_with fail;refine(zEq n _ wa (HN1.out.keep hB)).mono ?_;rintro e wq ⟨rfl,hC⟩;rw[HT.out];replace hB:=hB.trans (hC.mono hB.size);clear hC n0 n1 n2 n3;have HR2:=zh (HR1.out.keep hB);have HN2:=zh (HN1.out.keep hB);have HK2:=zh (HK1.out.keep hB);replace K0:=kp hB K0;replace HB:=jt HB hB;clear hB HR1 HN1 HK1;generalize wq=w2 at*;go_wp2_with fail;refine(zHd A cap rs w2 HR2.out hr).mono ?_;rintro e w3 ⟨gr,rfl,hrd,hb⟩;have HRD:=zh hrd;replace HN2:=zh (HN2.out.keep hb);replace HK2:=zh (HK2.out.keep hb);replace HR2:=zh (HR2.out.keep hb);replace K0:=kp hb K0;replace HB:=jt HB hb;clear hb hrd;have n3:=K0.out.cell 3;go_wp2_with fail;refine(zMe gr A cap rs hrc hcc f n.kids [] 0 A2 none cap2 0 w3 HRD.out HK2.out hl2 hc2 zDw (by have:=HCT.out;simp only[List.length_nil];omega) HF.out HFL.out (by omega)).mono ?_;rintro e w4 hm;obtain⟨c9,f9,rfl,hres,hb⟩:=hm.res;replace HN2:=zh (HN2.out.keep hb);replace HR2:=zh (HR2.out.keep hb);replace HRD:=zh (HRD.out.keep hb);replace K0:=kp hb K0;replace HB:=jt HB hb;clear hb n3 hm;cases hM:zAb rs f n.kids [] 0 with
   |ok t=>
    rw[hM] at hres;obtain⟨cc,rfl,rfl,htt⟩:=hres;obtain⟨tk,ta,tv,tA,tn,tcp,tf,rfl⟩:=htt.ext;have HO2:=zh (show ∀p,zBh rs f n≠ .bad 14 p from fun p h=>by rw[HO.out,hM] at h;dsimp only at h;split at h<;>cases h);have HO3:=zh (show(witF (zBh rs f n)).1=8 by rw[HO.out,hM];dsimp only;split<;>rfl);have HX:=zh (zA0 w4 (.cells #[qI tk,.string ta,.string tv,.slice tA tn tcp,.string tf] 47));clear hM htt;go_wp2;exact bodyPost_ret (v:=.tuple #[qN,qN,qI 8]) (by simp[results,Tryz.results7,go_sem]) rfl (WtP.none HO2.out HO3.out (HB.out.trans (HX.out.mono HB.out.size)))
   |bad er p=>
    rw[hM] at hres;obtain⟨rfl,gf,rfl,Ap,cp,hkf,hpc,hpm,hpa,-,-⟩:=hres;have HX:=zh (zA0 w4 (.cells qT 47));have HER:=zh (zQu rs f n.kids [] 0 HF.out _ _ hM);have HO2:=zh (show zBh rs f n= .bad er p by rw[HO.out,hM]);have HM:=zh hM;have HKF:=zh hkf;have HPA:=zh hpa;clear hM hkf hpa;go_upto_region 5 with(fail)
    generalize w4.alloc (.cells qT 47)=w5 at*;replace HN2:=zh (HN2.out.keep HX.out);replace HR2:=zh (HR2.out.keep HX.out);replace HRD:=zh (HRD.out.keep HX.out);replace K0:=zh (keep HX.out K0.out);replace HKF:=zh (keep HX.out HKF.out);replace HPA:=zh (HPA.out.keep HX.out);replace HB:=zh (HB.out.trans (HX.out.mono HB.out.size));clear HX;have f0:=HKF.out.cell 0;have f1:=HKF.out.cell 1;rcases HER.out with rfl|rfl
    ·obtain⟨x,y,hw⟩:=yCv HM.out;have HW:=zh hw;obtain⟨pth,j,r,ts,zs,hp,hfd,htk,hal⟩:=hw;have HFD:=zh hfd;have HTK:=zh htk;have HAL:=zh hal;have HP:=zh hp;have HFR:=zh (zKq _ _ _ hfd HFN.out);have HCR:=zh (zJ3 _ _ _ hfd);have HPX:=zh (PIx.of HPA.out);have hlen:p.length=pth.length+1:=by rw[hp];simp
     rw[hp] at HPX;have HLN0:=zh hlen;rw[hlen] at f0 HKF;have hpc1:pth.length+1<=cp:=by omega
     clear hfd htk hal hp hlen;generalize hm:pth.length+1=m at*;have j0:(m:Int) -1=(pth.length:Int):=by omega
     have j1:(0:Int)<=(pth.length:Int):=by omega
     have j2:(pth.length:Int)<=(cp:Int):=by omega
     have j3:pth.length<=cp:=by omega
     obtain⟨n0,n1,n2,n3⟩:=qb K0;go_upto_region 8 with(fail)
     refine qm [1,2,2,2,1,2,2,1,2,2,2,1,3,2] (List.replicate 14 false) (fun gx=>[.agg (qC n A2 cap2),qP gf,qP gf,qP gf,.slice Ap m cp,qI (pth.length:Int),.slice Ap pth.length cp,.tuple #[gx.v 56,qI 0],.tuple #[gx.v 56,qI 0],gx.v 56,qI 0,qP (gx.n 11),undef,qI 0]) [(7,fun gx wx=>(∃A9 cap9,gx.v 56= .agg (qC r A9 cap9)/\NdAt (fun b=>b<w5.heap.size\/(gx.n 56<=b/\b<gx.n 57)) wx r (qC r A9 cap9))/\w5.heap.size<=gx.n 56/\gx.n 56<=gx.n 57),(11,fun gx wx=>Blk wx (gx.n 11) 25 qZ/\w5.heap.size<=gx.n 11)] (fun gx wx=>(gx.n 11=0\/gx.n 11<wx.heap.size)/\gx.n 57<=wx.heap.size/\(gx.n 11=0\/gx.n 57=0\/gx.n 11<gx.n 56\/gx.n 57<=gx.n 11)) (zA6.cons (fun gx wx w2 h hb=>⟨h.1.imp fun A9 h=>h.imp fun cap9 h=>⟨h.1,h.2.keep hb⟩,h.2⟩) (zA6.cons (fun gx wx w2 h hb=>⟨keep hb h.1,h.2⟩) zA6.nil)) (⟨.inl rfl,Nat.zero_le _,.inl rfl⟩) ?_ ?_
     ·refine⟨fun gx wq hB hJ hf=>?_,jC,jI,jI,jR fun gx wq hB=>(keep hB HKF.out).cell 0,jC,fun gx wq=>jp (.slice Ap pth.length cp) (by simp[go_sem,evAct,j1,j2];try omega) rfl,fun gx wq hB hJ hf=>?_,jC,jC,jC,fun gx wq hB hJ hf=>?_,jC,trivial⟩
      ·have n0:=(keep hB K0.out).cell 0;have n1:=(keep hB K0.out).cell 1;have n2:=(keep hB K0.out).cell 2;have n3:=(keep hB K0.out).cell 3;exact gs (.agg (qC n A2 cap2)) hJ (by kernel_rfl) (by simp[go_sem,evAct,n0,n1,n2,n3]) rfl
      ·refine jc 22 (#[.agg (qC n A2 cap2),.slice Ap pth.length cp]) wq (by kernel_rfl) ((zPu (fun b=>b<w5.heap.size) pth n r HFD.out HT.out _ Ap cp wq (HN2.out.keep hB) (HN2.out.nd.keep hB) (fun b hb=>ll hb hB.size) (HPX.out.left.keep hB) (by omega) hpm).mono ?_);rintro e wz ⟨A9,cap9,rfl,hn9,hb⟩;exact⟨_,rfl,(((gx.setV 56 (.agg (qC r A9 cap9)))).setN 56 wq.heap.size).setN 57 wz.heap.size,rfl,jD,hb,⟨⟨⟨A9,cap9,rfl,hn9.any fun b h1 h2=>h2.imp id fun h=>⟨h,h1⟩⟩,hB.size,hb.size⟩,jH,trivial⟩,(by obtain⟨j1,j2,j3⟩:=hJ;exact⟨j1.imp id (fun h=>ll h hb.size),Nat.le_refl _,j1.elim .inl (fun h=>.inr (.inr (.inl h)))⟩)⟩
      ·exact jv (qP wq.heap.size) (wq.alloc (.cells qZ 25)) (by simp[go_sem]) ⟨gx.setN 11 wq.heap.size,rfl,jD,zA0 wq _,⟨jH,⟨Blk.new wq _ _,hB.size⟩,trivial⟩,(by obtain⟨j1,j2,j3⟩:=hJ;exact⟨.inr (by show wq.heap.size<_;simp),Nat.le_trans j2 (zA0 wq (.cells qZ 25)).size,.inr (.inr (.inr j2))⟩)⟩
     ·refine fun gx wq hB hJ hf=>?_
      dsimp only[zAh] at hf;change wpOps _ _ _ [12] _ _;obtain⟨⟨⟨A9,cap9,hv56,hn9⟩,hlo,hhi⟩,⟨hk11,hl11⟩,-⟩:=hf;obtain⟨-,-,j9⟩:=hJ;have HNR:=zh hn9;have HK11:=zh hk11;have HL:=zh (And.intro hlo (And.intro hhi hl11));have HJ9:=zh (show gx.n 11<gx.n 56\/gx.n 57<=gx.n 11 by have:=HB.out.size;have:=K0.out.lt;omega);have HB6:=zh hB;rw[hv56];clear hlo hhi hk11 hl11 hn9 j9 hB hv56;generalize gx.n 11=n11 at*;generalize gx.n 56=n56 at*;generalize gx.n 57=n57 at*;clear gx;generalize wq=w6 at*;have kc:=HK11.out.cell;have kf:=HK11.out.frozen;obtain⟨w7,e7,K7,HB7,HG7⟩:=zO9 HK11.out HB6.out HL.out.2.2 (qI r.kind) (.string r.text) (qI r.cols) (.slice A9 r.kids.length cap9);refine zAu (o:=_) rfl rfl (w':=((((w6).setCell ⟨n11,0,none⟩ (qI r.kind)).setCell ⟨n11,1,none⟩ (.string r.text)).setCell ⟨n11,2,none⟩ (qI r.cols)).setCell ⟨n11,3,none⟩ (.slice A9 r.kids.length cap9)) (by simp[go_sem,kc,kf]) ?_;refine zAa ?_;rw[e7];have HNR7:=zh (HNR.out.grown (ok':=fun _=>True) HG7.out (fun b _ hb e=>by have h9:b=n11:=sj e;have h8:=HL.out;have h7:=HJ9.out;omega) fun _ _ _=>trivial);replace HRD:=zh (HRD.out.keep HB7.out);replace HR2:=zh (HR2.out.keep HB7.out);replace HKF:=zh (keep HB7.out HKF.out);replace HPA:=zh (HPA.out.keep HB7.out);replace HPX:=zh (HPX.out.keep HB7.out);replace HB:=zh (HB.out.trans (HB7.out.mono HB.out.size));clear e7 kc kf HB6 HK11 HNR HG7 HB7 HJ9 HL K0 HN2 f0 f1 n0 n1 n2 n3;obtain⟨hjl,hts⟩:=yAo HTK.out HAL.out;obtain⟨A9',cap9',e9,hrs,hrn,hrm,hrk⟩:=HNR7.out.form;cases e9;obtain⟨ad9,rfl,had9,_⟩:=hrk j r.kids[j] (gE hjl);obtain⟨adp,rfl,hlp,cj⟩:=HPX.out pth.length (j:Int) (by simp);have HRK:=zh hrk.kids;have f0:=HKF.out.cell 0;have k3:=K7.out.cell 3;have HJL:=zh hjl;have qk:¬(cap9=j):=by omega
      have qk2:j<=cap9:=by omega
      have qk3:j<=r.kids.length:=by omega
      have j4:(0:Int)<=(j:Int):=by omega
      have j5:(pth.length:Int)<(m:Int):=by omega
      obtain⟨l,hl⟩:∃l,l=r.kids.drop j:=⟨_,rfl⟩
      have HLN:=zh (show l.length=r.kids.length -j by rw[hl,List.length_drop]);have HKL:=zh (show zAo w7 (some (ad9.add (j*4))) l by rw[hl];exact zHs HRK.out j);have HFL:=zh (show ∀n∈l,zAt n=true from fun n hn=>zMu HFR.out (by rw[hl] at hn;exact List.mem_of_mem_drop hn));have HTL:=zh (show zB2 rs l= .inl ts by rw[hl];exact HTK.out);have HTS:=zh (zFn HFL.out HTL.out);have HADP:=zh hlp;have HRL:=zh (show r.kids.length<=256 from zEz HFR.out);have CJ:=zh cj;clear hrk had9 hl cj k3 f0;go_upto_region 9 with(fail)
      refine qm [2,2,1,2,2,2,1,2,2,1,2,1,2,2,2,2,2,2,2] (List.replicate 19 false) (fun gx=>[qP gr,.pointer (some ⟨n11,3,none⟩),.slice (some ad9) r.kids.length cap9,qP gf,qP gf,qP gf,.slice (some adp) m cp,qI (pth.length:Int),.pointer (some (adp.add pth.length)),qI (j:Int),.slice (some (ad9.add (j*4))) l.length (cap9 -j),.tuple #[gx.v 71,qI 0,.bool true],.tuple #[gx.v 71,qI 0,.bool true],gx.v 71,qI 0,.bool true,gx.v 71,qI 0,.bool true]) [(11,fun gx wx=>∃AT cT,gx.v 71= .slice AT ts.length cT/\ts.length<=cT/\cT<=9223372036854775807/\zBp wx AT ts)] (fun _ _=>True) (zA6.cons (fun gx wx w2 ⟨AT,cT,h1,h2,h3,h4⟩ hb=>⟨AT,cT,h1,h2,h3,h4.keep hb⟩) zA6.nil) (trivial) ?_ ?_
      ·refine⟨jC,jI,jR fun gx wq hB=>(keep hB K7.out).cell 3,jC,jI,jI,jR fun gx wq hB=>(keep hB HKF.out).cell 0,jC,fun gx wq=>?_,jR fun gx wq hB=>(hB.cell (by rw[zA2];exact HADP.out)).trans CJ.out,fun gx wq=>?_,fun gx wq hB hJ hf=>?_,jC,jC,jC,jC,jC,jC,jC,trivial⟩
       ·exact jp (.pointer (some (adp.add pth.length))) (by simp[go_sem,evAct,j1,j5];try omega) rfl
       ·have hln:=HLN.out;exact jp (.slice (some (ad9.add (j*4))) l.length (cap9 -j)) (by simp[go_sem,evAct,qk,qk3,j4,hln];try omega) rfl
       ·refine jc 23 (#[qP gr,.slice (some (ad9.add (j*4))) l.length (cap9 -j)]) wq (by kernel_rfl) ((zLw gr A (some (ad9.add (j*4))) cap (cap9 -j) rs l wq (HRD.out.keep hB) (HKL.out.keep hB) (fun n hn hs=>by obtain⟨b0,sub,r,e⟩:=zIz (HFL.out n hn) hs;rw[e];simp) (by have:=HLN.out;have:=HRL.out;omega)).mono ?_);rintro e wz ⟨hm,hb⟩;rw[HTL.out] at hm;obtain⟨v,rfl,ho⟩:=hm;obtain⟨AT,cT,rfl,hct,hct2,hta⟩:=ho.at_ HTS.out;exact⟨_,rfl,gx.setV 71 (.slice AT ts.length cT),rfl,jD,hb,⟨⟨AT,cT,rfl,hct,hct2,hta⟩,trivial⟩,trivial⟩
      ·refine fun gx wq hB hJ hf=>?_
       dsimp only[zAh] at hf;change wpOps _ _ _ [] _ _;obtain⟨⟨AT,cT,hv71,hct,hct2,hta⟩,-⟩:=hf;have HTA:=zh hta;replace HRD:=zh (HRD.out.keep hB);replace HR2:=zh (HR2.out.keep hB);replace HKF:=kp hB HKF;replace HPA:=zh (HPA.out.keep hB);replace HB:=jt HB hB;rw[hv71];refine zAa ?_;clear hta hB hJ hv71 HKL K7 HNR7 HRK;clear gx;generalize wq=w8 at*;go_wp2_with fail;refine(Ch.zQq A AT cap cT rs ts w8 HR2.out HTA.out hrc hcc).mono ?_;rintro e w9 ⟨AR,cR,rfl,hr1,hr2,hrd,hb⟩;have HRL2:=zh (show zCv rs ts=[x,y] by rw[zUu,HAL.out];rfl);rw[HRL2.out] at hr1 hrd;rw[HRL2.out];have HRD2:=zh hrd;replace HKF:=kp hb HKF;replace HPA:=zh (HPA.out.keep hb);replace HB:=jt HB hb;have f0:=HKF.out.cell 0;have hr3:2<=cR:=hr1;clear hr1 hrd hb HRL2;generalize okI rs ts=oi at*;go_wp2_with fail
       go_quiet (fail)
       have hdb:=below_drewN (Below.refl w9.heap.size w9) nq;replace HRD2:=zh (HRD2.out.keep hdb);replace HPA:=zh (HPA.out.keep hdb);replace HB:=jt HB hdb;clear hdb f0;generalize w9.drewN nq=wz at*;go_wp2;exact bodyPost_ret (v:=.tuple #[.slice AR 2 cR,.slice (some adp) m cp,qI 0]) (by simp[results,Tryz.results7,go_sem]) rfl ⟨.inl ⟨p,x,y,HO2.out,HW.out,AR,cR,some adp,cp,by rw[HLN0.out],hr3,hr2,HRD2.out.any fun _ _ _=>trivial,HPA.out,hpc,hpm⟩,HB.out⟩
    ·have HO3:=zh (show ∀p,zBh rs f n≠ .bad 14 p from fun p h=>by rw[HO2.out] at h;cases h);have HO4:=zh (show(witF (zBh rs f n)).1=8 by rw[HO2.out];rfl);go_wp2;exact bodyPost_ret (v:=.tuple #[qN,qN,qI 8]) (by simp[results,Tryz.results7,go_sem]) rfl (WtP.none HO3.out HO4.out HB.out)
end Go.Proofs.YtapgncbegadbnaaGreatDoor.Rn
