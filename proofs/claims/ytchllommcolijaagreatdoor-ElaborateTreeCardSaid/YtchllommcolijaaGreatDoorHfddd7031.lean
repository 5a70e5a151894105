/- Tree of the program. -/
import Derived.Test.YtchllommcolijaaGreatDoorHbe21b569
import Derived.Test.YtchllommcolijaaGreatDoorH15c22e57
namespace Go.Proofs.YtchllommcolijaaGreatDoor.El
open At Ch Sp Sy Go.RowKit
theorem zPc (g:Nat)(A:Option Addr)(cap:Nat)(rs:List Rul)(hrc:rs.length≤cap)(hcc:cap≤9223372036854775807):∀f,zSz g A cap rs f
 |0=>fun _ _ _ _ _ _ _ _ _ _ _ _ _ _ h=>absurd h (by omega)
 |f+1=>zTk g A cap rs hrc hcc f (zPc g A cap rs hrc hcc f)
def zCd (rs:List Rul)(f:Nat)(n:Tre):Mea Trm:=if(zAj rs&&zFt n)=true then(match zAe rs f n.kids [] 0 with
 | .ok t=>if zCp t=true then .ok t else .bad 6 [0]
 | .bad e p=>.bad e p) else .bad 1 []
def zIp (m:Mea Trm)(w:World)(e:Ending)(w':World):Prop:=(match m with
 | .ok t=>∃c,e= .returned (.tuple #[.agg c,.slice none 0 0,.int .i64 0])∧TmAt (fun b=>w.heap.size≤b) w' t c
 | .bad er p=>∃A cp,e= .returned (.tuple #[.agg zerC,.slice A p.length cp,.int .i64 er])∧zAo w' A p∧p.length≤cp∧cp≤9223372036854775807)∧Below w.heap.size w w'
theorem zEm {n:Tre}(h:zFt n=true):n.kind=1∧zB8 n=true∧zAa n≤1000∧zCm 1 n.kids=true:=by
 unfold zFt at h;simp only[Bool.and_eq_true,decide_eq_true_eq] at h;refine⟨h.1,h.2.1,h.2.2.1,?_⟩;have h2:=h.2.1;obtain⟨k,t,c,ks⟩:=n;have hk:k=1:=h.1;subst hk;rw[zB8,Bool.and_eq_true] at h2;exact h2.2
theorem zFa (n:Tre):zAc n.kids+1=zAa n:=by
 obtain⟨k,t,c,ks⟩:=n;rw[zAa];rfl
theorem zEj {w:World}:zAo w none []:=⟨rfl,fun h=>absurd h (by simp)⟩
theorem zAo.grown {w w':World}{A:Option Addr}{p:List Int}{q:Nat}(h:zAo w A p)(hg:w.grownBy w' (some q))(ho:∀ad,A=some ad→0<p.length→ad.block≠q):zAo w' A p:=by
 obtain⟨r1,r2⟩:=h;refine⟨r1,fun hn=>?_⟩;obtain⟨ad,r3,r4,r5⟩:=r2 hn;refine⟨ad,r3,ll r4 hg.size,fun j u hj=>?_⟩;rw[←r5 j u hj];refine World.cell?_of_block (hg.block _ (by rw[zA3];exact r4) fun e=>?_);have e9:=sj e;rw[zA3] at e9;exact ho ad r3 hn e9
theorem zMp (w:World):zAo (w.alloc (.cells #[.int .i64 0] 3)) (some ⟨w.heap.size,0,none⟩) [0]:=by
 have hk:=Blk.new w 3 #[.int .i64 0];refine⟨rfl,fun _=>⟨_,rfl,hk.lt,fun j u hj=>?_⟩⟩;cases j with
 |zero=>
  simp only[ints,List.map_cons,List.map_nil,List.getElem?_cons_zero,Option.some.injEq] at hj;rw[←hj];exact hk.cell 0
 |succ j=>simp[ints] at hj
set_option maxRecDepth 100000 in
set_option maxHeartbeats 8000000 in
theorem zPe (A:Option Addr)(cap:Nat)(rs:List Rul)(f:Nat)(n:Tre)(c:Array Value)(w:World)(hR:zAg w A rs)(hrc:rs.length≤cap)(hcc:cap≤9223372036854775807)(hr:rs.length≤1000000)(hN:zBd w n c)(hf:zAc n.kids<f):
  Calls Tryz.prog 7 #[.slice A rs.length cap,.agg c] w (zIp (zCd rs f n) w):=by
 obtain⟨A2,cap2,rfl,hsz,hl2,hc2,hk⟩:=hN.form;have B1:=zA1 w (.cells #[.int .i64 n.kind,.string n.text,.int .i64 n.cols,.slice A2 n.kids.length cap2] 25);have s1:(w.alloc (.cells #[.int .i64 n.kind,.string n.text,.int .i64 n.cols,.slice A2 n.kids.length cap2] 25)).heap.size=w.heap.size+1:=by simp
 have B2:=zA1 (w.alloc (.cells #[.int .i64 n.kind,.string n.text,.int .i64 n.cols,.slice A2 n.kids.length cap2] 25)) (.cells zerC 31);have HB:=zh (B1.trans (B2.mono B1.size));have K0:=zh (keep B2 (Blk.new w 25 #[.int .i64 n.kind,.string n.text,.int .i64 n.cols,.slice A2 n.kids.length cap2]));have K1:=zh (Blk.new (w.alloc (.cells #[.int .i64 n.kind,.string n.text,.int .i64 n.cols,.slice A2 n.kids.length cap2] 25)) 31 zerC);rw[s1] at K1;have HR1:=zh (hR.keep HB.out);have HN1:=zh (hN.keep HB.out);have HK1:=zh (hk.keep HB.out);have HF:=zh hf;clear hR hN hk hf hsz B1 B2 s1;go_enter Tryz.func7,Tryz.ntmps7;go_upto_region 1 with(fail)
 generalize (w.alloc (.cells #[.int .i64 n.kind,.string n.text,.int .i64 n.cols,.slice A2 n.kids.length cap2] 25)).alloc (.cells zerC 31)=w1 at*;cases hv:zAj rs with
 |false=>
  have HV:=zh hv;have HO:=zh (show zCd rs f n= .bad 1 [] by unfold zCd;rw[hv];rfl);clear hv;have n0:=K0.out.cell 0;have n1:=K0.out.cell 1;have n2:=K0.out.cell 2;have n3:=K0.out.cell 3;go_wp2_with fail;refine(zE6 A cap rs w1 HR1.out hrc hcc).mono ?_;rintro e wa ⟨rfl,hB⟩;rw[HV.out];clear n0 n1 n2 n3;generalize wa=wq at*;replace HB:=jt HB hB;replace K1:=kp hB K1;clear hB;generalize wq=w2 at*;have k1c:=fun i=>K1.out.cell i
  have k1f:=fun i=>K1.out.frozen i
  go_wp2_with fail;obtain⟨w9,e9,KR,HB5,HG5⟩:=fin5 K1.out HB.out (by omega) (.int .i64 0) (.string ⟨#[]⟩) (.string ⟨#[]⟩) (.slice none 0 0) (.string ⟨#[]⟩);rw[e9];obtain⟨r0,r1,r2,r3,r4⟩:=jF KR;exact bodyPost_ret (v:=.tuple #[.agg #[.int .i64 0,.string ⟨#[]⟩,.string ⟨#[]⟩,.slice none 0 0,.string ⟨#[]⟩],.slice none 0 0,.int .i64 1]) (by simp[results,Tryz.results7,go_sem,r0,r1,r2,r3,r4]) rfl (show zIp _ _ _ _ by rw[HO.out];exact⟨⟨none,0,rfl,zEj,Nat.le_refl _,by omega⟩,HB5.out⟩)
 |true=>
  have HV:=zh hv;cases ht:zFt n with
  |false=>
   have HT:=zh ht;have HO:=zh (show zCd rs f n= .bad 1 [] by unfold zCd;rw[hv,ht];rfl);clear hv ht;have n0:=K0.out.cell 0;have n1:=K0.out.cell 1;have n2:=K0.out.cell 2;have n3:=K0.out.cell 3;go_wp2_with fail;refine(zE6 A cap rs w1 HR1.out hrc hcc).mono ?_;rintro e wa ⟨rfl,hB⟩;rw[HV.out];clear n0 n1 n2 n3;have n0:=(keep hB K0.out).cell 0;have n1:=(keep hB K0.out).cell 1;have n2:=(keep hB K0.out).cell 2;have n3:=(keep hB K0.out).cell 3;go_wp2_with fail;refine(zK1 n _ wa (HN1.out.keep hB)).mono ?_;rintro e wq ⟨rfl,hC⟩;rw[HT.out];replace hB:=hB.trans (hC.mono hB.size);clear hC n0 n1 n2 n3;replace HB:=jt HB hB;replace K1:=kp hB K1;clear hB;generalize wq=w2 at*;have k1c:=fun i=>K1.out.cell i
   have k1f:=fun i=>K1.out.frozen i
   go_wp2_with fail;obtain⟨w9,e9,KR,HB5,HG5⟩:=fin5 K1.out HB.out (by omega) (.int .i64 0) (.string ⟨#[]⟩) (.string ⟨#[]⟩) (.slice none 0 0) (.string ⟨#[]⟩);rw[e9];obtain⟨r0,r1,r2,r3,r4⟩:=jF KR;exact bodyPost_ret (v:=.tuple #[.agg #[.int .i64 0,.string ⟨#[]⟩,.string ⟨#[]⟩,.slice none 0 0,.string ⟨#[]⟩],.slice none 0 0,.int .i64 1]) (by simp[results,Tryz.results7,go_sem,r0,r1,r2,r3,r4]) rfl (show zIp _ _ _ _ by rw[HO.out];exact⟨⟨none,0,rfl,zEj,Nat.le_refl _,by omega⟩,HB5.out⟩)
  |true=>
   have HT:=zh ht;have HO:=zh (show zCd rs f n=match zAe rs f n.kids [] 0 with
    | .ok t=>if zCp t=true then .ok t else .bad 6 [0]
    | .bad e p=>.bad e p by unfold zCd;rw[hv,ht];rfl)
   have HFL:=zh (zEm ht).2.2.2;have HCT:=zh (show zAc n.kids<1000 from by have h1:=(zEm ht).2.2.1;have h2:=zFa n;omega);clear hv ht;have n0:=K0.out.cell 0;have n1:=K0.out.cell 1;have n2:=K0.out.cell 2;have n3:=K0.out.cell 3;go_wp2_with fail;refine(zE6 A cap rs w1 HR1.out hrc hcc).mono ?_;rintro e wa ⟨rfl,hB⟩;rw[HV.out];clear n0 n1 n2 n3;have n0:=(keep hB K0.out).cell 0;have n1:=(keep hB K0.out).cell 1;have n2:=(keep hB K0.out).cell 2;have n3:=(keep hB K0.out).cell 3;go_wp2_with fail;refine(zK1 n _ wa (HN1.out.keep hB)).mono ?_;rintro e wq ⟨rfl,hC⟩;rw[HT.out];replace hB:=hB.trans (hC.mono hB.size);clear hC n0 n1 n2 n3;have HR2:=zh (HR1.out.keep hB);have HK2:=zh (HK1.out.keep hB);replace K0:=kp hB K0;replace HB:=jt HB hB;replace K1:=kp hB K1;clear hB HR1 HN1 HK1;generalize wq=w2 at*;have HZ:=zh (show w.heap.size+1<w2.heap.size from K1.out.lt);go_upto_region 3 with(fail)
   refine zAf (X:=Gh) (by kernel_rfl) [2,1,2,1,1,2,2,2,3,2] [false,false,false,false,false,false,false,false,false,false] _ (fun gx=>[.slice A rs.length cap,.pointer (some ⟨gx.n 19,0,none⟩),.pointer (some ⟨w.heap.size,3,none⟩),.slice A2 n.kids.length cap2,.tuple #[gx.v 23,gx.v 24],.tuple #[gx.v 23,gx.v 24],gx.v 23,gx.v 24,undef,gx.v 24]) [(1,fun gx wx=>zG4 wx (gx.n 19) A cap rs),(4,fun gx wx=>LRes (gx.n 22) (gx.n 23) (zAe rs f n.kids [] 0) wx (gx.v 23) (gx.v 24)∧w2.heap.size≤gx.n 22)] (fun _ _=>True) Gh.zero (by kernel_rfl) (fun gx=>by simp[fin,zAi,zA7,List.range,List.range.loop,Act.put];rfl) (fun _=>by kernel_rfl) (zA6.cons (fun gx wx w2 h hb=>h.keep hb) (zA6.cons (fun gx wx w2 h hb=>⟨h.1.keep hb,h.2⟩) zA6.nil)) (trivial) ?_ (by kernel_rfl) ?_
   ·refine⟨fun gx wq=>jp (.slice A rs.length cap) (by kernel_rfl) rfl,fun gx wq hB hJ hf=>?_,fun gx wq=>jp (.pointer (some ⟨w.heap.size,3,none⟩)) (by simp[go_sem,evAct]) rfl,fun gx wq hB hJ hf=>?_,fun gx wq hB hJ hf=>?_,fun gx wq=>jp (.tuple #[gx.v 23,gx.v 24]) (by kernel_rfl) rfl,fun gx wq=>jp (gx.v 23) (by kernel_rfl) rfl,fun gx wq=>jp (gx.v 24) (by kernel_rfl) rfl,fun gx wq=>jp (gx.v 24) (by kernel_rfl) rfl,trivial⟩
    ·refine jc 16 (#[.slice A rs.length cap]) wq (by kernel_rfl) ((zKy A cap rs wq (HR2.out.keep hB) hr).mono ?_);rintro e wz ⟨gr,rfl,hrd,hb⟩;exact⟨_,rfl,gx.setN 19 gr,rfl,(by refine zA5.of_same ⟨?_,?_,?_,?_,?_,?_,?_,?_,?_,?_,trivial⟩<;>first|exact jK|exact .inl rfl|exact .inr (.inl (by kernel_rfl))),hb,⟨hrd,.inl (by kernel_rfl),trivial⟩,trivial⟩
    ·have n3:=(keep hB K0.out).cell 3;exact gs (.slice A2 n.kids.length cap2) hJ (by kernel_rfl) (by simp[go_sem,evAct,n3]) rfl
    ·have f19:=hf.1 (by kernel_rfl);refine jc 17 (#[.pointer (some ⟨gx.n 19,0,none⟩),.slice A2 n.kids.length cap2,.slice none 0 0,.int .i64 0]) wq (by kernel_rfl) ((zPc _ _ _ _ hrc hcc f n.kids [] 0 A2 none cap2 0 wq f19 (HK2.out.keep hB) hl2 hc2 zEj (by have:=HCT.out;simp only[List.length_nil];omega) HF.out HFL.out (by omega)).mono ?_);rintro e wz hm;obtain⟨c9,f9,rfl,hres,hb⟩:=hm.res;exact⟨_,rfl,(((gx.setV 23 c9).setV 24 f9).setN 22 wq.heap.size).setN 23 wz.heap.size,rfl,(by refine zA5.of_same ⟨?_,?_,?_,?_,?_,?_,?_,?_,?_,?_,trivial⟩<;>first|exact jK|exact .inl rfl|exact .inr (.inl (by kernel_rfl))),hb,⟨.inr fun h=>h,⟨hres,hB.size⟩,trivial⟩,trivial⟩
   ·refine fun gx wq hB hJ hf=>?_
    dsimp only[zAk] at hf;change wpOps _ _ _ [8] _ _;obtain⟨-,⟨hres,hlo⟩,-⟩:=hf;replace HB:=jt HB hB;replace K1:=kp hB K1;have HRES:=zh hres;have HLO:=zh (show w.heap.size+1<gx.n 22 from ll HZ.out hlo);clear hres hlo hB hJ K0 HR2 HK2;generalize gx.n 19=n19 at*;generalize gx.v 23=c9 at*;generalize gx.v 24=f9 at*;generalize gx.n 22=lo at*;generalize gx.n 23=hi2 at*;clear gx;generalize wq=w3 at*;have k1c:=fun i=>K1.out.cell i
    have k1f:=fun i=>K1.out.frozen i
    cases hM:zAe rs f n.kids [] 0 with
    |bad er p=>
     have HR2:=HRES.out;rw[hM] at HR2;obtain⟨rfl,gf,rfl,hff⟩:=HR2;have HFF:=zh hff;have HO2:=zh (show zCd rs f n= .bad er p by rw[HO.out,hM]);have HG9:=zh (zE7 w3 (w.heap.size+1) (.int .i64 0) (.string ⟨#[]⟩) (.string ⟨#[]⟩) (.slice none 0 0) (.string ⟨#[]⟩));have HB9:=zh (zM7 (g:=w.heap.size+1) HB.out HB.out.size (by omega) (.int .i64 0) (.string ⟨#[]⟩) (.string ⟨#[]⟩) (.slice none 0 0) (.string ⟨#[]⟩));have K9:=zh (set5 K1.out (.int .i64 0) (.string ⟨#[]⟩) (.string ⟨#[]⟩) (.slice none 0 0) (.string ⟨#[]⟩));refine zAv (o:=_) rfl rfl (w':=(((((w3).setCell ⟨w.heap.size+1,0,none⟩ (.int .i64 0)).setCell ⟨w.heap.size+1,1,none⟩ (.string ⟨#[]⟩)).setCell ⟨w.heap.size+1,2,none⟩ (.string ⟨#[]⟩)).setCell ⟨w.heap.size+1,3,none⟩ (.slice none 0 0)).setCell ⟨w.heap.size+1,4,none⟩ (.string ⟨#[]⟩)) (by simp[go_sem,k1c,k1f]) ?_;refine zAd ?_;clear hff HRES hM k1c k1f;generalize (((((w3).setCell ⟨w.heap.size+1,0,none⟩ (.int .i64 0)).setCell ⟨w.heap.size+1,1,none⟩ (.string ⟨#[]⟩)).setCell ⟨w.heap.size+1,2,none⟩ (.string ⟨#[]⟩)).setCell ⟨w.heap.size+1,3,none⟩ (.slice none 0 0)).setCell ⟨w.heap.size+1,4,none⟩ (.string ⟨#[]⟩)=w4 at*;obtain⟨Ap,cp,hkf,hpc,hpm,hpa,hga,hpb⟩:=HFF.out.grown HG9.out (fun hb=>by have:=HLO.out;omega);have HPA:=zh hpa;have HKF:=zh hkf;have HPB:=zh (show ∀ad,Ap=some ad→0<p.length→ad.block≠w.heap.size+1 from fun ad h1 h2 h3=>by have:=hpb ad h1 h2;have:=HLO.out;omega);have HGN:=zh (show gf≠w.heap.size+1 by have:=HLO.out;omega);clear HFF HG9 hkf hpa hpb hga;go_upto_region 5 with(fail)
     have f0:=HKF.out.cell 0;have f1:=HKF.out.cell 1;have k1c:=fun i=>K9.out.cell i
     have k1f:=fun i=>K9.out.frozen i
     have hgf:gf≠w.heap.size+1:=HGN.out;have hgf2:w.heap.size+1≠gf:=fun e=>hgf e.symm
     go_region;go_wp2_with fail;obtain⟨w9,e9,KR,HB5,HG5⟩:=fin5 K9.out HB9.out (by omega) (.int .i64 0) (.string ⟨#[]⟩) (.string ⟨#[]⟩) (.slice none 0 0) (.string ⟨#[]⟩);rw[e9];obtain⟨r0,r1,r2,r3,r4⟩:=jF KR;exact bodyPost_ret (v:=.tuple #[.agg #[.int .i64 0,.string ⟨#[]⟩,.string ⟨#[]⟩,.slice none 0 0,.string ⟨#[]⟩],.slice Ap p.length cp,.int .i64 er]) (by simp[results,Tryz.results7,go_sem,r0,r1,r2,r3,r4]) rfl (show zIp _ _ _ _ by rw[HO2.out];exact⟨⟨Ap,cp,rfl,(HPA.out.grown HG5.out HPB.out).keep (zA2 (Below.refl _ _)),hpc,hpm⟩,zA2 HB5.out⟩)
    |ok t=>
     have HR2:=HRES.out;rw[hM] at HR2;obtain⟨cc,rfl,rfl,htt⟩:=HR2;obtain⟨tk,ta,tv,tA,tn,tcp,tf,rfl⟩:=htt.ext;have HTT:=zh htt;have HO2:=zh (show zCd rs f n=if zCp t=true then .ok t else .bad 6 [0] by rw[HO.out,hM]);have HG9:=zh (zE7 w3 (w.heap.size+1) (.int .i64 tk) (.string ta) (.string tv) (.slice tA tn tcp) (.string tf));have HB9:=zh (zM7 (g:=w.heap.size+1) HB.out HB.out.size (by omega) (.int .i64 tk) (.string ta) (.string tv) (.slice tA tn tcp) (.string tf));have K9:=zh (set5 K1.out (.int .i64 tk) (.string ta) (.string tv) (.slice tA tn tcp) (.string tf));have HT9:=zh (HTT.out.grown (ok':=fun b=>lo≤b) HG9.out (fun b _ hb e=>by have:=sj e;have:=HLO.out;omega) (fun b _ hb=>hb.1));refine zAv (o:=_) rfl rfl (w':=(((((w3).setCell ⟨w.heap.size+1,0,none⟩ (.int .i64 tk)).setCell ⟨w.heap.size+1,1,none⟩ (.string ta)).setCell ⟨w.heap.size+1,2,none⟩ (.string tv)).setCell ⟨w.heap.size+1,3,none⟩ (.slice tA tn tcp)).setCell ⟨w.heap.size+1,4,none⟩ (.string tf)) (by simp[go_sem,k1c,k1f]) ?_;refine zAd ?_;clear htt HRES HTT HG9 hM k1c k1f;generalize (((((w3).setCell ⟨w.heap.size+1,0,none⟩ (.int .i64 tk)).setCell ⟨w.heap.size+1,1,none⟩ (.string ta)).setCell ⟨w.heap.size+1,2,none⟩ (.string tv)).setCell ⟨w.heap.size+1,3,none⟩ (.slice tA tn tcp)).setCell ⟨w.heap.size+1,4,none⟩ (.string tf)=w4 at*;have k1c:=fun i=>K9.out.cell i
     have k1f:=fun i=>K9.out.frozen i
     go_wp2_with fail;refine(Sp.zHg t _ w4 HT9.out.mat).mono ?_;rintro e w5 ⟨rfl,hb⟩;replace HB9:=jt HB9 hb;replace K9:=kp hb K9;replace HT9:=zh (HT9.out.keep hb);clear hb k1c k1f;have k1c:=fun i=>K9.out.cell i
     have k1f:=fun i=>K9.out.frozen i
     cases hv:zCp t with
     |false=>
      have HO3:=zh (show zCd rs f n= .bad 6 [0] by rw[HO2.out,if_neg (by rw[hv];simp)]);clear hv;go_upto_region 7 with(fail)
      have hba:=zA1 w5 (.cells #[.int .i64 0] 3);have HPZ:=zh (zMp w5);have HZ5:=zh (show w.heap.size+1<w5.heap.size from K9.out.lt);replace HB9:=jt HB9 hba;replace K9:=kp hba K9;clear hba k1c k1f;have k1c:=fun i=>K9.out.cell i
      have k1f:=fun i=>K9.out.frozen i
      go_wp2_with (fail)
      clear k1c k1f;generalize w5.alloc (.cells #[.int .i64 0] 3)=w6 at*;obtain⟨w9,e9,KR,HB5,HG5⟩:=fin5 K9.out HB9.out (by omega) (.int .i64 0) (.string ⟨#[]⟩) (.string ⟨#[]⟩) (.slice none 0 0) (.string ⟨#[]⟩);rw[e9];obtain⟨r0,r1,r2,r3,r4⟩:=jF KR;exact bodyPost_ret (v:=.tuple #[.agg #[.int .i64 0,.string ⟨#[]⟩,.string ⟨#[]⟩,.slice none 0 0,.string ⟨#[]⟩],.slice (some ⟨w5.heap.size,0,none⟩) 1 1,.int .i64 6]) (by simp[results,Tryz.results7,go_sem,r0,r1,r2,r3,r4]) rfl (show zIp _ _ _ _ by rw[HO3.out];exact⟨⟨_,1,rfl,HPZ.out.grown HG5.out (fun ad h1 _ h3=>by have:=HZ5.out;rw[←sj h1] at h3;dsimp only at h3;omega),by simp,by omega⟩,HB5.out⟩)
     |true=>
      have HO3:=zh (show zCd rs f n= .ok t by rw[HO2.out,if_pos hv]);clear hv;go_wp2_with fail;obtain⟨w9,e9,KR,HB5,HG5⟩:=fin5 K9.out HB9.out (by omega) (.int .i64 tk) (.string ta) (.string tv) (.slice tA tn tcp) (.string tf);rw[e9];obtain⟨r0,r1,r2,r3,r4⟩:=jF KR;exact bodyPost_ret (v:=.tuple #[.agg #[.int .i64 tk,.string ta,.string tv,.slice tA tn tcp,.string tf],.slice none 0 0,.int .i64 0]) (by simp[results,Tryz.results7,go_sem,r0,r1,r2,r3,r4]) rfl (show zIp _ _ _ _ by rw[HO3.out];exact⟨⟨_,rfl,HT9.out.grown HG5.out (fun b _ hb e=>by have:=sj e;have:=HLO.out;omega) (fun b _ hb=>by have:=HLO.out;omega)⟩,HB5.out⟩)
end Go.Proofs.YtchllommcolijaaGreatDoor.El
