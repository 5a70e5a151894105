/- Tree of the program. -/
import Derived.Test.YtapgncbegadbnaaGreatDoorHe7daa371
set_option maxRecDepth 100000
set_option maxHeartbeats 8000000
namespace Go.Proofs.YtapgncbegadbnaaGreatDoor.El
open At Ch Sp Sy Go.RowKit
variable{n:Tre}{w:World}{p:Prt}{path:List Int}{rs:List Rul}{k:Int}
theorem zMe (g:Nat)(A:Option Addr)(cap:Nat)(rs:List Rul)(hrc:rs.length<=cap)(hcc:cap<=9223372036854775807):∀f,zV7 g A cap rs f
 |0=>fun _ _ _ _ _ _ _ _ _ _ _ _ _ _ h=>absurd h (by omega)
 |f+1=>zUw g A cap rs hrc hcc f (zMe g A cap rs hrc hcc f)
def zBh (rs:List Rul)(f:Nat)(n:Tre):Mea Trm:=if(zAd rs&&zBa n)=true then(match zAb rs f n.kids [] 0 with
 | .ok t=>if zCs t=true then .ok t else .bad 6 [0]
 | .bad e p=>.bad e p) else .bad 1 []
def zT2 (m:Mea Trm)(w:World)(e:Ending)(w':World):Prop:=(match m with
 | .ok t=>∃c,e= .returned (.tuple #[.agg c,qN,qI 0])/\TmAt (fun b=>w.heap.size<=b) w' t c
 | .bad er p=>∃A cp,e= .returned (.tuple #[.agg zerC,.slice A p.length cp,qI er])/\zAr w' A p/\p.length<=cp/\cp<=9223372036854775807)/\Below w.heap.size w w'
theorem zC3 (h:zBa n=true):n.kind=1/\zAt n=true/\zA7 n<=1000/\zC2 1 n.kids=true:=by
 unfold zBa at h;simp only[Bool.and_eq_true,decide_eq_true_eq] at h;refine⟨h.1,h.2.1,h.2.2.1,?_⟩;have h2:=h.2.1;obtain⟨k,t,c,ks⟩:=n;have hk:k=1:=h.1;subst hk;rw[zAt,Bool.and_eq_true] at h2;exact h2.2
theorem zCz (n:Tre):zA4 n.kids+1=zA7 n:=by
 obtain⟨k,t,c,ks⟩:=n;rw[zA7];rfl
theorem zDw :zAr w none []:=⟨rfl,fun h=>absurd h (by simp)⟩
theorem zAr.grown {w':World}{A:Option Addr}{p:List Int}{q:Nat}(h:zAr w A p)(hg:w.grownBy w' (some q))(ho:∀ad,A=some ad->0<p.length->ad.block≠q):zAr w' A p:=by
 obtain⟨r1,r2⟩:=h;refine⟨r1,fun hn=>?_⟩;obtain⟨ad,r3,r4,r5⟩:=r2 hn;refine⟨ad,r3,ll r4 hg.size,fun j u hj=>?_⟩;rw[<-r5 j u hj];refine World.cell?_of_block (hg.block _ (by rw[zA2];exact r4) fun e=>?_);have e9:=sj e;rw[zA2] at e9;exact ho ad r3 hn e9
theorem zO1 (w:World):zAr (w.alloc (.cells #[qI 0] 3)) (some ⟨w.heap.size,0,none⟩) [0]:=by
 have hk:=Blk.new w 3 #[qI 0];refine⟨rfl,fun _=>⟨_,rfl,hk.lt,fun j u hj=>?_⟩⟩;cases j with
 |zero=>
  simp only[ints,List.map_cons,List.map_nil,List.getElem?_cons_zero,Option.some.injEq] at hj;rw[<-hj];exact hk.cell 0
 |succ j=>simp[ints] at hj
theorem zYk (A:Option Addr)(cap:Nat)(rs:List Rul)(f:Nat)(n:Tre)(c:Array Value)(w:World)(hR:zAc w A rs)(hrc:rs.length<=cap)(hcc:cap<=9223372036854775807)(hr:rs.length<=1000000)(hN:zAv w n c)(hf:zA4 n.kids<f):
  Calls Tryz.prog 14 #[.slice A rs.length cap,.agg c] w (zT2 (zBh rs f n) w):=by
 obtain⟨A2,cap2,rfl,hsz,hl2,hc2,hk⟩:=hN.form;have B1:=zA0 w (qO n A2 cap2);have s1:(w.alloc (qO n A2 cap2)).heap.size=w.heap.size+1:=by simp
 have B2:=zA0 (w.alloc (qO n A2 cap2)) (.cells zerC 47);have HB:=zh (B1.trans (B2.mono B1.size));have K0:=zh (keep B2 (Blk.new w 25 (qC n A2 cap2)));have K1:=zh (Blk.new (w.alloc (qO n A2 cap2)) 47 zerC);rw[s1] at K1;have HR1:=zh (hR.keep HB.out);have HN1:=zh (hN.keep HB.out);have HK1:=zh (hk.keep HB.out);have HF:=zh hf;clear hR hN hk hf hsz B1 B2 s1;go_enter Tryz.func14,Tryz.ntmps14;go_upto_region 1 with(fail)
 generalize (w.alloc (qO n A2 cap2)).alloc (.cells zerC 47)=w1 at*;cases hv:zAd rs with
 |false=>
  have HV:=zh hv;have HO:=zh (show zBh rs f n= .bad 1 [] by unfold zBh;rw[hv];rfl);clear hv;obtain⟨n0,n1,n2,n3⟩:=qb K0;go_wp2_with fail;refine(zCo A cap rs w1 HR1.out hrc hcc).mono ?_;rintro e wa ⟨rfl,hB⟩;rw[HV.out];clear n0 n1 n2 n3;generalize wa=wq at*;replace HB:=jt HB hB;replace K1:=kp hB K1;clear hB;generalize wq=w2 at*;have k1c:=K1.out.cell;have k1f:=K1.out.frozen;go_wp2_with fail;obtain⟨w9,e9,KR,HB5,HG5⟩:=fin5 K1.out HB.out (by omega) (qI 0) qE qE qN qE;rw[e9];obtain⟨r0,r1,r2,r3,r4⟩:=jF KR;exact bodyPost_ret (v:=.tuple #[.agg qT,qN,qI 1]) (by simp[results,Tryz.results14,go_sem,r0,r1,r2,r3,r4]) rfl (show zT2 _ _ _ _ by rw[HO.out];exact⟨⟨none,0,rfl,zDw,Nat.le_refl _,by omega⟩,HB5.out⟩)
 |true=>
  have HV:=zh hv;cases ht:zBa n with
  |false=>
   have HT:=zh ht;have HO:=zh (show zBh rs f n= .bad 1 [] by unfold zBh;rw[hv,ht];rfl);clear hv ht;obtain⟨n0,n1,n2,n3⟩:=qb K0;go_wp2_with fail;refine(zCo A cap rs w1 HR1.out hrc hcc).mono ?_;rintro e wa ⟨rfl,hB⟩;rw[HV.out];clear n0 n1 n2 n3;have n0:=(keep hB K0.out).cell 0;have n1:=(keep hB K0.out).cell 1;have n2:=(keep hB K0.out).cell 2;have n3:=(keep hB K0.out).cell 3;go_wp2_with fail;refine(zEq n _ wa (HN1.out.keep hB)).mono ?_;rintro e wq ⟨rfl,hC⟩;rw[HT.out];replace hB:=hB.trans (hC.mono hB.size);clear hC n0 n1 n2 n3;replace HB:=jt HB hB;replace K1:=kp hB K1;clear hB;generalize wq=w2 at*;have k1c:=K1.out.cell;have k1f:=K1.out.frozen;go_wp2_with fail;obtain⟨w9,e9,KR,HB5,HG5⟩:=fin5 K1.out HB.out (by omega) (qI 0) qE qE qN qE;rw[e9];obtain⟨r0,r1,r2,r3,r4⟩:=jF KR;exact bodyPost_ret (v:=.tuple #[.agg qT,qN,qI 1]) (by simp[results,Tryz.results14,go_sem,r0,r1,r2,r3,r4]) rfl (show zT2 _ _ _ _ by rw[HO.out];exact⟨⟨none,0,rfl,zDw,Nat.le_refl _,by omega⟩,HB5.out⟩)
  |true=>
   have HT:=zh ht;have HO:=zh (show zBh rs f n=match zAb rs f n.kids [] 0 with
    | .ok t=>if zCs t=true then .ok t else .bad 6 [0]
    | .bad e p=>.bad e p by unfold zBh;rw[hv,ht];rfl)
   have HFL:=zh (zC3 ht).2.2.2;have HCT:=zh (show zA4 n.kids<1000 from by have h1:=(zC3 ht).2.2.1;have h2:=zCz n;omega);clear hv ht;obtain⟨n0,n1,n2,n3⟩:=qb K0;go_wp2_with fail;refine(zCo A cap rs w1 HR1.out hrc hcc).mono ?_;rintro e wa ⟨rfl,hB⟩;rw[HV.out];clear n0 n1 n2 n3;have n0:=(keep hB K0.out).cell 0;have n1:=(keep hB K0.out).cell 1;have n2:=(keep hB K0.out).cell 2;have n3:=(keep hB K0.out).cell 3;go_wp2_with fail;refine(zEq n _ wa (HN1.out.keep hB)).mono ?_;rintro e wq ⟨rfl,hC⟩;rw[HT.out];replace hB:=hB.trans (hC.mono hB.size);clear hC n0 n1 n2 n3;have HR2:=zh (HR1.out.keep hB);have HK2:=zh (HK1.out.keep hB);replace K0:=kp hB K0;replace HB:=jt HB hB;replace K1:=kp hB K1;clear hB HR1 HN1 HK1;generalize wq=w2 at*;have HZ:=zh (show w.heap.size+1<w2.heap.size from K1.out.lt);go_upto_region 3 with(fail)
   refine qm [2,1,2,1,1,2,2,2,3,2] (List.replicate 10 false) (fun gx=>[.slice A rs.length cap,qP (gx.n 19),.pointer (some ⟨w.heap.size,3,none⟩),.slice A2 n.kids.length cap2,.tuple #[gx.v 23,gx.v 24],.tuple #[gx.v 23,gx.v 24],gx.v 23,gx.v 24,undef,gx.v 24]) [(1,fun gx wx=>zGv wx (gx.n 19) A cap rs),(4,fun gx wx=>LRes (gx.n 22) (gx.n 23) (zAb rs f n.kids [] 0) wx (gx.v 23) (gx.v 24)/\w2.heap.size<=gx.n 22)] (fun _ _=>True) (zA6.cons (fun gx wx w2 h hb=>h.keep hb) (zA6.cons (fun gx wx w2 h hb=>⟨h.1.keep hb,h.2⟩) zA6.nil)) (trivial) ?_ ?_
   ·refine⟨jC,fun gx wq hB hJ hf=>?_,jI,jR fun gx wq hB=>(keep hB K0.out).cell 3,fun gx wq hB hJ hf=>?_,jC,jC,jC,jC,trivial⟩
    ·refine jc 20 (#[.slice A rs.length cap]) wq (by kernel_rfl) ((zHd A cap rs wq (HR2.out.keep hB) hr).mono ?_);rintro e wz ⟨gr,rfl,hrd,hb⟩;exact⟨_,rfl,gx.setN 19 gr,rfl,jD,hb,⟨hrd,jG,trivial⟩,trivial⟩
    ·have f19:=jE hf.1;refine jc 21 (#[qP (gx.n 19),.slice A2 n.kids.length cap2,qN,qI 0]) wq (by kernel_rfl) ((zMe _ _ _ _ hrc hcc f n.kids [] 0 A2 none cap2 0 wq f19 (HK2.out.keep hB) hl2 hc2 zDw (by have:=HCT.out;simp only[List.length_nil];omega) HF.out HFL.out (by omega)).mono ?_);rintro e wz hm;obtain⟨c9,f9,rfl,hres,hb⟩:=hm.res;exact⟨_,rfl,(((gx.setV 23 c9).setV 24 f9).setN 22 wq.heap.size).setN 23 wz.heap.size,rfl,jD,hb,⟨jH,⟨hres,hB.size⟩,trivial⟩,trivial⟩
   ·refine fun gx wq hB hJ hf=>?_
    dsimp only[zAh] at hf;change wpOps _ _ _ [8] _ _;obtain⟨-,⟨hres,hlo⟩,-⟩:=hf;replace HB:=jt HB hB;replace K1:=kp hB K1;have HRES:=zh hres;have HLO:=zh (show w.heap.size+1<gx.n 22 from ll HZ.out hlo);clear hres hlo hB hJ K0 HR2 HK2;generalize gx.n 19=n19 at*;generalize gx.v 23=c9 at*;generalize gx.v 24=f9 at*;generalize gx.n 22=lo at*;generalize gx.n 23=hi2 at*;clear gx;generalize wq=w3 at*;have k1c:=K1.out.cell;have k1f:=K1.out.frozen;cases hM:zAb rs f n.kids [] 0 with
    |bad er p=>
     have HR2:=HRES.out;rw[hM] at HR2;obtain⟨rfl,gf,rfl,hff⟩:=HR2;have HFF:=zh hff;have HO2:=zh (show zBh rs f n= .bad er p by rw[HO.out,hM]);have HG9:=zh (zEs w3 (w.heap.size+1) (qI 0) qE qE qN qE);have HB9:=zh (zNp (g:=w.heap.size+1) HB.out HB.out.size (by omega) (qI 0) qE qE qN qE);have K9:=zh (set5 K1.out (qI 0) qE qE qN qE);refine zAu (o:=_) rfl rfl (w':=(((((w3).setCell ⟨w.heap.size+1,0,none⟩ (qI 0)).setCell ⟨w.heap.size+1,1,none⟩ qE).setCell ⟨w.heap.size+1,2,none⟩ qE).setCell ⟨w.heap.size+1,3,none⟩ qN).setCell ⟨w.heap.size+1,4,none⟩ qE) (by simp[go_sem,k1c,k1f]) ?_;refine zAa ?_;clear hff HRES hM k1c k1f;generalize (((((w3).setCell ⟨w.heap.size+1,0,none⟩ (qI 0)).setCell ⟨w.heap.size+1,1,none⟩ qE).setCell ⟨w.heap.size+1,2,none⟩ qE).setCell ⟨w.heap.size+1,3,none⟩ qN).setCell ⟨w.heap.size+1,4,none⟩ qE=w4 at*;obtain⟨Ap,cp,hkf,hpc,hpm,hpa,hga,hpb⟩:=HFF.out.grown HG9.out (fun hb=>by have:=HLO.out;omega);have HPA:=zh hpa;have HKF:=zh hkf;have HPB:=zh (show ∀ad,Ap=some ad->0<p.length->ad.block≠w.heap.size+1 from fun ad h1 h2 h3=>by have:=hpb ad h1 h2;have:=HLO.out;omega);have HGN:=zh (show gf≠w.heap.size+1 by have:=HLO.out;omega);clear HFF HG9 hkf hpa hpb hga;go_upto_region 5 with(fail)
     have f0:=HKF.out.cell 0;have f1:=HKF.out.cell 1;have k1c:=K9.out.cell;have k1f:=K9.out.frozen;have hgf:gf≠w.heap.size+1:=HGN.out;have hgf2:w.heap.size+1≠gf:=fun e=>hgf e.symm
     go_region;go_wp2_with fail;obtain⟨w9,e9,KR,HB5,HG5⟩:=fin5 K9.out HB9.out (by omega) (qI 0) qE qE qN qE;rw[e9];obtain⟨r0,r1,r2,r3,r4⟩:=jF KR;exact bodyPost_ret (v:=.tuple #[.agg qT,.slice Ap p.length cp,qI er]) (by simp[results,Tryz.results14,go_sem,r0,r1,r2,r3,r4]) rfl (show zT2 _ _ _ _ by rw[HO2.out];exact⟨⟨Ap,cp,rfl,(HPA.out.grown HG5.out HPB.out).keep (zA3 (Below.refl _ _)),hpc,hpm⟩,zA3 HB5.out⟩)
    |ok t=>
     have HR2:=HRES.out;rw[hM] at HR2;obtain⟨cc,rfl,rfl,htt⟩:=HR2;obtain⟨tk,ta,tv,tA,tn,tcp,tf,rfl⟩:=htt.ext;have HTT:=zh htt;have HO2:=zh (show zBh rs f n=if zCs t=true then .ok t else .bad 6 [0] by rw[HO.out,hM]);have HG9:=zh (zEs w3 (w.heap.size+1) (qI tk) (.string ta) (.string tv) (.slice tA tn tcp) (.string tf));have HB9:=zh (zNp (g:=w.heap.size+1) HB.out HB.out.size (by omega) (qI tk) (.string ta) (.string tv) (.slice tA tn tcp) (.string tf));have K9:=zh (set5 K1.out (qI tk) (.string ta) (.string tv) (.slice tA tn tcp) (.string tf));have HT9:=zh (HTT.out.grown (ok':=fun b=>lo<=b) HG9.out (fun b _ hb e=>by have:=sj e;have:=HLO.out;omega) (fun b _ hb=>hb.1));refine zAu (o:=_) rfl rfl (w':=(((((w3).setCell ⟨w.heap.size+1,0,none⟩ (qI tk)).setCell ⟨w.heap.size+1,1,none⟩ (.string ta)).setCell ⟨w.heap.size+1,2,none⟩ (.string tv)).setCell ⟨w.heap.size+1,3,none⟩ (.slice tA tn tcp)).setCell ⟨w.heap.size+1,4,none⟩ (.string tf)) (by simp[go_sem,k1c,k1f]) ?_;refine zAa ?_;clear htt HRES HTT HG9 hM k1c k1f;generalize (((((w3).setCell ⟨w.heap.size+1,0,none⟩ (qI tk)).setCell ⟨w.heap.size+1,1,none⟩ (.string ta)).setCell ⟨w.heap.size+1,2,none⟩ (.string tv)).setCell ⟨w.heap.size+1,3,none⟩ (.slice tA tn tcp)).setCell ⟨w.heap.size+1,4,none⟩ (.string tf)=w4 at*;have k1c:=K9.out.cell;have k1f:=K9.out.frozen;go_wp2_with fail;refine(Sp.zI6 t _ w4 HT9.out.mat).mono ?_;rintro e w5 ⟨rfl,hb⟩;replace HB9:=jt HB9 hb;replace K9:=kp hb K9;replace HT9:=zh (HT9.out.keep hb);clear hb k1c k1f;have k1c:=K9.out.cell;have k1f:=K9.out.frozen;cases hv:zCs t with
     |false=>
      have HO3:=zh (show zBh rs f n= .bad 6 [0] by rw[HO2.out,if_neg (by rw[hv];simp)]);clear hv;go_upto_region 7 with(fail)
      have hba:=zA0 w5 (.cells #[qI 0] 3);have HPZ:=zh (zO1 w5);have HZ5:=zh (show w.heap.size+1<w5.heap.size from K9.out.lt);replace HB9:=jt HB9 hba;replace K9:=kp hba K9;clear hba k1c k1f;have k1c:=K9.out.cell;have k1f:=K9.out.frozen;go_wp2_with (fail)
      clear k1c k1f;generalize w5.alloc (.cells #[qI 0] 3)=w6 at*;obtain⟨w9,e9,KR,HB5,HG5⟩:=fin5 K9.out HB9.out (by omega) (qI 0) qE qE qN qE;rw[e9];obtain⟨r0,r1,r2,r3,r4⟩:=jF KR;exact bodyPost_ret (v:=.tuple #[.agg qT,.slice (some ⟨w5.heap.size,0,none⟩) 1 1,qI 6]) (by simp[results,Tryz.results14,go_sem,r0,r1,r2,r3,r4]) rfl (show zT2 _ _ _ _ by rw[HO3.out];exact⟨⟨_,1,rfl,HPZ.out.grown HG5.out (fun ad h1 _ h3=>by have:=HZ5.out;rw[<-sj h1] at h3;dsimp only at h3;omega),by simp,by omega⟩,HB5.out⟩)
     |true=>
      have HO3:=zh (show zBh rs f n= .ok t by rw[HO2.out,if_pos hv]);clear hv;go_wp2_with fail;obtain⟨w9,e9,KR,HB5,HG5⟩:=fin5 K9.out HB9.out (by omega) (qI tk) (.string ta) (.string tv) (.slice tA tn tcp) (.string tf);rw[e9];obtain⟨r0,r1,r2,r3,r4⟩:=jF KR;exact bodyPost_ret (v:=.tuple #[.agg #[qI tk,.string ta,.string tv,.slice tA tn tcp,.string tf],qN,qI 0]) (by simp[results,Tryz.results14,go_sem,r0,r1,r2,r3,r4]) rfl (show zT2 _ _ _ _ by rw[HO3.out];exact⟨⟨_,rfl,HT9.out.grown HG5.out (fun b _ hb e=>by have:=sj e;have:=HLO.out;omega) (fun b _ hb=>by have:=HLO.out;omega)⟩,HB5.out⟩)
theorem zVk:∀(a b:List Trm),cntL (a++b)=cntL a+cntL b
 |[],b=>by rw[List.nil_append,cntL];omega
 |x::a,b=>by rw[List.cons_append,cntL,cntL,zVk a b];omega
def FewM (M:List Tre->List Int->Nat->Mea Trm):Prop:=∀items p k t,M items p k= .ok t->cntM t+1<=2*zA4 items
theorem zH7 {M:List Tre->List Int->Nat->Mea Trm}(hM:FewM M){path:List Int}:∀(ks:List Tre) (s b:Nat) (ts:List Trm),zAn M path ks s b= .ok ts->cntL ts<=2*zA4 ks
 |[],s,b,ts,h=>by rw[zAn] at h;injection h with h;rw[<-h,cntL];omega
 |n::ns,s,b,ts,h=>by
  rw[zAn] at h;cases h1:M n.kids (path++[(s:Int)]) b with
  |bad e p=>rw[h1] at h;cases h
  |ok t=>
   rw[h1] at h;simp only[Mea.then_] at h;cases h2:zAn M path ns (s+1) 0 with
   |bad e p=>rw[h2] at h;cases h
   |ok us=>
    rw[h2] at h;simp only at h;injection h with h;have e1:=hM _ _ _ _ h1;have e2:=zH7 hM ns (s+1) 0 us h2;obtain⟨k,x,c,ks⟩:=n;rw[<-h,cntL,zA4,zA7];have e3:cntM t+1<=2*zA4 ks:=e1;omega
theorem zF8 (n:Tre):zA7 n=zA4 n.kids+1:=by
 obtain⟨k,x,c,ks⟩:=n;rw[zA7];show _=zA4 ks+1;omega
theorem zYy {M:List Tre->List Int->Nat->Mea Trm}(hM:FewM M)(h:zCr M n path= .ok p):cntM p.opnd+1<=2*zA7 n/\cntL p.scr+2<=2*zA7 n:=by
 have hp:=zF8 n;have h0:cntL ([]:List Trm)=0:=by rw[cntL]
 unfold zCr at h
 split at h
 ·injection h with h;rw[<-h];exact⟨by rw[cntM,h0];omega,by rw[h0];omega⟩
 split at h
 ·injection h with h;rw[<-h];exact⟨by rw[cntM,h0];omega,by rw[h0];omega⟩
 split at h
 ·injection h with h;rw[<-h];exact⟨by rw[cntM,h0];omega,by rw[h0];omega⟩
 ·have key:∀m:Mea (List Trm),(∀ts,m= .ok ts->cntL ts<=2*zA4 n.kids)->(m.then_ fun ts=>Mea.ok ⟨Trm.mk 4 (zB1 n).1 ⟨#[]⟩ (zB1 n).2 ts,[],⟨#[]⟩,⟨#[]⟩⟩)= .ok p->cntM p.opnd+1<=2*zA7 n/\cntL p.scr+2<=2*zA7 n:=by
   intro m hm he;cases m with
   |bad e q=>cases he
   |ok ts=>
    simp only[Mea.then_] at he;injection he with he;have:=hm ts rfl;rw[<-he];exact⟨by rw[cntM];omega,by rw[h0];omega⟩
  refine key _ (fun ts ht=>?_) h;cases hk:n.kids with
  |nil=>rw[hk] at ht;injection ht with ht;rw[<-ht,h0];omega
  |cons d ks=>
   rw[hk] at ht;dsimp only at ht
   split at ht
   ·have:=zH7 hM _ _ _ _ ht;rw[zA4];omega
   ·exact zH7 hM _ _ _ _ ht
theorem yBw {M:List Tre->List Int->Nat->Mea Trm}(hM:FewM M){pre:Bool}(h:scrF rs M n path pre= .ok p):cntM p.opnd+1<=2*zA7 n/\cntL p.scr+2<=2*zA7 n:=by
 have hp:=zF8 n;have h0:cntL ([]:List Trm)=0:=by rw[cntL]
 have hz:cntM zerT=1:=by unfold zerT;rw[cntM,h0]
 unfold scrF at h
 split at h
 ·injection h with h;rw[<-h];exact⟨by show cntM zerT+1<=_;rw[hz];omega,by show cntL ([]:List Trm)+2<=_;rw[h0];omega⟩
 ·cases hs:zAn M path n.kids.tail 1 (if(varN rs n pre).isSome then 2 else 0) with
  |bad e q=>rw[hs] at h;cases h
  |ok ts=>
   rw[hs] at h;simp only[Mea.then_] at h;injection h with h;have h1:=zH7 hM _ _ _ _ hs;have h2:zA4 n.kids.tail<=zA4 n.kids:=by
    cases n.kids with
    |nil=>exact Nat.le_refl _
    |cons d ks=>rw[List.tail_cons,zA4];omega
   rw[<-h];exact⟨by rw[hz];omega,by show cntL ts+2<=_;omega⟩
theorem zOo {rs:List Rul}{M:List Tre->List Int->Nat->Mea Trm}(hM:FewM M){path:List Int}{kd:Nat->Int}{k:Nat}:∀(ns:List Tre) (ts:List ByteArray) (i:Nat) (ps:List Prt),zB3 rs M path kd k ns ts i= .ok ps->∀(q:Nat) (n:Tre) (t:ByteArray),ns[q]?=some n->ts[q]?=some t->∃p,ps[q]?=some p/\cntM p.opnd+1<=2*zA7 n/\cntL p.scr+2<=2*zA7 n
 |[],_,_,_,_,q,n,t,h,_=>by simp at h
 |_::_,[],_,_,_,q,n,t,_,h=>by simp at h
 |a::ns,b::ts,i,ps,h,q,n,t,h1,h2=>by
  rw[zB3] at h;cases hm:(if b.data.toList=[35] then zCr M a (path++[((k+i:Nat):Int)]) else scrF rs M a (path++[((k+i:Nat):Int)]) (decide (kd i=2))) with
  |bad e p=>rw[hm] at h;cases h
  |ok p=>
   rw[hm] at h;simp only[Mea.then_] at h;cases hr:zB3 rs M path kd k ns ts (i+1) with
   |bad e p=>rw[hr] at h;cases h
   |ok us=>
    rw[hr] at h;simp only at h;injection h with h;subst h;cases q with
    |zero=>
     rw[List.getElem?_cons_zero] at h1 h2;injection h1 with h1;subst h1;refine⟨p,rfl,?_⟩
     split at hm
     ·exact zYy hM hm
     ·exact yBw hM hm
    |succ q=>
     rw[List.getElem?_cons_succ] at h1 h2;obtain⟨p2,h3,h4⟩:=zOo hM ns ts (i+1) us hr q n t h1 h2;exact⟨p2,by rw[List.getElem?_cons_succ];exact h3,h4⟩
theorem zWy {nam:ByteArray}{args:List Trm}:cntM (mkOp nam k (some p) args)=1+cntL p.scr+cntL args:=by
 unfold mkOp;dsimp only
 split<;>(rw[cntM,zVk];omega)
theorem yAc {nam:ByteArray}{args:List Trm}:cntM (mkOp nam k none args)=1+cntL args:=by
 unfold mkOp;rw[cntM];omega
theorem yB8 {ps:List Prt}{S:Nat->Nat}{m:Nat}(hS:∀q,q<m->∃p,ps[q]?=some p/\S q+cntM p.opnd+1<=S (q+1)/\S q+cntL p.scr+2<=S (q+1)){x:Rd}{i j:Nat}(h:OkR rs x i j)(hj:j<=m):cntM (trmR rs ps x (j:Int))+1+S i<=S j:=by
 induction h with
 |leaf i=>
  obtain⟨p,h1,h2,_⟩:=hS i (by omega);rw[zEg,if_pos (by decide),Int.toNat_natCast,h1];show cntM p.opnd+1+S i<=S (i+1);omega
 |inf n u i k j y z hu hk h1 h2 hz a b ha hb=>
  obtain⟨p,h3,_,h4⟩:=hS k (by omega);have e1:=ha (by omega);have e2:=hb hj;rw[zEg,if_neg (by omega),(zP2 (i:=i) (j:=j) (y:=y) hu hk hz).1,(zP2 (i:=i) (j:=j) (y:=y) hu hk hz).2,if_pos (Int.natCast_nonneg _),Int.toNat_natCast,h3,zWy];simp only[trmL,cntL];omega
 |pre n u i j y hu hk h1 a ha=>
  obtain⟨p,h3,_,h4⟩:=hS i (by omega);have e1:=ha hj;rw[zEg,if_neg (by omega),(zNx (i:=i) (j:=j) (y:=y) hu hk).1,(zNx (i:=i) (j:=j) (y:=y) hu hk).2,if_pos (Int.natCast_nonneg _),Int.toNat_natCast,h3,zWy];simp only[trmL,cntL];omega
 |pos n u i j y hu hk h1 a ha=>
  obtain⟨p,h3,_,h4⟩:=hS (j -1) (by omega);have e1:=ha (by omega);rw[show j -1+1=j by omega] at h4;rw[zEg,if_neg (by omega),(zNe (i:=i) (j:=j) (y:=y) hu hk (by omega)).1,(zNe (i:=i) (j:=j) (y:=y) hu hk (by omega)).2,if_pos (Int.natCast_nonneg _),Int.toNat_natCast,h3,zWy];simp only[trmL,cntL];omega
 |jux n u i k j y z hu hk h1 h2 hz a b ha hb=>
  have e1:=ha (by omega);have e2:=hb hj;rw[zEg,if_neg (by omega),(zP3 (i:=i) (j:=j) (y:=y) hu hk hz).1,(zP3 (i:=i) (j:=j) (y:=y) hu hk hz).2,if_neg (by omega),yAc];simp only[trmL,cntL];omega
theorem zM7:∀(l:List Tre) (q:Nat) (n:Tre),l[q]?=some n->zA4 (l.take (q+1))=zA4 (l.take q)+zA7 n
 |[],q,n,h=>by simp at h
 |a::l,0,n,h=>by
  obtain rfl:a=n:=by simpa using h
  simp[zA4]
 |a::l,q+1,n,h=>by
  rw[List.take_succ_cons,List.take_succ_cons,zA4,zA4,zM7 l q n (by simpa using h)];omega
theorem zR3:∀(l:List Tre) (k:Nat),zA4 (l.drop k)<=zA4 l
 |[],k=>by simp
 |a::l,0=>Nat.le_refl _
 |a::l,k+1=>by
  have:=zR3 l k;rw[List.drop_succ_cons,zA4];omega
theorem zR2 (rs:List Rul):∀f,FewM (zAb rs f)
 |0=>fun items p k t h=>by rw[zAb] at h;cases h
 |f+1=>fun items path k t h=>by
  have hM:=zR2 rs f;rw[zAb] at h;unfold zHc at h
  split at h
  ·cases h
  ·cases ht:zB2 rs (items.drop k) with
   |inr i=>rw[ht] at h;cases h
   |inl ts=>
    rw[ht] at h;dsimp only at h;rcases hr:zFg rs ts with _|⟨x,_|⟨y,zs⟩⟩
    ·rw[hr] at h;cases h
    ·rw[hr] at h;dsimp only at h;cases hp:zB3 rs (zAb rs f) path (fun i=>kndR rs ((zGs (asgR rs x ts.length) ts.length).getD i 0)) k (items.drop k) ts 0 with
     |bad e p=>rw[hp] at h;cases h
     |ok ps=>
      rw[hp] at h;simp only[Mea.then_] at h;injection h with h;have hx:x∈allR rs ts 0 ts.length:=by
       unfold zFg at hr
       split at hr
       ·rw[hr];exact List.mem_cons_self
       ·cases hr
      have hl:=zCt ht;have h9:=yB8 (ps:=ps) (S:=fun q=>2*zA4 ((items.drop k).take q)) (m:=ts.length) (fun q hq=>by
       obtain⟨n,hn⟩:∃n,(items.drop k)[q]?=some n:=⟨_,gE (by omega)⟩
       obtain⟨u,hu⟩:∃u,ts[q]?=some u:=⟨_,gE hq⟩
       obtain⟨p,h1,h2,h3⟩:=zOo hM _ _ _ _ hp q n u hn hu;refine⟨p,h1,?_,?_⟩
       ·rw[zM7 _ q n hn];omega
       ·rw[zM7 _ q n hn];omega) (zC5 _ 0 ts.length x (Nat.le_refl _) hx) (Nat.le_refl _)
      have hT:(items.drop k).take ts.length=items.drop k:=List.take_of_length_le (by rw[hl];exact Nat.le_refl _);have hZ:zA4 ((items.drop k).take 0)=0:=by rw[List.take_zero,zA4]
      rw[h,hT,hZ] at h9;have:=zR3 items k;omega
    ·rw[hr] at h;cases h
end Go.Proofs.YtapgncbegadbnaaGreatDoor.El
