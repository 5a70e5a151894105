/- build of the reference: part a. -/
import Derived.Test.YtapgncbegadbnaaGreatDoorH8a2973e3
set_option maxRecDepth 100000
set_option maxHeartbeats 400000000
namespace Go.Proofs.YtapgncbegadbnaaGreatDoor.El
open At Ch Sp Sy Go.RowKit
theorem yB6:zEv.a:=by
 intro okr ok g A cap rs Ai ci its Apt cpt xs vp vk hrn hfs hys hkr hnm m ih x i j w hm hok hR hK hG hP hlt hji hjx hj6 IH A2 cap2 hX hl hc hks B1 s1 B2 HB K0 K1 HS2 HR HX HKS HP HOK HM HK HG HJ HFS HYS HGG h1 h3;obtain⟨i0,hi,hz0,hz1,hz2⟩:=Sp.info_parts zEd;obtain⟨n,hn⟩:∃n,its[i]?=some n:=⟨_,gE (by have:=HJ.out;omega)⟩
 obtain⟨y,hy⟩:∃y,xs[i]?=some y:=⟨_,gE (by have:=HJ.out;omega)⟩
 have HQ:=zh (show bldR rs its xs x j=opdT n y by
  cases x with
  |mk r a ks=>
   have e1:r= -1:=h1;have e3:a=(i:Int):=h3;rw[zJw,if_pos (by omega),e3,Int.toNat_natCast,hn,hy];rfl)
 have HFO:=zh (hfs n (List.mem_of_getElem? hn));obtain⟨adi,A3,cap3,rfl,hadl,hsz3,hl3,hc3,hk3,hn3,d0,d1,d2,d3⟩:=HK.out.at_ hn;obtain⟨adp,rfl,hadp,A7,c7,d7,hy1,hy2,hty⟩:=HP.out i y hy;have hadb:∀o,(⟨(adi.add (i*4)).block,o,none⟩:Addr).block<w.heap.size:=fun o=>by show(adi.add (i*4)).block<_;rw[zA2];exact hadl
 have hneg:x.rule<0:=by omega
 have HI:=zh h3;have hi1:(i:Int)<(its.length:Int):=by have:=HJ.out;omega
 have hi2:(i:Int)<(xs.length:Int):=by have:=HJ.out;omega
 rw[h3] at K0 HB HX HS2 K1;have e0:=(HB.out.cell (p:=adi.add (i*4)) (by rw[zA2];exact hadl)).trans d0;have e1:=(HB.out.cell (hadb ((adi.add (i*4)).off+1))).trans d1;have e2:=(HB.out.cell (hadb ((adi.add (i*4)).off+2))).trans d2;have e3:=(HB.out.cell (hadb ((adi.add (i*4)).off+3))).trans d3;replace d7:=(HB.out.cell (p:=adp.add i) (by rw[zA2];exact hadp)).trans d7;have HN:=zh (hn3.keep HB.out);have HTY:=zh (hty.keep HB.out);have HGW:=zh (keep HB.out HG.out);have HAD:=zh (show(adi.add (i*4)).block<_/\∀o,(⟨(adi.add (i*4)).block,o,none⟩:Addr).block<_ from⟨ll (by rw[zA2];exact hadl) HB.out.size,fun o=>ll (hadb o) HB.out.size⟩);have HAP:=zh (show(adp.add i).block<_ from ll (by rw[zA2];exact hadp) HB.out.size);clear h1 h3 hok hR hX hP hks hm IH B1 B2 s1 hK hG d0 d1 d2 d3 hn3 hty hk3 hadb hn hy hlt hji hjx hj6
 skip
 go_enter Tryz.func89,Tryz.ntmps89;rw[HI.out];go_upto_region 1 with(fail)
 generalize (w.alloc (.cells (rdC x.rule (i:Int) A2 x.kids.length cap2) 42)).alloc (.cells zerC 47)=w1 at*;have k00:=K0.out.cell 0;go_upto_region 2 with(fail)
 clear k00;refine qm [2,2,2,1,2,1,2,1,2,2,2,1,2,1,2,1,1,3] (List.replicate 18 false) (fun gx=>[qP g,qP g,.pointer (some ⟨g,1,none⟩),.slice (some adi) its.length ci,.pointer (some ⟨w.heap.size,1,none⟩),qI (i:Int),.pointer (some (adi.add (i*4))),.agg (qC n A3 cap3),qP g,qP g,.pointer (some ⟨g,4,none⟩),.slice (some adp) xs.length cpt,.pointer (some ⟨w.heap.size,1,none⟩),qI (i:Int),.pointer (some (adp.add i)),.slice A7 y.length c7,gx.v 34,undef]) [(16,fun gx wx=>∃cc,gx.v 34= .agg cc/\TmAt (fun b=>ok b\/w1.heap.size<=b) wx (opdT n y) cc)] (fun _ _=>True) (zA6.cons (fun gx wx w2 ⟨cc,h1,h2⟩ hb=>⟨cc,h1,h2.keep hb⟩) zA6.nil) (trivial) ?_ ?_
 ·refine⟨jC,jI,jI,jR fun gx wq hB=>(keep hB HGW.out).cell 1,jI,jR fun gx wq hB=>(keep hB K0.out).cell 1,fun gx wq=>?_,fun gx wq hB hJ hf=>?_,jC,jI,jI,jR fun gx wq hB=>(keep hB HGW.out).cell 4,jI,jR fun gx wq hB=>(keep hB K0.out).cell 1,fun gx wq=>?_,jR fun gx wq hB=>(hB.cell HAP.out).trans d7,fun gx wq hB hJ hf=>?_,trivial⟩
  ·exact jp (.pointer (some (adi.add (i*4)))) (by simp[go_sem,evAct,hi1];try omega) rfl
  ·have c0:=(hB.cell HAD.out.1).trans e0;have c1:=(hB.cell (HAD.out.2 _)).trans e1;have c2:=(hB.cell (HAD.out.2 _)).trans e2;have c3:=(hB.cell (HAD.out.2 _)).trans e3;exact gs (.agg (qC n A3 cap3)) hJ (by kernel_rfl) (by simp[go_sem,evAct,c0,c1,c2,c3]) rfl
  ·exact jp (.pointer (some (adp.add i))) (by simp[go_sem,evAct,hi2];try omega) rfl
  ·refine jc 115 (#[.agg (qC n A3 cap3),.slice A7 y.length c7]) wq (by kernel_rfl) ((zYj ok n _ y A7 c7 wq (HN.out.keep hB) (HTY.out.keep hB) hy1 hy2 HFO.out.1 HFO.out.2).mono ?_);rintro e wz ⟨cc,rfl,htm,hb⟩;exact⟨_,rfl,gx.setV 34 (.agg cc),rfl,jD,hb,⟨⟨cc,rfl,htm.any fun b _ h=>h.imp id (Nat.le_trans hB.size)⟩,trivial⟩,trivial⟩
 ·refine fun gx wq hB hJ hf=>?_
  dsimp only[zAh] at hf;change wpOps _ _ _ [17] _ _;obtain⟨⟨cc,e34,htm⟩,-⟩:=hf;obtain⟨tk,ta,tv,tA,tn,tcp,tf,rfl⟩:=htm.ext;have HTM:=zh htm;have HB1:=jt HB hB;have K11:=kp hB K1;rw[e34];clear htm e34 hJ hB;clear gx;generalize wq=w3 at*;have kc:=K11.out.cell;have kf:=K11.out.frozen;have KR:=zh (set5 K11.out (qI tk) (.string ta) (.string tv) (.slice tA tn tcp) (.string tf));have HB5:=zh (zNp (g:=w.heap.size+1) HB1.out HB1.out.size (by omega) (qI tk) (.string ta) (.string tv) (.slice tA tn tcp) (.string tf));have HG5:=zh (zEs w3 (w.heap.size+1) (qI tk) (.string ta) (.string tv) (.slice tA tn tcp) (.string tf));refine zAu (o:=_) rfl rfl (w':=((((w3.setCell ⟨w.heap.size+1,0,none⟩ (qI tk)).setCell ⟨w.heap.size+1,1,none⟩ (.string ta)).setCell ⟨w.heap.size+1,2,none⟩ (.string tv)).setCell ⟨w.heap.size+1,3,none⟩ (.slice tA tn tcp)).setCell ⟨w.heap.size+1,4,none⟩ (.string tf)) (by simp[go_sem,kc,kf]) ?_;refine zAa ?_;clear kc kf;generalize ((((w3.setCell ⟨w.heap.size+1,0,none⟩ (qI tk)).setCell ⟨w.heap.size+1,1,none⟩ (.string ta)).setCell ⟨w.heap.size+1,2,none⟩ (.string tv)).setCell ⟨w.heap.size+1,3,none⟩ (.slice tA tn tcp)).setCell ⟨w.heap.size+1,4,none⟩ (.string tf)=w10 at*;go_wp2_with fail;obtain⟨r0,r1,r2,r3,r4⟩:=qc KR;exact bodyPost_ret (v:=.agg #[qI tk,.string ta,.string tv,.slice tA tn tcp,.string tf]) (by simp[results,Tryz.results89,go_sem,r0,r1,r2,r3,r4]) rfl (show RTmP _ _ _ _ _ by rw[HQ.out];exact⟨_,rfl,HTM.out.grown HG5.out (fun b _ hb e=>by have:=sj e;have:=HS2.out;rcases hb with hb|hb<;>(try have:=HOK.out _ hb)<;>omega) (fun b _ hb=>hb.imp id fun h=>by have:=HS2.out;omega),HB5.out⟩)
end Go.Proofs.YtapgncbegadbnaaGreatDoor.El
