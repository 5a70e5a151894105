/- build of the reference: part b. -/
import Derived.Test.YtapgncbegadbnaaGreatDoorH8a2973e3
set_option maxRecDepth 100000
set_option maxHeartbeats 400000000
namespace Go.Proofs.YtapgncbegadbnaaGreatDoor.El
open At Ch Sp Sy Go.RowKit
theorem yBq:zEv.b:=by
 intro okr ok g cap rs ci its cpt xs vp vk hrn hfs hys hkr hnm m x i j w A2 cap2 hl hc HKS HOK HM HJ HFS HYS HGG r HX u HLR HU HKK hneg hneg2 hrl HKD HNM w1 adr HR w2 w3 wc _ _ _ _ _ _ _ _ _ _ _ _ _ _ _ _ _ _ _ _ _ _ _ _ _ _ _ _ _ _ _ _ _ _ _ _ _ _ _ _ _ _ _ _ _ _ _ _ _ _ _ _ _ _ _ _ _ _ _ _ _ _ _ _ _ _ _ _ _ _ _ _ _ _ _ _ _ _ _ _ _ _ _ _ _ _ _ _ _ _ _ _ _ _ _ _ _ _ _ _ _ _ _ _ _ _ _ _ _ _ _ _ _ _ _ _ _ _ _ _ _ _ _ _ _ _ _ _ _ _ _ _ _ _ _ _ _ _ _ _ _ _ _ _ _ _ _ _ _ _ _ _ _ _ _ _ _ _ _ _ _ _ _ _ _ w4 wq w5 S HRW po HTR _ _ _ _ _ q hq n y HPO2 HOI _ HFO HYL adi A3 cap3 HK hsz3 hl3 hc3 adp HP ih IH HG HGW A7 c7 hy1 hy2 HN0 HTY d0 d1 d2 d3 d7 hadp hq1 hqi hq2 b1;obtain⟨i0,hi,hz0,hz1,hz2⟩:=Sp.info_parts zEd
 skip
 go_upto_region 9 with(fail)
 have hba:=zA0 w5 (qO n A3 cap3);have KN:=zh (Blk.new w5 25 (qC n A3 cap3));have HGN:=zh (show w.heap.size+4<w5.heap.size from S.out.km.lt);have HAP:=zh (show(adp.add q).block<_ from ll hadp hba.size);replace S:=zh (S.out.keep hba);replace d7:=(hba.cell (p:=adp.add q) hadp).trans d7;replace HRW:=zh (HRW.out.keep hba);replace HTY:=zh (HTY.out.keep hba);replace HGW:=kp hba HGW;clear hba d0 d1 d2 d3 b1;generalize w5.heap.size=gn at*;generalize w5.alloc (qO n A3 cap3)=w6 at*;refine qm [2,1,2,2,2,1,2,2,1,3,2,3] (List.replicate 12 false) (fun gx=>[.pointer (some ⟨w.heap.size+4,3,none⟩),qN,qP g,qP g,.pointer (some ⟨g,4,none⟩),.slice (some adp) xs.length cpt,qI (q:Int),.pointer (some (adp.add q)),.slice A7 y.length c7,undef,.pointer (some ⟨w.heap.size+4,3,none⟩),undef]) [] (fun _ _=>True) zA6.nil (trivial) ?_ ?_
 ·refine⟨jI,jR fun gx wq hB=>(keep hB S.out.km).cell 3,jC,jI,jI,jR fun gx wq hB=>(keep hB HGW.out).cell 4,jC,fun gx wq=>?_,jR fun gx wq hB=>(hB.cell HAP.out).trans d7,jI,trivial⟩
  ·exact jp (.pointer (some (adp.add q))) (by simp[go_sem,evAct,hq2];try omega) rfl
 ·refine fun gx wq hB hJ hf=>?_
  dsimp only[zAh] at hf;change wpOps _ _ _ [9,11] _ _;have hst:(Value.slice none 0 0).ownBlock=none:=rfl;replace S:=zh (S.out.keep hB);replace KN:=kp hB KN;replace HRW:=zh (HRW.out.keep hB);replace HTY:=zh (HTY.out.keep hB);replace HGW:=kp hB HGW;have HGL:=zh (show w.heap.size+4<gn from HGN.out);have HGW5:=zh (show w.heap.size+5<=wq.heap.size from S.out.km.lt);clear hB hf hJ;clear gx;generalize wq=w7 at*;obtain⟨css,hcl,hct,hcr⟩:=zOx HTY.out;have hone:=yBk hcl hct;refine zC0 (o:=_) (R:=fun v' w'=>w'.ownsRow (w.heap.size+5) 47 5 v' (0+y.length) ([]++css.flatMap (·.toList))/\w7.grownBy w' (Value.slice none 0 0).ownBlock/\(v'.ownBlock=(Value.slice none 0 0).ownBlock\/v'.ownBlock=some w7.heap.size)) rfl rfl (zB0 (.tmp 68) (.tmp 75) 45 rfl (w.heap.size+5) 47 i0 (.agg qT) 5 80 Tryz.underlying45 hi hz0 hz1 hz2 rfl (by decide) qN 0 [] rfl (World.ownsRow_nil _ _ _ _) w7.heap.size A7 y.length c7 (css.flatMap (·.toList)) rfl hcr hone (by unfold maxLen;have:=HYL.out;omega) (by have:=HYL.out;omega) (by have:=HGW5.out;omega) fun v' w' q2 q3 q4=>⟨q2,q3,q4⟩) ?_;rintro v' w8 ⟨q2,q3,q4⟩;have HAP9:=AppT.zGo (P:=fun b=>ok b\/w.heap.size+4<b) (v:=qN) (xs:=[]) (css:=[]) rfl (fun j c x h=>by simp at h) hcl (fun j c x hj hx=>(hct j c x hj hx).any fun b _ hb=>⟨by rw[hst];simp,.inl hb⟩) q2 q3 q4;rw[List.nil_append] at HAP9;obtain⟨A5,c5,e9,h51,h52,_⟩:=HAP9.form (fun b hb=>.inr (by omega));subst e9;have hbn:Below w7.heap.size w7 w8:=⟨q3.os,q3.tape,q3.output,q3.size,fun i hi=>q3.block i hi (by simp[Value.ownBlock])⟩
  have k3:=(keep hbn S.out.km).cell 3;have f3:=(keep hbn S.out.km).frozen 3;have S9:=zh ((S.out.keep hbn).set_ 3 (.slice A5 y.length c5) ((keep hbn S.out.km).set_ 3 (.slice A5 y.length c5)) HAP9);have hg9:w8.grownBy (w8.setCell ⟨w.heap.size+4,3,none⟩ (.slice A5 y.length c5)) (some (w.heap.size+4)):=zA8 w8 ⟨w.heap.size+4,3,none⟩ _;have KN9:=zh ((keep hbn KN.out).grown hg9 fun e=>by have:=sj e;have:=HGL.out;omega);have HG9:=zh ((keep hbn HGW.out).grown hg9 fun e=>by have:=sj e;have:=HGG.out;omega);refine zAu (o:=_) rfl rfl (w':=w8.setCell ⟨w.heap.size+4,3,none⟩ (.slice A5 y.length c5)) (by simp[go_sem,k3,f3]) ?_;refine zAa ?_;clear k3 f3 HAP9 hcl hct hcr hone q2 q3 q4 hbn hg9 S KN HTY HGW HRW;generalize w8.setCell ⟨w.heap.size+4,3,none⟩ (.slice A5 y.length c5)=w9 at*;have kn0:=KN9.out.cell 0
  go_upto_block 0 with(fail)
  go_cut [12] (fun s wc=>s= .string (sfxS n.kind)/\wc=w9)
  case first=>
   skip
   by_cases n7:n.kind=7
   ·have q7:(n.kind==7)=true:=beq_iff_eq.2 n7;have HD:=zh (show sfxS n.kind=subS by unfold sfxS;rw[if_pos n7]);clear n7;go_wp2;go_meet;exact⟨by rw[HD.out];rfl,rfl⟩
   have q7:(n.kind==7)=false:=bn n7
   by_cases n8:n.kind=8
   ·have q8:(n.kind==8)=true:=beq_iff_eq.2 n8;have HD:=zh (show sfxS n.kind=supS by unfold sfxS;rw[if_neg n7,if_pos n8]);clear n7 n8;go_wp2;go_meet;exact⟨by rw[HD.out];rfl,rfl⟩
   have q8:(n.kind==8)=false:=bn n8
   by_cases n9:n.kind=9
   ·have q9:(n.kind==9)=true:=beq_iff_eq.2 n9;have HD:=zh (show sfxS n.kind=zK6 by unfold sfxS;rw[if_neg n7,if_neg n8,if_pos n9]);clear n7 n8 n9;go_wp2;go_meet;exact⟨by rw[HD.out];rfl,rfl⟩
   have q9:(n.kind==9)=false:=bn n9;have HD:=zh (show sfxS n.kind=⟨#[]⟩ by unfold sfxS;rw[if_neg n7,if_neg n8,if_neg n9]);clear n7 n8 n9;go_wp2;go_meet;exact⟨by rw[HD.out],rfl⟩
  obtain⟨rfl,rfl⟩:=hcut;clear kn0;have km4:=S9.out.km.cell 4;have kf4:=S9.out.km.frozen 4;have hz1:=zNd u.kind;have hz2':=zY9 n.kind;go_upto_region 19 with(fail)
  have S10:=zh (S9.out.set_ (kk':=4) (vr':=⟨#[]⟩) (frm':=zBf u.kind++sfxS n.kind) 4 (.string (zBf u.kind++sfxS n.kind)) (S9.out.km.set_ 4 (.string (zBf u.kind++sfxS n.kind))) S9.out.app);have hg:wc.grownBy (wc.setCell ⟨w.heap.size+4,4,none⟩ (.string (zBf u.kind++sfxS n.kind))) (some (w.heap.size+4)):=zA8 wc ⟨w.heap.size+4,4,none⟩ _;replace KN:=zh (KN9.out.grown hg fun e=>by have:=sj e;have:=HGL.out;omega);clear km4 kf4 hg S9 KN9 HG9;generalize wc.setCell ⟨w.heap.size+4,4,none⟩ (.string (zBf u.kind++sfxS n.kind))=w10 at*;have HRW:=zh (HR.out.keep S10.out.bel);have HGW:=zh (keep S10.out.bel HG.out);have HNW:=zh (HN0.out.keep S10.out.bel);have S:=S10;refine qm [2,2,2,1,1,1,2,2,2,2,2] (List.replicate 11 false) (fun gx=>[qP g,qP g,qP g,.slice (some adr) rs.length cap,.agg (qC n A3 cap3),.tuple #[gx.v 98,gx.v 99],.tuple #[gx.v 98,gx.v 99],gx.v 98,gx.v 99,gx.v 98,gx.v 99]) [(5,fun gx wx=>∃sb bb,gx.v 98= .string sb/\gx.v 99= .bool bb/\zDu rs n=(if bb=true then some sb else none))] (fun _ _=>True) (zA6.cons (fun gx wx w2 h hb=>h) zA6.nil) (trivial) ?_ ?_
  ·refine⟨jC,jI,jI,jR fun gx wq hB=>(keep hB HGW.out).cell 0,fun gx wq hB hJ hf=>?_,fun gx wq hB hJ hf=>?_,jC,jC,jC,jC,jC,trivial⟩
   ·have c0:=(keep hB KN.out).cell 0;have c1:=(keep hB KN.out).cell 1;have c2:=(keep hB KN.out).cell 2;have c3:=(keep hB KN.out).cell 3;exact gs (.agg (qC n A3 cap3)) hJ (by kernel_rfl) (by simp[go_sem,evAct,c0,c1,c2,c3]) rfl
   ·refine jc 114 (#[.slice (some adr) rs.length cap,.agg (qC n A3 cap3)]) wq (by kernel_rfl) ((zK3 (some adr) cap rs n _ wq (HRW.out.keep hB) hrn (HNW.out.keep hB) (zRu HFO.out.1)).mono ?_);rintro e wz ⟨sb,bb,rfl,hbo,hb⟩;exact⟨_,rfl,((gx.setV 98 (.string sb)).setV 99 (.bool bb)),rfl,jD,hb,⟨⟨sb,bb,rfl,rfl,hbo⟩,trivial⟩,trivial⟩
  ·refine fun gx wq hB hJ hf=>?_
   dsimp only[zAh] at hf;change wpOps _ _ _ [] _ _;obtain⟨⟨sb,bb,e98,e99,hbo⟩,-⟩:=hf;rw[e98,e99];refine zAa ?_;have HBO:=zh hbo;replace S:=zh (S.out.keep hB);clear hbo e98 e99 hJ hB;clear gx;generalize wq=w11 at*;have HSZ1:=zh (show y.length<=1000 from HYL.out);have ku0:=S.out.ku.cell 0;cases hv:varN rs n (decide (u.kind=2)) with
   |none=>
    have HD:=zh (show bdKK rs u.kind (some (n,y))=4/\bdVr rs u.kind (some (n,y))=⟨#[]⟩/\bdFm rs u.kind (some (n,y))=zBf u.kind++sfxS n.kind/\bdSc (some (n,y))=y by unfold bdKK bdVr bdFm bdSc;dsimp only;rw[hv];exact⟨rfl,rfl,rfl,rfl⟩);have hbq:bb=false\/(u.kind==2)=false:=by
     by_cases hk2:u.kind=2
     ·rw[decide_eq_true hk2,(zHn rs n).1,HBO.out] at hv;cases bb
      ·exact .inl rfl
      ·cases hv
     ·exact .inr (bn hk2)
    clear hv;rcases hbq with rfl|hbq
    ·go_wp2;go_meet;rw[HPO2.out,HD.out.1,HD.out.2.1,HD.out.2.2.1,HD.out.2.2.2];exact⟨_,S,zh ⟨by decide,by rw[zE8];omega,HSZ1.out⟩⟩
    ·cases bb
     ·go_wp2;go_meet;rw[HPO2.out,HD.out.1,HD.out.2.1,HD.out.2.2.1,HD.out.2.2.2];exact⟨_,S,zh ⟨by decide,by rw[zE8];omega,HSZ1.out⟩⟩
     ·go_wp2;go_meet;rw[HPO2.out,HD.out.1,HD.out.2.1,HD.out.2.2.1,HD.out.2.2.2];exact⟨_,S,zh ⟨by decide,by rw[zE8];omega,HSZ1.out⟩⟩
   |some v=>
    have hk2:u.kind=2:=of_decide_eq_true (zVi hv).2.2;have hbv:zDu rs n=some v:=by rw[decide_eq_true hk2,(zHn rs n).1] at hv;exact hv
    have HVS:=zh (zSt HFO.out.1 hbv);have hbb:bb=true/\sb=v:=by
     have h1:=HBO.out;rw[hbv] at h1;cases bb
     ·cases h1
     ·injection h1 with h1;exact⟨rfl,h1.symm⟩
    obtain⟨rfl,rfl⟩:=hbb;have HD:=zh (show bdKK rs u.kind (some (n,y))=5/\bdVr rs u.kind (some (n,y))=sb/\bdFm rs u.kind (some (n,y))=zHr++sfxS n.kind/\bdSc (some (n,y))=y by unfold bdKK bdVr bdFm bdSc;dsimp only;rw[hv];exact⟨rfl,rfl,rfl,rfl⟩);have q2:(u.kind==2)=true:=beq_iff_eq.2 hk2;clear hv hk2 hbv;have m0:=S.out.km.cell 0;have m2:=S.out.km.cell 2;have m4:=S.out.km.cell 4;have f0:=S.out.km.frozen 0;have f2:=S.out.km.frozen 2;have f4:=S.out.km.frozen 4;go_wp2;go_meet;rw[HPO2.out,HD.out.1,HD.out.2.1,HD.out.2.2.1,HD.out.2.2.2];have Sa:=S.out.set_ (kk':=5) (vr':=⟨#[]⟩) (frm':=zBf u.kind++sfxS n.kind) 0 (qI 5) (S.out.km.set_ 0 (qI 5)) S.out.app;have Sb:=Sa.set_ (kk':=5) (vr':=sb) (frm':=zBf u.kind++sfxS n.kind) 2 (.string sb) (Sa.km.set_ 2 (.string sb)) Sa.app;exact⟨_,zh (Sb.set_ (kk':=5) (vr':=sb) (frm':=zHr++sfxS n.kind) 4 (.string (zHr++sfxS n.kind)) (Sb.km.set_ 4 (.string (zHr++sfxS n.kind))) Sb.app),zh ⟨HVS.out,by rw[zE8];have:zHr.size=4:=rfl;omega,HSZ1.out⟩⟩
end Go.Proofs.YtapgncbegadbnaaGreatDoor.El
