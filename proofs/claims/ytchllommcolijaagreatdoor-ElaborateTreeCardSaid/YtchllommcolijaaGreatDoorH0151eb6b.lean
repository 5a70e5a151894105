/- build of the reference: part d. -/
import Derived.Test.YtchllommcolijaaGreatDoorH90455291
namespace Go.Proofs.YtchllommcolijaaGreatDoor.El
open At Ch Sp Sy Go.RowKit
set_option maxRecDepth 100000 in
set_option maxHeartbeats 400000000 in
theorem zYg:zE5.d:=by
 intro okr ok g cap rs Ai ci its Apt cpt xs vp vk hrn hfs hys hkr hnm m x i j w A2 cap2 hl hc HKS HP HOK HM HK HJ HFS HYS HGG r HX u HLR HU HKK hneg hneg2 hrl HKD HNM w1 adr ih IH HR HG w2 w3 w4 oi HOI wq w5 po HPO _ _ _ _ _ _ _ _ kk vr fm sc HTR w8 HSZ HSC Af cf S hcf hcm _ HRW HGW HKW HPW ku0 _ _ wc _ _ _ _ _ _ _ _ _ _ _ _ _ _ _ _ _ _ _ _ _ _ _ _ _ _ _ _ _ _ _ _ _ _ _ _ _ _ _ _ _ _ _ _ _ _ _ _ _ _ _ _ _ _ _ _ _ _ _ _ _ _ _ _ _ _ _ _ _ _ _ _ _ _ _ _ _ _ _ _ _ _ _ _ _ _ _ _ _ _ _ _ _ _ _ _ _ _ _ _ _ _ _ _ _ _ _ _ _ _ _ _ _ _ _ _ _ _ _ _ _ _ _ _ _ _ _ _ _ _ _ _ _ _ _ _ _ _ _ _ _ _ _ _ _ _ _ _ _ _ _ _ _ _ _ _ _ _ _ _ _ _ _ _ _ _ _ _ A6 c6 zs h61 h62 S9 HTQ;obtain⟨i0,hi,hz0,hz1,hz2⟩:=Sp.info_parts zE2
 skip
 clear S HRW HGW HKW HPW ku0 HTR HKK HPO HOI IH HX HKS HK HG HR HP hfs hys hkr hnm HFS HYS;generalize wc=w9 at*;obtain⟨A6',c6',e9,_,_,hts⟩:=S9.out.app.form (fun b hb=>.inr (by omega));have e10:A6'=A6:=by injection e9 with e9 _ _;exact e9.symm
 rw[e10] at hts;clear e9 e10;have HTS:=zh hts;have KK1:=zh S9.out.k1;clear hts;have k1c:=fun i=>KK1.out.cell i
 have k1f:=fun i=>KK1.out.frozen i
 have kmc:=fun i=>S9.out.km.cell i
 go_wp2_with fail;have KR:=zh (set5 KK1.out (.int .i64 kk) (.string u.nam) (.string vr) (.slice A6 zs.length c6) (.string fm));have HB5:=zh (zM7 (g:=w.heap.size+1) S9.out.bel S9.out.bel.size (by omega) (.int .i64 kk) (.string u.nam) (.string vr) (.slice A6 zs.length c6) (.string fm));have HG5:=zh (zE7 w9 (w.heap.size+1) (.int .i64 kk) (.string u.nam) (.string vr) (.slice A6 zs.length c6) (.string fm));generalize (((((w9).setCell ⟨w.heap.size+1,0,none⟩ (.int .i64 kk)).setCell ⟨w.heap.size+1,1,none⟩ (.string u.nam)).setCell ⟨w.heap.size+1,2,none⟩ (.string vr)).setCell ⟨w.heap.size+1,3,none⟩ (.slice A6 zs.length c6)).setCell ⟨w.heap.size+1,4,none⟩ (.string fm)=w10 at*;have r0:=KR.out.cell 0;have r1:=KR.out.cell 1;have r2:=KR.out.cell 2;have r3:=KR.out.cell 3;have r4:=KR.out.cell 4;exact bodyPost_ret (v:=.agg #[.int .i64 kk,.string u.nam,.string vr,.slice A6 zs.length c6,.string fm]) (by simp[results,Tryz.results70,go_sem,r0,r1,r2,r3,r4]) rfl (show RTmP _ _ _ _ _ by rw[HTQ.out];exact⟨_,rfl,TmAt.of HSZ.out.1 HSZ.out.2.1 HSZ.out.2.2 h61 h62 (HTS.out.map HG5.out.size (fun b _ hb=>hb.imp id fun h=>by omega) fun p _ hb=>World.cell?_of_block (HG5.out.block _ ‹_› fun e=>by have:=sj e;rcases hb with hb|hb<;>(try have:=HOK.out _ hb)<;>omega)),HB5.out⟩)
end Go.Proofs.YtchllommcolijaaGreatDoor.El
