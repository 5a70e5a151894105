/- The reference's symbol and tokens. -/
import Derived.Test.YtchllommcolijaaGreatDoorHc7d0967d
import Derived.Deep.CutBlock
import Derived.Test.YtchllommcolijaaGreatDoorH6e1fd50f
namespace Go.Proofs.YtchllommcolijaaGreatDoor.El
open At Ch Sp Sy Go.RowKit
def zWq (n:Tre):Nat:=match n.kids with
 |b0::_=>b0.kids.length
 |[]=>0
theorem zLr {n b0:Tre}{ks:List Tre}(h:n.kids=b0::ks):zWq n=b0.kids.length:=by unfold zWq;rw[h]
theorem zXm (rs:List Rul)(s:List UInt8):conB (zCw rs) s=zB9 rs s:=zTw rs s
theorem zM3 (rs:List Rul)(h:rs.length≤1000000):(zCw rs).length≤1000000:=by
 have:=zF1 rs rs.length;rw[List.take_length] at this;omega
set_option maxRecDepth 100000 in
set_option maxHeartbeats 4000000 in
theorem zOm (A:Option Addr)(cap:Nat)(rs:List Rul)(n:Tre)(c:Array Value)(w:World)(hR:zAg w A rs)(hrn:rs.length≤1000000)(hN:zBd w n c)(hne:scrB n.kind=true→n.kids≠[]):Calls Tryz.prog 90 #[.slice A rs.length cap,.agg c] w fun e w'=>e= .returned (.tuple #[.string (unsc n).text,.bool (zD3 rs n)])∧Below w.heap.size w w':=by
 obtain⟨A2,cap2,rfl,hsz,hl2,hc2,hk⟩:=hN.form;have HTZ:=zh (zLp hN);have HB:=zh (zA1 w (.cells #[.int .i64 n.kind,.string n.text,.int .i64 n.cols,.slice A2 n.kids.length cap2] 25));have K1:=zh (Blk.new w 25 #[.int .i64 n.kind,.string n.text,.int .i64 n.cols,.slice A2 n.kids.length cap2]);have HR:=zh (hR.keep HB.out);have HK:=zh (hk.keep HB.out);have HNE:=zh hne;have hR3:=hR;clear hR hN hk hne hsz;go_enter Tryz.func90,Tryz.ntmps90;go_upto_region 1 with(fail)
 generalize w.alloc (.cells #[.int .i64 n.kind,.string n.text,.int .i64 n.cols,.slice A2 n.kids.length cap2] 25)=w1 at*;have k0:=K1.out.cell 0;have k3:=K1.out.cell 3
 go_cut [27] (fun b wc=>b= .bool (scrB n.kind&&decide (zWq n=1))∧wc=w1)
 case first=>
  cases hs:scrB n.kind with
  |true=>
   obtain⟨b0,ks,hks⟩:∃b0 ks,n.kids=b0::ks:=by
    cases hq:n.kids with
    |nil=>exact absurd hq (HNE.out hs)
    |cons b0 ks=>exact⟨b0,ks,rfl⟩
   obtain⟨ad,A3,cap3,hA2,hadl,_,hl3,hc3,hk3,hn3,d0,d1,d2,d3⟩:=HK.out.at_ (i:=0) (t:=b0) (by rw[hks];rfl);subst hA2;rw[add_zero'] at d0 d1 d2 d3;have hpos:(0:Int)<(n.kids.length:Int):=by rw[hks,List.length_cons];omega
   have HQ:((b0.kids.length:Int)==1)=decide (b0.kids.length=1):=by
    rw[Bool.eq_iff_iff,beq_iff_eq,decide_eq_true_iff];omega
   have HSC:=zh (show n.kind=7∨n.kind=8∨n.kind=9 from by unfold scrB at hs;exact of_decide_eq_true hs);have HHS:=zh hs;have HKS:=zh hks;clear hs hk3 hn3 hks d0 d1 d2;rcases HSC.out with h|h|h
   ·have q7:(n.kind==7)=true:=beq_iff_eq.2 h;clear h HSC;go_wp2_with fail;go_meet;exact⟨by rw[HHS.out,Bool.true_and,zLr HKS.out],rfl⟩
   ·have q7:(n.kind==7)=false:=by rw[h];rfl
    have q8:(n.kind==8)=true:=beq_iff_eq.2 h;clear h HSC;go_wp2_with fail;go_meet;exact⟨by rw[HHS.out,Bool.true_and,zLr HKS.out],rfl⟩
   ·have q7:(n.kind==7)=false:=by rw[h];rfl
    have q8:(n.kind==8)=false:=by rw[h];rfl
    have q9:(n.kind==9)=true:=beq_iff_eq.2 h;clear h HSC;go_wp2_with fail;go_meet;exact⟨by rw[HHS.out,Bool.true_and,zLr HKS.out],rfl⟩
  |false=>
   have q7:(n.kind==7)=false:=by unfold scrB at hs;rw[beq_eq_false_iff_ne];have:=of_decide_eq_false hs;omega
   have q8:(n.kind==8)=false:=by unfold scrB at hs;rw[beq_eq_false_iff_ne];have:=of_decide_eq_false hs;omega
   have q9:(n.kind==9)=false:=by unfold scrB at hs;rw[beq_eq_false_iff_ne];have:=of_decide_eq_false hs;omega
   have HHS:=zh hs;clear hs;go_wp2_with fail;go_meet;exact⟨by rw[HHS.out];rfl,rfl⟩
 obtain⟨h27,rfl⟩:=hcut;obtain⟨b27,hb27⟩:∃b27,b27=(scrB n.kind&&decide (zWq n=1)):=⟨_,rfl⟩
 rw[←hb27] at h27;subst h27;have HB27:=zh hb27;clear k0 k3 hb27;go_upto_if 27 with(fail)
 go_cut [] (fun wd=>(∃A4 cap4,Hid (Blk wd w.heap.size 25 #[.int .i64 (unsc n).kind,.string (unsc n).text,.int .i64 (unsc n).cols,.slice A4 (unsc n).kids.length cap4]))∧Hid (Below w.heap.size w wd))
 case first=>
  cases hs:scrB n.kind with
  |false=>
   obtain rfl:b27=false:=by rw[HB27.out,hs];rfl
   have HU:=zh (zO0 hs);clear hs HB27;go_wp2_with fail;go_meet;exact⟨⟨A2,cap2,by rw[HU.out];exact K1⟩,HB⟩
  |true=>
   obtain⟨b0,ks,hks⟩:∃b0 ks,n.kids=b0::ks:=by
    cases hq:n.kids with
    |nil=>exact absurd hq (HNE.out hs)
    |cons b0 ks=>exact⟨b0,ks,rfl⟩
   have hb1:b27=decide (b0.kids.length=1):=by rw[HB27.out,hs,Bool.true_and,zLr hks]
   clear HB27
   by_cases h1:b0.kids.length=1
   ·obtain⟨x,hx⟩:∃x,b0.kids=[x]:=List.length_eq_one_iff.1 h1;obtain⟨ad,A3,cap3,hA2,hadl,_,hl3,hc3,hk3,hn3,d0,d1,d2,d3⟩:=HK.out.at_ (i:=0) (t:=b0) (by rw[hks];rfl);subst hA2;rw[add_zero'] at d0 d1 d2 d3;obtain⟨ad4,A4,cap4,hA3,hadl4,hxz,_,_,_,_,e0,e1,e2,e3⟩:=hk3.at_ (i:=0) (t:=x) (by rw[hx];rfl);subst hA3;rw[add_zero'] at e0 e1 e2 e3;have HU:=zh (zPy hs hks hx);have hpos:(0:Int)<(n.kids.length:Int):=by rw[hks,List.length_cons];omega
    have k0:=fun i=>K1.out.cell i
    have f0:=fun i=>K1.out.frozen i
    obtain rfl:b27=true:=by rw[hb1];exact decide_eq_true h1
    rw[show b0.kids.length=1 by omega] at d3;clear hs hks hx h1 hk3 hn3 hb1 d0 d1 d2;go_wp2_with fail;go_meet;have hgr:=zUw wc w.heap.size (.int .i64 x.kind) (.string x.text) (.int .i64 x.cols) (.slice A4 x.kids.length cap4);have hse:=set4 K1.out (.int .i64 x.kind) (.string x.text) (.int .i64 x.cols) (.slice A4 x.kids.length cap4);exact⟨⟨A4,cap4,by rw[HU.out];exact zh hse⟩,zh (HB.out.grown hgr HB.out.size fun r e=>by have:=sj e;omega)⟩
   ·have HU:=zh (zN8 hks h1);obtain rfl:b27=false:=by rw[hb1];exact decide_eq_false h1
    clear hs hks h1 hb1;go_wp2_with fail;go_meet;exact⟨⟨A2,cap2,by rw[HU.out];exact K1⟩,HB⟩
 obtain⟨⟨A4,cap4,KU⟩,HB2⟩:=hcut;have HR3:=zh (hR3.keep HB2.out);have HO:=zh (show zD3 rs n=(decide ((unsc n).kind=2)&&zB9 rs (unsc n).text.data.toList) from rfl);clear HB K1 HR HK HNE;obtain⟨u,hu⟩:∃u,u=unsc n:=⟨_,rfl⟩
 rw[←hu] at KU HO HTZ;have HUU:=zh hu;clear hu;go_upto_region 3 with(fail)
 by_cases h2:u.kind=2
 ·have hk2:(u.kind==2)=true:=beq_iff_eq.2 h2;have HO2:=zh (show zD3 rs n=zB9 rs u.text.data.toList by rw[HO.out,decide_eq_true h2,Bool.true_and]);clear h2;refine zAf (X:=Gh) (by kernel_rfl) [2,1,2,1,2,2,2,1,2,1,1,2,2,2] [false,false,false,false,false,false,false,false,false,false,false,false,false,false] _ (fun gx=>[.pointer (some ⟨w.heap.size,1,none⟩),.string u.text,.pointer (some ⟨w.heap.size,0,none⟩),.int .i64 u.kind,.bool true,.bool true,.slice A rs.length cap,gx.v 42,.pointer (some ⟨w.heap.size,1,none⟩),.string u.text,.bool (zB9 rs u.text.data.toList),.bool (zB9 rs u.text.data.toList),.string u.text,.bool (zB9 rs u.text.data.toList)]) [(7,fun gx wx=>∃A6 c6,gx.v 42= .slice A6 (zCw rs).length c6∧zOd wx A6 (zCw rs))] (fun _ _=>True) Gh.zero (by kernel_rfl) (fun gx=>by simp[fin,zAi,zA7,List.range,List.range.loop,Act.put];rfl) (fun _=>by kernel_rfl) (zA6.cons (fun gx wx w2 ⟨A6,c6,h1,h2⟩ hb=>⟨A6,c6,h1,h2.keep hb⟩) zA6.nil) (trivial) ?_ (by kernel_rfl) ?_
  ·refine⟨fun gx wq=>jp (.pointer (some ⟨w.heap.size,1,none⟩)) (by simp[go_sem,evAct]) rfl,fun gx wq hB hJ hf=>?_,fun gx wq=>jp (.pointer (some ⟨w.heap.size,0,none⟩)) (by simp[go_sem,evAct]) rfl,fun gx wq hB hJ hf=>?_,fun gx wq=>jp (.bool true) (by simp[go_sem,evAct,hk2]) rfl,fun gx wq=>jp (.bool true) (by kernel_rfl) rfl,fun gx wq=>jp (.slice A rs.length cap) (by kernel_rfl) rfl,fun gx wq hB hJ hf=>?_,fun gx wq=>jp (.pointer (some ⟨w.heap.size,1,none⟩)) (by simp[go_sem,evAct]) rfl,fun gx wq hB hJ hf=>?_,fun gx wq hB hJ hf=>?_,fun gx wq=>jp (.bool (zB9 rs u.text.data.toList)) (by kernel_rfl) rfl,fun gx wq=>jp (.string u.text) (by kernel_rfl) rfl,fun gx wq=>jp (.bool (zB9 rs u.text.data.toList)) (by kernel_rfl) rfl,trivial⟩
   ·have k1:=(keep hB KU.out).cell 1;exact gs (.string u.text) hJ (by kernel_rfl) (by simp[go_sem,evAct,k1]) rfl
   ·have k0:=(keep hB KU.out).cell 0;exact gs (.int .i64 u.kind) hJ (by kernel_rfl) (by simp[go_sem,evAct,k0]) rfl
   ·refine jc 120 (#[.slice A rs.length cap]) wq (by kernel_rfl) ((zHp A cap rs wq (HR3.out.keep hB) hrn).mono ?_);rintro e wz ⟨v6,rfl,ho,hb⟩;exact⟨_,rfl,gx.setV 42 v6,rfl,(zA5.of_same ⟨jK,jK,jK,jK,jK,jK,jK,.inl rfl,jK,jK,jK,jK,jK,jK,trivial⟩),hb,⟨(by obtain⟨A6,c6,e6,_,_,hs⟩:=ho.form;exact⟨A6,c6,e6,hs⟩),trivial⟩,trivial⟩
   ·have k1:=(keep hB KU.out).cell 1;exact gs (.string u.text) hJ (by kernel_rfl) (by simp[go_sem,evAct,k1]) rfl
   ·have f42:=hf.1 (by kernel_rfl);obtain⟨A6,c6,e6,hst⟩:=f42;refine jc 119 (#[.slice A6 (zCw rs).length c6,.string u.text]) wq (by simp[go_sem,evAct,e6]) ((zNu A6 c6 (zCw rs) u.text wq hst (zM3 rs hrn)).mono ?_);rintro e wz ⟨rfl,rfl⟩;rw[zXm];exact⟨_,rfl,gx,rfl,(zA5.of_same ⟨jK,jK,jK,jK,jK,jK,jK,(by first|exact jK|exact .inr (.inl (by kernel_rfl))),jK,jK,.inl rfl,jK,jK,jK,trivial⟩),(Below.refl _ _),⟨.inr fun h=>h,trivial⟩,trivial⟩
  ·refine fun gx wq hB hJ hf=>?_
   dsimp only[zAk] at hf;change wpOps _ _ _ [] _ _;refine zAd ?_;have HB3:=jt HB2 hB;clear hB hJ hf;generalize gx.v 42=v42 at*;clear gx;generalize wq=w9 at*;go_wp2_with fail;exact bodyPost_ret (v:=.tuple #[.string u.text,.bool (zB9 rs u.text.data.toList)]) (by simp[results,Tryz.results90,go_sem]) rfl ⟨by rw[HO2.out,HUU.out],HB3.out⟩
 ·have hk2:(u.kind==2)=false:=bn h2;have HO2:=zh (show zD3 rs n=false by rw[HO.out,decide_eq_false h2,Bool.false_and]);clear h2;refine zAf (X:=Gh) (by kernel_rfl) [2,1,2,1,2,2,0,0,0,0,0,2,2,2] [false,false,false,false,false,false,false,false,false,false,false,false,false,false] _ (fun gx=>[.pointer (some ⟨w.heap.size,1,none⟩),.string u.text,.pointer (some ⟨w.heap.size,0,none⟩),.int .i64 u.kind,.bool false,.bool false,undef,undef,undef,undef,undef,.bool false,.string u.text,.bool false]) [] (fun _ _=>True) Gh.zero (by kernel_rfl) (fun gx=>by simp[fin,zAi,zA7,List.range,List.range.loop,Act.put];rfl) (fun _=>by kernel_rfl) zA6.nil (trivial) ?_ (by kernel_rfl) ?_
  ·refine⟨fun gx wq=>jp (.pointer (some ⟨w.heap.size,1,none⟩)) (by simp[go_sem,evAct]) rfl,fun gx wq hB hJ hf=>?_,fun gx wq=>jp (.pointer (some ⟨w.heap.size,0,none⟩)) (by simp[go_sem,evAct]) rfl,fun gx wq hB hJ hf=>?_,fun gx wq=>jp (.bool false) (by simp[go_sem,evAct,hk2]) rfl,fun gx wq=>jp (.bool false) (by kernel_rfl) rfl,fun _=>rfl,fun _=>rfl,fun _=>rfl,fun _=>rfl,fun _=>rfl,fun gx wq=>jp (.bool false) (by kernel_rfl) rfl,fun gx wq=>jp (.string u.text) (by kernel_rfl) rfl,fun gx wq=>jp (.bool false) (by kernel_rfl) rfl,trivial⟩
   ·have k1:=(keep hB KU.out).cell 1;exact gs (.string u.text) hJ (by kernel_rfl) (by simp[go_sem,evAct,k1]) rfl
   ·have k0:=(keep hB KU.out).cell 0;exact gs (.int .i64 u.kind) hJ (by kernel_rfl) (by simp[go_sem,evAct,k0]) rfl
  ·refine fun gx wq hB hJ hf=>?_
   dsimp only[zAk] at hf;change wpOps _ _ _ [] _ _;refine zAd ?_;have HB3:=jt HB2 hB;clear hB hJ hf;clear gx;generalize wq=w9 at*;go_wp2_with fail;exact bodyPost_ret (v:=.tuple #[.string u.text,.bool false]) (by simp[results,Tryz.results90,go_sem]) rfl ⟨by rw[HO2.out,HUU.out],HB3.out⟩
set_option maxRecDepth 100000 in
set_option maxHeartbeats 4000000 in
theorem zO1 (A A1:Option Addr)(cap cap1:Nat)(rs:List Rul)(l:List Tre)(w:World)(hR:zAg w A rs)(hrn:rs.length≤1000000)(hN:zB0 w A1 l)(hne:∀n∈l,scrB n.kind=true→n.kids≠[])(hn:l.length≤1000000):Calls Tryz.prog 66 #[.slice A rs.length cap,.slice A1 l.length cap1] w (zWc rs l w):=by
 obtain⟨i0,hi,hz0,hz1,hz2⟩:=info_parts zI2;have HR0:=zh hR;have HN0:=zh hN;have HNE:=zh hne;clear hR hN hne;go_enter Tryz.func66,Tryz.ntmps66;go_wp2_with fail
 go_loopw [7,8] (fun v i wr=>∃(k:Nat) (ts:List ByteArray),k≤l.length∧i= .int .i64 k∧Hid (zB5 rs (l.take k)= .inl ts)∧Hid (zBl wr w.heap.size v ts)∧Hid (Below w.heap.size w wr)) (fun _ i _=>l.length -(intOf i).toNat)
 case atStart=>exact⟨0,[],by omega,rfl,zh rfl,zh (World.ownsRow_nil _ _ _ _),zh (Below.refl _ _)⟩
 case round=>
  obtain⟨k,ts,hk,rfl,HT,HO,HB⟩:=hrel
  by_cases hlt:k<l.length
  ·obtain⟨x,hx⟩:∃x,l[k]?=some x:=⟨_,gE hlt⟩
   obtain⟨ad,A3,cap3,rfl,hadl,hsz,hl3,hc3,hk3,hn3,d0,d1,d2,d3⟩:=(HN0.out.keep HB.out).at_ hx;have HX:=zh hx;have HXZ:=zh hsz;have HNEX:=zh (HNE.out x (List.mem_of_getElem? hx));have HLEN:=zh (show ts.length=k by have:=zDt HT.out;rw[List.length_take] at this;omega);have HNX:=zh hn3;clear hx hn3 hk3 hsz;go_wp2_with fail;refine(zOm A cap rs x _ wr (HR0.out.keep HB.out) hrn HNX.out HNEX.out).mono ?_;rintro e w2 ⟨rfl,hb⟩;obtain⟨cs2,HO2⟩:∃_:Unit,Hid (zBl w2 w.heap.size u7 ts):=⟨(),zh (World.ownsRow.kept (row:=none) HO.out ⟨hb.os,hb.tape,hb.output,hb.size,fun i hi _=>hb.block i hi⟩ (by cases u7.ownBlock<;>simp))⟩
   have NB1:=jt HB hb;have HFIT:=zh (show(unsc x).text.size≤9223372036854775807 from zLp HNX.out);replace d0:=(hb.cell (p:=ad.add (k*4)) (by rw[zA3];exact hadl)).trans d0;replace d1:=(hb.cell (p:=⟨(ad.add (k*4)).block,(ad.add (k*4)).off+1,none⟩) (by show(ad.add (k*4)).block<_;rw[zA3];exact hadl)).trans d1;clear hb HO HB HNX d2 d3;have HB:=NB1;obtain⟨A2,cap2,rfl,hcl2,hcap2,_⟩:∃A2 cap2,u7= .slice A2 ts.length cap2∧ts.length≤cap2∧cap2≤9223372036854775807∧True:=by
    obtain⟨h1,h2⟩:=HO2.out;rcases h2 with⟨rfl,h0⟩|⟨gq,cap,cur,rfl,hg,hb,hn,hc,hs,ht⟩
    ·exact⟨none,0,by rw[h0],by omega,by omega,trivial⟩
    ·exact⟨_,cap,rfl,by omega,by unfold maxLen at*;omega,trivial⟩
   cases hop:zD3 rs x
   ·by_cases h2:x.kind=2
    ·have q2:(x.kind==2)=true:=beq_iff_eq.2 h2;have HRO:=zh (show rolB rs x=idB x.text.data.toList by unfold rolB;rw[hop,decide_eq_true h2];rfl);have HTK:=zh (show tokS rs x=zGh by unfold tokS;rw[hop];rfl);clear h2 hop;go_wp2_with fail;refine(zFm x.text w2 HXZ.out).mono ?_;rintro e w4 ⟨rfl,hb⟩;obtain⟨cs3,HO3⟩:∃_:Unit,Hid (zBl w4 w.heap.size (.slice A2 ts.length cap2) ts):=⟨(),zh (World.ownsRow.kept (row:=none) HO2.out ⟨hb.os,hb.tape,hb.output,hb.size,fun i hi _=>hb.block i hi⟩ (by cases (Value.slice A2 ts.length cap2).ownBlock<;>simp))⟩
     replace HB:=jt HB hb;clear hb HO2 d0 d1;have HO2:=HO3;clear HO3;generalize w4=w2 at*;rw[ByteArray.toList_eq];cases hid:idB x.text.data.toList
     ·have HS:=zh (zKq HX.out HT.out (by rw[HRO.out];exact hid));clear hid;go_wp2_with fail;exact bodyPost_ret (v:=.tuple #[.slice none 0 0,.int .i64 (k:Int),.bool false]) (by simp[results,Tryz.results66,go_sem]) rfl ⟨by rw[HS.out],HB.out⟩
     ·have HS:=zh (zF8 HX.out HT.out (by rw[HRO.out];exact hid));rw[HTK.out] at HS;clear hid;have hown:=World.ownsRow.alloc HO2.out (.cells #[.string zGh] 9);have HBL:=zh (World.ownsRow.lt HO2.out);have HSZ:=zh HB.out.size;go_wp2_with (at_builtin;refine wpList_append_own _ rfl (.tmp 26) (.tmp 27) 74 rfl w.heap.size 9 i0 (.string ⟨#[]⟩) 1 16 Tryz.underlying74 hi hz0 hz1 hz2 rfl (by decide) _ _ _ rfl hown ⟨w2.heap.size,0,none⟩ 1 1 [.string zGh] rfl rfl (Ch.zD2 _ _ _) ?c2a ?c3a ?c4a ?c5a ?_)
      case c2a=>intro u hu;simp at hu;subst hu;rfl
      case c3a=>have:=HLEN.out;unfold maxLen;omega
      case c4a=>have:=HLEN.out;omega
      case c5a=>have:=HSZ.out;simp;omega
      intro v' w3 hown' hgrow _;have NB:=zh ((HB.out.alloc HB.out.size (.cells #[.string zGh] 9)).grown hgrow (by have:=HSZ.out;simp;omega) (fun k hk=>(HBL.out k hk).1));have NO:=zh (zBl.snoc rfl rfl hown');clear hown hown' hgrow HO2 HB;go_wp2_with fail;go_roundw
      case rel=>exact⟨k+1,ts++[zGh],by omega,by go_num,HS,NO,NB⟩
      case measure=>simp[intOf];omega
    ·have q2:(x.kind==2)=false:=bn h2;have HS:=zh (zF8 HX.out HT.out (by unfold rolB;rw[hop,decide_eq_false h2];rfl));have HTK:=zh (show tokS rs x=zGh by unfold tokS;rw[hop];rfl);rw[HTK.out] at HS;clear h2 hop;have hown:=World.ownsRow.alloc HO2.out (.cells #[.string zGh] 9);have HBL:=zh (World.ownsRow.lt HO2.out);have HSZ:=zh HB.out.size;go_wp2_with (at_builtin;refine wpList_append_own _ rfl (.tmp 26) (.tmp 27) 74 rfl w.heap.size 9 i0 (.string ⟨#[]⟩) 1 16 Tryz.underlying74 hi hz0 hz1 hz2 rfl (by decide) _ _ _ rfl hown ⟨w2.heap.size,0,none⟩ 1 1 [.string zGh] rfl rfl (Ch.zD2 _ _ _) ?c2a ?c3a ?c4a ?c5a ?_)
     case c2a=>intro u hu;simp at hu;subst hu;rfl
     case c3a=>have:=HLEN.out;unfold maxLen;omega
     case c4a=>have:=HLEN.out;omega
     case c5a=>have:=HSZ.out;simp;omega
     intro v' w3 hown' hgrow _;have NB:=zh ((HB.out.alloc HB.out.size (.cells #[.string zGh] 9)).grown hgrow (by have:=HSZ.out;simp;omega) (fun k hk=>(HBL.out k hk).1));have NO:=zh (zBl.snoc rfl rfl hown');clear hown hown' hgrow HO2 HB;go_wp2_with fail;go_roundw
     case rel=>exact⟨k+1,ts++[zGh],by omega,by go_num,HS,NO,NB⟩
     case measure=>simp[intOf];omega
   ·have HS:=zh (zF8 HX.out HT.out (by unfold rolB;rw[hop];rfl));have HTK:=zh (show tokS rs x=(unsc x).text by unfold tokS;rw[hop];rfl);rw[HTK.out] at HS;clear hop;generalize (unsc x).text=tx at*;have hown:=World.ownsRow.alloc HO2.out (.cells #[.string tx] 9);have HBL:=zh (World.ownsRow.lt HO2.out);have HSZ:=zh HB.out.size;go_wp2_with (at_builtin;refine wpList_append_own _ rfl (.tmp 31) (.tmp 33) 74 rfl w.heap.size 9 i0 (.string ⟨#[]⟩) 1 16 Tryz.underlying74 hi hz0 hz1 hz2 rfl (by decide) _ _ _ rfl hown ⟨w2.heap.size,0,none⟩ 1 1 [.string tx] rfl rfl (Ch.zD2 _ _ _) ?c2a ?c3a ?c4a ?c5a ?_)
    case c2a=>intro u hu;simp at hu;subst hu;rfl
    case c3a=>have:=HLEN.out;unfold maxLen;omega
    case c4a=>have:=HLEN.out;omega
    case c5a=>have:=HSZ.out;simp;omega
    intro v' w3 hown' hgrow _;have NB:=zh ((HB.out.alloc HB.out.size (.cells #[.string tx] 9)).grown hgrow (by have:=HSZ.out;simp;omega) (fun k hk=>(HBL.out k hk).1));have NO:=zh (zBl.snoc rfl rfl hown');clear hown hown' hgrow HO2 HB;go_wp2_with fail;go_roundw
    case rel=>exact⟨k+1,ts++[tx],by omega,by go_num,HS,NO,NB⟩
    case measure=>simp[intOf];omega
  ·obtain rfl:k=l.length:=by omega
   have HT:=zh (show zB5 rs l= .inl ts by have:=HT.out;rwa [List.take_length] at this);go_wp2_with fail;exact bodyPost_ret (v:=.tuple #[u7,.int .i64 0,.bool true]) (by simp[results,Tryz.results66,go_sem]) rfl ⟨by rw[HT.out];exact⟨_,rfl,HO.out⟩,HB.out⟩
def zDe (rs:List Rul)(n:Tre):Option ByteArray:=if n.kind=7∨n.kind=9 then(match n.kids with
 |_::s::_=>zG1 rs s
 |_=>none) else none
def yA3 (rs:List Rul)(n:Tre)(w:World)(e:Ending)(w':World):Prop:=∃s b,e= .returned (.tuple #[.string s,.bool b])∧zDe rs n=(if b=true then some s else none)∧Below w.heap.size w w'
set_option maxRecDepth 100000 in
set_option maxHeartbeats 8000000 in
theorem zIe (A:Option Addr)(cap:Nat)(rs:List Rul)(n:Tre)(c:Array Value)(w:World)(hR:zAg w A rs)(hrn:rs.length≤1000000)(hN:zBd w n c)(hk:n.kind=7∨n.kind=9→∃a s r,n.kids=a::s::r):
  Calls Tryz.prog 94 #[.slice A rs.length cap,.agg c] w (yA3 rs n w):=by
 obtain⟨A2,cap2,rfl,hsz,hl2,hc2,hk2⟩:=hN.form;have HB:=zh (zA1 w (.cells #[.int .i64 n.kind,.string n.text,.int .i64 n.cols,.slice A2 n.kids.length cap2] 25));have K1:=zh (Blk.new w 25 #[.int .i64 n.kind,.string n.text,.int .i64 n.cols,.slice A2 n.kids.length cap2]);have HR:=zh (hR.keep HB.out);have HK:=zh (hk2.keep HB.out);have HKI:=zh hk;clear hR hN hk hk2 hsz;go_enter Tryz.func94,Tryz.ntmps94;go_upto_region 1 with(fail)
 generalize w.alloc (.cells #[.int .i64 n.kind,.string n.text,.int .i64 n.cols,.slice A2 n.kids.length cap2] 25)=w1 at*;have k0:=K1.out.cell 0;have k3:=K1.out.cell 3
 go_cut [15] (fun b wc=>b= .bool (decide (n.kind≠7∧n.kind≠9))∧wc=w1)
 case first=>
  by_cases h7:n.kind=7
  ·have HD:=zh (show decide (n.kind≠7∧n.kind≠9)=false from decide_eq_false (fun h=>h.1 h7));have q7:(n.kind !=7)=false:=by rw[h7];rfl
   clear h7;go_wp2_with fail;go_meet;exact⟨by rw[HD.out],rfl⟩
  have q7:(n.kind !=7)=true:=by rw[bne,bn h7];rfl
  by_cases h9:n.kind=9
  ·have HD:=zh (show decide (n.kind≠7∧n.kind≠9)=false from decide_eq_false (fun h=>h.2 h9));have q9:(n.kind !=9)=false:=by rw[h9];rfl
   clear h7 h9;go_wp2_with fail;go_meet;exact⟨by rw[HD.out],rfl⟩
  have HD:=zh (show decide (n.kind≠7∧n.kind≠9)=true from decide_eq_true ⟨h7,h9⟩);have q9:(n.kind !=9)=true:=by rw[bne,bn h9];rfl
  clear h7 h9;go_wp2_with fail;go_meet;exact⟨by rw[HD.out],rfl⟩
 obtain⟨h15,rfl⟩:=hcut;subst h15
 by_cases hk79:n.kind=7∨n.kind=9
 case neg=>
  have HO:=zh (show zDe rs n=none by unfold zDe;rw[if_neg hk79]);rw[show decide (n.kind≠7∧n.kind≠9)=true from decide_eq_true ⟨fun h=>hk79 (.inl h),fun h=>hk79 (.inr h)⟩];clear hk79;go_wp2_with fail;exact bodyPost_ret (v:=.tuple #[.string ⟨#[]⟩,.bool false]) (by simp[results,Tryz.results94,go_sem]) rfl ⟨_,_,rfl,by rw[HO.out];rfl,HB.out⟩
 rw[show decide (n.kind≠7∧n.kind≠9)=false from decide_eq_false (fun h=>by rcases hk79 with e|e;exact h.1 e;exact h.2 e)];obtain⟨n0,s,nr,hks⟩:=HKI.out hk79;have HO:=zh (show zDe rs n=zG1 rs s by unfold zDe;rw[if_pos hk79,hks]);rw[hks] at HK;obtain⟨ad,A3,cap3,rfl,hadl,_,_,_,_,_,_⟩:=zFf HK.out;obtain⟨ad',A4,cap4,hA4,_,_,_,_,hk5,_,b0,b1,b2,b3⟩:=HK.out.at_ (i:=1) (t:=s) rfl;obtain rfl:=sj hA4;rw[show ad.add (1*4)=⟨ad.block,ad.off+4,none⟩ by unfold Addr.add;simp] at b0 b1 b2 b3;have hp1:(1:Int)<(n.kids.length:Int):=by rw[hks,List.length_cons,List.length_cons];omega
 have HK5:=zh hk5;clear hks hk79 HKI;go_upto_region 4 with(fail)
 clear b0 b1 b2 b3 k0 k3;obtain⟨kl,hkl⟩:∃kl,kl=s.kids.length:=⟨_,rfl⟩
 rw[←hkl]
 match hs:s.kids with
 |[]|[_]|[_,_]=>
  all_goals
   have HO2:=zh (show zDe rs n=none by rw[HO.out];unfold zG1;rw[hs]);have hl3:(kl:Int)<3:=by rw[hkl,hs];simp
   clear hs hkl;go_wp2_with fail;exact bodyPost_ret (v:=.tuple #[.string ⟨#[]⟩,.bool false]) (by simp[results,Tryz.results94,go_sem]) rfl ⟨_,_,rfl,by rw[HO2.out];rfl,HB.out⟩
 |a::b::d::r=>
 rw[hs] at HK5;obtain⟨ad5,A6,cap6,rfl,hadl5,hna,hsza,a0,a1,a2,a3⟩:=zFf HK5.out;obtain⟨A7,cap7,hnb,hszb,b0,b1,b2,b3⟩:=zHj HK5.out;have hlen:3≤kl:=by rw[hkl,hs,List.length_cons,List.length_cons,List.length_cons];omega
 have hl3:¬((kl:Int)<3):=by omega
 have hp0:(0:Int)<(kl:Int):=by omega
 have hp1':(1:Int)<(kl:Int):=by omega
 have HBN:=zh (show zDe rs n=if(a.kind=2∧idB a.text.data.toList=true∧zB9 rs a.text.data.toList=false)∧b.kind=2∧b.text.data.toList=[61] then some a.text else none by rw[HO.out];unfold zG1;rw[hs]);have HSZ:=zh hsza;clear hs hna hnb hszb hlen hkl
 by_cases h1:a.kind=2
 case neg=>
  have q1:(a.kind !=2)=true:=by rw[bne,bn h1];rfl
  have HO2:=zh (show zDe rs n=none by rw[HBN.out,if_neg (fun h=>h1 h.1.1)]);clear h1;go_wp2_with fail;exact bodyPost_ret (v:=.tuple #[.string ⟨#[]⟩,.bool false]) (by simp[results,Tryz.results94,go_sem]) rfl ⟨_,_,rfl,by rw[HO2.out];rfl,HB.out⟩
 have q1:(a.kind !=2)=false:=by rw[h1];rfl
 by_cases h2:b.kind=2
 case neg=>
  have q2:(b.kind !=2)=true:=by rw[bne,bn h2];rfl
  have HO2:=zh (show zDe rs n=none by rw[HBN.out,if_neg (fun h=>h2 h.2.1)]);clear h1 h2;go_wp2_with fail;exact bodyPost_ret (v:=.tuple #[.string ⟨#[]⟩,.bool false]) (by simp[results,Tryz.results94,go_sem]) rfl ⟨_,_,rfl,by rw[HO2.out];rfl,HB.out⟩
 have q2:(b.kind !=2)=false:=by rw[h2];rfl
 by_cases h3:b.text.data.toList=[61]
 case neg=>
  have q3:(b.text.toList==[61])=false:=by rw[ByteArray.toList_eq];exact bn h3
  have HO2:=zh (show zDe rs n=none by rw[HBN.out,if_neg (fun h=>h3 h.2.2)]);clear h1 h2 h3;go_wp2_with fail;exact bodyPost_ret (v:=.tuple #[.string ⟨#[]⟩,.bool false]) (by simp[results,Tryz.results94,go_sem]) rfl ⟨_,_,rfl,by rw[HO2.out];rfl,HB.out⟩
 have q3:(b.text.toList==[61])=true:=by rw[ByteArray.toList_eq,h3];rfl
 have HB2:=zh (show zDe rs n=if idB a.text.data.toList=true∧zB9 rs a.text.data.toList=false then some a.text else none by
  rw[HBN.out]
  by_cases hx:idB a.text.data.toList=true∧zB9 rs a.text.data.toList=false
  ·rw[if_pos hx,if_pos ⟨⟨h1,hx⟩,h2,h3⟩]
  ·rw[if_neg hx,if_neg (fun h=>hx h.1.2)])
 clear h1 h2 h3;go_wp2_with fail;refine(zFm a.text wc HSZ.out).mono ?_;rintro e w2 ⟨rfl,hb⟩;rw[ByteArray.toList_eq];replace HB:=jt HB hb;replace HR:=zh (HR.out.keep hb);clear hb;cases hid:idB a.text.data.toList with
 |false=>
  have HO2:=zh (show zDe rs n=none by rw[HB2.out,hid,if_neg (fun h=>by cases h.1)]);clear hid;go_wp2_with fail;exact bodyPost_ret (v:=.tuple #[.string a.text,.bool false]) (by simp[results,Tryz.results94,go_sem]) rfl ⟨_,_,rfl,by rw[HO2.out];rfl,HB.out⟩
 |true=>
 have HO2:=zh (show zDe rs n=if zB9 rs a.text.data.toList=false then some a.text else none by
  rw[HB2.out,hid]
  by_cases hx:zB9 rs a.text.data.toList=false
  ·rw[if_pos hx,if_pos ⟨rfl,hx⟩]
  ·rw[if_neg hx,if_neg (fun h=>hx h.2)])
 clear hid;go_wp2_with fail;refine(zHp A cap rs w2 HR.out hrn).mono ?_;rintro e w3 ⟨v6,rfl,ho,hb⟩;replace HB:=jt HB hb;obtain⟨A8,c8,rfl,_,_,hst⟩:=ho.form;clear hb;go_wp2_with fail;refine(zNu A8 c8 (zCw rs) a.text w3 hst (zM3 rs hrn)).mono ?_;rintro e w4 ⟨rfl,rfl⟩;rw[zXm];cases hsy:zB9 rs a.text.data.toList with
 |false=>
  have HO3:=zh (show zDe rs n=some a.text by rw[HO2.out,hsy,if_pos rfl]);clear hsy;go_wp2_with fail;exact bodyPost_ret (v:=.tuple #[.string a.text,.bool true]) (by simp[results,Tryz.results94,go_sem]) rfl ⟨_,_,rfl,by rw[HO3.out];rfl,HB.out⟩
 |true=>
  have HO3:=zh (show zDe rs n=none by rw[HO2.out,hsy,if_neg (by simp)]);clear hsy;go_wp2_with fail;exact bodyPost_ret (v:=.tuple #[.string a.text,.bool false]) (by simp[results,Tryz.results94,go_sem]) rfl ⟨_,_,rfl,by rw[HO3.out];rfl,HB.out⟩
def zEf (r:Rul):Bool:=decide (r.sym.size≤50)&&decide (r.nam.size≤50)
def zEv (rs:List Rul):Bool:=rs.all zEf&&decide (rs.length≤40)
theorem zHr {rs:List Rul}{k:Nat}{x:Rul}(hx:rs[k]?=some x)(h:zEf x=false):zEv rs=false:=by
 unfold zEv;rw[show rs.all zEf=false from List.all_eq_false.2 ⟨x,List.mem_of_getElem? hx,by rw[h];simp⟩];rfl
theorem zO8 {rs:List Rul}(h1:∀(j:Nat) x,rs[j]?=some x→j<rs.length→zEf x=true):zEv rs=decide (rs.length≤40):=by
 unfold zEv;rw[show rs.all zEf=true from List.all_eq_true.2 fun x hx=>by
  obtain⟨j,hj⟩:=List.mem_iff_getElem?.1 hx;exact h1 j x hj (List.getElem?_eq_some_iff.1 hj).1,Bool.true_and]
theorem zRl {rs:List Rul}(h:zEv rs=true):rs.length≤40:=by
 unfold zEv at h;rw[Bool.and_eq_true] at h;exact of_decide_eq_true h.2
set_option maxRecDepth 100000 in
set_option maxHeartbeats 1600000 in
theorem zNp (A:Option Addr)(cap:Nat)(rs:List Rul)(w:World)(hR:zAg w A rs)(hn:rs.length≤9223372036854775807):Calls Tryz.prog 5 #[.slice A rs.length cap] w fun e w'=>e= .returned (.bool (zEv rs))∧w=w':=by
 have HR:=zh hR;have HA:=zh (@zO8 rs);clear hR;go_enter Tryz.func5,Tryz.ntmps5;go_wp2_with fail
 go_loop [3] (fun i=>∃k:Nat,k≤rs.length∧i= .int .i64 k∧Hid (∀(j:Nat) x,rs[j]?=some x→j<k→zEf x=true)) (fun i=>rs.length -(intOf i).toNat)
 case atStart=>exact⟨0,by omega,rfl,(fun j _ _ h=>by omega)⟩
 case round=>
  obtain⟨k,hk,rfl,HJ⟩:=hrel
  by_cases hlt:k<rs.length
  ·obtain⟨x,hx⟩:∃x,rs[k]?=some x:=⟨_,gE hlt⟩
   obtain⟨hf,ad,rfl,hadl,c0,c1,c2,c3,c4,c5⟩:=HR.out.at_ hx;have HX:=zh hx;clear hx hf
   by_cases h1:50<x.sym.size
   ·have HQ:=zh (zHr HX.out (show zEf x=false by unfold zEf;rw[decide_eq_false (by omega)];rfl));go_wp2_with fail;go_ret;exact⟨zA0 HQ.out.symm,rfl⟩
   ·by_cases h2:50<x.nam.size
    ·have HQ:=zh (zHr HX.out (show zEf x=false by unfold zEf;rw[decide_eq_false (p:=x.nam.size≤50) (by omega),Bool.and_false]));go_wp2_with fail;go_ret;exact⟨zA0 HQ.out.symm,rfl⟩
    ·have HQ:Hid (zEf x=true):=by
      show zEf x=true;unfold zEf;rw[decide_eq_true (by omega),decide_eq_true (by omega)];rfl
     go_wp2_with fail;go_round
     case rel=>exact⟨k+1,by omega,by go_num,(fun j y hj h=>by
      rcases Nat.lt_or_ge j k with h'|h'
      ·exact HJ.out j y hj h'
      ·obtain rfl:j=k:=by omega
       rw[HX.out] at hj;obtain rfl:=sj hj;exact HQ.out)⟩
     case measure=>simp[intOf];omega
  ·obtain rfl:k=rs.length:=by omega
   have HA:=zh (HA.out HJ.out);go_wp2_with fail;go_ret;exact⟨zA0 (by rw[HA.out];exact decide_eq_decide.2 (by omega)),rfl⟩
theorem zAo.at_ {w:World}{A:Option Addr}{p:List Int}(h:zAo w A p){k:Nat}{x:Int}(hk:p[k]?=some x):∃ad,A=some ad∧ad.block<w.heap.size∧w.cell? (ad.add k)=some (.int .i64 x):=by
 have hkl:=(List.getElem?_eq_some_iff.1 hk).1;obtain⟨_,h2⟩:=h;obtain⟨ad,h3,h4,h5⟩:=h2 (by omega);refine⟨ad,h3,h4,?_⟩;have:=h5 k (.int .i64 x) (by rw[ints,List.getElem?_map,hk];rfl);exact this
theorem zS6 {p q:List Int}(hl:p.length=q.length)(h:∀j,j<p.length→p[j]?=q[j]?):p=q:=by
 refine List.ext_getElem? fun j=>?_
 rcases Nat.lt_or_ge j p.length with h'|h'
 ·exact h j h'
 ·rw[List.getElem?_eq_none h',List.getElem?_eq_none (by omega)]
set_option maxRecDepth 100000 in
set_option maxHeartbeats 1600000 in
theorem zVk (A B:Option Addr)(ca cb:Nat)(p q:List Int)(w:World)(hp:zAo w A p)(hq:zAo w B q)(hpl:p.length≤1000000):Calls Tryz.prog 9 #[.slice A p.length ca,.slice B q.length cb] w fun e w'=>e= .returned (.bool (decide (p=q)))∧Below w.heap.size w w':=by
 have HP:=zh hp;have HQ:=zh hq;clear hp hq;go_enter Tryz.func9,Tryz.ntmps9
 by_cases hl:p.length=q.length
 ·have q1:((p.length:Int) !=(q.length:Int))=false:=by rw[hl,bne,beq_self_eq_true];rfl
  have HL:=zh hl;clear hl;go_wp2_with fail
  go_loopw [5] (fun i wr=>∃k:Nat,k≤p.length∧i= .int .i64 k∧Hid (∀j,j<k→p[j]?=q[j]?)∧Hid (Below w.heap.size w wr)) (fun i _=>p.length -(intOf i).toNat)
  case atStart=>exact⟨0,by omega,rfl,(fun j h=>by omega),Below.refl _ _⟩
  case round=>
   obtain⟨k,hk,rfl,HJ,HW⟩:=hrel
   by_cases hlt:k<p.length
   ·obtain⟨x,hx⟩:∃x,p[k]?=some x:=⟨_,gE hlt⟩
    obtain⟨y,hy⟩:∃y,q[k]?=some y:=⟨_,gE (by rw[←HL.out];exact hlt)⟩
    obtain⟨ad,rfl,_,c0⟩:=(HP.out.keep HW.out).at_ hx;obtain⟨bd,rfl,_,c1⟩:=(HQ.out.keep HW.out).at_ hy;have i1:(0:Int)≤(k:Int):=by omega
    have i2:(k:Int)<(p.length:Int):=by omega
    have i3:(k:Int)<(q.length:Int):=by have:=HL.out;omega
    have HX:=zh hx;have HY:=zh hy;clear hx hy;cases hxy:(x==y)
    ·have hq2:(x !=y)=true:=by rw[bne,hxy];rfl
     have HE:=zh (show decide (p=q)=false from decide_eq_false fun e=>by
      rw[beq_eq_false_iff_ne] at hxy;have h1:=HX.out;rw[e,HY.out] at h1;exact hxy (sj h1).symm)
     go_wp2_with fail
     go_quiet (fail)
     have HW:=zh (below_drewN HW.out nq);clear c0 c1 hxy hq2;go_wp2_with fail;go_ret;exact⟨zA0 HE.out.symm,HW.out⟩
    ·have hq2:(x !=y)=false:=by rw[bne,hxy];rfl
     have HE:=zh (beq_iff_eq.1 hxy);go_wp2_with fail
     go_quiet (fail)
     have HW:=zh (below_drewN HW.out nq);clear c0 c1 hxy hq2;go_wp2_with fail;go_roundw
     case rel=>exact⟨k+1,by omega,by go_num,(fun j h=>by
      rcases Nat.lt_or_ge j k with h'|h'
      ·exact HJ.out j h'
      ·obtain rfl:j=k:=by omega
       rw[HX.out,HY.out,HE.out]),HW⟩
     case measure=>simp[intOf];omega
   ·obtain rfl:k=p.length:=by omega
    have HE:=zh (show decide (p=q)=true from decide_eq_true (zS6 HL.out HJ.out));go_wp2_with fail;go_ret;exact⟨zA0 HE.out.symm,HW.out⟩
 ·have q1:((p.length:Int) !=(q.length:Int))=true:=by rw[bne,bn (by omega)];rfl
  have HE:=zh (show decide (p=q)=false from decide_eq_false fun e=>hl (by rw[e]));clear hl;go_wp2_with fail;go_ret;exact⟨zA0 HE.out.symm,Below.refl _ _⟩
set_option maxRecDepth 100000 in
set_option maxHeartbeats 1600000 in
theorem zYw (A:Option Addr)(n cap:Nat)(w:World):Calls Tryz.prog 12 #[.slice A n cap] w fun e w'=>e= .returned (.agg #[.int .i64 1,.string ⟨#[]⟩,.int .i64 0,.slice A n cap])∧Below w.heap.size w w':=by
 have HB:=zh (zA1 w (.cells #[.int .i64 0,.string ⟨#[]⟩,.int .i64 0,.slice none 0 0] 25));have K1:=zh (Blk.new w 25 #[.int .i64 0,.string ⟨#[]⟩,.int .i64 0,.slice none 0 0]);go_enter Tryz.func12,Tryz.ntmps12;go_upto_region 1 with(fail)
 generalize w.alloc (.cells #[.int .i64 0,.string ⟨#[]⟩,.int .i64 0,.slice none 0 0] 25)=w1 at*;have k0:=fun i=>K1.out.cell i
 have f0:=fun i=>K1.out.frozen i
 go_wp2_with fail;have KR:=zh (set4 K1.out (.int .i64 1) (.string ⟨#[]⟩) (.int .i64 0) (.slice A n cap));have HG:=zUw w1 w.heap.size (.int .i64 1) (.string ⟨#[]⟩) (.int .i64 0) (.slice A n cap);have HB4:=zh (HB.out.grown HG HB.out.size fun r e=>by have:=sj e;omega);clear HG;generalize (((w1.setCell ⟨w.heap.size,0,none⟩ (.int .i64 1)).setCell ⟨w.heap.size,1,none⟩ (.string ⟨#[]⟩)).setCell ⟨w.heap.size,2,none⟩ (.int .i64 0)).setCell ⟨w.heap.size,3,none⟩ (.slice A n cap)=w2 at*;have r0:=KR.out.cell 0;have r1:=KR.out.cell 1;have r2:=KR.out.cell 2;have r3:=KR.out.cell 3;exact bodyPost_ret (v:=.agg #[.int .i64 1,.string ⟨#[]⟩,.int .i64 0,.slice A n cap]) (by simp[results,Tryz.results12,go_sem,r0,r1,r2,r3]) rfl ⟨rfl,HB4.out⟩
def zV0:Rul:=⟨1,⟨#[43]⟩,⟨#[112,108,117,115]⟩,40,40,41⟩
abbrev zSu:Array Value:= #[.int .i64 1,.string ⟨#[43]⟩,.string ⟨#[112,108,117,115]⟩,.int .i64 40,.int .i64 40,.int .i64 41]
set_option maxRecDepth 100000 in
set_option maxHeartbeats 1600000 in
theorem zVd (w:World):Calls Tryz.prog 11 #[] w fun e w'=>e= .returned (.slice (some ⟨w.heap.size,0,none⟩) 1 1)∧w'=w.alloc (.cells zSu 42):=by
 go_enter Tryz.func11,Tryz.ntmps11;go_wp2_with fail;exact bodyPost_ret (v:=.slice (some ⟨w.heap.size,0,none⟩) 1 1) (by simp[results,Tryz.results11,go_sem]) rfl ⟨rfl,rfl⟩
theorem zJ0 {w w':World}{size n:Nat}{A:Option Addr}{xs:List Value}(h:Reads w w.heap.size size A n xs)(hb:Below w.heap.size w w'):Reads w' w.heap.size size A n xs:=by
 obtain⟨h1,h2⟩:=h;refine⟨h1,fun h0=>?_⟩;obtain⟨ad,h3,h4,h5⟩:=h2 h0;exact⟨ad,h3,h4,fun j v hj=>by rw[←h5 j v hj];exact hb.cell (by rw[zA3];exact h4)⟩
set_option maxRecDepth 100000 in
set_option maxHeartbeats 4000000 in
theorem zOs (A B:Option Addr)(cp cl:Nat)(p l:List Int)(w:World)(hp:zAo w A p)(hl:zAo w B l)(hn:p.length+l.length≤1000000):Calls Tryz.prog 65 #[.slice A p.length cp,.slice B l.length cl] w fun e w'=>∃v,e= .returned v∧zEl w' w.heap.size v (p++l)∧Below w.heap.size w w':=by
 obtain⟨ii,hii,hiz,his,hib⟩:=Sp.info_parts zFd;have hba:=zA1 w (.cells #[] 3);have HO:=zh (show(w.alloc (.cells #[] 3)).ownsRow w.heap.size 3 1 (.slice (some ⟨w.heap.size,0,none⟩) 0 0) 0 [] from World.ownsRow_made w #[] 0 (Nat.le_refl _) (by decide) rfl);have HP:=zh (zJ0 hp hba);have HL:=zh hl;have HLN:=zh hn;have HB:=zh hba;clear hp hl hn hba;go_enter Tryz.func65,Tryz.ntmps65;go_wp2_with (at_builtin;refine Ch.zAb _ rfl (.tmp 5) (.tmp 6) 32 rfl w.heap.size 3 ii (.int .i64 0) 1 8 Tryz.underlying32 hii hiz his hib rfl (by decide) _ _ _ rfl HO.out _ A p.length cp (ints p) rfl HP.out (zI0 p) (by have:=HLN.out;unfold maxLen;omega) (by have:=HLN.out;omega) (by simp) ?_)
 intro v1 w2 q2 q3 q4;have HB2:=zh (show Below w.heap.size w w2 from HB.out.grown q3 HB.out.size fun r e=>by have:=sj (show some w.heap.size=some r from e);omega);have HO2:=zh q2;have HL2:=zh (zJ0 HL.out HB2.out);clear q2 q3 q4 HB HO HP HL;go_wp2_with (at_builtin;refine Ch.zAb _ rfl (.tmp 7) (.tmp 8) 32 rfl w.heap.size 3 ii (.int .i64 0) 1 8 Tryz.underlying32 hii hiz his hib rfl (by decide) v1 p.length (ints p) rfl HO2.out _ B l.length cl (ints l) rfl HL2.out (zI0 l) (by have:=HLN.out;unfold maxLen;omega) (by have:=HLN.out;omega) (by have:=HB2.out.size;omega) ?_)
 intro v2 w3 q2 q3 q4;have HB3:=zh (show Below w.heap.size w w3 from HB2.out.grown q3 HB2.out.size fun r e=>(World.ownsRow.lt HO2.out r e).1);have HO3:=zh (show zEl w3 w.heap.size v2 (p++l) by
  show w3.ownsRow _ _ _ _ _ _;rw[List.length_append,show ints (p++l)=ints p++ints l by simp[ints]];exact q2)
 clear q2 q3 q4 HB2 HO2 HL2;go_wp2_with fail;exact bodyPost_ret (v:=v2) (by simp[results,Tryz.results65,go_sem]) rfl ⟨_,rfl,HO3.out,HB3.out⟩
end Go.Proofs.YtchllommcolijaaGreatDoor.El
namespace Go.Proofs.YtchllommcolijaaGreatDoor.Ch
def sumN (f:Nat→Nat)(n:Nat):Nat:=((List.range n).map f).sum
theorem zBr (f:Nat→Nat)(n:Nat):sumN f (n+1)=sumN f n+f n:=by
 unfold sumN;rw[List.range_succ,List.map_append,List.sum_append_nat];simp
theorem zNd {f:Nat→Nat}{n:Nat}(h:∀k,k<n→f k=0):sumN f n=0:=by
 induction n with
 |zero=>rfl
 |succ n ih=>rw[zBr,ih fun k hk=>h k (by omega),h n (by omega)]
theorem zJc {f g:Nat→Nat}{n:Nat}(h:∀k,k<n→f k≤g k):sumN f n≤sumN g n:=by
 induction n with
 |zero=>exact Nat.le_refl _
 |succ n ih=>
  rw[zBr,zBr];have:=ih fun k hk=>h k (by omega)
  have:=h n (by omega);omega
theorem zI7 (f g:Nat→Nat)(n:Nat):sumN (fun k=>f k+g k) n=sumN f n+sumN g n:=by
 induction n with
 |zero=>rfl
 |succ n ih=>rw[zBr,zBr,zBr,ih];omega
theorem zX2 {f:Nat→Nat}{n M:Nat}(h:∀k,k<n→f k≤M)(h1:∀j k,j<k→k<n→f j=0∨f k=0):sumN f n≤M:=by
 induction n with
 |zero=>exact Nat.zero_le _
 |succ n ih=>
  rw[zBr];have hn:=h n (by omega)
  by_cases h0:f n=0
  ·have:=ih (fun k hk=>h k (by omega)) fun j k hj hk=>h1 j k hj (by omega)
   omega
  ·rw[zNd fun k hk=>(h1 k n hk (by omega)).resolve_right h0];omega
theorem zMo (c:Nat→Nat→Nat)(n m:Nat):sumN (fun a=>sumN (c a) m) n=sumN (fun b=>sumN (fun a=>c a b) n) m:=by
 induction n with
 |zero=>exact(zNd fun k _=>rfl).symm
 |succ n ih=>
  rw[zBr,ih,←zI7]
  congr 1
  funext b
  rw[zBr]
theorem zX9 {β:Type}(f:Nat→List β)(n:Nat):((List.range n).flatMap f).length=sumN (fun k=>(f k).length) n:=by
 induction n with
 |zero=>rfl
 |succ n ih=>rw[List.range_succ,List.flatMap_append,List.length_append,ih,zBr];simp
theorem zMl {β:Type}(f:Nat→List β)(a n:Nat):((List.range' a n).flatMap f).length=sumN (fun k=>(f (a+k)).length) n:=by
 induction n with
 |zero=>rfl
 |succ n ih=>rw[List.range'_concat,List.flatMap_append,List.length_append,ih,zBr];simp
theorem zTc {rs:List Rul}(hv:zAj rs=true){n m:Nat}{u v:Rul}(hnm:n<m)(hu:rs[n]?=some u)(hm:rs[m]?=some v)(hk:u.kind=v.kind):u.sym.toList≠v.sym.toList:=by
 unfold zAj at hv;rw[Bool.and_eq_true] at hv;have h:=(zGr hv.2 (List.getElem?_eq_some_iff.1 hm).1 hm).2;intro e;have hc:zB7 v u=true:=by
  unfold zB7;rw[decide_eq_true hk.symm,e];simp
 have:=zIj (os:=rs.take m) (r:=v) (x:=u) (j:=n) (by rw[List.getElem?_take,if_pos hnm];exact hu) hc;rw[h] at this;cases this
theorem zLx {rs:List Rul}(hv:zAj rs=true){n:Nat}{u:Rul}(hu:rs[n]?=some u)(hk:u.kind=4):u.sym.toList=[]:=by
 unfold zAj at hv;rw[Bool.and_eq_true] at hv;have h:=(zGr hv.2 (List.getElem?_eq_some_iff.1 hu).1 hu).1;unfold ownB at h;rw[if_neg (by omega),if_neg (by omega),if_neg (by omega)] at h;simp only[Bool.and_eq_true] at h;exact List.isEmpty_iff.1 h.2.2.2.2.2
theorem zYs {ts:List ByteArray}{k:Nat}{s t:List UInt8}(h:tokB ts k s=true)(h':tokB ts k t=true):s=t:=by
 unfold tokB at h h';cases ht:ts[k]? with
 |none=>rw[ht] at h;cases h
 |some x=>
  rw[ht] at h h';exact(eq_of_beq h).symm.trans (eq_of_beq h')
def fewN:List Nat:=[0,1,3,13,67,381,2307,14589]
def P1 (s k:Nat):Nat:=fewN.getD (k+1) 0*fewN.getD (s -(k+2)) 0
def P4 (s k:Nat):Nat:=fewN.getD (k+1) 0*fewN.getD (s -(k+1)) 0
def cof (rs:List Rul)(ts:List ByteArray)(q:Int)(P:Nat→Nat)(at_:Nat→Option Nat)(k n:Nat):Nat:=match rs[n]? with
 |none=>0
 |some u=>if u.kind=q∧(match at_ k with
   |some t=>tokB ts t u.sym.toList
   |none=>true)=true then P k else 0
theorem zQ8 {rs:List Rul}{ts:List ByteArray}{q:Int}{P:Nat→Nat}{at_:Nat→Option Nat}(hv:zAj rs=true)(k N:Nat)(hq:at_ k=none→q=4):sumN (cof rs ts q P at_ k) N≤P k:=by
 refine zX2 (fun n _=>?_) fun n m hnm _=>?_
 ·unfold cof;cases rs[n]? with
  |none=>exact Nat.zero_le _
  |some u=>
   dsimp only
   by_cases h:u.kind=q∧(match at_ k with
     |some t=>tokB ts t u.sym.toList
     |none=>true)=true
   ·rw[if_pos h];exact Nat.le_refl _
   ·rw[if_neg h];exact Nat.zero_le _
 ·unfold cof;cases hu:rs[n]? with
  |none=>exact .inl rfl
  |some u=>
   cases hm:rs[m]? with
   |none=>exact .inr rfl
   |some v=>
    dsimp only
    by_cases h1:u.kind=q∧(match at_ k with
     |some t=>tokB ts t u.sym.toList
     |none=>true)=true
    ·by_cases h2:v.kind=q∧(match at_ k with
      |some t=>tokB ts t v.sym.toList
      |none=>true)=true
     ·exfalso;have hne:=zTc hv hnm hu hm (h1.1.trans h2.1.symm);cases ha:at_ k with
      |none=>
       have h4:=hq ha;exact hne ((zLx hv hu (h1.1.trans h4)).trans (zLx hv hm (h2.1.trans h4)).symm)
      |some t=>
       rw[ha] at h1 h2;exact hne (zYs h1.2 h2.2)
     ·exact .inr (if_neg h2)
    ·exact .inl (if_neg h1)
theorem zWe:∀s,s≤7→2≤s→sumN (P1 s) (s -2)+(fewN.getD (s -1) 0+(fewN.getD (s -1) 0+sumN (P4 s) (s -1)))≤fewN.getD s 0:=by decide
theorem zVr {a b:Nat}(h:a≤b)(hb:b≤7):fewN.getD a 0≤fewN.getD b 0:=by
 have:∀b,b≤7→∀a,a≤b→fewN.getD a 0≤fewN.getD b 0:=by decide
 exact this b hb a h
theorem zYm {rs:List Rul}(hv:zAj rs=true){ts:List ByteArray}:∀(s i j:Nat),j -i=s→s≤7→(allR rs ts i j).length≤fewN.getD s 0:=by
 intro s
 induction s using Nat.strongRecOn with
 |_ s ih=>
  intro i j hs h6
  by_cases hij:j≤i
  ·rw[zFb hij];exact Nat.zero_le _
  rw[zQ7 (by omega)];unfold zNe;rw[List.length_append]
  by_cases h1:s=1
  ·subst h1;have hb:(zD9 ts i j).length≤1:=by unfold zD9;split<;>simp
   have h0:((List.range rs.length).flatMap (zB3 rs ts (allR rs ts) i j)).length≤(List.range rs.length).length*0:=by
    refine zIg fun n _=>?_
    unfold zB3;cases rs[n]? with
    |none=>simp
    |some u=>
     dsimp only;rw[show j -1 -(i+1)=0 by omega,show j -(i+1)=0 by omega,zFb (show j≤i+1 by omega),zFb (show j -1≤i by omega)]
     split
     ·simp
     ·split
      ·split<;>simp[zBc,zA4]
      ·split
       ·split<;>simp[zBc,zA4]
       ·split<;>simp
   show _≤1;omega
  ·have hb:zD9 ts i j=[]:=by unfold zD9;rw[if_neg (by omega)]
   rw[hb,List.length_nil,Nat.zero_add,zX9];have low:∀(a b:Nat) (p:Int),b -a<s→(zA4 rs (allR rs ts a b) p).length≤fewN.getD (b -a) 0:=fun a b p h=>Nat.le_trans zWp (ih (b -a) h a b rfl (by omega))
   have hstep:=zWe s h6 (by omega);have c1:=fun k=>zQ8 (ts:=ts) (q:=1) (P:=P1 s) (at_:=fun k=>some (i+1+k)) hv k rs.length (fun h=>by cases h)
   have c2:=zQ8 (ts:=ts) (q:=2) (P:=fun _=>fewN.getD (s -1) 0) (at_:=fun _=>some i) hv 0 rs.length (fun h=>by cases h);have c3:=zQ8 (ts:=ts) (q:=3) (P:=fun _=>fewN.getD (s -1) 0) (at_:=fun _=>some (j -1)) hv 0 rs.length (fun h=>by cases h);have c4:=fun k=>zQ8 (ts:=ts) (q:=4) (P:=P4 s) (at_:=fun _=>none) hv k rs.length (fun _=>rfl)
   have hle:∀n,n<rs.length→(zB3 rs ts (allR rs ts) i j n).length≤sumN (fun k=>cof rs ts 1 (P1 s) (fun k=>some (i+1+k)) k n) (s -2)+(cof rs ts 2 (fun _=>fewN.getD (s -1) 0) (fun _=>some i) 0 n+(cof rs ts 3 (fun _=>fewN.getD (s -1) 0) (fun _=>some (j -1)) 0 n+sumN (fun k=>cof rs ts 4 (P4 s) (fun _=>none) k n) (s -1))):=by
    intro n _;unfold zB3;cases hu:rs[n]? with
    |none=>simp
    |some u=>
     dsimp only
     split
     ·next hk=>
      rw[zMl,show j -1 -(i+1)=s -2 by omega];refine Nat.le_trans (zJc fun k hk2=>?_) (Nat.le_add_right _ _);unfold cof;rw[hu];dsimp only
      by_cases ht:tokB ts (i+1+k) u.sym.toList=true
      ·rw[if_pos ht,if_pos ⟨hk,ht⟩];have a1:=low i (i+1+k) u.left (by omega);have a2:=low (i+1+k+1) j u.right (by omega);rw[show i+1+k -i=k+1 by omega] at a1;rw[show j -(i+1+k+1)=s -(k+2) by omega] at a2;exact zP5 a1 a2
      ·rw[if_neg ht];exact Nat.zero_le _
     ·split
      ·next hk=>
       refine Nat.le_trans ?_ (Nat.le_trans (Nat.le_add_right _ _) (Nat.le_add_left _ _));unfold cof;rw[hu];dsimp only
       by_cases ht:tokB ts i u.sym.toList=true
       ·rw[if_pos ht,if_pos ⟨hk,ht⟩];unfold zBc;rw[List.length_map];have:=low (i+1) j u.right (by omega);rw[show j -(i+1)=s -1 by omega] at this;exact this
       ·rw[if_neg ht];exact Nat.zero_le _
      ·split
       ·next hk=>
        refine Nat.le_trans ?_ (Nat.le_trans (Nat.le_add_right _ _) (Nat.le_trans (Nat.le_add_left _ _) (Nat.le_add_left _ _)));unfold cof;rw[hu];dsimp only
        by_cases ht:tokB ts (j -1) u.sym.toList=true
        ·rw[if_pos ht,if_pos ⟨hk,ht⟩];unfold zBc;rw[List.length_map];have:=low i (j -1) u.left (by omega);rw[show j -1 -i=s -1 by omega] at this;exact this
        ·rw[if_neg ht];exact Nat.zero_le _
       ·split
        ·next hk=>
         rw[zMl,show j -(i+1)=s -1 by omega];refine Nat.le_trans (zJc fun k hk2=>?_) (Nat.le_trans (Nat.le_add_left _ _) (Nat.le_trans (Nat.le_add_left _ _) (Nat.le_add_left _ _)));unfold cof;rw[hu];dsimp only;rw[if_pos ⟨hk,rfl⟩];have a1:=low i (i+1+k) u.left (by omega);have a2:=low (i+1+k) j u.right (by omega);rw[show i+1+k -i=k+1 by omega] at a1;rw[show j -(i+1+k)=s -(k+1) by omega] at a2;exact zP5 a1 a2
        ·simp
   refine Nat.le_trans (zJc hle) ?_;rw[zI7,zI7,zI7,zMo,zMo (m:=s -1)];have d1:=zJc (n:=s -2) fun k _=>c1 k
   have d4:=zJc (n:=s -1) fun k _=>c4 k
   exact Nat.le_trans (Nat.add_le_add d1 (Nat.add_le_add c2 (Nat.add_le_add c3 d4))) hstep
theorem zVc {rs:List Rul}(hv:zAj rs=true){ts:List ByteArray}(ht:ts.length≤7){i j:Nat}(hj:j≤ts.length):(allR rs ts i j).length≤1376256:=by
 have h:=zYm hv (ts:=ts) (j -i) i j rfl (by omega);have h2:fewN.getD (j -i) 0≤fewN.getD 7 0:=zVr (by omega) (Nat.le_refl _);have h3:fewN.getD 7 0=14589:=rfl;omega
end Go.Proofs.YtchllommcolijaaGreatDoor.Ch
namespace Go.Proofs.YtchllommcolijaaGreatDoor.Ch
open Go.RowKit
set_option maxHeartbeats 800000 in
theorem zSl (ok:Nat→Prop)(A:Option Addr)(cap:Nat)(rs:List Rul)(x:Rd)(c:Array Value)(w:World)(hR:zAg w A rs)(hX:RdAt ok w x c)(hr:x.rule<(rs.length:Int)):Calls Tryz.prog 131 #[.slice A rs.length cap,.agg c] w fun e w'=>e= .returned (.int .i64 (zD8 rs x.rule))∧Below w.heap.size w w':=by
 obtain⟨A',cap',rfl,hl,hc,hk⟩:=hX.form;have hba:=zA1 w (.cells (rdC x.rule x.at_ A' x.kids.length cap') 83);have HB:=zh hba;have HR:=zh (hR.keep hba);have K1:=zh (Blk.new w 83 (rdC x.rule x.at_ A' x.kids.length cap'));clear hR hX hk hba;have c0:=K1.out.cell 0
 by_cases h0:x.rule<0
 ·have HQ:=zh (show zD8 rs x.rule=101 by unfold zD8;rw[if_pos h0]);go_enter Tryz.func131,Tryz.ntmps131;go_wp2_with fail;go_ret;exact⟨zBf HQ.out.symm,HB.out⟩
 ·obtain⟨n,hn⟩:∃n:Nat,x.rule=n:=⟨x.rule.toNat,by omega⟩
  obtain⟨u,hu⟩:∃u,rs[n]?=some u:=⟨_,gE (by omega)⟩
  have HQ:=zh (show zD8 rs x.rule=u.prec by rw[hn];exact zGz hu);obtain⟨_,ad,rfl,_,d0,d1,d2,d3,d4,d5⟩:=HR.out.at_ hu;have i1:(n:Int)<(rs.length:Int):=by omega
  clear c0;have c0:(w.alloc (.cells (rdC x.rule x.at_ A' x.kids.length cap') 83)).cell? ⟨w.heap.size,0,none⟩=some (.int .i64 (n:Int)):=by rw[←hn];exact K1.out.cell 0
  clear hu hn h0;go_enter Tryz.func131,Tryz.ntmps131;go_upto_region 1 with(fail)
  generalize w.alloc (.cells (rdC x.rule x.at_ A' x.kids.length cap') 83)=w1 at*;go_wp2_with fail;go_ret;exact⟨zBf HQ.out.symm,HB.out⟩
theorem zOb {rs:List Rul}{l:List Rd}{p:Int}{k:Nat}{x:Rd}(hx:l[k]?=some x):zA4 rs (l.take (k+1)) p=zA4 rs (l.take k) p++(if p≤zD8 rs x.rule then[x] else[]):=by
 rw[List.take_add_one,hx,zC6]
 congr 1
 unfold zA4
 by_cases h:p≤zD8 rs x.rule
 ·rw[if_pos h];simp[h]
 ·rw[if_neg h];simp[h]
theorem zCb {rs:List Rul}{l:List Rd}{p:Int}:(zA4 rs l p).length≤l.length:=List.length_filter_le ..
set_option maxRecDepth 100000 in
set_option maxHeartbeats 2000000 in
theorem zDk (ok:Nat→Prop)(A L:Option Addr)(cap cl:Nat)(rs:List Rul)(l:List Rd)(p:Int)(w:World)(hR:zAg w A rs)(hL:zAp ok w L l)(hr:∀x∈l,x.rule<(rs.length:Int))(hn:l.length≤100000000):Calls Tryz.prog 123 #[.slice A rs.length cap,.slice L l.length cl,.int .i64 p] w fun e w'=>∃v,e= .returned v∧AppR (fun b=>ok b∧b<w.heap.size) w' w.heap.size v (zA4 rs l p)∧Below w.heap.size w w':=by
 obtain⟨i0,hi,hz0,hz1,hz2⟩:=info_parts zJm;have HR0:=zh hR;have HL0:=zh (hL.any (ok':=fun b=>ok b∧b<w.heap.size) fun b h1 h2=>⟨h2,h1⟩);have HX:=zh hr;clear hR hL hr;go_enter Tryz.func123,Tryz.ntmps123;go_wp2_with fail
 go_loopw [7,8] (fun v i wr=>∃k:Nat,k≤l.length∧i= .int .i64 k∧Hid (AppR (fun b=>ok b∧b<w.heap.size) wr w.heap.size v (zA4 rs (l.take k) p))∧Hid (Below w.heap.size w wr)) (fun _ i _=>l.length -(intOf i).toNat)
 case atStart=>exact⟨0,by omega,rfl,AppR.nil (fun b=>ok b∧b<w.heap.size) _ _,Below.refl _ _⟩
 case round=>
  obtain⟨k,hk,rfl,HO,HB⟩:=hrel;have HR:=zh (HR0.out.keep HB.out);have HL:=zh (HL0.out.keep HB.out)
  by_cases hlt:k<l.length
  ·obtain⟨x,hx⟩:∃x,l[k]?=some x:=⟨_,gE hlt⟩
   obtain⟨ad,A1,k1,rfl,_,hxc,_,_,_,d0,d1,d2⟩:=HL.out.at_ hx;have HS:=zh (zOb (rs:=rs) (p:=p) hx);have HXC:=zh hxc;have HXR:=zh (HX.out x (List.mem_of_getElem? hx));have HXK:=zh hx;clear hx hxc;go_wp2_with fail;clear d0 d1 d2;refine(zSl _ A cap rs x _ _ HR.out HXC.out HXR.out).mono ?_;rintro e w1 ⟨rfl,hb⟩;have HO:=zh (HO.out.keep hb);have HR:=zh (HR.out.keep hb);have HL:=zh (HL.out.keep hb);have HXC:=zh (HXC.out.keep hb);have HB:=jt HB hb;clear hb
   by_cases hp:p≤zD8 rs x.rule
   ·rw[if_pos hp] at HS;obtain⟨ad',A2,k2,e1,_,hxc,_,_,_,d0,d1,d2⟩:=HL.out.at_ HXK.out;obtain rfl:=sj e1;have HXC:=zh hxc;clear hxc e1;have hba:=zA1 w1 (.cells (rdC x.rule x.at_ A2 x.kids.length k2) 83);have K6:=zh (Blk.new w1 83 (rdC x.rule x.at_ A2 x.kids.length k2));have HC:=zh ((HXC.out.keep hba).any (ok':=fun b=>u7.ownBlock≠some b∧(ok b∧b<w.heap.size)) fun b _ h=>⟨fun h'=>by
     have:=(HO.out.lt b h').1;omega,h⟩)
    obtain⟨css,ho,hl,hrr⟩:=HO.out.keep hba;have HB:=jt HB hba;have hxl:(zA4 rs (List.take k l) p).length≤100000000:=by
     have:=zCb (rs:=rs) (l:=List.take k l) (p:=p);rw[List.length_take] at this;omega
    clear hba;go_wp2_with (at_builtin;refine zAb _ rfl (.tmp 23) (.tmp 28) 56 rfl w.heap.size 83 i0 (.agg #[.int .i64 0,.int .i64 0,.slice none 0 0]) 3 40 Tryz.underlying56 hi hz0 hz1 hz2 rfl (by decide) _ _ _ rfl ho (w1.heap.size+1) (some ⟨w1.heap.size,0,none⟩) 1 1 (rdC x.rule x.at_ A2 x.kids.length k2).toList rfl (by have:=zBb K6.out rfl;rw[World.size_alloc] at this;exact this) (zGj HC.out) (by unfold maxLen;omega) (by omega) HB.out.size ?_;intro v' w' g2 g3 g4)
    have HO:=zh (AppR.push hl hrr HC.out g2 g3 g4);rw[←HS.out] at HO;have hfar:∀b,u7.ownBlock=some b→w.heap.size≤b:=fun b hb=>(World.ownsRow.lt ho b hb).1
    have HB:=zh (HB.out.grown g3 HB.out.size hfar);clear ho hl hrr g2 g3 g4 hfar d0 d1 d2;go_wp2_with fail;go_roundw
    case rel=>exact⟨k+1,by omega,by go_num,HO,HB⟩
    case measure=>simp[intOf];omega
   ·rw[if_neg hp,List.append_nil] at HS;rw[←HS.out] at HO;go_wp2_with fail;go_roundw
    case rel=>exact⟨k+1,by omega,by go_num,HO,HB⟩
    case measure=>simp[intOf];omega
  ·obtain rfl:k=l.length:=by omega
   rw[List.take_of_length_le (Nat.le_refl _)] at HO;go_wp2_with fail;go_ret;exact⟨_,rfl,HO.out,HB.out⟩
end Go.Proofs.YtchllommcolijaaGreatDoor.Ch
