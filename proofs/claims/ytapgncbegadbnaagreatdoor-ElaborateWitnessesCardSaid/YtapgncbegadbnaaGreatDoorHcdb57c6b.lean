/- The reference's symbol and tokens. -/
import Derived.Test.YtapgncbegadbnaaGreatDoorH60963958
set_option maxRecDepth 100000
set_option maxHeartbeats 8000000
namespace Go.Proofs.YtapgncbegadbnaaGreatDoor
namespace El
open At Ch Sp Sy Go.RowKit
def zZc (n:Tre):Nat:=match n.kids with
 |b0::_=>b0.kids.length
 |[]=>0
theorem zMt {n b0:Tre}{ks:List Tre}(h:n.kids=b0::ks):zZc n=b0.kids.length:=by unfold zZc;rw[h]
theorem yAe (rs:List Rul)(s:List UInt8):conB (zDn rs) s=zBx rs s:=zV4 rs s
theorem zO4 (rs:List Rul)(h:rs.length<=1000000):(zDn rs).length<=1000000:=by
 have:=zFp rs rs.length;rw[List.take_length] at this;omega
theorem zPb (A:Option Addr)(cap:Nat)(rs:List Rul)(n:Tre)(c:Array Value)(w:World)(hR:zAc w A rs)(hrn:rs.length<=1000000)(hN:zAv w n c)(hne:scrB n.kind=true->n.kids≠[]):Calls Tryz.prog 60 #[.slice A rs.length cap,.agg c] w fun e w'=>e= .returned (.tuple #[.string (unsc n).text,.bool (zDj rs n)])/\Below w.heap.size w w':=by
 obtain⟨A2,cap2,rfl,hsz,hl2,hc2,hk⟩:=hN.form;have HTZ:=zh (zMs hN);have HB:=zh (zA0 w (qO n A2 cap2));have K1:=zh (Blk.new w 25 (qC n A2 cap2));have HR:=zh (hR.keep HB.out);have HK:=zh (hk.keep HB.out);have HNE:=zh hne;have hR3:=hR;clear hR hN hk hne hsz;go_enter Tryz.func60,Tryz.ntmps60;go_upto_region 1 with(fail)
 generalize w.alloc (qO n A2 cap2)=w1 at*;have k0:=K1.out.cell 0;have k3:=K1.out.cell 3
 go_cut [27] (fun b wc=>b= .bool (scrB n.kind&&decide (zZc n=1))/\wc=w1)
 case first=>
  cases hs:scrB n.kind with
  |true=>
   obtain⟨b0,ks,hks⟩:∃b0 ks,n.kids=b0::ks:=by
    cases hq:n.kids with
    |nil=>exact absurd hq (HNE.out hs)
    |cons b0 ks=>exact⟨b0,ks,rfl⟩
   obtain⟨ad,A3,cap3,hA2,hadl,_,hl3,hc3,hk3,hn3,d0,d1,d2,d3⟩:=HK.out.at_ (i:=0) (t:=b0) (by rw[hks];rfl);subst hA2;rw[add_zero'] at d0 d1 d2 d3;have hpos:(0:Int)<(n.kids.length:Int):=by rw[hks,List.length_cons];omega
   have HQ:((b0.kids.length:Int)==1)=decide (b0.kids.length=1):=by
    rw[Bool.eq_iff_iff,beq_iff_eq,decide_eq_true_iff];omega
   have HSC:=zh (show n.kind=7\/n.kind=8\/n.kind=9 from by unfold scrB at hs;exact of_decide_eq_true hs);have HHS:=zh hs;have HKS:=zh hks;clear hs hk3 hn3 hks d0 d1 d2;rcases HSC.out with h|h|h
   ·have q7:(n.kind==7)=true:=beq_iff_eq.2 h;clear h HSC;go_wp2;go_meet;exact⟨by rw[HHS.out,Bool.true_and,zMt HKS.out],rfl⟩
   ·have q7:(n.kind==7)=false:=by rw[h];rfl
    have q8:(n.kind==8)=true:=beq_iff_eq.2 h;clear h HSC;go_wp2;go_meet;exact⟨by rw[HHS.out,Bool.true_and,zMt HKS.out],rfl⟩
   ·have q7:(n.kind==7)=false:=by rw[h];rfl
    have q8:(n.kind==8)=false:=by rw[h];rfl
    have q9:(n.kind==9)=true:=beq_iff_eq.2 h;clear h HSC;go_wp2;go_meet;exact⟨by rw[HHS.out,Bool.true_and,zMt HKS.out],rfl⟩
  |false=>
   have q7:(n.kind==7)=false:=by unfold scrB at hs;rw[beq_eq_false_iff_ne];have:=of_decide_eq_false hs;omega
   have q8:(n.kind==8)=false:=by unfold scrB at hs;rw[beq_eq_false_iff_ne];have:=of_decide_eq_false hs;omega
   have q9:(n.kind==9)=false:=by unfold scrB at hs;rw[beq_eq_false_iff_ne];have:=of_decide_eq_false hs;omega
   have HHS:=zh hs;clear hs;go_wp2;go_meet;exact⟨by rw[HHS.out];rfl,rfl⟩
 obtain⟨h27,rfl⟩:=hcut;obtain⟨b27,hb27⟩:∃b27,b27=(scrB n.kind&&decide (zZc n=1)):=⟨_,rfl⟩
 rw[<-hb27] at h27;subst h27;have HB27:=zh hb27;clear k0 k3 hb27;go_upto_if 27 with(fail)
 go_cut [] (fun wd=>(∃A4 cap4,Hid (Blk wd w.heap.size 25 #[qI (unsc n).kind,.string (unsc n).text,qI (unsc n).cols,.slice A4 (unsc n).kids.length cap4]))/\Hid (Below w.heap.size w wd))
 case first=>
  cases hs:scrB n.kind with
  |false=>
   obtain rfl:b27=false:=by rw[HB27.out,hs];rfl
   have HU:=zh (zPr hs);clear hs HB27;go_wp2;go_meet;exact⟨⟨A2,cap2,by rw[HU.out];exact K1⟩,HB⟩
  |true=>
   obtain⟨b0,ks,hks⟩:∃b0 ks,n.kids=b0::ks:=by
    cases hq:n.kids with
    |nil=>exact absurd hq (HNE.out hs)
    |cons b0 ks=>exact⟨b0,ks,rfl⟩
   have hb1:b27=decide (b0.kids.length=1):=by rw[HB27.out,hs,Bool.true_and,zMt hks]
   clear HB27
   by_cases h1:b0.kids.length=1
   ·obtain⟨x,hx⟩:∃x,b0.kids=[x]:=List.length_eq_one_iff.1 h1;obtain⟨ad,A3,cap3,hA2,hadl,_,hl3,hc3,hk3,hn3,d0,d1,d2,d3⟩:=HK.out.at_ (i:=0) (t:=b0) (by rw[hks];rfl);subst hA2;rw[add_zero'] at d0 d1 d2 d3;obtain⟨ad4,A4,cap4,hA3,hadl4,hxz,_,_,_,_,e0,e1,e2,e3⟩:=hk3.at_ (i:=0) (t:=x) (by rw[hx];rfl);subst hA3;rw[add_zero'] at e0 e1 e2 e3;have HU:=zh (zS4 hs hks hx);have hpos:(0:Int)<(n.kids.length:Int):=by rw[hks,List.length_cons];omega
    have k0:=K1.out.cell;have f0:=K1.out.frozen;obtain rfl:b27=true:=by rw[hb1];exact decide_eq_true h1
    rw[show b0.kids.length=1 by omega] at d3;clear hs hks hx h1 hk3 hn3 hb1 d0 d1 d2;go_wp2;go_meet;have hgr:=zUh wc w.heap.size (qI x.kind) (.string x.text) (qI x.cols) (.slice A4 x.kids.length cap4);have hse:=set4 K1.out (qI x.kind) (.string x.text) (qI x.cols) (.slice A4 x.kids.length cap4);exact⟨⟨A4,cap4,by rw[HU.out];exact zh hse⟩,zh (HB.out.grown hgr HB.out.size fun r e=>by have:=sj e;omega)⟩
   ·have HU:=zh (zOp hks h1);obtain rfl:b27=false:=by rw[hb1];exact decide_eq_false h1
    clear hs hks h1 hb1;go_wp2;go_meet;exact⟨⟨A2,cap2,by rw[HU.out];exact K1⟩,HB⟩
 obtain⟨⟨A4,cap4,KU⟩,HB2⟩:=hcut;have HR3:=zh (hR3.keep HB2.out);have HO:=zh (show zDj rs n=(decide ((unsc n).kind=2)&&zBx rs (unsc n).text.data.toList) from rfl);clear HB K1 HR HK HNE;obtain⟨u,hu⟩:∃u,u=unsc n:=⟨_,rfl⟩
 rw[<-hu] at KU HO HTZ;have HUU:=zh hu;clear hu;go_upto_region 3 with(fail)
 by_cases h2:u.kind=2
 ·have hk2:(u.kind==2)=true:=beq_iff_eq.2 h2;have HO2:=zh (show zDj rs n=zBx rs u.text.data.toList by rw[HO.out,decide_eq_true h2,Bool.true_and]);clear h2;refine qm [2,1,2,1,2,2,2,1,2,1,1,2,2,2] (List.replicate 14 false) (fun gx=>[.pointer (some ⟨w.heap.size,1,none⟩),.string u.text,qP w.heap.size,qI u.kind,.bool true,.bool true,.slice A rs.length cap,gx.v 42,.pointer (some ⟨w.heap.size,1,none⟩),.string u.text,.bool (zBx rs u.text.data.toList),.bool (zBx rs u.text.data.toList),.string u.text,.bool (zBx rs u.text.data.toList)]) [(7,fun gx wx=>∃A6 c6,gx.v 42= .slice A6 (zDn rs).length c6/\zQd wx A6 (zDn rs))] (fun _ _=>True) (zA6.cons (fun gx wx w2 ⟨A6,c6,h1,h2⟩ hb=>⟨A6,c6,h1,h2.keep hb⟩) zA6.nil) (trivial) ?_ ?_
  ·refine⟨jI,jR fun gx wq hB=>(keep hB KU.out).cell 1,jI,jR fun gx wq hB=>(keep hB KU.out).cell 0,fun gx wq=>?_,jC,jC,fun gx wq hB hJ hf=>?_,jI,jR fun gx wq hB=>(keep hB KU.out).cell 1,fun gx wq hB hJ hf=>?_,jC,jC,jC,trivial⟩
   ·exact jp (.bool true) (by simp[go_sem,evAct,hk2]) rfl
   ·refine jc 97 (#[.slice A rs.length cap]) wq (by kernel_rfl) ((zIj A cap rs wq (HR3.out.keep hB) hrn).mono ?_);rintro e wz ⟨v6,rfl,ho,hb⟩;exact⟨_,rfl,gx.setV 42 v6,rfl,jD,hb,⟨(by obtain⟨A6,c6,e6,_,_,hs⟩:=ho.form;exact⟨A6,c6,e6,hs⟩),trivial⟩,trivial⟩
   ·have f42:=jE hf.1;obtain⟨A6,c6,e6,hst⟩:=f42;refine jc 96 (#[.slice A6 (zDn rs).length c6,.string u.text]) wq (by simp[go_sem,evAct,e6]) ((zP9 A6 c6 (zDn rs) u.text wq hst (zO4 rs hrn)).mono ?_);rintro e wz ⟨rfl,rfl⟩;rw[yAe];exact⟨_,rfl,gx,rfl,jD,(Below.refl _ _),⟨jH,trivial⟩,trivial⟩
  ·refine fun gx wq hB hJ hf=>?_
   dsimp only[zAh] at hf;change wpOps _ _ _ [] _ _;refine zAa ?_;have HB3:=jt HB2 hB;clear hB hJ hf;generalize gx.v 42=v42 at*;clear gx;generalize wq=w9 at*;go_wp2;exact bodyPost_ret (v:=.tuple #[.string u.text,.bool (zBx rs u.text.data.toList)]) (by simp[results,Tryz.results60,go_sem]) rfl ⟨by rw[HO2.out,HUU.out],HB3.out⟩
 ·have hk2:(u.kind==2)=false:=bn h2;have HO2:=zh (show zDj rs n=false by rw[HO.out,decide_eq_false h2,Bool.false_and]);clear h2;refine qm [2,1,2,1,2,2,0,0,0,0,0,2,2,2] (List.replicate 14 false) (fun gx=>[.pointer (some ⟨w.heap.size,1,none⟩),.string u.text,qP w.heap.size,qI u.kind,.bool false,.bool false,undef,undef,undef,undef,undef,.bool false,.string u.text,.bool false]) [] (fun _ _=>True) zA6.nil (trivial) ?_ ?_
  ·refine⟨jI,jR fun gx wq hB=>(keep hB KU.out).cell 1,jI,jR fun gx wq hB=>(keep hB KU.out).cell 0,fun gx wq=>?_,jC,fun _=>rfl,fun _=>rfl,fun _=>rfl,fun _=>rfl,fun _=>rfl,jC,jC,jC,trivial⟩
   ·exact jp (.bool false) (by simp[go_sem,evAct,hk2]) rfl
  ·refine fun gx wq hB hJ hf=>?_
   dsimp only[zAh] at hf;change wpOps _ _ _ [] _ _;refine zAa ?_;have HB3:=jt HB2 hB;clear hB hJ hf;clear gx;generalize wq=w9 at*;go_wp2;exact bodyPost_ret (v:=.tuple #[.string u.text,.bool false]) (by simp[results,Tryz.results60,go_sem]) rfl ⟨by rw[HO2.out,HUU.out],HB3.out⟩
theorem zJs (A A1:Option Addr)(cap cap1:Nat)(rs:List Rul)(l:List Tre)(w:World)(hR:zAc w A rs)(hrn:rs.length<=1000000)(hN:zAo w A1 l)(hne:∀n∈l,scrB n.kind=true->n.kids≠[])(hn:l.length<=1000000):Calls Tryz.prog 30 #[.slice A rs.length cap,.slice A1 l.length cap1] w (yA7 rs l w):=by
 obtain⟨i0,hi,hz0,hz1,hz2⟩:=info_parts zJ4;have HR0:=zh hR;have HN0:=zh hN;have HNE:=zh hne;clear hR hN hne;go_enter Tryz.func30,Tryz.ntmps30;go_wp2_with fail
 go_loopw [7,8] (fun v i wr=>∃(k:Nat) (ts:List ByteArray),k<=l.length/\i=qI k/\Hid (zB2 rs (l.take k)= .inl ts)/\Hid (zBq wr w.heap.size v ts)/\Hid (Below w.heap.size w wr)) (fun _ i _=>l.length -(intOf i).toNat)
 case atStart=>exact⟨0,[],by omega,rfl,zh rfl,zh (World.ownsRow_nil _ _ _ _),zh (Below.refl _ _)⟩
 case round=>
  obtain⟨k,ts,hk,rfl,HT,HO,HB⟩:=hrel
  by_cases hlt:k<l.length
  ·obtain⟨x,hx⟩:∃x,l[k]?=some x:=⟨_,gE hlt⟩
   obtain⟨ad,A3,cap3,rfl,hadl,hsz,hl3,hc3,hk3,hn3,d0,d1,d2,d3⟩:=(HN0.out.keep HB.out).at_ hx;have HX:=zh hx;have HXZ:=zh hsz;have HNEX:=zh (HNE.out x (List.mem_of_getElem? hx));have HLEN:=zh (show ts.length=k by have:=zCt HT.out;rw[List.length_take] at this;omega);have HNX:=zh hn3;clear hx hn3 hk3 hsz;go_wp2_with fail;refine(zPb A cap rs x _ wr (HR0.out.keep HB.out) hrn HNX.out HNEX.out).mono ?_;rintro e w2 ⟨rfl,hb⟩;obtain⟨cs2,HO2⟩:∃_:Unit,Hid (zBq w2 w.heap.size u7 ts):=⟨(),zh (World.ownsRow.kept (row:=none) HO.out ⟨hb.os,hb.tape,hb.output,hb.size,fun i hi _=>hb.block i hi⟩ (by cases u7.ownBlock<;>simp))⟩
   have NB1:=jt HB hb;have HFIT:=zh (show(unsc x).text.size<=9223372036854775807 from zMs HNX.out);replace d0:=(hb.cell (p:=ad.add (k*4)) (by rw[zA2];exact hadl)).trans d0;replace d1:=(hb.cell (p:=⟨(ad.add (k*4)).block,(ad.add (k*4)).off+1,none⟩) (by show(ad.add (k*4)).block<_;rw[zA2];exact hadl)).trans d1;clear hb HO HB HNX d2 d3;have HB:=NB1;obtain⟨A2,cap2,rfl,hcl2,hcap2,_⟩:∃A2 cap2,u7= .slice A2 ts.length cap2/\ts.length<=cap2/\cap2<=9223372036854775807/\True:=by
    obtain⟨h1,h2⟩:=HO2.out;rcases h2 with⟨rfl,h0⟩|⟨gq,cap,cur,rfl,hg,hb,hn,hc,hs,ht⟩
    ·exact⟨none,0,by rw[h0],by omega,by omega,trivial⟩
    ·exact⟨_,cap,rfl,by omega,by unfold maxLen at*;omega,trivial⟩
   cases hop:zDj rs x
   ·by_cases h2:x.kind=2
    ·have q2:(x.kind==2)=true:=beq_iff_eq.2 h2;have HRO:=zh (show rolB rs x=idB x.text.data.toList by unfold rolB;rw[hop,decide_eq_true h2];rfl);have HTK:=zh (show tokS rs x=zHq by unfold tokS;rw[hop];rfl);clear h2 hop;go_wp2_with fail;refine(zG3 x.text w2 HXZ.out).mono ?_;rintro e w4 ⟨rfl,hb⟩;obtain⟨cs3,HO3⟩:∃_:Unit,Hid (zBq w4 w.heap.size (.slice A2 ts.length cap2) ts):=⟨(),zh (World.ownsRow.kept (row:=none) HO2.out ⟨hb.os,hb.tape,hb.output,hb.size,fun i hi _=>hb.block i hi⟩ (by cases (Value.slice A2 ts.length cap2).ownBlock<;>simp))⟩
     replace HB:=jt HB hb;clear hb HO2 d0 d1;have HO2:=HO3;clear HO3;generalize w4=w2 at*;rw[ByteArray.toList_eq];cases hid:idB x.text.data.toList
     ·have HS:=zh (zLy HX.out HT.out (by rw[HRO.out];exact hid));clear hid;go_wp2;exact bodyPost_ret (v:=.tuple #[qN,qI (k:Int),.bool false]) (by simp[results,Tryz.results30,go_sem]) rfl ⟨by rw[HS.out],HB.out⟩
     ·have HS:=zh (zG4 HX.out HT.out (by rw[HRO.out];exact hid));rw[HTK.out] at HS;clear hid;have hown:=World.ownsRow.alloc HO2.out (.cells #[.string zHq] 9);have HBL:=zh (World.ownsRow.lt HO2.out);have HSZ:=zh HB.out.size;go_wp2_with (at_builtin;refine wpList_append_own _ rfl (.tmp 26) (.tmp 27) 37 rfl w.heap.size 9 i0 qE 1 16 Tryz.underlying37 hi hz0 hz1 hz2 rfl (by decide) _ _ _ rfl hown ⟨w2.heap.size,0,none⟩ 1 1 [.string zHq] rfl rfl (Ch.zDd _ _ _) ?c2a ?c3a ?c4a ?c5a ?_)
      case c2a=>intro u hu;simp at hu;subst hu;rfl
      case c3a=>have:=HLEN.out;unfold maxLen;omega
      case c4a=>have:=HLEN.out;omega
      case c5a=>have:=HSZ.out;simp;omega
      intro v' w3 hown' hgrow _;have NB:=zh ((HB.out.alloc HB.out.size (.cells #[.string zHq] 9)).grown hgrow (by have:=HSZ.out;simp;omega) (fun k hk=>(HBL.out k hk).1));have NO:=zh (zBq.snoc rfl rfl hown');clear hown hown' hgrow HO2 HB;go_wp2;go_roundw
      case rel=>exact⟨k+1,ts++[zHq],by omega,by go_num,HS,NO,NB⟩
      case measure=>simp[intOf];omega
    ·have q2:(x.kind==2)=false:=bn h2;have HS:=zh (zG4 HX.out HT.out (by unfold rolB;rw[hop,decide_eq_false h2];rfl));have HTK:=zh (show tokS rs x=zHq by unfold tokS;rw[hop];rfl);rw[HTK.out] at HS;clear h2 hop;have hown:=World.ownsRow.alloc HO2.out (.cells #[.string zHq] 9);have HBL:=zh (World.ownsRow.lt HO2.out);have HSZ:=zh HB.out.size;go_wp2_with (at_builtin;refine wpList_append_own _ rfl (.tmp 26) (.tmp 27) 37 rfl w.heap.size 9 i0 qE 1 16 Tryz.underlying37 hi hz0 hz1 hz2 rfl (by decide) _ _ _ rfl hown ⟨w2.heap.size,0,none⟩ 1 1 [.string zHq] rfl rfl (Ch.zDd _ _ _) ?c2a ?c3a ?c4a ?c5a ?_)
     case c2a=>intro u hu;simp at hu;subst hu;rfl
     case c3a=>have:=HLEN.out;unfold maxLen;omega
     case c4a=>have:=HLEN.out;omega
     case c5a=>have:=HSZ.out;simp;omega
     intro v' w3 hown' hgrow _;have NB:=zh ((HB.out.alloc HB.out.size (.cells #[.string zHq] 9)).grown hgrow (by have:=HSZ.out;simp;omega) (fun k hk=>(HBL.out k hk).1));have NO:=zh (zBq.snoc rfl rfl hown');clear hown hown' hgrow HO2 HB;go_wp2;go_roundw
     case rel=>exact⟨k+1,ts++[zHq],by omega,by go_num,HS,NO,NB⟩
     case measure=>simp[intOf];omega
   ·have HS:=zh (zG4 HX.out HT.out (by unfold rolB;rw[hop];rfl));have HTK:=zh (show tokS rs x=(unsc x).text by unfold tokS;rw[hop];rfl);rw[HTK.out] at HS;clear hop;generalize (unsc x).text=tx at*;have hown:=World.ownsRow.alloc HO2.out (.cells #[.string tx] 9);have HBL:=zh (World.ownsRow.lt HO2.out);have HSZ:=zh HB.out.size;go_wp2_with (at_builtin;refine wpList_append_own _ rfl (.tmp 31) (.tmp 33) 37 rfl w.heap.size 9 i0 qE 1 16 Tryz.underlying37 hi hz0 hz1 hz2 rfl (by decide) _ _ _ rfl hown ⟨w2.heap.size,0,none⟩ 1 1 [.string tx] rfl rfl (Ch.zDd _ _ _) ?c2a ?c3a ?c4a ?c5a ?_)
    case c2a=>intro u hu;simp at hu;subst hu;rfl
    case c3a=>have:=HLEN.out;unfold maxLen;omega
    case c4a=>have:=HLEN.out;omega
    case c5a=>have:=HSZ.out;simp;omega
    intro v' w3 hown' hgrow _;have NB:=zh ((HB.out.alloc HB.out.size (.cells #[.string tx] 9)).grown hgrow (by have:=HSZ.out;simp;omega) (fun k hk=>(HBL.out k hk).1));have NO:=zh (zBq.snoc rfl rfl hown');clear hown hown' hgrow HO2 HB;go_wp2;go_roundw
    case rel=>exact⟨k+1,ts++[tx],by omega,by go_num,HS,NO,NB⟩
    case measure=>simp[intOf];omega
  ·obtain rfl:k=l.length:=by omega
   have HT:=zh (show zB2 rs l= .inl ts by have:=HT.out;rwa [List.take_length] at this);go_wp2;exact bodyPost_ret (v:=.tuple #[u7,qI 0,.bool true]) (by simp[results,Tryz.results30,go_sem]) rfl ⟨by rw[HT.out];exact⟨_,rfl,HO.out⟩,HB.out⟩
def zDu (rs:List Rul)(n:Tre):Option ByteArray:=if n.kind=7\/n.kind=9 then(match n.kids with
 |_::s::_=>zGp rs s
 |_=>none) else none
def yDi (rs:List Rul)(n:Tre)(w:World)(e:Ending)(w':World):Prop:=∃s b,e= .returned (.tuple #[.string s,.bool b])/\zDu rs n=(if b=true then some s else none)/\Below w.heap.size w w'
theorem zK3 (A:Option Addr)(cap:Nat)(rs:List Rul)(n:Tre)(c:Array Value)(w:World)(hR:zAc w A rs)(hrn:rs.length<=1000000)(hN:zAv w n c)(hk:n.kind=7\/n.kind=9->∃a s r,n.kids=a::s::r):
  Calls Tryz.prog 114 #[.slice A rs.length cap,.agg c] w (yDi rs n w):=by
 obtain⟨A2,cap2,rfl,hsz,hl2,hc2,hk2⟩:=hN.form;have HB:=zh (zA0 w (qO n A2 cap2));have K1:=zh (Blk.new w 25 (qC n A2 cap2));have HR:=zh (hR.keep HB.out);have HK:=zh (hk2.keep HB.out);have HKI:=zh hk;clear hR hN hk hk2 hsz;go_enter Tryz.func114,Tryz.ntmps114;go_upto_region 1 with(fail)
 generalize w.alloc (qO n A2 cap2)=w1 at*;have k0:=K1.out.cell 0;have k3:=K1.out.cell 3
 go_cut [15] (fun b wc=>b= .bool (decide (n.kind≠7/\n.kind≠9))/\wc=w1)
 case first=>
  by_cases h7:n.kind=7
  ·have HD:=zh (show decide (n.kind≠7/\n.kind≠9)=false from decide_eq_false (fun h=>h.1 h7));have q7:(n.kind !=7)=false:=by rw[h7];rfl
   clear h7;go_wp2;go_meet;exact⟨by rw[HD.out],rfl⟩
  have q7:(n.kind !=7)=true:=by rw[bne,bn h7];rfl
  by_cases h9:n.kind=9
  ·have HD:=zh (show decide (n.kind≠7/\n.kind≠9)=false from decide_eq_false (fun h=>h.2 h9));have q9:(n.kind !=9)=false:=by rw[h9];rfl
   clear h7 h9;go_wp2;go_meet;exact⟨by rw[HD.out],rfl⟩
  have HD:=zh (show decide (n.kind≠7/\n.kind≠9)=true from decide_eq_true ⟨h7,h9⟩);have q9:(n.kind !=9)=true:=by rw[bne,bn h9];rfl
  clear h7 h9;go_wp2;go_meet;exact⟨by rw[HD.out],rfl⟩
 obtain⟨h15,rfl⟩:=hcut;subst h15
 by_cases hk79:n.kind=7\/n.kind=9
 case neg=>
  have HO:=zh (show zDu rs n=none by unfold zDu;rw[if_neg hk79]);rw[show decide (n.kind≠7/\n.kind≠9)=true from decide_eq_true ⟨fun h=>hk79 (.inl h),fun h=>hk79 (.inr h)⟩];clear hk79;go_wp2;exact bodyPost_ret (v:=.tuple #[qE,.bool false]) (by simp[results,Tryz.results114,go_sem]) rfl ⟨_,_,rfl,by rw[HO.out];rfl,HB.out⟩
 rw[show decide (n.kind≠7/\n.kind≠9)=false from decide_eq_false (fun h=>by rcases hk79 with e|e;exact h.1 e;exact h.2 e)];obtain⟨n0,s,nr,hks⟩:=HKI.out hk79;have HO:=zh (show zDu rs n=zGp rs s by unfold zDu;rw[if_pos hk79,hks]);rw[hks] at HK;obtain⟨ad,A3,cap3,rfl,hadl,_,_,_,_,_,_⟩:=zGa HK.out;obtain⟨ad',A4,cap4,hA4,_,_,_,_,hk5,_,b0,b1,b2,b3⟩:=HK.out.at_ (i:=1) (t:=s) rfl;obtain rfl:=sj hA4;rw[show ad.add (1*4)=⟨ad.block,ad.off+4,none⟩ by unfold Addr.add;simp] at b0 b1 b2 b3;have hp1:(1:Int)<(n.kids.length:Int):=by rw[hks,List.length_cons,List.length_cons];omega
 have HK5:=zh hk5;clear hks hk79 HKI;go_upto_region 4 with(fail)
 clear b0 b1 b2 b3 k0 k3;obtain⟨kl,hkl⟩:∃kl,kl=s.kids.length:=⟨_,rfl⟩
 rw[<-hkl]
 match hs:s.kids with
 |[]|[_]|[_,_]=>
  all_goals
   have HO2:=zh (show zDu rs n=none by rw[HO.out];unfold zGp;rw[hs]);have hl3:(kl:Int)<3:=by rw[hkl,hs];simp
   clear hs hkl;go_wp2;exact bodyPost_ret (v:=.tuple #[qE,.bool false]) (by simp[results,Tryz.results114,go_sem]) rfl ⟨_,_,rfl,by rw[HO2.out];rfl,HB.out⟩
 |a::b::d::r=>
 rw[hs] at HK5;obtain⟨ad5,A6,cap6,rfl,hadl5,hna,hsza,a0,a1,a2,a3⟩:=zGa HK5.out;obtain⟨A7,cap7,hnb,hszb,b0,b1,b2,b3⟩:=zHz HK5.out;have hlen:3<=kl:=by rw[hkl,hs,List.length_cons,List.length_cons,List.length_cons];omega
 have hl3:¬((kl:Int)<3):=by omega
 have hp0:(0:Int)<(kl:Int):=by omega
 have hp1':(1:Int)<(kl:Int):=by omega
 have HBN:=zh (show zDu rs n=if(a.kind=2/\idB a.text.data.toList=true/\zBx rs a.text.data.toList=false)/\b.kind=2/\b.text.data.toList=[61] then some a.text else none by rw[HO.out];unfold zGp;rw[hs]);have HSZ:=zh hsza;clear hs hna hnb hszb hlen hkl
 by_cases h1:a.kind=2
 case neg=>
  have q1:(a.kind !=2)=true:=by rw[bne,bn h1];rfl
  have HO2:=zh (show zDu rs n=none by rw[HBN.out,if_neg (fun h=>h1 h.1.1)]);clear h1;go_wp2;exact bodyPost_ret (v:=.tuple #[qE,.bool false]) (by simp[results,Tryz.results114,go_sem]) rfl ⟨_,_,rfl,by rw[HO2.out];rfl,HB.out⟩
 have q1:(a.kind !=2)=false:=by rw[h1];rfl
 by_cases h2:b.kind=2
 case neg=>
  have q2:(b.kind !=2)=true:=by rw[bne,bn h2];rfl
  have HO2:=zh (show zDu rs n=none by rw[HBN.out,if_neg (fun h=>h2 h.2.1)]);clear h1 h2;go_wp2;exact bodyPost_ret (v:=.tuple #[qE,.bool false]) (by simp[results,Tryz.results114,go_sem]) rfl ⟨_,_,rfl,by rw[HO2.out];rfl,HB.out⟩
 have q2:(b.kind !=2)=false:=by rw[h2];rfl
 by_cases h3:b.text.data.toList=[61]
 case neg=>
  have q3:(b.text.toList==[61])=false:=by rw[ByteArray.toList_eq];exact bn h3
  have HO2:=zh (show zDu rs n=none by rw[HBN.out,if_neg (fun h=>h3 h.2.2)]);clear h1 h2 h3;go_wp2;exact bodyPost_ret (v:=.tuple #[qE,.bool false]) (by simp[results,Tryz.results114,go_sem]) rfl ⟨_,_,rfl,by rw[HO2.out];rfl,HB.out⟩
 have q3:(b.text.toList==[61])=true:=by rw[ByteArray.toList_eq,h3];rfl
 have HB2:=zh (show zDu rs n=if idB a.text.data.toList=true/\zBx rs a.text.data.toList=false then some a.text else none by
  rw[HBN.out]
  by_cases hx:idB a.text.data.toList=true/\zBx rs a.text.data.toList=false
  ·rw[if_pos hx,if_pos ⟨⟨h1,hx⟩,h2,h3⟩]
  ·rw[if_neg hx,if_neg (fun h=>hx h.1.2)])
 clear h1 h2 h3;go_wp2_with fail;refine(zG3 a.text wc HSZ.out).mono ?_;rintro e w2 ⟨rfl,hb⟩;rw[ByteArray.toList_eq];replace HB:=jt HB hb;replace HR:=zh (HR.out.keep hb);clear hb;cases hid:idB a.text.data.toList with
 |false=>
  have HO2:=zh (show zDu rs n=none by rw[HB2.out,hid,if_neg (fun h=>by cases h.1)]);clear hid;go_wp2;exact bodyPost_ret (v:=.tuple #[.string a.text,.bool false]) (by simp[results,Tryz.results114,go_sem]) rfl ⟨_,_,rfl,by rw[HO2.out];rfl,HB.out⟩
 |true=>
 have HO2:=zh (show zDu rs n=if zBx rs a.text.data.toList=false then some a.text else none by
  rw[HB2.out,hid]
  by_cases hx:zBx rs a.text.data.toList=false
  ·rw[if_pos hx,if_pos ⟨rfl,hx⟩]
  ·rw[if_neg hx,if_neg (fun h=>hx h.2)])
 clear hid;go_wp2_with fail;refine(zIj A cap rs w2 HR.out hrn).mono ?_;rintro e w3 ⟨v6,rfl,ho,hb⟩;replace HB:=jt HB hb;obtain⟨A8,c8,rfl,_,_,hst⟩:=ho.form;clear hb;go_wp2_with fail;refine(zP9 A8 c8 (zDn rs) a.text w3 hst (zO4 rs hrn)).mono ?_;rintro e w4 ⟨rfl,rfl⟩;rw[yAe];cases hsy:zBx rs a.text.data.toList with
 |false=>
  have HO3:=zh (show zDu rs n=some a.text by rw[HO2.out,hsy,if_pos rfl]);clear hsy;go_wp2;exact bodyPost_ret (v:=.tuple #[.string a.text,.bool true]) (by simp[results,Tryz.results114,go_sem]) rfl ⟨_,_,rfl,by rw[HO3.out];rfl,HB.out⟩
 |true=>
  have HO3:=zh (show zDu rs n=none by rw[HO2.out,hsy,if_neg (by simp)]);clear hsy;go_wp2;exact bodyPost_ret (v:=.tuple #[.string a.text,.bool false]) (by simp[results,Tryz.results114,go_sem]) rfl ⟨_,_,rfl,by rw[HO3.out];rfl,HB.out⟩
theorem zKc {w w':World}{size n:Nat}{A:Option Addr}{xs:List Value}(h:Reads w w.heap.size size A n xs)(hb:Below w.heap.size w w'):Reads w' w.heap.size size A n xs:=by
 obtain⟨h1,h2⟩:=h;refine⟨h1,fun h0=>?_⟩;obtain⟨ad,h3,h4,h5⟩:=h2 h0;exact⟨ad,h3,h4,fun j v hj=>by rw[<-h5 j v hj];exact hb.cell (by rw[zA2];exact h4)⟩
theorem zPo (A B:Option Addr)(cp cl:Nat)(p l:List Int)(w:World)(hp:zAr w A p)(hl:zAr w B l)(hn:p.length+l.length<=1000000):Calls Tryz.prog 85 #[.slice A p.length cp,.slice B l.length cl] w fun e w'=>∃v,e= .returned v/\zF7 w' w.heap.size v (p++l)/\Below w.heap.size w w':=by
 obtain⟨ii,hii,hiz,his,hib⟩:=Sp.info_parts zFc;have hba:=zA0 w (.cells #[] 3);have HO:=zh (show(w.alloc (.cells #[] 3)).ownsRow w.heap.size 3 1 (.slice (some ⟨w.heap.size,0,none⟩) 0 0) 0 [] from World.ownsRow_made w #[] 0 (Nat.le_refl _) (by decide) rfl);have HP:=zh (zKc hp hba);have HL:=zh hl;have HLN:=zh hn;have HB:=zh hba;clear hp hl hn hba;go_enter Tryz.func85,Tryz.ntmps85;go_wp2_with (at_builtin;refine Ch.zA9 _ rfl (.tmp 5) (.tmp 6) 30 rfl w.heap.size 3 ii (qI 0) 1 8 Tryz.underlying30 hii hiz his hib rfl (by decide) _ _ _ rfl HO.out _ A p.length cp (ints p) rfl HP.out (zJb p) (by have:=HLN.out;unfold maxLen;omega) (by have:=HLN.out;omega) (by simp) ?_)
 intro v1 w2 q2 q3 q4;have HB2:=zh (show Below w.heap.size w w2 from HB.out.grown q3 HB.out.size fun r e=>by have:=sj (show some w.heap.size=some r from e);omega);have HO2:=zh q2;have HL2:=zh (zKc HL.out HB2.out);clear q2 q3 q4 HB HO HP HL;go_wp2_with (at_builtin;refine Ch.zA9 _ rfl (.tmp 7) (.tmp 8) 30 rfl w.heap.size 3 ii (qI 0) 1 8 Tryz.underlying30 hii hiz his hib rfl (by decide) v1 p.length (ints p) rfl HO2.out _ B l.length cl (ints l) rfl HL2.out (zJb l) (by have:=HLN.out;unfold maxLen;omega) (by have:=HLN.out;omega) (by have:=HB2.out.size;omega) ?_)
 intro v2 w3 q2 q3 q4;have HB3:=zh (show Below w.heap.size w w3 from HB2.out.grown q3 HB2.out.size fun r e=>(World.ownsRow.lt HO2.out r e).1);have HO3:=zh (show zF7 w3 w.heap.size v2 (p++l) by
  show w3.ownsRow _ _ _ _ _ _;rw[List.length_append,show ints (p++l)=ints p++ints l by simp[ints]];exact q2)
 clear q2 q3 q4 HB2 HO2 HL2;go_wp2;exact bodyPost_ret (v:=v2) (by simp[results,Tryz.results85,go_sem]) rfl ⟨_,rfl,HO3.out,HB3.out⟩
end El
namespace Ch
variable{f:Nat->Nat}{n:Nat}{rs:List Rul}{u:Rul}{ts:List ByteArray}
def sumN (f:Nat->Nat)(n:Nat):Nat:=((List.range n).map f).sum
theorem zC1 (f:Nat->Nat)(n:Nat):sumN f (n+1)=sumN f n+f n:=by
 unfold sumN;rw[List.range_succ,List.map_append,List.sum_append_nat];simp
theorem zNb (h:∀k,k<n->f k=0):sumN f n=0:=by
 induction n with
 |zero=>rfl
 |succ n ih=>rw[zC1,ih fun k hk=>h k (by omega),h n (by omega)]
theorem zKm {g:Nat->Nat}(h:∀k,k<n->f k<=g k):sumN f n<=sumN g n:=by
 induction n with
 |zero=>exact Nat.le_refl _
 |succ n ih=>
  rw[zC1,zC1];have:=ih fun k hk=>h k (by omega)
  have:=h n (by omega);omega
theorem zJ8 (f g:Nat->Nat)(n:Nat):sumN (fun k=>f k+g k) n=sumN f n+sumN g n:=by
 induction n with
 |zero=>rfl
 |succ n ih=>rw[zC1,zC1,zC1,ih];omega
theorem zYw {M:Nat}(h:∀k,k<n->f k<=M)(h1:∀j k,j<k->k<n->f j=0\/f k=0):sumN f n<=M:=by
 induction n with
 |zero=>exact Nat.zero_le _
 |succ n ih=>
  rw[zC1];have hn:=h n (by omega)
  by_cases h0:f n=0
  ·have:=ih (fun k hk=>h k (by omega)) fun j k hj hk=>h1 j k hj (by omega)
   omega
  ·rw[zNb fun k hk=>(h1 k n hk (by omega)).resolve_right h0];omega
theorem zP1 (c:Nat->Nat->Nat)(n m:Nat):sumN (fun a=>sumN (c a) m) n=sumN (fun b=>sumN (fun a=>c a b) n) m:=by
 induction n with
 |zero=>exact(zNb fun k _=>rfl).symm
 |succ n ih=>
  rw[zC1,ih,<-zJ8]
  congr 1
  funext b
  rw[zC1]
theorem zZq {β:Type}(f:Nat->List β)(n:Nat):((List.range n).flatMap f).length=sumN (fun k=>(f k).length) n:=by
 induction n with
 |zero=>rfl
 |succ n ih=>rw[List.range_succ,List.flatMap_append,List.length_append,ih,zC1];simp
theorem zNc {β:Type}(f:Nat->List β)(a n:Nat):((List.range' a n).flatMap f).length=sumN (fun k=>(f (a+k)).length) n:=by
 induction n with
 |zero=>rfl
 |succ n ih=>rw[List.range'_concat,List.flatMap_append,List.length_append,ih,zC1];simp
theorem zW0 (hv:zAd rs=true){m:Nat}{v:Rul}(hnm:n<m)(hu:rs[n]?=some u)(hm:rs[m]?=some v)(hk:u.kind=v.kind):u.sym.toList≠v.sym.toList:=by
 unfold zAd at hv;rw[Bool.and_eq_true] at hv;have h:=(zHl hv.2 (List.getElem?_eq_some_iff.1 hm).1 hm).2;intro e;have hc:zBd v u=true:=by
  unfold zBd;rw[decide_eq_true hk.symm,e];simp
 have:=zKd (os:=rs.take m) (r:=v) (x:=u) (j:=n) (by rw[List.getElem?_take,if_pos hnm];exact hu) hc;rw[h] at this;cases this
theorem zO5 (hv:zAd rs=true)(hu:rs[n]?=some u)(hk:u.kind=4):u.sym.toList=[]:=by
 unfold zAd at hv;rw[Bool.and_eq_true] at hv;have h:=(zHl hv.2 (List.getElem?_eq_some_iff.1 hu).1 hu).1;unfold ownB at h;rw[if_neg (by omega),if_neg (by omega),if_neg (by omega)] at h;simp only[Bool.and_eq_true] at h;exact List.isEmpty_iff.1 h.2.2.2.2.2
theorem yBh {k:Nat}{s t:List UInt8}(h:tokB ts k s=true)(h':tokB ts k t=true):s=t:=by
 unfold tokB at h h';cases ht:ts[k]? with
 |none=>rw[ht] at h;cases h
 |some x=>
  rw[ht] at h h';exact(eq_of_beq h).symm.trans (eq_of_beq h')
def fewN:List Nat:=[0,1,3,13,67,381,2307,14589]
def P1 (s k:Nat):Nat:=fewN.getD (k+1) 0*fewN.getD (s -(k+2)) 0
def P4 (s k:Nat):Nat:=fewN.getD (k+1) 0*fewN.getD (s -(k+1)) 0
def cof (rs:List Rul)(ts:List ByteArray)(q:Int)(P:Nat->Nat)(at_:Nat->Option Nat)(k n:Nat):Nat:=match rs[n]? with
 |none=>0
 |some u=>if u.kind=q/\(match at_ k with
   |some t=>tokB ts t u.sym.toList
   |none=>true)=true then P k else 0
theorem zR8 {q:Int}{P:Nat->Nat}{at_:Nat->Option Nat}(hv:zAd rs=true)(k N:Nat)(hq:at_ k=none->q=4):sumN (cof rs ts q P at_ k) N<=P k:=by
 refine zYw (fun n _=>?_) fun n m hnm _=>?_
 ·unfold cof;cases rs[n]? with
  |none=>exact Nat.zero_le _
  |some u=>
   dsimp only
   by_cases h:u.kind=q/\(match at_ k with
     |some t=>tokB ts t u.sym.toList
     |none=>true)=true
   ·rw[if_pos h];exact Nat.le_refl _
   ·rw[if_neg h];exact Nat.zero_le _
 ·unfold cof;cases hu:rs[n]? with
  |none=>exact .inl rfl
  |some u=>
   cases hm:rs[m]? with
   |none=>exact .inr rfl
   |some v=>
    dsimp only
    by_cases h1:u.kind=q/\(match at_ k with
     |some t=>tokB ts t u.sym.toList
     |none=>true)=true
    ·by_cases h2:v.kind=q/\(match at_ k with
      |some t=>tokB ts t v.sym.toList
      |none=>true)=true
     ·exfalso;have hne:=zW0 hv hnm hu hm (h1.1.trans h2.1.symm);cases ha:at_ k with
      |none=>
       have h4:=hq ha;exact hne ((zO5 hv hu (h1.1.trans h4)).trans (zO5 hv hm (h2.1.trans h4)).symm)
      |some t=>
       rw[ha] at h1 h2;exact hne (yBh h1.2 h2.2)
     ·exact .inr (if_neg h2)
    ·exact .inl (if_neg h1)
theorem zZ8:∀s,s<=7->2<=s->sumN (P1 s) (s -2)+(fewN.getD (s -1) 0+(fewN.getD (s -1) 0+sumN (P4 s) (s -1)))<=fewN.getD s 0:=by decide
theorem zXm {a b:Nat}(h:a<=b)(hb:b<=7):fewN.getD a 0<=fewN.getD b 0:=by
 have:∀b,b<=7->∀a,a<=b->fewN.getD a 0<=fewN.getD b 0:=by decide
 exact this b hb a h
theorem yBg (hv:zAd rs=true):∀(s i j:Nat),j -i=s->s<=7->(allR rs ts i j).length<=fewN.getD s 0:=by
 intro s
 induction s using Nat.strongRecOn with
 |_ s ih=>
  intro i j hs h6
  by_cases hij:j<=i
  ·rw[zEc hij];exact Nat.zero_le _
  rw[zOf (by omega)];unfold zMr;rw[List.length_append]
  by_cases h1:s=1
  ·subst h1;have hb:(zD0 ts i j).length<=1:=by unfold zD0;split<;>simp
   have h0:((List.range rs.length).flatMap (zB7 rs ts (allR rs ts) i j)).length<=(List.range rs.length).length*0:=by
    refine zJn fun n _=>?_
    unfold zB7;cases rs[n]? with
    |none=>simp
    |some u=>
     dsimp only;rw[show j -1 -(i+1)=0 by omega,show j -(i+1)=0 by omega,zEc (show j<=i+1 by omega),zEc (show j -1<=i by omega)]
     split
     ·simp
     ·split
      ·split<;>simp[zBe,zA5]
      ·split
       ·split<;>simp[zBe,zA5]
       ·split<;>simp
   show _<=1;omega
  ·have hb:zD0 ts i j=[]:=by unfold zD0;rw[if_neg (by omega)]
   rw[hb,List.length_nil,Nat.zero_add,zZq];have low:∀(a b:Nat) (p:Int),b -a<s->(zA5 rs (allR rs ts a b) p).length<=fewN.getD (b -a) 0:=fun a b p h=>Nat.le_trans zZu (ih (b -a) h a b rfl (by omega))
   have hstep:=zZ8 s h6 (by omega);have c1:=fun k=>zR8 (ts:=ts) (q:=1) (P:=P1 s) (at_:=fun k=>some (i+1+k)) hv k rs.length (fun h=>by cases h)
   have c2:=zR8 (ts:=ts) (q:=2) (P:=fun _=>fewN.getD (s -1) 0) (at_:=fun _=>some i) hv 0 rs.length (fun h=>by cases h);have c3:=zR8 (ts:=ts) (q:=3) (P:=fun _=>fewN.getD (s -1) 0) (at_:=fun _=>some (j -1)) hv 0 rs.length (fun h=>by cases h);have c4:=fun k=>zR8 (ts:=ts) (q:=4) (P:=P4 s) (at_:=fun _=>none) hv k rs.length (fun _=>rfl)
   have hle:∀n,n<rs.length->(zB7 rs ts (allR rs ts) i j n).length<=sumN (fun k=>cof rs ts 1 (P1 s) (fun k=>some (i+1+k)) k n) (s -2)+(cof rs ts 2 (fun _=>fewN.getD (s -1) 0) (fun _=>some i) 0 n+(cof rs ts 3 (fun _=>fewN.getD (s -1) 0) (fun _=>some (j -1)) 0 n+sumN (fun k=>cof rs ts 4 (P4 s) (fun _=>none) k n) (s -1))):=by
    intro n _;unfold zB7;cases hu:rs[n]? with
    |none=>simp
    |some u=>
     dsimp only
     split
     ·next hk=>
      rw[zNc,show j -1 -(i+1)=s -2 by omega];refine Nat.le_trans (zKm fun k hk2=>?_) (Nat.le_add_right _ _);unfold cof;rw[hu];dsimp only
      by_cases ht:tokB ts (i+1+k) u.sym.toList=true
      ·rw[if_pos ht,if_pos ⟨hk,ht⟩];have a1:=low i (i+1+k) u.left (by omega);have a2:=low (i+1+k+1) j u.right (by omega);rw[show i+1+k -i=k+1 by omega] at a1;rw[show j -(i+1+k+1)=s -(k+2) by omega] at a2;exact zR9 a1 a2
      ·rw[if_neg ht];exact Nat.zero_le _
     ·split
      ·next hk=>
       refine Nat.le_trans ?_ (Nat.le_trans (Nat.le_add_right _ _) (Nat.le_add_left _ _));unfold cof;rw[hu];dsimp only
       by_cases ht:tokB ts i u.sym.toList=true
       ·rw[if_pos ht,if_pos ⟨hk,ht⟩];unfold zBe;rw[List.length_map];have:=low (i+1) j u.right (by omega);rw[show j -(i+1)=s -1 by omega] at this;exact this
       ·rw[if_neg ht];exact Nat.zero_le _
      ·split
       ·next hk=>
        refine Nat.le_trans ?_ (Nat.le_trans (Nat.le_add_right _ _) (Nat.le_trans (Nat.le_add_left _ _) (Nat.le_add_left _ _)));unfold cof;rw[hu];dsimp only
        by_cases ht:tokB ts (j -1) u.sym.toList=true
        ·rw[if_pos ht,if_pos ⟨hk,ht⟩];unfold zBe;rw[List.length_map];have:=low i (j -1) u.left (by omega);rw[show j -1 -i=s -1 by omega] at this;exact this
        ·rw[if_neg ht];exact Nat.zero_le _
       ·split
        ·next hk=>
         rw[zNc,show j -(i+1)=s -1 by omega];refine Nat.le_trans (zKm fun k hk2=>?_) (Nat.le_trans (Nat.le_add_left _ _) (Nat.le_trans (Nat.le_add_left _ _) (Nat.le_add_left _ _)));unfold cof;rw[hu];dsimp only;rw[if_pos ⟨hk,rfl⟩];have a1:=low i (i+1+k) u.left (by omega);have a2:=low (i+1+k) j u.right (by omega);rw[show i+1+k -i=k+1 by omega] at a1;rw[show j -(i+1+k)=s -(k+1) by omega] at a2;exact zR9 a1 a2
        ·simp
   refine Nat.le_trans (zKm hle) ?_;rw[zJ8,zJ8,zJ8,zP1,zP1 (m:=s -1)];have d1:=zKm (n:=s -2) fun k _=>c1 k
   have d4:=zKm (n:=s -1) fun k _=>c4 k
   exact Nat.le_trans (Nat.add_le_add d1 (Nat.add_le_add c2 (Nat.add_le_add c3 d4))) hstep
theorem yA9 (hv:zAd rs=true)(ht:ts.length<=7){i j:Nat}(hj:j<=ts.length):(allR rs ts i j).length<=1376256:=by
 have h:=yBg hv (ts:=ts) (j -i) i j rfl (by omega);have h2:fewN.getD (j -i) 0<=fewN.getD 7 0:=zXm (by omega) (Nat.le_refl _);have h3:fewN.getD 7 0=14589:=rfl;omega
end Ch
namespace Ch
open Go.RowKit
variable{rs:List Rul}{l m:List Rd}{p r a:Int}{k i:Nat}{x y:Rd}
theorem zE5 (ok:Nat->Prop)(A:Option Addr)(cap:Nat)(rs:List Rul)(x:Rd)(c:Array Value)(w:World)(hR:zAc w A rs)(hX:RdAt ok w x c)(hr:x.rule<(rs.length:Int)):Calls Tryz.prog 63 #[.slice A rs.length cap,.agg c] w fun e w'=>e= .returned (qI (zBn rs x.rule))/\Below w.heap.size w w':=by
 obtain⟨A',cap',rfl,hl,hc,hk⟩:=hX.form;have hba:=zA0 w (.cells (rdC x.rule x.at_ A' x.kids.length cap') 42);have HB:=zh hba;have HR:=zh (hR.keep hba);have K1:=zh (Blk.new w 42 (rdC x.rule x.at_ A' x.kids.length cap'));clear hR hX hk hba;have c0:=K1.out.cell 0
 by_cases h0:x.rule<0
 ·have HQ:=zh (show zBn rs x.rule=101 by unfold zBn;rw[if_pos h0]);go_enter Tryz.func63,Tryz.ntmps63;go_wp2;go_ret;exact⟨zAj HQ.out.symm,HB.out⟩
 ·obtain⟨n,hn⟩:∃n:Nat,x.rule=n:=⟨x.rule.toNat,by omega⟩
  obtain⟨u,hu⟩:∃u,rs[n]?=some u:=⟨_,gE (by omega)⟩
  have HQ:=zh (show zBn rs x.rule=u.prec by rw[hn];exact zHu hu);obtain⟨_,ad,rfl,_,d0,d1,d2,d3,d4,d5⟩:=HR.out.at_ hu;have i1:(n:Int)<(rs.length:Int):=by omega
  clear c0;have c0:(w.alloc (.cells (rdC x.rule x.at_ A' x.kids.length cap') 42)).cell? ⟨w.heap.size,0,none⟩=some (qI (n:Int)):=by rw[<-hn];exact K1.out.cell 0
  clear hu hn h0;go_enter Tryz.func63,Tryz.ntmps63;go_upto_region 1 with(fail)
  generalize w.alloc (.cells (rdC x.rule x.at_ A' x.kids.length cap') 42)=w1 at*;go_wp2;go_ret;exact⟨zAj HQ.out.symm,HB.out⟩
theorem zPi (hx:l[k]?=some x):zA5 rs (l.take (k+1)) p=zA5 rs (l.take k) p++(if p<=zBn rs x.rule then[x] else[]):=by
 rw[List.take_add_one,hx,zCg]
 congr 1
 unfold zA5
 by_cases h:p<=zBn rs x.rule
 ·rw[if_pos h];simp[h]
 ·rw[if_neg h];simp[h]
theorem zCq :(zA5 rs l p).length<=l.length:=List.length_filter_le ..
theorem zDy (ok:Nat->Prop)(A L:Option Addr)(cap cl:Nat)(rs:List Rul)(l:List Rd)(p:Int)(w:World)(hR:zAc w A rs)(hL:zAp ok w L l)(hr:∀x∈l,x.rule<(rs.length:Int))(hn:l.length<=100000000):Calls Tryz.prog 134 #[.slice A rs.length cap,.slice L l.length cl,qI p] w fun e w'=>∃v,e= .returned v/\AppR (fun b=>ok b/\b<w.heap.size) w' w.heap.size v (zA5 rs l p)/\Below w.heap.size w w':=by
 obtain⟨i0,hi,hz0,hz1,hz2⟩:=info_parts zEe;have HR0:=zh hR;have HL0:=zh (hL.any (ok':=fun b=>ok b/\b<w.heap.size) fun b h1 h2=>⟨h2,h1⟩);have HX:=zh hr;clear hR hL hr;go_enter Tryz.func134,Tryz.ntmps134;go_wp2_with fail
 go_loopw [7,8] (fun v i wr=>∃k:Nat,k<=l.length/\i=qI k/\Hid (AppR (fun b=>ok b/\b<w.heap.size) wr w.heap.size v (zA5 rs (l.take k) p))/\Hid (Below w.heap.size w wr)) (fun _ i _=>l.length -(intOf i).toNat)
 case atStart=>exact⟨0,by omega,rfl,AppR.nil (fun b=>ok b/\b<w.heap.size) _ _,Below.refl _ _⟩
 case round=>
  obtain⟨k,hk,rfl,HO,HB⟩:=hrel;have HR:=zh (HR0.out.keep HB.out);have HL:=zh (HL0.out.keep HB.out)
  by_cases hlt:k<l.length
  ·obtain⟨x,hx⟩:∃x,l[k]?=some x:=⟨_,gE hlt⟩
   obtain⟨ad,A1,k1,rfl,_,hxc,_,_,_,d0,d1,d2⟩:=HL.out.at_ hx;have HS:=zh (zPi (rs:=rs) (p:=p) hx);have HXC:=zh hxc;have HXR:=zh (HX.out x (List.mem_of_getElem? hx));have HXK:=zh hx;clear hx hxc;go_wp2_with fail;clear d0 d1 d2;refine(zE5 _ A cap rs x _ _ HR.out HXC.out HXR.out).mono ?_;rintro e w1 ⟨rfl,hb⟩;have HO:=zh (HO.out.keep hb);have HR:=zh (HR.out.keep hb);have HL:=zh (HL.out.keep hb);have HXC:=zh (HXC.out.keep hb);have HB:=jt HB hb;clear hb
   by_cases hp:p<=zBn rs x.rule
   ·rw[if_pos hp] at HS;obtain⟨ad',A2,k2,e1,_,hxc,_,_,_,d0,d1,d2⟩:=HL.out.at_ HXK.out;obtain rfl:=sj e1;have HXC:=zh hxc;clear hxc e1;have hba:=zA0 w1 (.cells (rdC x.rule x.at_ A2 x.kids.length k2) 42);have K6:=zh (Blk.new w1 42 (rdC x.rule x.at_ A2 x.kids.length k2));have HC:=zh ((HXC.out.keep hba).any (ok':=fun b=>u7.ownBlock≠some b/\(ok b/\b<w.heap.size)) fun b _ h=>⟨fun h'=>by
     have:=(HO.out.lt b h').1;omega,h⟩)
    obtain⟨css,ho,hl,hrr⟩:=HO.out.keep hba;have HB:=jt HB hba;have hxl:(zA5 rs (List.take k l) p).length<=100000000:=by
     have:=zCq (rs:=rs) (l:=List.take k l) (p:=p);rw[List.length_take] at this;omega
    clear hba;go_wp2_with (at_builtin;refine zA9 _ rfl (.tmp 23) (.tmp 28) 29 rfl w.heap.size 42 i0 (.agg #[qI 0,qI 0,qN]) 3 40 Tryz.underlying29 hi hz0 hz1 hz2 rfl (by decide) _ _ _ rfl ho (w1.heap.size+1) (some ⟨w1.heap.size,0,none⟩) 1 1 (rdC x.rule x.at_ A2 x.kids.length k2).toList rfl (by have:=zBb K6.out rfl;rw[World.size_alloc] at this;exact this) (zH1 HC.out) (by unfold maxLen;omega) (by omega) HB.out.size ?_;intro v' w' g2 g3 g4)
    have HO:=zh (AppR.push hl hrr HC.out g2 g3 g4);rw[<-HS.out] at HO;have hfar:∀b,u7.ownBlock=some b->w.heap.size<=b:=fun b hb=>(World.ownsRow.lt ho b hb).1
    have HB:=zh (HB.out.grown g3 HB.out.size hfar);clear ho hl hrr g2 g3 g4 hfar d0 d1 d2;go_wp2;go_roundw
    case rel=>exact⟨k+1,by omega,by go_num,HO,HB⟩
    case measure=>simp[intOf];omega
   ·rw[if_neg hp,List.append_nil] at HS;rw[<-HS.out] at HO;go_wp2;go_roundw
    case rel=>exact⟨k+1,by omega,by go_num,HO,HB⟩
    case measure=>simp[intOf];omega
  ·obtain rfl:k=l.length:=by omega
   rw[List.take_of_length_le (Nat.le_refl _)] at HO;go_wp2;go_ret;exact⟨_,rfl,HO.out,HB.out⟩
theorem zMx {P:Nat->Prop}{w:World}{g:Nat}{cx cy:Array Value}(hx:RdAt P w x cx)(hy:RdAt P w y cy)(hg:P g)(hb:Blk w g 42 (cx++cy)):zAp P w (some ⟨g,0,none⟩) [x,y]:=fun i z hi=>by
 have sx:=hx.size;have sy:=hy.size;refine⟨⟨g,0,none⟩,rfl,hb.lt,hg,?_⟩
 match i,hi with
 |0,hi=>
  obtain rfl:x=z:=by simpa using hi
  refine⟨cx,hx,fun j hj=>?_⟩;rw[show(⟨g,0,none⟩:Addr).add (0*3+j)=⟨g,j,none⟩ by unfold Addr.add;split<;>simp_all,hb.cell,Array.getElem?_append_left (by omega)]
 |1,hi=>
  obtain rfl:y=z:=by simpa using hi
  refine⟨cy,hy,fun j hj=>?_⟩;rw[show(⟨g,0,none⟩:Addr).add (1*3+j)=⟨g,3+j,none⟩ by unfold Addr.add;split<;>simp_all,hb.cell,Array.getElem?_append_right (by omega)]
  congr 1
  omega
theorem zSp (m:List Rd)(hx:l[i]?=some x):zAm r a (l.take (i+1)) m=zAm r a (l.take i) m++m.map fun y=>.mk r a [x,y]:=by
 rw[List.take_add_one,hx];unfold zAm;rw[List.flatMap_append];simp
def midP (r a:Int)(l m:List Rd)(i k:Nat):List Rd:=zAm r a (l.take i) m++(match l[i]? with
 |none=>[]
 |some x=>(m.take k).map fun y=>.mk r a [x,y])
theorem mid_zero :midP r a l m i 0=zAm r a (l.take i) m:=by
 unfold midP;cases l[i]?<;>simp
theorem zZn (hx:l[i]?=some x)(hy:m[k]?=some y):midP r a l m i (k+1)=midP r a l m i k++[.mk r a [x,y]]:=by
 unfold midP;rw[hx,List.append_assoc]
 congr 1
 show(m.take (k+1)).map _=(m.take k).map _++_;rw[List.take_add_one,hy,List.map_append];rfl
theorem zZj (hx:l[i]?=some x):midP r a l m i m.length=zAm r a (l.take (i+1)) m:=by
 unfold midP;rw[zSp m hx,hx,List.take_of_length_le (Nat.le_refl _)]
theorem zKt :(midP r a l m i k).length<=l.length*m.length+m.length:=by
 unfold midP;rw[List.length_append,zOu,List.length_take];have h1:min i l.length*m.length<=l.length*m.length:=Nat.mul_le_mul_right _ (by omega);cases l[i]? with
 |none=>simp;omega
 |some x=>simp only[List.length_map,List.length_take];omega
theorem zNk (ok:Nat->Prop)(L M:Option Addr)(cl cm:Nat)(r a:Int)(l m:List Rd)(w:World)(hL:zAp ok w L l)(hM:zAp ok w M m)(hn:l.length*m.length+m.length<=3000000000000)(hl1:l.length<=100000000):Calls Tryz.prog 133 #[qI r,qI a,.slice L l.length cl,.slice M m.length cm] w fun e w'=>∃v,e= .returned v/\AppR (fun b=>(ok b/\b<w.heap.size)\/w.heap.size<=b) w' w.heap.size v (zAm r a l m)/\Below w.heap.size w w':=by
 obtain⟨i0,hi,hz0,hz1,hz2⟩:=info_parts zEe;have HL0:=zh (hL.any (ok':=fun b=>ok b/\b<w.heap.size) fun b h1 h2=>⟨h2,h1⟩);have HM0:=zh (hM.any (ok':=fun b=>ok b/\b<w.heap.size) fun b h1 h2=>⟨h2,h1⟩);have HN:=zh hn;have hm1:m.length<=3000000000000:=by omega
 clear hL hM hn;go_enter Tryz.func133,Tryz.ntmps133;go_wp2_with fail
 go_loopw [9,10] (fun v j wr=>∃i:Nat,i<=l.length/\j=qI i/\Hid (AppR (fun b=>(ok b/\b<w.heap.size)\/w.heap.size<=b) wr w.heap.size v (zAm r a (l.take i) m))/\Hid (Below w.heap.size w wr)) (fun _ j _=>l.length -(intOf j).toNat)
 case atStart=>exact⟨0,by omega,rfl,by rw[List.take_zero];exact AppR.nil (fun b=>(ok b/\b<w.heap.size)\/w.heap.size<=b) _ _,Below.refl _ _⟩
 case round=>
  obtain⟨i,hi9,rfl,HO,HB⟩:=hrel
  by_cases hlt:i<l.length
  ·obtain⟨x,hx⟩:∃x,l[i]?=some x:=⟨_,gE hlt⟩
   have HXI:=zh hx;have HMF:=zh (zZj (r:=r) (a:=a) (m:=m) hx);rw[<-mid_zero] at HO;clear hx;go_wp2_with fail
   go_loopw [9,11] (fun v j wr=>∃k:Nat,k<=m.length/\j=qI k/\Hid (AppR (fun b=>(ok b/\b<w.heap.size)\/w.heap.size<=b) wr w.heap.size v (midP r a l m i k))/\Hid (Below w.heap.size w wr)) (fun _ j _=>m.length -(intOf j).toNat)
   case atStart=>exact⟨0,by omega,rfl,HO,HB⟩
   case round=>
    clear HO HB;obtain⟨k,hk9,rfl,HO,HB⟩:=hrel
    by_cases hlk:k<m.length
    ·obtain⟨y,hy⟩:∃y,m[k]?=some y:=⟨_,gE hlk⟩
     obtain⟨ad,A1,k1,rfl,had,hxc,_,_,_,d0,d1,d2⟩:=(HL0.out.keep HB.out).at_ HXI.out;obtain⟨bd,B1,k2,rfl,hbd,hyc,_,_,_,f0,f1,f2⟩:=(HM0.out.keep HB.out).at_ hy;have HMN:=zh (zZn (r:=r) (a:=a) HXI.out hy);have HXC:=zh hxc;have HYC:=zh hyc;have Had:=zh had;have Hbd:=zh hbd;have HOL:=zh HO.out;have HLN:=zh (show(midP r a l m i k).length<=3000000000000 from Nat.le_trans zKt HN.out);have j1:(0:Int)<=(i:Int):=by omega
     have j2:(i:Int)<(l.length:Int):=by omega
     have j3:(0:Int)<=(k:Int):=by omega
     have j4:(k:Int)<(m.length:Int):=by omega
     clear hy hxc hyc had hbd;go_upto_region 8 with(fail)
     refine zPm (by kernel_rfl) (fun _ _ _ d _ h=>by cases d<;>exact h) [(0,u9),(1,qI r),(2,qI a)] 11 _ [u9,qI r,qI a,.slice (some ad) l.length cl,qI (↑i),.pointer (some (ad.add (i*3))),.agg (rdC x.rule x.at_ A1 x.kids.length k1),.slice (some bd) m.length cm,qI (↑k),.pointer (some (bd.add (k*3))),.agg (rdC y.rule y.at_ B1 y.kids.length k2)] [true,true,true,true,true,true,true,true,true,true,true] (fun wq=>True/\Below wr.heap.size wr wq) (by kernel_rfl) ⟨⟨_,rfl,by kernel_rfl,by kernel_rfl,.inl ⟨by kernel_rfl,fun _=>by kernel_rfl⟩⟩,⟨⟨_,rfl,by kernel_rfl,by kernel_rfl,.inl ⟨by kernel_rfl,fun _=>by kernel_rfl⟩⟩,⟨⟨_,rfl,by kernel_rfl,by kernel_rfl,.inl ⟨by kernel_rfl,fun _=>by kernel_rfl⟩⟩,trivial⟩⟩⟩ (by kernel_rfl) (by kernel_rfl) (by kernel_rfl) (by kernel_rfl) (by kernel_rfl) (by kernel_rfl) (by kernel_rfl) (by kernel_rfl) (by simp[zC4,fin,zBz,zAk,List.range,List.range.loop,Act.put];rfl) (by kernel_rfl) ⟨trivial,zA3 (Below.refl _ _)⟩ ?_ ?_
     ·refine⟨jA,jA,jA,jA,jA,fun wq hI=>?_,fun wq hI=>?_,jA,jA,fun wq hI=>?_,fun wq hI=>?_,trivial⟩
      ·skip
       exact jv (.pointer (some (ad.add (i*3)))) wq (by simp[go_sem,j1,j2];try omega) ⟨rfl,hI⟩
      ·have e0:=(hI.2.cell (p:=ad.add (i*3)) (by rw[add_block];exact Had.out)).trans d0;have e1:=(hI.2.cell (p:=⟨(ad.add (i*3)).block,(ad.add (i*3)).off+1,none⟩) (by show(ad.add (i*3)).block<_;rw[add_block];exact Had.out)).trans d1;have e2:=(hI.2.cell (p:=⟨(ad.add (i*3)).block,(ad.add (i*3)).off+2,none⟩) (by show(ad.add (i*3)).block<_;rw[add_block];exact Had.out)).trans d2;exact jv (.agg (rdC x.rule x.at_ A1 x.kids.length k1)) wq (by simp[go_sem,e0,e1,e2]) ⟨rfl,hI⟩
      ·skip
       exact jv (.pointer (some (bd.add (k*3)))) wq (by simp[go_sem,j3,j4];try omega) ⟨rfl,hI⟩
      ·have e0:=(hI.2.cell (p:=bd.add (k*3)) (by rw[add_block];exact Hbd.out)).trans f0;have e1:=(hI.2.cell (p:=⟨(bd.add (k*3)).block,(bd.add (k*3)).off+1,none⟩) (by show(bd.add (k*3)).block<_;rw[add_block];exact Hbd.out)).trans f1;have e2:=(hI.2.cell (p:=⟨(bd.add (k*3)).block,(bd.add (k*3)).off+2,none⟩) (by show(bd.add (k*3)).block<_;rw[add_block];exact Hbd.out)).trans f2;exact jv (.agg (rdC y.rule y.at_ B1 y.kids.length k2)) wq (by simp[go_sem,e0,e1,e2]) ⟨rfl,hI⟩
     ·intro wq hI;have h1:=hI.2;clear hI;show wpOps _ _ _ [11,12,13,14,15] _ _;refine zDz rfl rfl (Gives.wp (R:=fun v w'=>v= .slice (some ⟨wq.heap.size,0,none⟩) 2 2/\w'=wq.alloc (.cells #[qI x.rule,qI x.at_,.slice A1 x.kids.length k1,qI y.rule,qI y.at_,.slice B1 y.kids.length k2] 42)) (Gives.value (v:=.slice (some ⟨wq.heap.size,0,none⟩) 2 2) (w':=wq.alloc (.cells #[qI x.rule,qI x.at_,.slice A1 x.kids.length k1,qI y.rule,qI y.at_,.slice B1 y.kids.length k2] 42)) (by simp[execOp,Act.eval,go_sem]) ⟨rfl,rfl⟩) ?_);rintro v w' ⟨rfl,rfl⟩;refine zDz rfl rfl (Gives.wp (R:=fun v w'=>v= .agg #[qI r,qI a,.slice (some ⟨wq.heap.size,0,none⟩) 2 2]/\w'=wq.alloc (.cells #[qI x.rule,qI x.at_,.slice A1 x.kids.length k1,qI y.rule,qI y.at_,.slice B1 y.kids.length k2] 42)) (Gives.value (v:=.agg #[qI r,qI a,.slice (some ⟨wq.heap.size,0,none⟩) 2 2]) (w':=wq.alloc (.cells #[qI x.rule,qI x.at_,.slice A1 x.kids.length k1,qI y.rule,qI y.at_,.slice B1 y.kids.length k2] 42)) (by simp[execOp,Act.eval,go_sem]) ⟨rfl,rfl⟩) ?_);rintro v w' ⟨rfl,rfl⟩;refine zDz rfl rfl (Gives.wp (R:=fun v w'=>v= .slice (some ⟨wq.heap.size+1,0,none⟩) 1 1/\w'=(wq.alloc (.cells #[qI x.rule,qI x.at_,.slice A1 x.kids.length k1,qI y.rule,qI y.at_,.slice B1 y.kids.length k2] 42)).alloc (.cells #[qI r,qI a,.slice (some ⟨wq.heap.size,0,none⟩) 2 2] 42)) (Gives.value (v:=.slice (some ⟨wq.heap.size+1,0,none⟩) 1 1) (w':=(wq.alloc (.cells #[qI x.rule,qI x.at_,.slice A1 x.kids.length k1,qI y.rule,qI y.at_,.slice B1 y.kids.length k2] 42)).alloc (.cells #[qI r,qI a,.slice (some ⟨wq.heap.size,0,none⟩) 2 2] 42)) (by simp[execOp,Act.eval,go_sem]) ⟨rfl,rfl⟩) ?_);rintro v w' ⟨rfl,rfl⟩;have hg:=h1.size;have hba:=zA0 wq (.cells #[qI x.rule,qI x.at_,.slice A1 x.kids.length k1,qI y.rule,qI y.at_,.slice B1 y.kids.length k2] 42);have hbb:=zA0 (wq.alloc (.cells #[qI x.rule,qI x.at_,.slice A1 x.kids.length k1,qI y.rule,qI y.at_,.slice B1 y.kids.length k2] 42)) (.cells #[qI r,qI a,.slice (some ⟨wq.heap.size,0,none⟩) 2 2] 42);have hsz:(wq.alloc (.cells #[qI x.rule,qI x.at_,.slice A1 x.kids.length k1,qI y.rule,qI y.at_,.slice B1 y.kids.length k2] 42)).heap.size=wq.heap.size+1:=World.size_alloc _ _;have hb2:=(h1.trans (hba.mono h1.size)).trans (hbb.mono (Nat.le_trans h1.size hba.size));have HOa:=zh (HO.out.keep hb2);have KX:=keep hbb (Blk.new wq 42 #[qI x.rule,qI x.at_,.slice A1 x.kids.length k1,qI y.rule,qI y.at_,.slice B1 y.kids.length k2]);have KE:Blk ((wq.alloc (.cells #[qI x.rule,qI x.at_,.slice A1 x.kids.length k1,qI y.rule,qI y.at_,.slice B1 y.kids.length k2] 42)).alloc (.cells #[qI r,qI a,.slice (some ⟨wq.heap.size,0,none⟩) 2 2] 42)) (wq.heap.size+1) 42 #[qI r,qI a,.slice (some ⟨wq.heap.size,0,none⟩) 2 2]:=by have:=Blk.new (wq.alloc (.cells #[qI x.rule,qI x.at_,.slice A1 x.kids.length k1,qI y.rule,qI y.at_,.slice B1 y.kids.length k2] 42)) 42 #[qI r,qI a,.slice (some ⟨wq.heap.size,0,none⟩) 2 2];rw[hsz] at this;exact this
      have hfar:∀b,u9.ownBlock=some b->w.heap.size<=b/\b<wr.heap.size:=fun b hb=>HOL.out.lt b hb
      have hP:∀b,b<wr.heap.size->(ok b/\b<w.heap.size)->u9.ownBlock≠some b/\((ok b/\b<w.heap.size)\/w.heap.size<=b):=fun b _ h=>⟨fun h'=>by have:=(hfar b h').1;omega,.inl h⟩
      have hx1:=(HXC.out.any (ok':=fun b=>u9.ownBlock≠some b/\((ok b/\b<w.heap.size)\/w.heap.size<=b)) hP).keep hb2;have hy1:=(HYC.out.any (ok':=fun b=>u9.ownBlock≠some b/\((ok b/\b<w.heap.size)\/w.heap.size<=b)) hP).keep hb2;have hE:=RdAt.of (r:=r) (a:=a) (ks:=[x,y]) (A:=some ⟨wq.heap.size,0,none⟩) (cap:=2) (Nat.le_refl _) (by omega) (zMx hx1 hy1 ⟨fun h'=>by have:=(hfar _ h').2;omega,.inr (by have:=HB.out.size;omega)⟩ KX);obtain⟨css,ho,hl,hrr⟩:=HOa.out;have hln:=HLN.out;have hbase:w.heap.size<=((wq.alloc (.cells #[qI x.rule,qI x.at_,.slice A1 x.kids.length k1,qI y.rule,qI y.at_,.slice B1 y.kids.length k2] 42)).alloc (.cells #[qI r,qI a,.slice (some ⟨wq.heap.size,0,none⟩) 2 2] 42)).heap.size:=Nat.le_trans HB.out.size (hb2.size);refine zDz rfl rfl (zHf _ (.tmp 24) (.tmp 37) 29 rfl w.heap.size 42 i0 (.agg #[qI 0,qI 0,qN]) 3 40 Tryz.underlying29 hi hz0 hz1 hz2 rfl (by decide) u9 _ _ rfl ho _ (some ⟨wq.heap.size+1,0,none⟩) 1 1 #[qI r,qI a,.slice (some ⟨wq.heap.size,0,none⟩) 2 2].toList rfl (zBb KE rfl) (zH1 hE) (by unfold maxLen;omega) (by omega) hbase ?_);intro v' w' g2 g3 g4;refine zDz rfl rfl (Gives.wp (R:=fun v w2=>v=v'/\w2=w') (Gives.value (v:=v') (w':=w') (by simp[execOp,Act.eval,go_sem]) ⟨rfl,rfl⟩) ?_);rintro v w2 ⟨rfl,rfl⟩;have HOb:=zh (AppR.push hl hrr hE g2 g3 g4);rw[<-HMN.out] at HOb;have HBb:=zh ((HB.out.trans (hb2.mono HB.out.size)).grown g3 hbase fun b hb=>(hfar b hb).1);clear ho hl hrr g2 g3 g4 hE KE KX hba hbb hsz hb2 hx1 hy1 hP hbase hg h1 hfar d0 d1 d2 f0 f1 f2 HO HB HOa
      rename_i hK
      refine hK _ _ ?_;clear hK;go_wp2;go_roundw
      case rel=>exact⟨k+1,by omega,by go_num,HOb,HBb⟩
      case measure=>simp[intOf];omega
    ·obtain rfl:k=m.length:=by omega
     rw[HMF.out] at HO;go_wp2;go_roundw
     case rel=>exact⟨i+1,by omega,by go_num,HO,HB⟩
     case measure=>simp[intOf];omega
  ·obtain rfl:i=l.length:=by omega
   rw[List.take_of_length_le (Nat.le_refl _)] at HO;go_wp2;go_ret;exact⟨_,rfl,HO.out,HB.out⟩
end Ch
namespace Ch
variable{rs:List Rul}{ts:List ByteArray}{i j n:Nat}{u:Rul}
theorem zEp {g:Nat->List Rd}(a t:Nat):(List.range' a (t+1)).flatMap g=(List.range' a t).flatMap g++g (a+t):=by
 rw[List.range'_1_concat,List.flatMap_append];simp
def inG (rs:List Rul)(ts:List ByteArray)(i j n:Nat)(u:Rul)(k:Nat):List Rd:=if tokB ts k u.sym.toList=true then zAm n i (zA5 rs (allR rs ts i k) u.left) (zA5 rs (allR rs ts (k+1) j) u.right) else[]
def juxG (rs:List Rul)(ts:List ByteArray)(i j n:Nat)(u:Rul)(k:Nat):List Rd:=zAm n i (zA5 rs (allR rs ts i k) u.left) (zA5 rs (allR rs ts k j) u.right)
theorem yCk (hu:rs[n]?=some u)(hk:u.kind=1):zB7 rs ts (allR rs ts) i j n=(List.range' (i+1) (j -1 -(i+1))).flatMap (inG rs ts i j n u):=by
 unfold zB7;rw[hu];simp only[hk,if_true];rfl
theorem zYh (hu:rs[n]?=some u)(hk:u.kind=2):zB7 rs ts (allR rs ts) i j n=if tokB ts i u.sym.toList=true then zBe n i (zA5 rs (allR rs ts (i+1) j) u.right) else[]:=by
 unfold zB7;rw[hu];simp[hk]
theorem zU1 (hu:rs[n]?=some u)(hk:u.kind=3):zB7 rs ts (allR rs ts) i j n=if tokB ts (j -1) u.sym.toList=true then zBe n i (zA5 rs (allR rs ts i (j -1)) u.left) else[]:=by
 unfold zB7;rw[hu];simp[hk]
theorem zXv (hu:rs[n]?=some u)(hk:u.kind=4):zB7 rs ts (allR rs ts) i j n=(List.range' (i+1) (j -(i+1))).flatMap (juxG rs ts i j n u):=by
 unfold zB7;rw[hu];simp only[hk];rfl
theorem zU4 (hu:rs[n]?=some u)(h1:u.kind≠1)(h2:u.kind≠2)(h3:u.kind≠3)(h4:u.kind≠4):zB7 rs ts (allR rs ts) i j n=[]:=by
 unfold zB7;rw[hu];simp[h1,h2,h3,h4]
theorem zOr {r a:Int}{l:List Rd}{k:Nat}{x:Rd}(hx:l[k]?=some x):zBe r a (l.take (k+1))=zBe r a (l.take k)++[.mk r a [x]]:=by
 unfold zBe;rw[List.take_add_one,hx,List.map_append];rfl
end Ch
end Go.Proofs.YtapgncbegadbnaaGreatDoor
