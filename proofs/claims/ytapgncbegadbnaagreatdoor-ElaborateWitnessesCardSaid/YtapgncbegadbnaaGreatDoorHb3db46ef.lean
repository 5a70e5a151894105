/- The reference's Tree: place, prefixes. -/
import Derived.Test.YtapgncbegadbnaaGreatDoorH7ecd2ed2
set_option maxRecDepth 100000
set_option maxHeartbeats 4000000
namespace Go.Proofs.YtapgncbegadbnaaGreatDoor.El
open At Ch Sp Sy Go.RowKit
theorem zVx (ok:Nat->Prop)(A:Option Addr)(cap:Nat)(rs:List Rul)(x:Rd)(c:Array Value)(fin:Int)(r:Nat)(u:Rul)(w:World)(hR:zAc w A rs)(hX:RdAt ok w x c)(hr:x.rule=(r:Int))(hu:rs[r]?=some u)(_hn:rs.length<=9223372036854775807)
  (hk:u.kind=1->∃a b ks,x.kids=a::b::ks/\1<=b.at_/\b.at_<=1000000) (hf:1<=fin) (hf2:fin<=1000000):
  Calls Tryz.prog 116 #[.slice A rs.length cap,.agg c,qI fin] w fun e w'=>e= .returned (qI (opI rs x fin))/\Below w.heap.size w w':=by
 obtain⟨A2,cap2,rfl,hl,hc,hks⟩:=hX.form;obtain⟨hfit,ad,rfl,hadl,c0,c1,c2,c3,c4,c5⟩:=hR.at_ hu;have hrl:r<rs.length:=(List.getElem?_eq_some_iff.1 hu).1;have hkd:kndR rs x.rule=u.kind:=by unfold kndR;rw[hr,Int.toNat_natCast,hu]
 have hb0:=zA0 w (.cells (rdC x.rule x.at_ A2 x.kids.length cap2) 42);have HB:=zh hb0;have K1:=zh (Blk.new w 42 (rdC x.rule x.at_ A2 x.kids.length cap2));have hcell:=hb0.cell (p:=ad.add (r*6)) (by rw[zA2];exact hadl);rw[c0] at hcell;have HC:=zh hcell;have HKS:=zh (hks.keep hb0);have HK:=zh hk;have HKD:=zh hkd;clear hR hX hks hfit c0 c1 c2 c3 c4 c5 hcell hk hkd hb0;rw[hr] at K1 HB HC HKS;go_enter Tryz.func116,Tryz.ntmps116;rw[hr];go_upto_region 1 with(fail)
 generalize w.alloc (.cells (rdC (r:Int) x.at_ A2 x.kids.length cap2) 42)=w1 at*;have k0:=K1.out.cell 0;have hc0:=HC.out;have k1:=K1.out.cell 1;have k2:=K1.out.cell 2
 by_cases h1:u.kind=1
 ·obtain⟨xa,xb,xs,hxk,hb1,hb2⟩:=HK.out h1;obtain⟨ad2,rfl,d1⟩:∃ad2:Addr,A2=some ad2/\w1.cell? ⟨ad2.block,ad2.off+3+1,none⟩=some (qI xb.at_):=zU5 HKS.out (by rw[hxk];rfl);have HQ:=zh (show opI rs x fin=xb.at_ -1 by
   unfold opI zHi;rw[HKD.out,if_pos h1,hxk])
  have q:(u.kind==1)=true:=beq_iff_eq.2 h1;have W1:wrap64 (xb.at_ -1)=xb.at_ -1:=by unfold wrap64;omega
  have hpos:(1:Int)<(x.kids.length:Int):=by rw[hxk,List.length_cons,List.length_cons];omega
  clear h1 hxk;go_wp2;exact bodyPost_ret (v:=qI (xb.at_ -1)) (by simp[results,Tryz.results116,go_sem]) rfl ⟨by rw[HQ.out],HB.out⟩
 have q1:(u.kind==1)=false:=bn h1
 by_cases h2:u.kind=2
 ·have HQ:=zh (show opI rs x fin=x.at_ by unfold opI;rw[HKD.out,if_neg h1,if_pos h2]);have q2:(u.kind==2)=true:=beq_iff_eq.2 h2;clear h1 h2;go_wp2;exact bodyPost_ret (v:=qI (x.at_)) (by simp[results,Tryz.results116,go_sem]) rfl ⟨by rw[HQ.out],HB.out⟩
 have q2:(u.kind==2)=false:=bn h2
 by_cases h3:u.kind=3
 ·have HQ:=zh (show opI rs x fin=fin -1 by unfold opI;rw[HKD.out,if_neg h1,if_neg h2,if_pos h3]);have q3:(u.kind==3)=true:=beq_iff_eq.2 h3;have W1:wrap64 (fin -1)=fin -1:=by unfold wrap64;omega
  clear h1 h2 h3;go_wp2;exact bodyPost_ret (v:=qI (fin -1)) (by simp[results,Tryz.results116,go_sem]) rfl ⟨by rw[HQ.out],HB.out⟩
 have q3:(u.kind==3)=false:=bn h3;have HQ:=zh (show opI rs x fin= -1 by unfold opI;rw[HKD.out,if_neg h1,if_neg h2,if_neg h3]);clear h1 h2 h3;go_wp2;exact bodyPost_ret (v:=qI (-1)) (by simp[results,Tryz.results116,go_sem]) rfl ⟨by rw[HQ.out],HB.out⟩
end Go.Proofs.YtapgncbegadbnaaGreatDoor.El
