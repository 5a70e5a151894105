/- The reference's Tree: place, prefixes. -/
import Derived.Test.YtchllommcolijaaGreatDoorH44cb4187
import Derived.Test.YtchllommcolijaaGreatDoorHe5ce66b4
namespace Go.Proofs.YtchllommcolijaaGreatDoor.El
open At Ch Sp Sy Go.RowKit
set_option maxRecDepth 100000 in
set_option maxHeartbeats 4000000 in
theorem zS9 (ok:Nat→Prop)(A:Option Addr)(cap:Nat)(rs:List Rul)(x:Rd)(c:Array Value)(fin:Int)(r:Nat)(u:Rul)(w:World)(hR:zAg w A rs)(hX:RdAt ok w x c)(hr:x.rule=(r:Int))(hu:rs[r]?=some u)(_hn:rs.length≤9223372036854775807)
  (hk:u.kind=1→∃a b ks,x.kids=a::b::ks∧1≤b.at_∧b.at_≤1000000) (hf:1≤fin) (hf2:fin≤1000000):
  Calls Tryz.prog 96 #[.slice A rs.length cap,.agg c,.int .i64 fin] w fun e w'=>e= .returned (.int .i64 (opI rs x fin))∧Below w.heap.size w w':=by
 obtain⟨A2,cap2,rfl,hl,hc,hks⟩:=hX.form;obtain⟨hfit,ad,rfl,hadl,c0,c1,c2,c3,c4,c5⟩:=hR.at_ hu;have hrl:r<rs.length:=(List.getElem?_eq_some_iff.1 hu).1;have hkd:kndR rs x.rule=u.kind:=by unfold kndR;rw[hr,Int.toNat_natCast,hu]
 have hb0:=zA1 w (.cells (rdC x.rule x.at_ A2 x.kids.length cap2) 83);have HB:=zh hb0;have K1:=zh (Blk.new w 83 (rdC x.rule x.at_ A2 x.kids.length cap2));have hcell:=hb0.cell (p:=ad.add (r*6)) (by rw[zA3];exact hadl);rw[c0] at hcell;have HC:=zh hcell;have HKS:=zh (hks.keep hb0);have HK:=zh hk;have HKD:=zh hkd;clear hR hX hks hfit c0 c1 c2 c3 c4 c5 hcell hk hkd hb0;rw[hr] at K1 HB HC HKS;go_enter Tryz.func96,Tryz.ntmps96;rw[hr];go_upto_region 1 with(fail)
 generalize w.alloc (.cells (rdC (r:Int) x.at_ A2 x.kids.length cap2) 83)=w1 at*;have k0:=K1.out.cell 0;have hc0:=HC.out;have k1:=K1.out.cell 1;have k2:=K1.out.cell 2
 by_cases h1:u.kind=1
 ·obtain⟨xa,xb,xs,hxk,hb1,hb2⟩:=HK.out h1;obtain⟨ad2,rfl,d1⟩:∃ad2:Addr,A2=some ad2∧w1.cell? ⟨ad2.block,ad2.off+3+1,none⟩=some (.int .i64 xb.at_):=zUy HKS.out (by rw[hxk];rfl);have HQ:=zh (show opI rs x fin=xb.at_ -1 by
   unfold opI zGn;rw[HKD.out,if_pos h1,hxk])
  have q:(u.kind==1)=true:=beq_iff_eq.2 h1;have W1:wrap64 (xb.at_ -1)=xb.at_ -1:=by unfold wrap64;omega
  have hpos:(1:Int)<(x.kids.length:Int):=by rw[hxk,List.length_cons,List.length_cons];omega
  clear h1 hxk;go_wp2_with fail;exact bodyPost_ret (v:=.int .i64 (xb.at_ -1)) (by simp[results,Tryz.results96,go_sem]) rfl ⟨by rw[HQ.out],HB.out⟩
 have q1:(u.kind==1)=false:=bn h1
 by_cases h2:u.kind=2
 ·have HQ:=zh (show opI rs x fin=x.at_ by unfold opI;rw[HKD.out,if_neg h1,if_pos h2]);have q2:(u.kind==2)=true:=beq_iff_eq.2 h2;clear h1 h2;go_wp2_with fail;exact bodyPost_ret (v:=.int .i64 (x.at_)) (by simp[results,Tryz.results96,go_sem]) rfl ⟨by rw[HQ.out],HB.out⟩
 have q2:(u.kind==2)=false:=bn h2
 by_cases h3:u.kind=3
 ·have HQ:=zh (show opI rs x fin=fin -1 by unfold opI;rw[HKD.out,if_neg h1,if_neg h2,if_pos h3]);have q3:(u.kind==3)=true:=beq_iff_eq.2 h3;have W1:wrap64 (fin -1)=fin -1:=by unfold wrap64;omega
  clear h1 h2 h3;go_wp2_with fail;exact bodyPost_ret (v:=.int .i64 (fin -1)) (by simp[results,Tryz.results96,go_sem]) rfl ⟨by rw[HQ.out],HB.out⟩
 have q3:(u.kind==3)=false:=bn h3;have HQ:=zh (show opI rs x fin= -1 by unfold opI;rw[HKD.out,if_neg h1,if_neg h2,if_neg h3]);clear h1 h2 h3;go_wp2_with fail;exact bodyPost_ret (v:=.int .i64 (-1)) (by simp[results,Tryz.results96,go_sem]) rfl ⟨by rw[HQ.out],HB.out⟩
set_option maxHeartbeats 800000 in
theorem zW2 (k:Int)(w:World):Calls Tryz.prog 58 #[.int .i64 k] w fun e w'=>e= .returned (.string (zB4 k))∧w'=w:=by
 by_cases h1:k=1
 ·subst h1;go_enter Tryz.func58,Tryz.ntmps58;go_wp2_with fail;go_ret;exact⟨rfl,rfl⟩
 have q1:(k==1)=false:=bn h1
 by_cases h2:k=2
 ·subst h2;go_enter Tryz.func58,Tryz.ntmps58;go_wp2_with fail;go_ret;exact⟨rfl,rfl⟩
 have q2:(k==2)=false:=bn h2
 by_cases h3:k=3
 ·subst h3;go_enter Tryz.func58,Tryz.ntmps58;go_wp2_with fail;go_ret;exact⟨rfl,rfl⟩
 have q3:(k==3)=false:=bn h3;have HF:=zh (show zB4 k=juxS by unfold zB4;rw[if_neg h1,if_neg h2,if_neg h3]);clear h1 h2 h3;go_enter Tryz.func58,Tryz.ntmps58;go_wp2_with fail;go_ret;exact⟨by rw[HF.out];rfl,rfl⟩
end Go.Proofs.YtchllommcolijaaGreatDoor.El
