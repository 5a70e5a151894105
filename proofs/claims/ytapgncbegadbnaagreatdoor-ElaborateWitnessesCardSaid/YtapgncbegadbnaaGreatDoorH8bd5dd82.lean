/- own of the program's checker, where the text is right; node, Valid and ValidItems. -/
import Derived.Test.YtapgncbegadbnaaGreatDoorH1811f7a9
set_option maxRecDepth 100000
set_option maxHeartbeats 4000000
namespace Go.Proofs.YtapgncbegadbnaaGreatDoor.At
open Go.RowKit
theorem yA6 {kk:Nat}{c:Int}{n:Nat}(h1:kk≠1)(h12:kk≠12)(hk1:1<=kk)(hk12:kk<=12):zBu kk c n=(decide (c=0)&&decide ((n:Int)=zDb kk)):=by
 match kk,h1,h12,hk1,hk12 with
 |2,_,_,_,_=>unfold zBu zDb;simp
 |3,_,_,_,_=>unfold zBu zDb;simp
 |4,_,_,_,_=>unfold zBu zDb;simp
 |5,_,_,_,_=>unfold zBu zDb;simp;congr 1;rw[decide_eq_decide];omega
 |6,_,_,_,_=>unfold zBu zDb;simp;congr 1;rw[decide_eq_decide];omega
 |7,_,_,_,_=>unfold zBu zDb;simp;congr 1;rw[decide_eq_decide];omega
 |8,_,_,_,_=>unfold zBu zDb;simp;congr 1;rw[decide_eq_decide];omega
 |9,_,_,_,_=>unfold zBu zDb;simp;congr 1;rw[decide_eq_decide];omega
 |10,_,_,_,_=>unfold zBu zDb;simp;congr 1;rw[decide_eq_decide];omega
 |11,_,_,_,_=>unfold zBu zDb;simp;congr 1;rw[decide_eq_decide];omega
 |k+12,_,h12,_,hk12=>omega
theorem yAt (gc:Nat)(n:Int)(p:Addr)(kk:Nat)(s:ByteArray)(cols:Int)(ks:List Tre)(A:Option Addr)(cap:Nat)(w:World)(hP:zBm w p (.mk kk s cols ks) A cap)(hC:Blk w gc 88 (chkC n))(hk1:1<=kk)(hk12:kk<=12)(htb:zE3 kk s.data.toList=true)(h:kk=1):Calls Tryz.prog 75 #[qP gc,.pointer (some p)] w fun e w'=>e= .returned (.bool (ownT kk s.data.toList cols ks.length))/\Below w.heap.size w w':=by
 obtain⟨F,hF,hE,hT⟩:=zM1 kk hk1 hk12 s hP.size;have HP:=zh hP;have HC:=zh hC;have HF:=zh hF;have HE:=zh hE;have HT:=zh hT;have HTB:=zh htb;have HQ:=zh (show ownT kk s.data.toList cols ks.length=zBu kk cols ks.length by unfold ownT;rw[htb,Bool.true_and]);clear hP hC hF hE hT htb;have q1:((kk:Int)==1)=true:=by rw[h];rfl
 rw[show zBu kk cols ks.length=(decide (cols=0)&&decide (ks.length<=200)) by rw[h];rfl] at HQ;clear h;go_enter Tryz.func75,Tryz.ntmps75;go_upto_region 1 with(fail)
 ·skip
  refine ql [.pointer (some p),.pointer (some p),.pointer (some p),qI (kk:Int),.bool false,.bool false,.pointer (some p),.pointer (some p),.pointer (some p),qI (kk:Int),.bool false,.bool false,.bool false,qP gc,.pointer (some p),.pointer (some p),.pointer (some p),qI (kk:Int),qP gc,qP gc,.pointer (some ⟨gc,kk*3,none⟩),.pointer (some ⟨gc,kk*3+2,none⟩),.func (.func F) #[] #[],.pointer (some p),.pointer (some p),.pointer (some ⟨p.block,p.off+1,none⟩),.string s,.bool true,.bool false,.bool false] (qt 30 []) (fun wq=>Hid (zBm wq p (.mk (kk:Int) s cols ks) A cap)/\Hid (Blk wq gc 88 (chkC n))/\Hid (Below w.heap.size w wq)) ⟨HP.out.drew,HC.out.drew,zA3 (Below.refl _ _)⟩ ?_ ?_
  ·refine⟨jA,jB,jB,jQ fun wq hI=>(show wq.cell? p=some (qI (kk:Int)) from hI.1.out.kind),fun wq hI=>?_,jA,jA,jB,jB,jQ fun wq hI=>(show wq.cell? p=some (qI (kk:Int)) from hI.1.out.kind),fun wq hI=>?_,jA,jA,jA,jA,jB,jB,jQ fun wq hI=>(show wq.cell? p=some (qI (kk:Int)) from hI.1.out.kind),jB,jB,fun wq hI=>?_,jB,jQ fun wq hI=>(show wq.cell? ⟨gc,kk*3+2,none⟩=some (.func (.func F) #[] #[]) from(hI.2.1.out.cell _).trans (HF.out n)),jA,jB,jB,jQ fun wq hI=>(show wq.cell? ⟨p.block,p.off+1,none⟩=some (.string s) from hI.1.out.text),fun wq hI=>?_,jB,jA,trivial⟩
   ·skip
    exact jv (.bool false) wq (by simp[go_sem];omega) ⟨rfl,hI⟩
   ·skip
    exact jv (.bool false) wq (by simp[go_sem];omega) ⟨rfl,hI⟩
   ·have hidx:=hk12;exact jv (.pointer (some ⟨gc,kk*3,none⟩)) wq (by simp[go_sem];try omega) ⟨rfl,hI⟩
   ·refine jc F (#[.string s]) wq (by simp[execOp,Act.eval,go_sem,HE.out]) ((HT.out wq).mono ?_);rintro e wa ⟨rfl,hb5⟩;exact⟨_,rfl,by rw[HTB.out],hI.1.out.keep hb5,keep hb5 hI.2.1.out,hI.2.2.out.trans (hb5.mono hI.2.2.out.size)⟩
  ·intro wq hI;have HB:=hI.2.2;have HP2:=hI.1;have HC2:=hI.2.1;clear hI;have d0:wq.cell? p=some (qI (kk:Int)):=HP2.out.kind;have d2:wq.cell? ⟨p.block,p.off+2,none⟩=some (qI cols):=HP2.out.cols;have d3:wq.cell? ⟨p.block,p.off+3,none⟩=some (.slice A ks.length cap):=HP2.out.kids;have hlen:=HP2.out.len;have hcap:=HP2.out.capl;dsimp only[Tre.kids] at hlen
   by_cases qc:cols=0
   ·subst qc;go_wp2;go_ret;exact⟨zA1 (by first|exact HQ.out.symm|(rw[HQ.out,Bool.eq_iff_iff];simp;try omega)),HB.out⟩
   ·rw[decide_eq_false qc,Bool.false_and] at HQ;have qc2:(cols==0)=false:=bn qc;clear qc;go_wp2;go_ret;exact⟨zA1 (by first|exact HQ.out.symm|(rw[HQ.out,Bool.eq_iff_iff];simp;try omega)),HB.out⟩
theorem yCx (gc:Nat)(n:Int)(p:Addr)(kk:Nat)(s:ByteArray)(cols:Int)(ks:List Tre)(A:Option Addr)(cap:Nat)(w:World)(hP:zBm w p (.mk kk s cols ks) A cap)(hC:Blk w gc 88 (chkC n))(hk1:1<=kk)(hk12:kk<=12)(htb:zE3 kk s.data.toList=true)(h:kk=12):Calls Tryz.prog 75 #[qP gc,.pointer (some p)] w fun e w'=>e= .returned (.bool (ownT kk s.data.toList cols ks.length))/\Below w.heap.size w w':=by
 obtain⟨F,hF,hE,hT⟩:=zM1 kk hk1 hk12 s hP.size;have HP:=zh hP;have HC:=zh hC;have HF:=zh hF;have HE:=zh hE;have HT:=zh hT;have HTB:=zh htb;have HQ:=zh (show ownT kk s.data.toList cols ks.length=zBu kk cols ks.length by unfold ownT;rw[htb,Bool.true_and]);clear hP hC hF hE hT htb;have q1:((kk:Int)==1)=false:=by rw[h];rfl
 have q12:((kk:Int)==12)=true:=by rw[h];rfl
 rw[show zBu kk cols ks.length=(decide (1<=cols/\cols<=16)&&(decide (1<=ks.length/\ks.length<=256)&&decide ((ks.length:Int)%cols=0))) by rw[h];rfl] at HQ;clear h;go_enter Tryz.func75,Tryz.ntmps75;go_upto_region 1 with(fail)
 ·skip
  refine ql [.pointer (some p),.pointer (some p),.pointer (some p),qI (kk:Int),.bool false,.bool false,.pointer (some p),.pointer (some p),.pointer (some p),qI (kk:Int),.bool false,.bool false,.bool false,qP gc,.pointer (some p),.pointer (some p),.pointer (some p),qI (kk:Int),qP gc,qP gc,.pointer (some ⟨gc,kk*3,none⟩),.pointer (some ⟨gc,kk*3+2,none⟩),.func (.func F) #[] #[],.pointer (some p),.pointer (some p),.pointer (some ⟨p.block,p.off+1,none⟩),.string s,.bool true,.bool false,.bool false] (qt 30 []) (fun wq=>Hid (zBm wq p (.mk (kk:Int) s cols ks) A cap)/\Hid (Blk wq gc 88 (chkC n))/\Hid (Below w.heap.size w wq)) ⟨HP.out.drew,HC.out.drew,zA3 (Below.refl _ _)⟩ ?_ ?_
  ·refine⟨jA,jB,jB,jQ fun wq hI=>(show wq.cell? p=some (qI (kk:Int)) from hI.1.out.kind),fun wq hI=>?_,jA,jA,jB,jB,jQ fun wq hI=>(show wq.cell? p=some (qI (kk:Int)) from hI.1.out.kind),fun wq hI=>?_,jA,jA,jA,jA,jB,jB,jQ fun wq hI=>(show wq.cell? p=some (qI (kk:Int)) from hI.1.out.kind),jB,jB,fun wq hI=>?_,jB,jQ fun wq hI=>(show wq.cell? ⟨gc,kk*3+2,none⟩=some (.func (.func F) #[] #[]) from(hI.2.1.out.cell _).trans (HF.out n)),jA,jB,jB,jQ fun wq hI=>(show wq.cell? ⟨p.block,p.off+1,none⟩=some (.string s) from hI.1.out.text),fun wq hI=>?_,jB,jA,trivial⟩
   ·skip
    exact jv (.bool false) wq (by simp[go_sem];omega) ⟨rfl,hI⟩
   ·skip
    exact jv (.bool false) wq (by simp[go_sem];omega) ⟨rfl,hI⟩
   ·have hidx:=hk12;exact jv (.pointer (some ⟨gc,kk*3,none⟩)) wq (by simp[go_sem];try omega) ⟨rfl,hI⟩
   ·refine jc F (#[.string s]) wq (by simp[execOp,Act.eval,go_sem,HE.out]) ((HT.out wq).mono ?_);rintro e wa ⟨rfl,hb5⟩;exact⟨_,rfl,by rw[HTB.out],hI.1.out.keep hb5,keep hb5 hI.2.1.out,hI.2.2.out.trans (hb5.mono hI.2.2.out.size)⟩
  ·intro wq hI;have HB:=hI.2.2;have HP2:=hI.1;have HC2:=hI.2.1;clear hI;have d0:wq.cell? p=some (qI (kk:Int)):=HP2.out.kind;have d2:wq.cell? ⟨p.block,p.off+2,none⟩=some (qI cols):=HP2.out.cols;have d3:wq.cell? ⟨p.block,p.off+3,none⟩=some (.slice A ks.length cap):=HP2.out.kids;have hlen:=HP2.out.len;have hcap:=HP2.out.capl;dsimp only[Tre.kids] at hlen;go_upto_region 7 with(fail)
   clear d0 d2 d3;have HP:=HP2;have HC:=HC2
   by_cases c1:1<=cols
   ·by_cases c2:cols<=16
    ·rw[decide_eq_true ⟨c1,c2⟩,Bool.true_and] at HQ
     by_cases n1:1<=ks.length
     ·by_cases n2:ks.length<=256
      ·rw[decide_eq_true ⟨n1,n2⟩,Bool.true_and,<-Int.tmod_eq_emod_of_nonneg (by omega)] at HQ;cases qr:((ks.length:Int).tmod cols==0)
       ·rw[decide_eq_false (beq_eq_false_iff_ne.1 qr)] at HQ;refine ql [.pointer (some p),.pointer (some p),.pointer (some ⟨p.block,p.off+2,none⟩),qI cols,.bool true,.bool true,.pointer (some p),.pointer (some p),.pointer (some ⟨p.block,p.off+2,none⟩),qI cols,.bool true,.bool true,.bool true,.pointer (some p),.pointer (some p),.pointer (some ⟨p.block,p.off+3,none⟩),.slice A ks.length cap,qI (ks.length:Nat),.bool true,.bool true,.bool true,.pointer (some p),.pointer (some p),.pointer (some ⟨p.block,p.off+3,none⟩),.slice A ks.length cap,qI (ks.length:Nat),.bool true,.bool true,.bool true,.pointer (some p),.pointer (some p),.pointer (some ⟨p.block,p.off+3,none⟩),.slice A ks.length cap,qI (ks.length:Nat),.pointer (some p),.pointer (some p),.pointer (some ⟨p.block,p.off+2,none⟩),qI cols,qI ((ks.length:Int).tmod cols),.bool false,.bool false,.bool false] (qt 42 []) (fun wq=>Hid (zBm wq p (.mk (kk:Int) s cols ks) A cap)/\Hid (Blk wq gc 88 (chkC n))/\Hid (Below w.heap.size w wq)) ⟨HP.out.drew,HC.out.drew,zA3 HB.out⟩ ?_ ?_
        ·refine⟨jA,jB,jB,jQ fun wq hI=>(show wq.cell? ⟨p.block,p.off+2,none⟩=some (qI cols) from hI.1.out.cols),fun wq hI=>?_,jA,jA,jB,jB,jQ fun wq hI=>(show wq.cell? ⟨p.block,p.off+2,none⟩=some (qI cols) from hI.1.out.cols),fun wq hI=>?_,jA,jA,jA,jB,jB,jQ fun wq hI=>(show wq.cell? ⟨p.block,p.off+3,none⟩=some (.slice A ks.length cap) from hI.1.out.kids),jB,fun wq hI=>?_,jA,jA,jA,jB,jB,jQ fun wq hI=>(show wq.cell? ⟨p.block,p.off+3,none⟩=some (.slice A ks.length cap) from hI.1.out.kids),jB,fun wq hI=>?_,jA,jA,jA,jB,jB,jQ fun wq hI=>(show wq.cell? ⟨p.block,p.off+3,none⟩=some (.slice A ks.length cap) from hI.1.out.kids),jB,jA,jB,jB,jQ fun wq hI=>(show wq.cell? ⟨p.block,p.off+2,none⟩=some (qI cols) from hI.1.out.cols),fun wq hI=>?_,fun wq hI=>?_,jA,jA,trivial⟩
         ·skip
          exact jv (.bool true) wq (by simp[go_sem];try omega) ⟨rfl,hI⟩
         ·skip
          exact jv (.bool true) wq (by simp[go_sem];try omega) ⟨rfl,hI⟩
         ·skip
          exact jv (.bool true) wq (by simp[go_sem];try omega) ⟨rfl,hI⟩
         ·skip
          exact jv (.bool true) wq (by simp[go_sem];try omega) ⟨rfl,hI⟩
         ·have hc0:cols≠0:=by omega
          exact jv (qI ((ks.length:Int).tmod cols)) wq (by simp[go_sem,hc0];try omega) ⟨rfl,hI⟩
         ·skip
          exact jv (.bool false) wq (by simp[go_sem,qr]) ⟨rfl,hI⟩
        ·intro wq hI;have HB:=hI.2.2;clear hI;go_wp2;go_ret;exact⟨zA1 (by rw[HQ.out]),HB.out⟩
       ·rw[decide_eq_true (beq_iff_eq.1 qr)] at HQ;refine ql [.pointer (some p),.pointer (some p),.pointer (some ⟨p.block,p.off+2,none⟩),qI cols,.bool true,.bool true,.pointer (some p),.pointer (some p),.pointer (some ⟨p.block,p.off+2,none⟩),qI cols,.bool true,.bool true,.bool true,.pointer (some p),.pointer (some p),.pointer (some ⟨p.block,p.off+3,none⟩),.slice A ks.length cap,qI (ks.length:Nat),.bool true,.bool true,.bool true,.pointer (some p),.pointer (some p),.pointer (some ⟨p.block,p.off+3,none⟩),.slice A ks.length cap,qI (ks.length:Nat),.bool true,.bool true,.bool true,.pointer (some p),.pointer (some p),.pointer (some ⟨p.block,p.off+3,none⟩),.slice A ks.length cap,qI (ks.length:Nat),.pointer (some p),.pointer (some p),.pointer (some ⟨p.block,p.off+2,none⟩),qI cols,qI ((ks.length:Int).tmod cols),.bool true,.bool true,.bool true] (qt 42 []) (fun wq=>Hid (zBm wq p (.mk (kk:Int) s cols ks) A cap)/\Hid (Blk wq gc 88 (chkC n))/\Hid (Below w.heap.size w wq)) ⟨HP.out.drew,HC.out.drew,zA3 HB.out⟩ ?_ ?_
        ·refine⟨jA,jB,jB,jQ fun wq hI=>(show wq.cell? ⟨p.block,p.off+2,none⟩=some (qI cols) from hI.1.out.cols),fun wq hI=>?_,jA,jA,jB,jB,jQ fun wq hI=>(show wq.cell? ⟨p.block,p.off+2,none⟩=some (qI cols) from hI.1.out.cols),fun wq hI=>?_,jA,jA,jA,jB,jB,jQ fun wq hI=>(show wq.cell? ⟨p.block,p.off+3,none⟩=some (.slice A ks.length cap) from hI.1.out.kids),jB,fun wq hI=>?_,jA,jA,jA,jB,jB,jQ fun wq hI=>(show wq.cell? ⟨p.block,p.off+3,none⟩=some (.slice A ks.length cap) from hI.1.out.kids),jB,fun wq hI=>?_,jA,jA,jA,jB,jB,jQ fun wq hI=>(show wq.cell? ⟨p.block,p.off+3,none⟩=some (.slice A ks.length cap) from hI.1.out.kids),jB,jA,jB,jB,jQ fun wq hI=>(show wq.cell? ⟨p.block,p.off+2,none⟩=some (qI cols) from hI.1.out.cols),fun wq hI=>?_,fun wq hI=>?_,jA,jA,trivial⟩
         ·skip
          exact jv (.bool true) wq (by simp[go_sem];try omega) ⟨rfl,hI⟩
         ·skip
          exact jv (.bool true) wq (by simp[go_sem];try omega) ⟨rfl,hI⟩
         ·skip
          exact jv (.bool true) wq (by simp[go_sem];try omega) ⟨rfl,hI⟩
         ·skip
          exact jv (.bool true) wq (by simp[go_sem];try omega) ⟨rfl,hI⟩
         ·have hc0:cols≠0:=by omega
          exact jv (qI ((ks.length:Int).tmod cols)) wq (by simp[go_sem,hc0];try omega) ⟨rfl,hI⟩
         ·skip
          exact jv (.bool true) wq (by simp[go_sem,qr]) ⟨rfl,hI⟩
        ·intro wq hI;have HB:=hI.2.2;clear hI;go_wp2;go_ret;exact⟨zA1 (by rw[HQ.out]),HB.out⟩
      ·rw[decide_eq_false (p:=1<=ks.length/\ks.length<=256) (by omega),Bool.false_and] at HQ;refine ql [.pointer (some p),.pointer (some p),.pointer (some ⟨p.block,p.off+2,none⟩),qI cols,.bool true,.bool true,.pointer (some p),.pointer (some p),.pointer (some ⟨p.block,p.off+2,none⟩),qI cols,.bool true,.bool true,.bool true,.pointer (some p),.pointer (some p),.pointer (some ⟨p.block,p.off+3,none⟩),.slice A ks.length cap,qI (ks.length:Nat),.bool true,.bool true,.bool true,.pointer (some p),.pointer (some p),.pointer (some ⟨p.block,p.off+3,none⟩),.slice A ks.length cap,qI (ks.length:Nat),.bool false,.bool false,.bool false,undef,undef,undef,undef,undef,undef,undef,undef,undef,undef,undef,.bool false,.bool false] (qt 29 (qf 11 (qt 2 []))) (fun wq=>Hid (zBm wq p (.mk (kk:Int) s cols ks) A cap)/\Hid (Blk wq gc 88 (chkC n))/\Hid (Below w.heap.size w wq)) ⟨HP.out.drew,HC.out.drew,zA3 HB.out⟩ ?_ ?_
       ·refine⟨jA,jB,jB,jQ fun wq hI=>(show wq.cell? ⟨p.block,p.off+2,none⟩=some (qI cols) from hI.1.out.cols),fun wq hI=>?_,jA,jA,jB,jB,jQ fun wq hI=>(show wq.cell? ⟨p.block,p.off+2,none⟩=some (qI cols) from hI.1.out.cols),fun wq hI=>?_,jA,jA,jA,jB,jB,jQ fun wq hI=>(show wq.cell? ⟨p.block,p.off+3,none⟩=some (.slice A ks.length cap) from hI.1.out.kids),jB,fun wq hI=>?_,jA,jA,jA,jB,jB,jQ fun wq hI=>(show wq.cell? ⟨p.block,p.off+3,none⟩=some (.slice A ks.length cap) from hI.1.out.kids),jB,fun wq hI=>?_,jA,jA,rfl,rfl,rfl,rfl,rfl,rfl,rfl,rfl,rfl,rfl,rfl,jA,jA,trivial⟩
        ·skip
         exact jv (.bool true) wq (by simp[go_sem];try omega) ⟨rfl,hI⟩
        ·skip
         exact jv (.bool true) wq (by simp[go_sem];try omega) ⟨rfl,hI⟩
        ·skip
         exact jv (.bool true) wq (by simp[go_sem];try omega) ⟨rfl,hI⟩
        ·skip
         exact jv (.bool false) wq (by simp[go_sem];try omega) ⟨rfl,hI⟩
       ·intro wq hI;have HB:=hI.2.2;clear hI;go_wp2;go_ret;exact⟨zA1 (by rw[HQ.out]),HB.out⟩
     ·rw[decide_eq_false (p:=1<=ks.length/\ks.length<=256) (by omega),Bool.false_and] at HQ;refine ql [.pointer (some p),.pointer (some p),.pointer (some ⟨p.block,p.off+2,none⟩),qI cols,.bool true,.bool true,.pointer (some p),.pointer (some p),.pointer (some ⟨p.block,p.off+2,none⟩),qI cols,.bool true,.bool true,.bool true,.pointer (some p),.pointer (some p),.pointer (some ⟨p.block,p.off+3,none⟩),.slice A ks.length cap,qI (ks.length:Nat),.bool false,.bool false,.bool false,undef,undef,undef,undef,undef,undef,.bool false,.bool false,undef,undef,undef,undef,undef,undef,undef,undef,undef,undef,undef,.bool false,.bool false] (qt 21 (qf 6 (qt 2 (qf 11 (qt 2 []))))) (fun wq=>Hid (zBm wq p (.mk (kk:Int) s cols ks) A cap)/\Hid (Blk wq gc 88 (chkC n))/\Hid (Below w.heap.size w wq)) ⟨HP.out.drew,HC.out.drew,zA3 HB.out⟩ ?_ ?_
      ·refine⟨jA,jB,jB,jQ fun wq hI=>(show wq.cell? ⟨p.block,p.off+2,none⟩=some (qI cols) from hI.1.out.cols),fun wq hI=>?_,jA,jA,jB,jB,jQ fun wq hI=>(show wq.cell? ⟨p.block,p.off+2,none⟩=some (qI cols) from hI.1.out.cols),fun wq hI=>?_,jA,jA,jA,jB,jB,jQ fun wq hI=>(show wq.cell? ⟨p.block,p.off+3,none⟩=some (.slice A ks.length cap) from hI.1.out.kids),jB,fun wq hI=>?_,jA,jA,rfl,rfl,rfl,rfl,rfl,rfl,jA,jA,rfl,rfl,rfl,rfl,rfl,rfl,rfl,rfl,rfl,rfl,rfl,jA,jA,trivial⟩
       ·skip
        exact jv (.bool true) wq (by simp[go_sem];try omega) ⟨rfl,hI⟩
       ·skip
        exact jv (.bool true) wq (by simp[go_sem];try omega) ⟨rfl,hI⟩
       ·skip
        exact jv (.bool false) wq (by simp[go_sem];try omega) ⟨rfl,hI⟩
      ·intro wq hI;have HB:=hI.2.2;clear hI;go_wp2;go_ret;exact⟨zA1 (by rw[HQ.out]),HB.out⟩
    ·rw[decide_eq_false (p:=1<=cols/\cols<=16) (by omega),Bool.false_and] at HQ;refine ql [.pointer (some p),.pointer (some p),.pointer (some ⟨p.block,p.off+2,none⟩),qI cols,.bool true,.bool true,.pointer (some p),.pointer (some p),.pointer (some ⟨p.block,p.off+2,none⟩),qI cols,.bool false,.bool false,.bool false,undef,undef,undef,undef,undef,undef,.bool false,.bool false,undef,undef,undef,undef,undef,undef,.bool false,.bool false,undef,undef,undef,undef,undef,undef,undef,undef,undef,undef,undef,.bool false,.bool false] (qt 13 (qf 6 (qt 2 (qf 6 (qt 2 (qf 11 (qt 2 []))))))) (fun wq=>Hid (zBm wq p (.mk (kk:Int) s cols ks) A cap)/\Hid (Blk wq gc 88 (chkC n))/\Hid (Below w.heap.size w wq)) ⟨HP.out.drew,HC.out.drew,zA3 HB.out⟩ ?_ ?_
     ·refine⟨jA,jB,jB,jQ fun wq hI=>(show wq.cell? ⟨p.block,p.off+2,none⟩=some (qI cols) from hI.1.out.cols),fun wq hI=>?_,jA,jA,jB,jB,jQ fun wq hI=>(show wq.cell? ⟨p.block,p.off+2,none⟩=some (qI cols) from hI.1.out.cols),fun wq hI=>?_,jA,jA,rfl,rfl,rfl,rfl,rfl,rfl,jA,jA,rfl,rfl,rfl,rfl,rfl,rfl,jA,jA,rfl,rfl,rfl,rfl,rfl,rfl,rfl,rfl,rfl,rfl,rfl,jA,jA,trivial⟩
      ·skip
       exact jv (.bool true) wq (by simp[go_sem];try omega) ⟨rfl,hI⟩
      ·skip
       exact jv (.bool false) wq (by simp[go_sem];try omega) ⟨rfl,hI⟩
     ·intro wq hI;have HB:=hI.2.2;clear hI;go_wp2;go_ret;exact⟨zA1 (by rw[HQ.out]),HB.out⟩
   ·rw[decide_eq_false (p:=1<=cols/\cols<=16) (by omega),Bool.false_and] at HQ;refine ql [.pointer (some p),.pointer (some p),.pointer (some ⟨p.block,p.off+2,none⟩),qI cols,.bool false,.bool false,undef,undef,undef,undef,undef,.bool false,.bool false,undef,undef,undef,undef,undef,undef,.bool false,.bool false,undef,undef,undef,undef,undef,undef,.bool false,.bool false,undef,undef,undef,undef,undef,undef,undef,undef,undef,undef,undef,.bool false,.bool false] (qt 6 (qf 5 (qt 2 (qf 6 (qt 2 (qf 6 (qt 2 (qf 11 (qt 2 []))))))))) (fun wq=>Hid (zBm wq p (.mk (kk:Int) s cols ks) A cap)/\Hid (Blk wq gc 88 (chkC n))/\Hid (Below w.heap.size w wq)) ⟨HP.out.drew,HC.out.drew,zA3 HB.out⟩ ?_ ?_
    ·refine⟨jA,jB,jB,jQ fun wq hI=>(show wq.cell? ⟨p.block,p.off+2,none⟩=some (qI cols) from hI.1.out.cols),fun wq hI=>?_,jA,rfl,rfl,rfl,rfl,rfl,jA,jA,rfl,rfl,rfl,rfl,rfl,rfl,jA,jA,rfl,rfl,rfl,rfl,rfl,rfl,jA,jA,rfl,rfl,rfl,rfl,rfl,rfl,rfl,rfl,rfl,rfl,rfl,jA,jA,trivial⟩
     ·skip
      exact jv (.bool false) wq (by simp[go_sem];try omega) ⟨rfl,hI⟩
    ·intro wq hI;have HB:=hI.2.2;clear hI;go_wp2;go_ret;exact⟨zA1 (by rw[HQ.out]),HB.out⟩
theorem yBf (gc:Nat)(n:Int)(p:Addr)(kk:Nat)(s:ByteArray)(cols:Int)(ks:List Tre)(A:Option Addr)(cap:Nat)(w:World)(hP:zBm w p (.mk kk s cols ks) A cap)(hC:Blk w gc 88 (chkC n))(hk1:1<=kk)(hk12:kk<=12)(htb:zE3 kk s.data.toList=true)(h1:kk≠1)(h12:kk≠12):Calls Tryz.prog 75 #[qP gc,.pointer (some p)] w fun e w'=>e= .returned (.bool (ownT kk s.data.toList cols ks.length))/\Below w.heap.size w w':=by
 obtain⟨F,hF,hE,hT⟩:=zM1 kk hk1 hk12 s hP.size;have HP:=zh hP;have HC:=zh hC;have HF:=zh hF;have HE:=zh hE;have HT:=zh hT;have HTB:=zh htb;have HQ:=zh (show ownT kk s.data.toList cols ks.length=zBu kk cols ks.length by unfold ownT;rw[htb,Bool.true_and]);clear hP hC hF hE hT htb;have q1:((kk:Int)==1)=false:=by rw[beq_eq_false_iff_ne];omega
 have q12:((kk:Int)==12)=false:=by rw[beq_eq_false_iff_ne];omega
 have HSL:=zh (zWv kk hk12);rw[yA6 h1 h12 hk1 hk12] at HQ;clear h1 h12;go_enter Tryz.func75,Tryz.ntmps75;go_upto_region 1 with(fail)
 ·skip
  refine ql [.pointer (some p),.pointer (some p),.pointer (some p),qI (kk:Int),.bool false,.bool false,.pointer (some p),.pointer (some p),.pointer (some p),qI (kk:Int),.bool false,.bool false,.bool false,qP gc,.pointer (some p),.pointer (some p),.pointer (some p),qI (kk:Int),qP gc,qP gc,.pointer (some ⟨gc,kk*3,none⟩),.pointer (some ⟨gc,kk*3+2,none⟩),.func (.func F) #[] #[],.pointer (some p),.pointer (some p),.pointer (some ⟨p.block,p.off+1,none⟩),.string s,.bool true,.bool false,.bool false] (qt 30 []) (fun wq=>Hid (zBm wq p (.mk (kk:Int) s cols ks) A cap)/\Hid (Blk wq gc 88 (chkC n))/\Hid (Below w.heap.size w wq)) ⟨HP.out.drew,HC.out.drew,zA3 (Below.refl _ _)⟩ ?_ ?_
  ·refine⟨jA,jB,jB,jQ fun wq hI=>(show wq.cell? p=some (qI (kk:Int)) from hI.1.out.kind),fun wq hI=>?_,jA,jA,jB,jB,jQ fun wq hI=>(show wq.cell? p=some (qI (kk:Int)) from hI.1.out.kind),fun wq hI=>?_,jA,jA,jA,jA,jB,jB,jQ fun wq hI=>(show wq.cell? p=some (qI (kk:Int)) from hI.1.out.kind),jB,jB,fun wq hI=>?_,jB,jQ fun wq hI=>(show wq.cell? ⟨gc,kk*3+2,none⟩=some (.func (.func F) #[] #[]) from(hI.2.1.out.cell _).trans (HF.out n)),jA,jB,jB,jQ fun wq hI=>(show wq.cell? ⟨p.block,p.off+1,none⟩=some (.string s) from hI.1.out.text),fun wq hI=>?_,jB,jA,trivial⟩
   ·skip
    exact jv (.bool false) wq (by simp[go_sem];omega) ⟨rfl,hI⟩
   ·skip
    exact jv (.bool false) wq (by simp[go_sem];omega) ⟨rfl,hI⟩
   ·have hidx:=hk12;exact jv (.pointer (some ⟨gc,kk*3,none⟩)) wq (by simp[go_sem];try omega) ⟨rfl,hI⟩
   ·refine jc F (#[.string s]) wq (by simp[execOp,Act.eval,go_sem,HE.out]) ((HT.out wq).mono ?_);rintro e wa ⟨rfl,hb5⟩;exact⟨_,rfl,by rw[HTB.out],hI.1.out.keep hb5,keep hb5 hI.2.1.out,hI.2.2.out.trans (hb5.mono hI.2.2.out.size)⟩
  ·intro wq hI;have HB:=hI.2.2;have HP2:=hI.1;have HC2:=hI.2.1;clear hI;have d0:wq.cell? p=some (qI (kk:Int)):=HP2.out.kind;have d2:wq.cell? ⟨p.block,p.off+2,none⟩=some (qI cols):=HP2.out.cols;have d3:wq.cell? ⟨p.block,p.off+3,none⟩=some (.slice A ks.length cap):=HP2.out.kids;have hlen:=HP2.out.len;have hcap:=HP2.out.capl;dsimp only[Tre.kids] at hlen;go_upto_region 8 with(fail)
   clear d0 d2 d3;have HP:=HP2;have HC:=HC2;cases qc:(cols==0)
   ·rw[decide_eq_false (beq_eq_false_iff_ne.1 qc),Bool.false_and] at HQ;refine ql [.pointer (some p),.pointer (some p),.pointer (some ⟨p.block,p.off+2,none⟩),qI cols,.bool false,.bool false,undef,undef,undef,undef,undef,undef,undef,undef,undef,undef,undef,undef,undef,undef,undef,undef,.bool false,.bool false] (qt 6 (qf 16 (qt 2 []))) (fun wq=>Hid (zBm wq p (.mk (kk:Int) s cols ks) A cap)/\Hid (Blk wq gc 88 (chkC n))/\Hid (Below w.heap.size w wq)) ⟨HP.out.drew,HC.out.drew,zA3 HB.out⟩ ?_ ?_
    ·refine⟨jA,jB,jB,jQ fun wq hI=>(show wq.cell? ⟨p.block,p.off+2,none⟩=some (qI cols) from hI.1.out.cols),fun wq hI=>?_,jA,rfl,rfl,rfl,rfl,rfl,rfl,rfl,rfl,rfl,rfl,rfl,rfl,rfl,rfl,rfl,rfl,jA,jA,trivial⟩
     ·skip
      exact jv (.bool false) wq (by simp[go_sem,qc]) ⟨rfl,hI⟩
    ·intro wq hI;have HB:=hI.2.2;clear hI;go_wp2;go_ret;exact⟨zA1 (by rw[HQ.out]),HB.out⟩
   ·rw[decide_eq_true (beq_iff_eq.1 qc),Bool.true_and] at HQ;cases qn:((ks.length:Int)==(zDb kk))
    ·rw[decide_eq_false (beq_eq_false_iff_ne.1 qn)] at HQ;refine ql [.pointer (some p),.pointer (some p),.pointer (some ⟨p.block,p.off+2,none⟩),qI cols,.bool true,.bool true,.pointer (some p),.pointer (some p),.pointer (some ⟨p.block,p.off+3,none⟩),.slice A ks.length cap,qI (ks.length:Nat),qP gc,.pointer (some p),.pointer (some p),.pointer (some p),qI (kk:Int),qP gc,qP gc,.pointer (some ⟨gc,kk*3,none⟩),.pointer (some ⟨gc,kk*3+1,none⟩),qI (zDb kk),.bool false,.bool false,.bool false] (qt 24 []) (fun wq=>Hid (zBm wq p (.mk (kk:Int) s cols ks) A cap)/\Hid (Blk wq gc 88 (chkC n))/\Hid (Below w.heap.size w wq)) ⟨HP.out.drew,HC.out.drew,zA3 HB.out⟩ ?_ ?_
     ·refine⟨jA,jB,jB,jQ fun wq hI=>(show wq.cell? ⟨p.block,p.off+2,none⟩=some (qI cols) from hI.1.out.cols),fun wq hI=>?_,jA,jA,jB,jB,jQ fun wq hI=>(show wq.cell? ⟨p.block,p.off+3,none⟩=some (.slice A ks.length cap) from hI.1.out.kids),jB,jA,jA,jB,jB,jQ fun wq hI=>(show wq.cell? p=some (qI (kk:Int)) from hI.1.out.kind),jB,jB,fun wq hI=>?_,jB,jQ fun wq hI=>(show wq.cell? ⟨gc,kk*3+1,none⟩=some (qI (zDb kk)) from(hI.2.1.out.cell _).trans (HSL.out n)),fun wq hI=>?_,jA,jA,trivial⟩
      ·skip
       exact jv (.bool true) wq (by simp[go_sem,qc]) ⟨rfl,hI⟩
      ·have hidx:=hk12;exact jv (.pointer (some ⟨gc,kk*3,none⟩)) wq (by simp[go_sem];try omega) ⟨rfl,hI⟩
      ·skip
       exact jv (.bool false) wq (by simp[go_sem,qn]) ⟨rfl,hI⟩
     ·intro wq hI;have HB:=hI.2.2;clear hI;go_wp2;go_ret;exact⟨zA1 (by rw[HQ.out]),HB.out⟩
    ·rw[decide_eq_true (beq_iff_eq.1 qn)] at HQ;refine ql [.pointer (some p),.pointer (some p),.pointer (some ⟨p.block,p.off+2,none⟩),qI cols,.bool true,.bool true,.pointer (some p),.pointer (some p),.pointer (some ⟨p.block,p.off+3,none⟩),.slice A ks.length cap,qI (ks.length:Nat),qP gc,.pointer (some p),.pointer (some p),.pointer (some p),qI (kk:Int),qP gc,qP gc,.pointer (some ⟨gc,kk*3,none⟩),.pointer (some ⟨gc,kk*3+1,none⟩),qI (zDb kk),.bool true,.bool true,.bool true] (qt 24 []) (fun wq=>Hid (zBm wq p (.mk (kk:Int) s cols ks) A cap)/\Hid (Blk wq gc 88 (chkC n))/\Hid (Below w.heap.size w wq)) ⟨HP.out.drew,HC.out.drew,zA3 HB.out⟩ ?_ ?_
     ·refine⟨jA,jB,jB,jQ fun wq hI=>(show wq.cell? ⟨p.block,p.off+2,none⟩=some (qI cols) from hI.1.out.cols),fun wq hI=>?_,jA,jA,jB,jB,jQ fun wq hI=>(show wq.cell? ⟨p.block,p.off+3,none⟩=some (.slice A ks.length cap) from hI.1.out.kids),jB,jA,jA,jB,jB,jQ fun wq hI=>(show wq.cell? p=some (qI (kk:Int)) from hI.1.out.kind),jB,jB,fun wq hI=>?_,jB,jQ fun wq hI=>(show wq.cell? ⟨gc,kk*3+1,none⟩=some (qI (zDb kk)) from(hI.2.1.out.cell _).trans (HSL.out n)),fun wq hI=>?_,jA,jA,trivial⟩
      ·skip
       exact jv (.bool true) wq (by simp[go_sem,qc]) ⟨rfl,hI⟩
      ·have hidx:=hk12;exact jv (.pointer (some ⟨gc,kk*3,none⟩)) wq (by simp[go_sem];try omega) ⟨rfl,hI⟩
      ·skip
       exact jv (.bool true) wq (by simp[go_sem,qn]) ⟨rfl,hI⟩
     ·intro wq hI;have HB:=hI.2.2;clear hI;go_wp2;go_ret;exact⟨zA1 (by rw[HQ.out]),HB.out⟩
theorem zGz (gc:Nat)(n:Int)(p:Addr)(k:Int)(s:ByteArray)(cols:Int)(ks:List Tre)(A:Option Addr)(cap:Nat)(w:World)(hP:zBm w p (.mk k s cols ks) A cap)(hC:Blk w gc 88 (chkC n)):Calls Tryz.prog 75 #[qP gc,.pointer (some p)] w fun e w'=>e= .returned (.bool (ownT k s.data.toList cols ks.length))/\Below w.heap.size w w':=by
 by_cases hk:k<1\/12<k
 ·exact yCw gc n p k s cols ks A cap w hP hC hk
 ·obtain⟨kk,rfl⟩:∃kk:Nat,k=kk:=⟨k.toNat,by omega⟩
  cases htb:zE3 kk s.data.toList
  ·exact yB3 gc n p kk s cols ks A cap w hP hC (by omega) (by omega) htb
  ·by_cases h1:kk=1
   ·exact yAt gc n p kk s cols ks A cap w hP hC (by omega) (by omega) htb h1
   ·by_cases h12:kk=12
    ·exact yCx gc n p kk s cols ks A cap w hP hC (by omega) (by omega) htb h12
    ·exact yBf gc n p kk s cols ks A cap w hP hC (by omega) (by omega) htb h1 h12
end Go.Proofs.YtapgncbegadbnaaGreatDoor.At
