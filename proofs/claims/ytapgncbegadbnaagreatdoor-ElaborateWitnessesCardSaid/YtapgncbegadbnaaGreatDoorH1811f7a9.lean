/- form, Valid and ValidItems of the reference. -/
import Derived.Test.YtapgncbegadbnaaGreatDoorH998ca38f
set_option maxRecDepth 100000
set_option maxHeartbeats 1600000
namespace Go.Proofs.YtapgncbegadbnaaGreatDoor.At
open Go.RowKit
theorem zJ7 (k:Int)(s:ByteArray)(c:Int)(ks:List Tre):(Tre.mk k s c ks).kind=k:=rfl
theorem zLz (k j:Int):((j==1)==(k==1))=zBk k j:=by
 unfold zBk;rw[show(j==1)=decide (j=1) from rfl,show(k==1)=decide (k=1) from rfl];cases decide (j=1)<;>cases decide (k=1)<;>rfl
theorem zVj:∀(m:Nat) (t:Tre) (c:Array Value) (w:World),zA7 t<m->zAv w t c->Calls Tryz.prog 54 #[.agg c] w fun e w'=>e= .returned (.bool (zAt t))/\Below w.heap.size w w':=by
 intro m
 induction m with
 |zero=>intro t c w h;omega
 |succ m ih=>
  intro t c w hm hN;have IH:=zh ih;clear ih;obtain⟨k,s,cols,ks⟩:=t;obtain⟨A2,cap2,rfl,hs,hl,hc,hk⟩:=hN.form;dsimp only[qC,Tre.kind,Tre.text,Tre.cols,Tre.kids] at hs hl hc hk⊢;have HK:=zh hk;have HM:=zh hm;have HQ0:=zh (show zAt (.mk k s cols ks)=(zE3 k s.data.toList&&zBu k cols ks.length&&zC2 k ks) by rw[zAt,ownT]);clear hk hN hm;go_enter Tryz.func54,Tryz.ntmps54;go_wp2_with fail;have K0:=zh (Blk.new w 25 (nodC k s cols A2 ks.length cap2));have H0:=zh (zA0 w (.cells (nodC k s cols A2 ks.length cap2) 25));have HK:=zh (HK.out.keep H0.out);dsimp only[nodC] at K0 H0 HK;generalize w.alloc (.cells #[qI k,.string s,qI cols,.slice A2 ks.length cap2] 25)=w1 at*;refine(zUd k s cols A2 ks.length cap2 _ hs).mono ?_;rintro e w2 ⟨rfl,hb⟩;have K0:=kp hb K0;have HK:=zh (HK.out.keep hb);have H0:=jt H0 hb;clear hb;cases ht:zE3 k s.data.toList
  ·have HQ:=zh (show zAt (.mk k s cols ks)=false by rw[HQ0.out,ht];rfl);clear ht;go_wp2;go_ret;exact⟨zA1 HQ.out.symm,H0.out⟩
  rw[ht,Bool.true_and] at HQ0;clear ht;obtain⟨c0,c1,c2,c3⟩:=qb K0;go_wp2_with fail;refine(zXf k s cols A2 ks.length cap2 _ (by omega)).mono ?_;rintro e w3 ⟨rfl,hb⟩;have K0:=kp hb K0;have HK:=zh (HK.out.keep hb);have H0:=jt H0 hb;clear hb c0 c1 c2 c3;cases ht:zBu k cols ks.length
  ·have HQ:=zh (show zAt (.mk k s cols ks)=false by rw[HQ0.out,ht];rfl);clear ht;go_wp2;go_ret;exact⟨zA1 HQ.out.symm,H0.out⟩
  rw[ht,Bool.true_and] at HQ0;clear ht;go_wp2_with fail
  go_loopw [3] (fun i wr=>∃(j:Nat),j<=ks.length/\i=qI j/\Hid (zC2 k (ks.take j)=true)/\Hid (Blk wr w.heap.size 25 (nodC k s cols A2 ks.length cap2))/\Hid (zAo wr A2 ks)/\Hid (Below w.heap.size w wr)) (fun i _=>ks.length -(intOf i).toNat)
  case atStart=>exact⟨0,by omega,rfl,zh (show zC2 k (ks.take 0)=true by rw[List.take_zero,zC2]),K0,HK,H0⟩
  case round=>
   clear K0 HK H0;obtain⟨j,hj,rfl,HX,K0,HK,H0⟩:=hrel;have c0:=K0.out.cell 3;dsimp only[nodC] at c0
   by_cases hlt:j<ks.length
   ·obtain⟨y,hy⟩:∃y,ks[j]?=some y:=⟨_,gE hlt⟩
    obtain⟨ad,A3,cap3,rfl,hP⟩:=HK.out.ptr hy;have HP:=zh hP;have hcy:=zDe hy;have HSN:=zh (zSa (q:=k) hy);have HCU:Hid (zA7 y<m):=by have h1:=HM.out;show _<_;rw[zA7] at h1;omega
    obtain⟨ky,sy,cy,ksy⟩:=y;clear hy hP hcy;have HBP:=zh (zLz k ky);go_upto_region 6 with(fail)
    clear c0;cases hbp:((ky==1)==(k==1))
    ·rw[hbp] at HBP;rw[zJ7 ky sy cy ksy,<-HBP.out,HX.out,Bool.true_and,Bool.not_false,Bool.true_and] at HSN;cases hfv:zAt (.mk ky sy cy ksy)
     ·have HFV:=zh hfv;have HQ:=zh (show zAt (.mk k s cols ks)=false by rw[HQ0.out];exact zJp (HSN.out.trans hfv));clear hfv;refine ql [.pointer (some ⟨w.heap.size,3,none⟩),.slice (some ad) ks.length cap2,qI j,.pointer (some (ad.add (j*4))),.pointer (some (ad.add (j*4))),qI ky,.bool (ky==1),qP w.heap.size,qI k,.bool (k==1),.bool false,.bool false,.pointer (some ⟨w.heap.size,3,none⟩),.slice (some ad) ks.length cap2,qI j,.pointer (some (ad.add (j*4))),.agg (nodC ky sy cy A3 ksy.length cap3),.bool false,.bool true,.bool true] (qt 20 []) (fun wq=>Hid (Blk wq w.heap.size 25 (nodC k s cols (some ad) ks.length cap2))/\Hid (zBm wq (ad.add (j*4)) (.mk ky sy cy ksy) A3 cap3)/\Hid (zAo wq (some ad) ks)/\Hid (Below w.heap.size w wq)) ⟨K0.out.drew,HP.out.drew,HK.out.keep (zA3 (Below.refl _ _)),zA3 H0.out⟩ ?_ ?_
      ·refine⟨fun wq hI=>?_,fun wq hI=>?_,jA,fun wq hI=>?_,fun wq hI=>?_,fun wq hI=>?_,fun wq hI=>?_,fun wq hI=>?_,fun wq hI=>?_,fun wq hI=>?_,fun wq hI=>?_,jA,fun wq hI=>?_,fun wq hI=>?_,jA,fun wq hI=>?_,fun wq hI=>?_,fun wq hI=>?_,fun wq hI=>?_,jA,trivial⟩
       ·exact jv (.pointer (some ⟨w.heap.size,3,none⟩)) wq (by simp[execOp,Act.eval,go_sem]) ⟨rfl,hI⟩
       ·have cJ:=hI.1.out.cell 3;exact jv (.slice (some ad) ks.length cap2) wq (by simp[execOp,Act.eval,go_sem,cJ]) ⟨rfl,hI⟩
       ·skip
        exact jv (.pointer (some (ad.add (j*4)))) wq (by simp[execOp,Act.eval,go_sem,hlt];try omega) ⟨rfl,hI⟩
       ·exact jv (.pointer (some (ad.add (j*4)))) wq (by simp[execOp,Act.eval,go_sem]) ⟨rfl,hI⟩
       ·have cJ:wq.cell? (ad.add (j*4))=some (qI ky):=hI.2.1.out.kind;exact jv (qI ky) wq (by simp[execOp,Act.eval,go_sem,cJ]) ⟨rfl,hI⟩
       ·exact jv (.bool (ky==1)) wq (by simp[execOp,Act.eval,go_sem]) ⟨rfl,hI⟩
       ·exact jv (qP w.heap.size) wq (by simp[execOp,Act.eval,go_sem]) ⟨rfl,hI⟩
       ·have cJ:=hI.1.out.cell 0;exact jv (qI k) wq (by simp[execOp,Act.eval,go_sem,cJ]) ⟨rfl,hI⟩
       ·exact jv (.bool (k==1)) wq (by simp[execOp,Act.eval,go_sem]) ⟨rfl,hI⟩
       ·skip
        exact jv (.bool false) wq (by simp[execOp,Act.eval,go_sem,hbp]) ⟨rfl,hI⟩
       ·exact jv (.pointer (some ⟨w.heap.size,3,none⟩)) wq (by simp[execOp,Act.eval,go_sem]) ⟨rfl,hI⟩
       ·have cJ:=hI.1.out.cell 3;exact jv (.slice (some ad) ks.length cap2) wq (by simp[execOp,Act.eval,go_sem,cJ]) ⟨rfl,hI⟩
       ·skip
        exact jv (.pointer (some (ad.add (j*4)))) wq (by simp[execOp,Act.eval,go_sem,hlt];try omega) ⟨rfl,hI⟩
       ·have hP:=hI.2.1.out;have c0:=hP.kind;have c1:=hP.text;have c2:=hP.cols;have c3:=hP.kids;dsimp only[Tre.kind,Tre.text,Tre.cols,Tre.kids] at c0 c1 c2 c3;clear hP;exact jv (.agg (nodC ky sy cy A3 ksy.length cap3)) wq (by simp[execOp,Act.eval,go_sem,c0,c1,c2,c3]) ⟨rfl,hI⟩
       ·refine jc 54 (#[.agg (nodC ky sy cy A3 ksy.length cap3)]) wq (by kernel_rfl) ((IH.out (.mk ky sy cy ksy) _ wq HCU.out (zAv.of hI.2.1.out.size hI.2.1.out.len hI.2.1.out.capl hI.2.1.out.down)).mono ?_);rintro e wa ⟨rfl,hb5⟩;exact⟨_,rfl,by rw[HFV.out],keep hb5 hI.1.out,hI.2.1.out.keep hb5,hI.2.2.1.out.keep hb5,hI.2.2.2.out.trans (hb5.mono hI.2.2.2.out.size)⟩
       ·exact jv (.bool true) wq (by simp[execOp,Act.eval,go_sem]) ⟨rfl,hI⟩
      ·intro wq hI;have HB:=hI.2.2.2;clear hI;go_wp2;go_ret;exact⟨zA1 HQ.out.symm,HB.out⟩
     ·have HFV:=zh hfv;have HS:=zh (HSN.out.trans hfv);clear hfv;refine ql [.pointer (some ⟨w.heap.size,3,none⟩),.slice (some ad) ks.length cap2,qI j,.pointer (some (ad.add (j*4))),.pointer (some (ad.add (j*4))),qI ky,.bool (ky==1),qP w.heap.size,qI k,.bool (k==1),.bool false,.bool false,.pointer (some ⟨w.heap.size,3,none⟩),.slice (some ad) ks.length cap2,qI j,.pointer (some (ad.add (j*4))),.agg (nodC ky sy cy A3 ksy.length cap3),.bool true,.bool false,.bool false] (qt 20 []) (fun wq=>Hid (Blk wq w.heap.size 25 (nodC k s cols (some ad) ks.length cap2))/\Hid (zBm wq (ad.add (j*4)) (.mk ky sy cy ksy) A3 cap3)/\Hid (zAo wq (some ad) ks)/\Hid (Below w.heap.size w wq)) ⟨K0.out.drew,HP.out.drew,HK.out.keep (zA3 (Below.refl _ _)),zA3 H0.out⟩ ?_ ?_
      ·refine⟨fun wq hI=>?_,fun wq hI=>?_,jA,fun wq hI=>?_,fun wq hI=>?_,fun wq hI=>?_,fun wq hI=>?_,fun wq hI=>?_,fun wq hI=>?_,fun wq hI=>?_,fun wq hI=>?_,jA,fun wq hI=>?_,fun wq hI=>?_,jA,fun wq hI=>?_,fun wq hI=>?_,fun wq hI=>?_,fun wq hI=>?_,jA,trivial⟩
       ·exact jv (.pointer (some ⟨w.heap.size,3,none⟩)) wq (by simp[execOp,Act.eval,go_sem]) ⟨rfl,hI⟩
       ·have cJ:=hI.1.out.cell 3;exact jv (.slice (some ad) ks.length cap2) wq (by simp[execOp,Act.eval,go_sem,cJ]) ⟨rfl,hI⟩
       ·skip
        exact jv (.pointer (some (ad.add (j*4)))) wq (by simp[execOp,Act.eval,go_sem,hlt];try omega) ⟨rfl,hI⟩
       ·exact jv (.pointer (some (ad.add (j*4)))) wq (by simp[execOp,Act.eval,go_sem]) ⟨rfl,hI⟩
       ·have cJ:wq.cell? (ad.add (j*4))=some (qI ky):=hI.2.1.out.kind;exact jv (qI ky) wq (by simp[execOp,Act.eval,go_sem,cJ]) ⟨rfl,hI⟩
       ·exact jv (.bool (ky==1)) wq (by simp[execOp,Act.eval,go_sem]) ⟨rfl,hI⟩
       ·exact jv (qP w.heap.size) wq (by simp[execOp,Act.eval,go_sem]) ⟨rfl,hI⟩
       ·have cJ:=hI.1.out.cell 0;exact jv (qI k) wq (by simp[execOp,Act.eval,go_sem,cJ]) ⟨rfl,hI⟩
       ·exact jv (.bool (k==1)) wq (by simp[execOp,Act.eval,go_sem]) ⟨rfl,hI⟩
       ·skip
        exact jv (.bool false) wq (by simp[execOp,Act.eval,go_sem,hbp]) ⟨rfl,hI⟩
       ·exact jv (.pointer (some ⟨w.heap.size,3,none⟩)) wq (by simp[execOp,Act.eval,go_sem]) ⟨rfl,hI⟩
       ·have cJ:=hI.1.out.cell 3;exact jv (.slice (some ad) ks.length cap2) wq (by simp[execOp,Act.eval,go_sem,cJ]) ⟨rfl,hI⟩
       ·skip
        exact jv (.pointer (some (ad.add (j*4)))) wq (by simp[execOp,Act.eval,go_sem,hlt];try omega) ⟨rfl,hI⟩
       ·have hP:=hI.2.1.out;have c0:=hP.kind;have c1:=hP.text;have c2:=hP.cols;have c3:=hP.kids;dsimp only[Tre.kind,Tre.text,Tre.cols,Tre.kids] at c0 c1 c2 c3;clear hP;exact jv (.agg (nodC ky sy cy A3 ksy.length cap3)) wq (by simp[execOp,Act.eval,go_sem,c0,c1,c2,c3]) ⟨rfl,hI⟩
       ·refine jc 54 (#[.agg (nodC ky sy cy A3 ksy.length cap3)]) wq (by kernel_rfl) ((IH.out (.mk ky sy cy ksy) _ wq HCU.out (zAv.of hI.2.1.out.size hI.2.1.out.len hI.2.1.out.capl hI.2.1.out.down)).mono ?_);rintro e wa ⟨rfl,hb5⟩;exact⟨_,rfl,by rw[HFV.out],keep hb5 hI.1.out,hI.2.1.out.keep hb5,hI.2.2.1.out.keep hb5,hI.2.2.2.out.trans (hb5.mono hI.2.2.2.out.size)⟩
       ·exact jv (.bool false) wq (by simp[execOp,Act.eval,go_sem]) ⟨rfl,hI⟩
      ·intro wq hI;have HK:=hI.2.2.1;have K0:=hI.1;have H0:=hI.2.2.2;clear hI;go_wp2;go_roundw
       case rel=>exact⟨j+1,by omega,by go_num,HS,K0,HK,H0⟩
       case measure=>simp[intOf];omega
    ·rw[hbp] at HBP;have HQ:=zh (show zAt (.mk k s cols ks)=false by
      rw[HQ0.out];refine zJp (HSN.out.trans ?_);rw[zJ7 ky sy cy ksy,<-HBP.out];simp)
     refine ql [.pointer (some ⟨w.heap.size,3,none⟩),.slice (some ad) ks.length cap2,qI j,.pointer (some (ad.add (j*4))),.pointer (some (ad.add (j*4))),qI ky,.bool (ky==1),qP w.heap.size,qI k,.bool (k==1),.bool true,.bool true,undef,undef,undef,undef,undef,undef,undef,.bool true] (qt 12 (qf 7 (qt 1 []))) (fun wq=>Hid (Blk wq w.heap.size 25 (nodC k s cols (some ad) ks.length cap2))/\Hid (zBm wq (ad.add (j*4)) (.mk ky sy cy ksy) A3 cap3)/\Hid (zAo wq (some ad) ks)/\Hid (Below w.heap.size w wq)) ⟨K0.out.drew,HP.out.drew,HK.out.keep (zA3 (Below.refl _ _)),zA3 H0.out⟩ ?_ ?_
     ·refine⟨fun wq hI=>?_,fun wq hI=>?_,jA,fun wq hI=>?_,fun wq hI=>?_,fun wq hI=>?_,fun wq hI=>?_,fun wq hI=>?_,fun wq hI=>?_,fun wq hI=>?_,fun wq hI=>?_,jA,rfl,rfl,rfl,rfl,rfl,rfl,rfl,jA,trivial⟩
      ·exact jv (.pointer (some ⟨w.heap.size,3,none⟩)) wq (by simp[execOp,Act.eval,go_sem]) ⟨rfl,hI⟩
      ·have cJ:=hI.1.out.cell 3;exact jv (.slice (some ad) ks.length cap2) wq (by simp[execOp,Act.eval,go_sem,cJ]) ⟨rfl,hI⟩
      ·skip
       exact jv (.pointer (some (ad.add (j*4)))) wq (by simp[execOp,Act.eval,go_sem,hlt];try omega) ⟨rfl,hI⟩
      ·exact jv (.pointer (some (ad.add (j*4)))) wq (by simp[execOp,Act.eval,go_sem]) ⟨rfl,hI⟩
      ·have cJ:wq.cell? (ad.add (j*4))=some (qI ky):=hI.2.1.out.kind;exact jv (qI ky) wq (by simp[execOp,Act.eval,go_sem,cJ]) ⟨rfl,hI⟩
      ·exact jv (.bool (ky==1)) wq (by simp[execOp,Act.eval,go_sem]) ⟨rfl,hI⟩
      ·exact jv (qP w.heap.size) wq (by simp[execOp,Act.eval,go_sem]) ⟨rfl,hI⟩
      ·have cJ:=hI.1.out.cell 0;exact jv (qI k) wq (by simp[execOp,Act.eval,go_sem,cJ]) ⟨rfl,hI⟩
      ·exact jv (.bool (k==1)) wq (by simp[execOp,Act.eval,go_sem]) ⟨rfl,hI⟩
      ·skip
       exact jv (.bool true) wq (by simp[execOp,Act.eval,go_sem,hbp]) ⟨rfl,hI⟩
     ·intro wq hI;have HB:=hI.2.2.2;clear hI;go_wp2;go_ret;exact⟨zA1 HQ.out.symm,HB.out⟩
   ·obtain rfl:j=ks.length:=by omega
    rw[List.take_length] at HX;go_wp2;go_ret;exact⟨zA1 (by rw[HQ0.out,HX.out]),H0.out⟩
theorem zB8 (t:Tre)(c:Array Value)(w:World)(hm:zA7 t<=900000)(hN:zAv w t c):Calls Tryz.prog 26 #[.agg c] w fun e w'=>e= .returned (.bool (zBa t))/\Below w.heap.size w w':=by
 obtain⟨k,s,cols,ks⟩:=t;have HQ:=zh (show zBa (.mk k s cols ks)=(decide (k=1)&&(zAt (.mk k s cols ks)&&(decide (zA7 (.mk k s cols ks)<=1000)&&decide (zCc (.mk k s cols ks)<=24)))) from rfl);obtain⟨A2,cap2,rfl,hs,hl,hc,hk⟩:=hN.form;dsimp only[qC,Tre.kind,Tre.text,Tre.cols,Tre.kids] at hs hl hc hk⊢;have HN:=zh (hN.keep (zA0 w (.cells (nodC k s cols A2 ks.length cap2) 25)));have HF:=zh (fun c w h=>zVj (zA7 (.mk k s cols ks)+1) (.mk k s cols ks) c w (by omega) h);have HC:=zh (fun c w h=>zTg (zA7 (.mk k s cols ks)+1) (.mk k s cols ks) c w (by omega) (by omega) h);have HD:=zh (fun c w h=>zTc (zA7 (.mk k s cols ks)+1) (.mk k s cols ks) c w (by omega) (by omega) h);clear hk hN;have hb1:=zGr (.mk k s cols ks);generalize hf:zAt (.mk k s cols ks)=f at*;generalize hct:zA7 (.mk k s cols ks)=n at*;generalize hdp:zCc (.mk k s cols ks)=d at*;clear hf hct hdp
 by_cases h1:k=1
 ·subst h1;rw[decide_eq_true rfl,Bool.true_and] at HQ;go_enter Tryz.func26,Tryz.ntmps26;go_wp2_with fail;have K0:=zh (Blk.new w 25 (nodC 1 s cols A2 ks.length cap2));have H0:=zh (zA0 w (.cells (nodC 1 s cols A2 ks.length cap2) 25));dsimp only[nodC] at K0 H0 HN;generalize w.alloc (.cells #[qI 1,.string s,qI cols,.slice A2 ks.length cap2] 25)=w1 at*;refine(HF.out _ _ HN.out).mono ?_;rintro e w2 ⟨rfl,hb⟩;have K0:=kp hb K0;have HN:=zh (HN.out.keep hb);have H0:=jt H0 hb;clear hb;cases f
  ·rw[Bool.false_and] at HQ;go_wp2;go_ret;exact⟨zA1 HQ.out.symm,H0.out⟩
  rw[Bool.true_and] at HQ;obtain⟨c0,c1,c2,c3⟩:=qb K0;go_wp2_with fail;refine(HC.out _ _ HN.out).mono ?_;rintro e w3 ⟨rfl,hb⟩;have K0:=kp hb K0;have HN:=zh (HN.out.keep hb);have H0:=jt H0 hb;clear hb c0 c1 c2 c3
  by_cases hn:n<=1000
  ·rw[decide_eq_true hn,Bool.true_and] at HQ;obtain⟨c0,c1,c2,c3⟩:=qb K0;go_wp2_with fail;refine(HD.out _ _ HN.out).mono ?_;rintro e w4 ⟨rfl,hb⟩;have H0:=jt H0 hb;clear hb c0 c1 c2 c3;go_wp2;go_ret;exact⟨zA1 (by rw[HQ.out];first|rfl|(rw[decide_eq_decide];omega)),H0.out⟩
  ·rw[decide_eq_false hn,Bool.false_and] at HQ;go_wp2;go_ret;exact⟨zA1 HQ.out.symm,H0.out⟩
 ·rw[decide_eq_false h1,Bool.false_and] at HQ;have q1:(k==1)=false:=bn h1;clear h1;go_enter Tryz.func26,Tryz.ntmps26;go_wp2;go_ret;exact⟨zA1 HQ.out.symm,zA0 _ _⟩
def zR7:Array Value:= #[qE,qI 0,.nilFunc,.string ⟨#[114,111,119]⟩,qI 0,.func (.func 70) #[] #[],.string ⟨#[115,121,109]⟩,qI 0,.func (.func 67) #[] #[],.string ⟨#[110,117,109]⟩,qI 0,.func (.func 71) #[] #[],.string ⟨#[116,101,120,116]⟩,qI 0,.func (.func 72) #[] #[],.string ⟨#[102,114,97,99]⟩,qI 2,.func (.func 70) #[] #[],.string ⟨#[114,111,111,116]⟩,qI 2,.func (.func 70) #[] #[],.string ⟨#[115,117,98]⟩,qI 2,.func (.func 70) #[] #[],.string ⟨#[115,117,112]⟩,qI 2,.func (.func 70) #[] #[],.string ⟨#[98,111,116,104]⟩,qI 3,.func (.func 70) #[] #[],.string ⟨#[97,99,99,101,110,116]⟩,qI 1,.func (.func 73) #[] #[],.string ⟨#[102,101,110,99,101]⟩,qI 1,.func (.func 74) #[] #[],.string ⟨#[109,97,116,114,105,120]⟩,qI 0,.func (.func 70) #[] #[]]
def chkC (n:Int):Array Value:= #[qE,qI 0,.nilFunc,.string ⟨#[114,111,119]⟩,qI 0,.func (.func 70) #[] #[],.string ⟨#[115,121,109]⟩,qI 0,.func (.func 67) #[] #[],.string ⟨#[110,117,109]⟩,qI 0,.func (.func 71) #[] #[],.string ⟨#[116,101,120,116]⟩,qI 0,.func (.func 72) #[] #[],.string ⟨#[102,114,97,99]⟩,qI 2,.func (.func 70) #[] #[],.string ⟨#[114,111,111,116]⟩,qI 2,.func (.func 70) #[] #[],.string ⟨#[115,117,98]⟩,qI 2,.func (.func 70) #[] #[],.string ⟨#[115,117,112]⟩,qI 2,.func (.func 70) #[] #[],.string ⟨#[98,111,116,104]⟩,qI 3,.func (.func 70) #[] #[],.string ⟨#[97,99,99,101,110,116]⟩,qI 1,.func (.func 73) #[] #[],.string ⟨#[102,101,110,99,101]⟩,qI 1,.func (.func 74) #[] #[],.string ⟨#[109,97,116,114,105,120]⟩,qI 0,.func (.func 70) #[] #[],qI n]
theorem zW3 (w:World):Calls Tryz.prog 36 #[] w fun e w'=>e= .returned (.agg zR7)/\Below w.heap.size w w':=by
 have hl:=run_loadVar_new (P:=Tryz.prog) w 85 zR7 13 84 Tryz.underlying85 (by kernel_rfl);go_enter Tryz.func36,Tryz.ntmps36;go_wp2_with (refine wpList_store_row (by rfl) 85 (.tmp 0) (.tmp 13) (by rfl) w.heap.size zR7 (by rfl) (by rfl) 85 _ (heap_alloc_new w _) (by kernel_rfl) (by rfl) (by kernel_rfl) ?_;rw[World.setRow_alloc_new])
 refine bodyPost_ret (v:=.agg zR7) (by simp[results,Tryz.results36,Act.put,asAddr,hl]) rfl ⟨rfl,zA0 _ _⟩
def zDb (k:Nat):Int:=if k=5\/k=6\/k=7\/k=8 then 2 else if k=9 then 3 else if k=10\/k=11 then 1 else 0
theorem zWv (k:Nat)(h:k<=12)(n:Int):(chkC n)[k*3+1]?=some (qI (zDb k)):=by
 match k,h with
 |0,_=>rfl
 |1,_=>rfl
 |2,_=>rfl
 |3,_=>rfl
 |4,_=>rfl
 |5,_=>rfl
 |6,_=>rfl
 |7,_=>rfl
 |8,_=>rfl
 |9,_=>rfl
 |10,_=>rfl
 |11,_=>rfl
 |12,_=>rfl
 |k+13,h=>omega
theorem yCo (s:ByteArray):symB s.toList=zE3 2 s.data.toList:=by rw[tl];rfl
theorem zM1 (k:Nat)(h1:1<=k)(h12:k<=12)(s:ByteArray)(hs:s.size<=9223372036854775807):∃F:FuncId,(∀n,(chkC n)[k*3+2]?=some (.func (.func F) #[] #[]))/\(∀args w,(callFunc F args).run Tryz.prog w= .ok (.enter F args) w)/\(∀w,Calls Tryz.prog F #[.string s] w fun e w'=>e= .returned (.bool (zE3 k s.data.toList))/\Below w.heap.size w w'):=by
 have hl:s.data.toList.length=s.size:=by simp
 have he:∀w,Calls Tryz.prog 70 #[.string s] w fun e w'=>e= .returned (.bool s.data.toList.isEmpty)/\Below w.heap.size w w':=fun w=>by
  refine(zXe s w).mono ?_;rintro e w1 ⟨rfl,rfl⟩;exact⟨by rw[tl],Below.refl _ _⟩
 match k,h1,h12 with
 |1,_,_=>exact⟨70,fun _=>rfl,fun args w=>by kernel_rfl,he⟩
 |2,_,_=>exact⟨67,fun _=>rfl,fun args w=>by kernel_rfl,fun w=>by
   refine(zI5 s w hs).mono ?_;rintro e w1 ⟨rfl,hb⟩;exact⟨by rw[yCo];rfl,hb⟩⟩
 |3,_,_=>exact⟨71,fun _=>rfl,fun args w=>by kernel_rfl,fun w=>zS5 s w hs⟩
 |4,_,_=>exact⟨72,fun _=>rfl,fun args w=>by kernel_rfl,fun w=>by
   refine(zVb s w hs).mono ?_;rintro e w1 ⟨rfl,rfl⟩;exact⟨by rw[<-hl,tl];rfl,Below.refl _ _⟩⟩
 |5,_,_=>exact⟨70,fun _=>rfl,fun args w=>by kernel_rfl,he⟩
 |6,_,_=>exact⟨70,fun _=>rfl,fun args w=>by kernel_rfl,he⟩
 |7,_,_=>exact⟨70,fun _=>rfl,fun args w=>by kernel_rfl,he⟩
 |8,_,_=>exact⟨70,fun _=>rfl,fun args w=>by kernel_rfl,he⟩
 |9,_,_=>exact⟨70,fun _=>rfl,fun args w=>by kernel_rfl,he⟩
 |10,_,_=>exact⟨73,fun _=>rfl,fun args w=>by kernel_rfl,fun w=>by
   refine(zLx s w).mono ?_;rintro e w1 ⟨rfl,rfl⟩;exact⟨by rw[tl];rfl,Below.refl _ _⟩⟩
 |11,_,_=>exact⟨74,fun _=>rfl,fun args w=>by kernel_rfl,fun w=>zUn s w⟩
 |12,_,_=>exact⟨70,fun _=>rfl,fun args w=>by kernel_rfl,he⟩
theorem yAv {k:Int}{s:List UInt8}{c:Int}{n:Nat}(h:k<1\/12<k):ownT k s c n=false:=by
 unfold ownT zBu;rw[if_neg (by omega),if_neg (by omega),if_neg (by omega),if_neg (by omega),if_neg (by omega),if_neg (by omega),Bool.and_false,Bool.and_false]
theorem yCw (gc:Nat)(n:Int)(p:Addr)(k:Int)(s:ByteArray)(cols:Int)(ks:List Tre)(A:Option Addr)(cap:Nat)(w:World)(hP:zBm w p (.mk k s cols ks) A cap)(hC:Blk w gc 88 (chkC n))(hk:k<1\/12<k):Calls Tryz.prog 75 #[qP gc,.pointer (some p)] w fun e w'=>e= .returned (.bool (ownT k s.data.toList cols ks.length))/\Below w.heap.size w w':=by
 have HP:=zh hP;have HC:=zh hC;have HQ:=zh (yAv (s:=s.data.toList) (c:=cols) (n:=ks.length) hk);clear hP hC
 by_cases h1:k<1
 ·clear hk;go_enter Tryz.func75,Tryz.ntmps75;go_upto_region 1 with(fail)
  refine ql [.pointer (some p),.pointer (some p),.pointer (some p),qI k,.bool true,.bool true,undef,undef,undef,undef,undef,.bool true,.bool true,undef,undef,undef,undef,undef,undef,undef,undef,undef,undef,undef,undef,undef,undef,undef,undef,.bool true] (qt 6 (qf 5 (qt 2 (qf 16 (qt 1 []))))) (fun wq=>Hid (zBm wq p (.mk k s cols ks) A cap)/\Hid (Blk wq gc 88 (chkC n))/\Hid (Below w.heap.size w wq)) ⟨HP.out.drew,HC.out.drew,zA3 (Below.refl _ _)⟩ ?_ ?_
  ·refine⟨jA,jB,jB,jQ fun wq hI=>(show wq.cell? p=some (qI k) from hI.1.out.kind),fun wq hI=>?_,jA,rfl,rfl,rfl,rfl,rfl,jA,jA,rfl,rfl,rfl,rfl,rfl,rfl,rfl,rfl,rfl,rfl,rfl,rfl,rfl,rfl,rfl,rfl,jA,trivial⟩
   ·skip
    exact jv (.bool true) wq (by simp[go_sem,h1]) ⟨rfl,hI⟩
  ·intro wq hI;have HB:=hI.2.2;clear hI;go_wp2;go_ret;exact⟨zA1 HQ.out.symm,HB.out⟩
 ·have h12:12<k:=by omega
  clear hk;go_enter Tryz.func75,Tryz.ntmps75;go_upto_region 1 with(fail)
  refine ql [.pointer (some p),.pointer (some p),.pointer (some p),qI k,.bool false,.bool false,.pointer (some p),.pointer (some p),.pointer (some p),qI k,.bool true,.bool true,.bool true,undef,undef,undef,undef,undef,undef,undef,undef,undef,undef,undef,undef,undef,undef,undef,undef,.bool true] (qt 13 (qf 16 (qt 1 []))) (fun wq=>Hid (zBm wq p (.mk k s cols ks) A cap)/\Hid (Blk wq gc 88 (chkC n))/\Hid (Below w.heap.size w wq)) ⟨HP.out.drew,HC.out.drew,zA3 (Below.refl _ _)⟩ ?_ ?_
  ·refine⟨jA,jB,jB,jQ fun wq hI=>(show wq.cell? p=some (qI k) from hI.1.out.kind),fun wq hI=>?_,jA,jA,jB,jB,jQ fun wq hI=>(show wq.cell? p=some (qI k) from hI.1.out.kind),fun wq hI=>?_,jA,jA,rfl,rfl,rfl,rfl,rfl,rfl,rfl,rfl,rfl,rfl,rfl,rfl,rfl,rfl,rfl,rfl,jA,trivial⟩
   ·skip
    exact jv (.bool false) wq (by simp[go_sem];omega) ⟨rfl,hI⟩
   ·skip
    exact jv (.bool true) wq (by simp[go_sem,h12]) ⟨rfl,hI⟩
  ·intro wq hI;have HB:=hI.2.2;clear hI;go_wp2;go_ret;exact⟨zA1 HQ.out.symm,HB.out⟩
theorem yB3 (gc:Nat)(n:Int)(p:Addr)(kk:Nat)(s:ByteArray)(cols:Int)(ks:List Tre)(A:Option Addr)(cap:Nat)(w:World)(hP:zBm w p (.mk kk s cols ks) A cap)(hC:Blk w gc 88 (chkC n))(hk1:1<=kk)(hk12:kk<=12)(htb:zE3 kk s.data.toList=false):Calls Tryz.prog 75 #[qP gc,.pointer (some p)] w fun e w'=>e= .returned (.bool (ownT kk s.data.toList cols ks.length))/\Below w.heap.size w w':=by
 obtain⟨F,hF,hE,hT⟩:=zM1 kk hk1 hk12 s hP.size;have HP:=zh hP;have HC:=zh hC;have HF:=zh hF;have HE:=zh hE;have HT:=zh hT;have HTB:=zh htb;have HQ:=zh (show ownT kk s.data.toList cols ks.length=false by unfold ownT;rw[htb];rfl);clear hP hC hF hE hT htb;go_enter Tryz.func75,Tryz.ntmps75;go_upto_region 1 with(fail)
 ·skip
  refine ql [.pointer (some p),.pointer (some p),.pointer (some p),qI (kk:Int),.bool false,.bool false,.pointer (some p),.pointer (some p),.pointer (some p),qI (kk:Int),.bool false,.bool false,.bool false,qP gc,.pointer (some p),.pointer (some p),.pointer (some p),qI (kk:Int),qP gc,qP gc,.pointer (some ⟨gc,kk*3,none⟩),.pointer (some ⟨gc,kk*3+2,none⟩),.func (.func F) #[] #[],.pointer (some p),.pointer (some p),.pointer (some ⟨p.block,p.off+1,none⟩),.string s,.bool false,.bool true,.bool true] (qt 30 []) (fun wq=>Hid (zBm wq p (.mk (kk:Int) s cols ks) A cap)/\Hid (Blk wq gc 88 (chkC n))/\Hid (Below w.heap.size w wq)) ⟨HP.out.drew,HC.out.drew,zA3 (Below.refl _ _)⟩ ?_ ?_
  ·refine⟨jA,jB,jB,jQ fun wq hI=>(show wq.cell? p=some (qI (kk:Int)) from hI.1.out.kind),fun wq hI=>?_,jA,jA,jB,jB,jQ fun wq hI=>(show wq.cell? p=some (qI (kk:Int)) from hI.1.out.kind),fun wq hI=>?_,jA,jA,jA,jA,jB,jB,jQ fun wq hI=>(show wq.cell? p=some (qI (kk:Int)) from hI.1.out.kind),jB,jB,fun wq hI=>?_,jB,jQ fun wq hI=>(show wq.cell? ⟨gc,kk*3+2,none⟩=some (.func (.func F) #[] #[]) from(hI.2.1.out.cell _).trans (HF.out n)),jA,jB,jB,jQ fun wq hI=>(show wq.cell? ⟨p.block,p.off+1,none⟩=some (.string s) from hI.1.out.text),fun wq hI=>?_,jB,jA,trivial⟩
   ·skip
    exact jv (.bool false) wq (by simp[go_sem];omega) ⟨rfl,hI⟩
   ·skip
    exact jv (.bool false) wq (by simp[go_sem];omega) ⟨rfl,hI⟩
   ·have hidx:=hk12;exact jv (.pointer (some ⟨gc,kk*3,none⟩)) wq (by simp[go_sem];try omega) ⟨rfl,hI⟩
   ·refine jc F (#[.string s]) wq (by simp[execOp,Act.eval,go_sem,HE.out]) ((HT.out wq).mono ?_);rintro e wa ⟨rfl,hb5⟩;exact⟨_,rfl,by rw[HTB.out],hI.1.out.keep hb5,keep hb5 hI.2.1.out,hI.2.2.out.trans (hb5.mono hI.2.2.out.size)⟩
  ·intro wq hI;have HB:=hI.2.2;clear hI;go_wp2;go_ret;exact⟨zA1 HQ.out.symm,HB.out⟩
end Go.Proofs.YtapgncbegadbnaaGreatDoor.At
