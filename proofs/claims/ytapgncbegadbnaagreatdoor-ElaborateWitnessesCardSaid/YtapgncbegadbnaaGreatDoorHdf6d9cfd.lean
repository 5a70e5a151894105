/- The reader of the program: newReader, operator. -/
import Derived.Test.YtapgncbegadbnaaGreatDoorH8bd5dd82
set_option maxRecDepth 100000
set_option maxHeartbeats 4000000
namespace Go.Proofs.YtapgncbegadbnaaGreatDoor
namespace At
open Go.RowKit
theorem zN6 (k:Int):∀(a b:List Tre) (D n:Nat),chkL k (a++b) D n=if(chkL k a D n).1=true then chkL k b D (chkL k a D n).2 else chkL k a D n
 |[],b,D,n=>by rw[List.nil_append,show chkL k [] D n=(true,n) by rw[chkL]];rfl
 |x::a,b,D,n=>by
  rw[List.cons_append,chkL,chkL];cases zBk k x.kind
  ·cases hc:(chkT x D n).1
   ·simp only[Bool.false_eq_true,↓reduceIte]
   ·simp only[Bool.false_eq_true,↓reduceIte];exact zN6 k a b D _
  ·simp only[Bool.false_eq_true,↓reduceIte]
theorem zUt {k:Int}{ks:List Tre}{j D n nj:Nat}{y:Tre}(hy:ks[j]?=some y)(h:chkL k (ks.take j) D n=(true,nj)):chkL k (ks.take (j+1)) D n=if zBk k y.kind then(false,nj) else((chkT y D nj).1,(chkT y D nj).2):=by
 rw[List.take_add_one,hy,Option.toList,zN6,h,if_pos rfl,chkL];cases zBk k y.kind
 ·cases hc:(chkT y D nj).1
  ·simp only[Bool.false_eq_true,↓reduceIte]
  ·simp only[Bool.false_eq_true,↓reduceIte,chkL]
 ·simp only[↓reduceIte]
theorem zOg {k:Int}{ks:List Tre}{j D n:Nat}(h:(chkL k (ks.take j) D n).1=false):chkL k ks D n=chkL k (ks.take j) D n:=by
 conv=>lhs;rw[<-List.take_append_drop j ks]
 rw[zN6,h,if_neg (by simp)]
def InvC (gc n1 n2:Nat):List Bool->World->Prop
 |[true],w=>Hid (Blk w gc 88 (chkC n2))
 |_,w=>Hid (Blk w gc 88 (chkC n1))
theorem yAw (n:Int)(v:Int):(chkC n).setIfInBounds 39 (qI v)=chkC v:=rfl
theorem yAg (n:Int):(chkC n)[39]?=some (qI n):=rfl
theorem zZt:∀(m:Nat) (t:Tre) (p:Addr) (A:Option Addr) (cap gc n d:Nat) (w0 w:World),zA7 t<m->zBm w0 p t A cap->Below w0.heap.size w0 w->Blk w gc 88 (chkC n)->w0.heap.size<=gc->n<=1000->d<=25->Calls Tryz.prog 37 #[qP gc,.pointer (some p),qI (d:Int)] w fun e w'=>e= .returned (.bool (chkT t d n).1)/\Blk w' gc 88 (chkC (chkT t d n).2)/\Below w0.heap.size w0 w':=by
 intro m
 induction m with
 |zero=>intro t p A cap gc n d w0 w h;omega
 |succ m ih=>
  intro t p A cap gc n d w0 w hm hP hB hC hgc hn hd;have IH:=zh ih;clear ih;obtain⟨k,s,cols,ks⟩:=t;have HP:=zh hP;have HM:=zh hm;have HQ0:=zh (show chkT (.mk k s cols ks) d n=if 1000<n+1\/24<d\/ownT k s.data.toList cols ks.length=false then(false,n+1) else chkL k ks (d+1) (n+1) by rw[chkT]);have f0:=hC.frozen 39;have f1:=hC.cell 39;rw[yAg] at f1;have HC1:=zh (show Blk (w.setCell ⟨gc,39,none⟩ (qI ((n:Int)+1))) gc 88 (chkC (n+1:Nat)) by
   have:=hC.set_ 39 (qI ((n:Int)+1));rw[yAw] at this;exact this)
  have HB1:=zh (hB.setCell (p:=⟨gc,39,none⟩) hgc (qI ((n:Int)+1)));clear hP hB hC hm;go_enter Tryz.func37,Tryz.ntmps37
  by_cases h1:1000<n+1
  ·have HQ:=zh (show chkT (.mk k s cols ks) d n=(false,n+1) by rw[HQ0.out,if_pos (.inl h1)]);go_wp2;go_ret;exact⟨zA1 (by rw[HQ.out]),by rw[HQ.out];exact HC1.out,HB1.out⟩
  by_cases h2:24<d
  ·have HQ:=zh (show chkT (.mk k s cols ks) d n=(false,n+1) by rw[HQ0.out,if_pos (.inr (.inl h2))]);go_wp2;go_ret;exact⟨zA1 (by rw[HQ.out]),by rw[HQ.out];exact HC1.out,HB1.out⟩
  have f2:=HC1.out.cell 39;rw[yAg] at f2;go_wp2_with fail;generalize w.setCell ⟨gc,39,none⟩ (qI ((n:Int)+1))=w1 at*;clear f0 f1 f2;refine(zGz gc (n+1:Nat) p k s cols ks A cap w1 (HP.out.keep HB1.out) HC1.out).mono ?_;rintro e w2 ⟨rfl,hb⟩;have HC:=kp hb HC1;have HB:=jt HB1 hb;clear hb HC1 HB1;cases ho:ownT k s.data.toList cols ks.length
  ·have HQ:=zh (show chkT (.mk k s cols ks) d n=(false,n+1) by rw[HQ0.out,if_pos (.inr (.inr ho))]);clear ho;go_wp2;go_ret;exact⟨zA1 (by rw[HQ.out]),by rw[HQ.out];exact HC.out,HB.out⟩
  rw[if_neg (by rintro(h|h|h);exact h1 h;exact h2 h;rw[ho] at h;cases h)] at HQ0;clear ho;have d3:w2.cell? ⟨p.block,p.off+3,none⟩=some (.slice A ks.length cap):=(HP.out.keep HB.out).kids;have hlen:=HP.out.len;have hcap:=HP.out.capl;dsimp only[Tre.kids] at hlen;have hwd:IntKind.i64.wrap ((d:Int)+1)=((d:Int)+1):=IntWalk.i64_in _ (by omega);have HWD:=zh hwd;clear hwd;go_wp2_with fail;clear d3
  go_loopw [35] (fun i wr=>∃(j nj:Nat),j<=ks.length/\i=qI j/\nj<=1000/\Hid (chkL k (ks.take j) (d+1) (n+1)=(true,nj))/\Hid (Blk wr gc 88 (chkC nj))/\Hid (Below w0.heap.size w0 wr)) (fun i _=>ks.length -(intOf i).toNat)
  case atStart=>exact⟨0,n+1,by omega,rfl,by omega,zh (show chkL k (ks.take 0) (d+1) (n+1)=(true,n+1) by rw[List.take_zero,chkL]),HC,HB⟩
  case round=>
   clear HC HB;obtain⟨j,nj,hj,rfl,hnj,HX,HC,HB⟩:=hrel
   by_cases hlt:j<ks.length
   ·obtain⟨y,hy⟩:∃y,ks[j]?=some y:=⟨_,gE hlt⟩
    obtain⟨ad,A3,cap3,rfl,hY⟩:=HP.out.down.ptr hy;have HY:=zh hY;have hcy:=zDe hy;have HSN:=zh (zUt hy HX.out);have HCU:Hid (zA7 y<m):=by have h1:=HM.out;show _<_;rw[zA7] at h1;omega
    have HI:=zh ((zN5 y (d+1) nj hnj));obtain⟨ky,sy,cy,ksy⟩:=y;clear hy hY hcy;rw[zJ7] at HSN;have HBP:=zh (show((k==1)==(ky==1))=zBk k ky by rw[<-zLz];cases (k==1)<;>cases (ky==1)<;>rfl);go_upto_region 7 with(fail)
    have hwd:=HWD.out;cases hbp:((k==1)==(ky==1))
    ·rw[hbp] at HBP;rw[<-HBP.out,if_neg (by simp)] at HSN;obtain⟨n2,hn2⟩:∃n2,n2=(chkT (.mk ky sy cy ksy) (d+1) nj).2:=⟨_,rfl⟩
     have HN2:=zh hn2;clear hn2;cases hfv:(chkT (.mk ky sy cy ksy) (d+1) nj).1
     ·have HFV:=zh hfv;have HQ:=zh (show chkT (.mk k s cols ks) d n=(false,n2) by rw[HQ0.out,zOg (j:=j+1) (by rw[HSN.out];exact hfv),HSN.out,hfv,HN2.out]);clear hfv;refine zIs (by kernel_rfl) _ [.pointer (some p),.pointer (some p),.pointer (some p),qI k,.bool (k==1),.pointer (some p),.pointer (some p),.pointer (some ⟨p.block,p.off+3,none⟩),.slice (some ad) ks.length cap,qI j,.pointer (some (ad.add (j*4))),.pointer (some (ad.add (j*4))),qI ky,.bool (ky==1),.bool false,.bool false,qP gc,.pointer (some p),.pointer (some p),.pointer (some ⟨p.block,p.off+3,none⟩),.slice (some ad) ks.length cap,qI j,.pointer (some (ad.add (j*4))),qI (d:Int),qI ((d+1:Nat):Int),.bool false,.bool true,.bool true] [true,true,true,true,true,true,true,true,true,true,true,true,true,true,true,true,true,true,true,true,true,true,true,true,true,true,true,true] [25] (fun L wq=>Hid (Below w0.heap.size w0 wq)/\InvC gc nj n2 L wq) (by kernel_rfl) (by simp[fin,zBz,zAk,List.range,List.range.loop,Act.put];rfl) (by kernel_rfl) (by kernel_rfl) ⟨zA3 HB.out,zh HC.out.drew⟩ ?_ ?_
      ·refine⟨jM,jO,jO,fun L wq hL hb ha hI=>?_,jO,jM,jO,jO,fun L wq hL hb ha hI=>?_,jM,fun L wq hL hb ha hI=>?_,jO,fun L wq hL hb ha hI=>?_,jO,fun L wq hL hb ha hI=>?_,jM,jM,jM,jO,jO,fun L wq hL hb ha hI=>?_,jM,fun L wq hL hb ha hI=>?_,jM,fun L wq hL hb ha hI=>?_,fun L wq hL hb ha hI=>?_,jO,jM,trivial⟩
       ·have cJ:wq.cell? p=some (qI k):=(HP.out.keep hI.1.out).kind;exact jv (qI k) wq (by simp[go_sem,cJ]) ⟨rfl,hI⟩
       ·have cJ:wq.cell? ⟨p.block,p.off+3,none⟩=some (.slice (some ad) ks.length cap):=(HP.out.keep hI.1.out).kids;exact jv (.slice (some ad) ks.length cap) wq (by simp[go_sem,cJ]) ⟨rfl,hI⟩
       ·skip
        exact jv (.pointer (some (ad.add (j*4)))) wq (by simp[go_sem,hlt];try omega) ⟨rfl,hI⟩
       ·have cJ:wq.cell? (ad.add (j*4))=some (qI ky):=(HY.out.keep hI.1.out).kind;exact jv (qI ky) wq (by simp[go_sem,cJ]) ⟨rfl,hI⟩
       ·skip
        exact jv (.bool false) wq (by simp[go_sem,hbp]) ⟨rfl,hI⟩
       ·have cJ:wq.cell? ⟨p.block,p.off+3,none⟩=some (.slice (some ad) ks.length cap):=(HP.out.keep hI.1.out).kids;exact jv (.slice (some ad) ks.length cap) wq (by simp[go_sem,cJ]) ⟨rfl,hI⟩
       ·skip
        exact jv (.pointer (some (ad.add (j*4)))) wq (by simp[go_sem,hlt];try omega) ⟨rfl,hI⟩
       ·skip
        exact jv (qI ((d+1:Nat):Int)) wq (by simp[go_sem,hwd]) ⟨rfl,hI⟩
       ·have e8:L 25=false:=hL;simp only[List.map,e8] at hI;refine jc 37 (#[qP gc,.pointer (some (ad.add (j*4))),qI ((d+1:Nat):Int)]) wq (by kernel_rfl) ((IH.out (.mk ky sy cy ksy) (ad.add (j*4)) A3 cap3 gc nj (d+1) w0 wq HCU.out HY.out hI.1.out hI.2.out hgc hnj (by omega)).mono ?_);rintro e wa ⟨rfl,hb5,hb6⟩;exact⟨_,rfl,by rw[HFV.out],hb6,show Hid (Blk wa gc 88 (chkC n2)) from zh (by rw[HN2.out];exact hb5)⟩
      ·intro wq hI;have HB:=hI.1;have HC:=hI.2;clear hI;go_wp2;go_ret;exact⟨zA1 (by rw[HQ.out]),by rw[HQ.out];exact HC.out,HB.out⟩
     ·have HFV:=zh hfv;have HS:=zh (show chkL k (ks.take (j+1)) (d+1) (n+1)=(true,n2) by rw[HSN.out,hfv,HN2.out]);have HN22:=zh (show n2<=1000 by have h3:=HI.out.1.1 hfv;have h4:=HI.out.2 hfv;rw[HN2.out,h4];exact h3.2.2);clear hfv;refine zIs (by kernel_rfl) _ [.pointer (some p),.pointer (some p),.pointer (some p),qI k,.bool (k==1),.pointer (some p),.pointer (some p),.pointer (some ⟨p.block,p.off+3,none⟩),.slice (some ad) ks.length cap,qI j,.pointer (some (ad.add (j*4))),.pointer (some (ad.add (j*4))),qI ky,.bool (ky==1),.bool false,.bool false,qP gc,.pointer (some p),.pointer (some p),.pointer (some ⟨p.block,p.off+3,none⟩),.slice (some ad) ks.length cap,qI j,.pointer (some (ad.add (j*4))),qI (d:Int),qI ((d+1:Nat):Int),.bool true,.bool false,.bool false] [true,true,true,true,true,true,true,true,true,true,true,true,true,true,true,true,true,true,true,true,true,true,true,true,true,true,true,true] [25] (fun L wq=>Hid (Below w0.heap.size w0 wq)/\InvC gc nj n2 L wq) (by kernel_rfl) (by simp[fin,zBz,zAk,List.range,List.range.loop,Act.put];rfl) (by kernel_rfl) (by kernel_rfl) ⟨zA3 HB.out,zh HC.out.drew⟩ ?_ ?_
      ·refine⟨jM,jO,jO,fun L wq hL hb ha hI=>?_,jO,jM,jO,jO,fun L wq hL hb ha hI=>?_,jM,fun L wq hL hb ha hI=>?_,jO,fun L wq hL hb ha hI=>?_,jO,fun L wq hL hb ha hI=>?_,jM,jM,jM,jO,jO,fun L wq hL hb ha hI=>?_,jM,fun L wq hL hb ha hI=>?_,jM,fun L wq hL hb ha hI=>?_,fun L wq hL hb ha hI=>?_,jO,jM,trivial⟩
       ·have cJ:wq.cell? p=some (qI k):=(HP.out.keep hI.1.out).kind;exact jv (qI k) wq (by simp[go_sem,cJ]) ⟨rfl,hI⟩
       ·have cJ:wq.cell? ⟨p.block,p.off+3,none⟩=some (.slice (some ad) ks.length cap):=(HP.out.keep hI.1.out).kids;exact jv (.slice (some ad) ks.length cap) wq (by simp[go_sem,cJ]) ⟨rfl,hI⟩
       ·skip
        exact jv (.pointer (some (ad.add (j*4)))) wq (by simp[go_sem,hlt];try omega) ⟨rfl,hI⟩
       ·have cJ:wq.cell? (ad.add (j*4))=some (qI ky):=(HY.out.keep hI.1.out).kind;exact jv (qI ky) wq (by simp[go_sem,cJ]) ⟨rfl,hI⟩
       ·skip
        exact jv (.bool false) wq (by simp[go_sem,hbp]) ⟨rfl,hI⟩
       ·have cJ:wq.cell? ⟨p.block,p.off+3,none⟩=some (.slice (some ad) ks.length cap):=(HP.out.keep hI.1.out).kids;exact jv (.slice (some ad) ks.length cap) wq (by simp[go_sem,cJ]) ⟨rfl,hI⟩
       ·skip
        exact jv (.pointer (some (ad.add (j*4)))) wq (by simp[go_sem,hlt];try omega) ⟨rfl,hI⟩
       ·skip
        exact jv (qI ((d+1:Nat):Int)) wq (by simp[go_sem,hwd]) ⟨rfl,hI⟩
       ·have e8:L 25=false:=hL;simp only[List.map,e8] at hI;refine jc 37 (#[qP gc,.pointer (some (ad.add (j*4))),qI ((d+1:Nat):Int)]) wq (by kernel_rfl) ((IH.out (.mk ky sy cy ksy) (ad.add (j*4)) A3 cap3 gc nj (d+1) w0 wq HCU.out HY.out hI.1.out hI.2.out hgc hnj (by omega)).mono ?_);rintro e wa ⟨rfl,hb5,hb6⟩;exact⟨_,rfl,by rw[HFV.out],hb6,show Hid (Blk wa gc 88 (chkC n2)) from zh (by rw[HN2.out];exact hb5)⟩
      ·intro wq hI;have HB:=hI.1;have HC:=hI.2;clear hI;go_wp2;go_roundw
       case rel=>exact⟨j+1,n2,by omega,by go_num,HN22.out,HS,HC,HB⟩
       case measure=>simp[intOf];omega
    ·rw[hbp] at HBP;rw[<-HBP.out,if_pos rfl] at HSN;have HQ:=zh (show chkT (.mk k s cols ks) d n=(false,nj) by rw[HQ0.out,zOg (j:=j+1) (by rw[HSN.out]),HSN.out]);obtain⟨n2,hn2⟩:∃n2,n2=nj:=⟨_,rfl⟩
     have HN2:=zh hn2;clear hn2;refine ql [.pointer (some p),.pointer (some p),.pointer (some p),qI k,.bool (k==1),.pointer (some p),.pointer (some p),.pointer (some ⟨p.block,p.off+3,none⟩),.slice (some ad) ks.length cap,qI j,.pointer (some (ad.add (j*4))),.pointer (some (ad.add (j*4))),qI ky,.bool (ky==1),.bool true,.bool true,undef,undef,undef,undef,undef,undef,undef,undef,undef,undef,undef,.bool true] (qt 16 (qf 11 (qt 1 []))) (fun wq=>Hid (Below w0.heap.size w0 wq)/\Hid (Blk wq gc 88 (chkC nj))) ⟨zA3 HB.out,zh HC.out.drew⟩ ?_ ?_
     ·refine⟨jA,jB,jB,jQ fun wq hI=>(show wq.cell? p=some (qI k) from(HP.out.keep hI.1.out).kind),jB,jA,jB,jB,jQ fun wq hI=>(show wq.cell? ⟨p.block,p.off+3,none⟩=some (.slice (some ad) ks.length cap) from(HP.out.keep hI.1.out).kids),jA,fun wq hI=>?_,jB,jQ fun wq hI=>(show wq.cell? (ad.add (j*4))=some (qI ky) from(HY.out.keep hI.1.out).kind),jB,fun wq hI=>?_,jA,rfl,rfl,rfl,rfl,rfl,rfl,rfl,rfl,rfl,rfl,rfl,jA,trivial⟩
      ·skip
       exact jv (.pointer (some (ad.add (j*4)))) wq (by simp[go_sem,hlt];try omega) ⟨rfl,hI⟩
      ·skip
       exact jv (.bool true) wq (by simp[go_sem,hbp]) ⟨rfl,hI⟩
     ·intro wq hI;have HB:=hI.1;have HC:=hI.2;clear hI;go_wp2;go_ret;exact⟨zA1 (by rw[HQ.out]),by rw[HQ.out];exact HC.out,HB.out⟩
   ·obtain rfl:j=ks.length:=by omega
    rw[List.take_length] at HX;rw[HX.out] at HQ0;go_wp2;go_ret;exact⟨zA1 (by rw[HQ0.out]),by rw[HQ0.out];exact HC.out,HB.out⟩
theorem zFh {P:Program}{ops:Array Oper}{rest:List Oper}{o:Oper}{a:Act}{w:World}{Q:Exit->Act->World->Prop}(hg:o.guard=none)(t:TypeId)(parts:Array (Nat×Operand))(ho:o.op= .build t parts)(cells:Array Value)
  (hf:P.built t (parts.map fun(i,x)=>(i,a.eval x)).toList=some cells) (h:wpList P ops Q rest (a.put o.dst (.agg cells)) w):wpList P ops Q (o::rest) a w:=
 wpList_build hg t parts ho (by rw[hf];rfl) (by rw[hf];exact h)
theorem zEq (t:Tre)(c:Array Value)(w:World)(hN:zAv w t c):Calls Tryz.prog 19 #[.agg c] w fun e w'=>e= .returned (.bool (zBa t))/\Below w.heap.size w w':=by
 obtain⟨k,s,cols,ks⟩:=t;have HQ:=zh (zVe (.mk k s cols ks));obtain⟨A2,cap2,rfl,hs,hl,hc,hk⟩:=hN.form;dsimp only[qC,Tre.kind,Tre.text,Tre.cols,Tre.kids] at hs hl hc hk⊢;rw[zJ7] at HQ;have K0:=zh (Blk.new w 25 (nodC k s cols A2 ks.length cap2));have H0:=zh (zA0 w (.cells (nodC k s cols A2 ks.length cap2) 25));have HK:=zh (hk.keep H0.out);clear hk hN;dsimp only[nodC] at K0 H0 HK;go_enter Tryz.func19,Tryz.ntmps19;go_wp2_with fail;generalize w.alloc (.cells #[qI k,.string s,qI cols,.slice A2 ks.length cap2] 25)=w1 at*;refine(zW3 w1).mono ?_;rintro e w2 ⟨rfl,hb⟩;have K0:=kp hb K0;have HK:=zh (HK.out.keep hb);have H0:=jt H0 hb;clear hb
 by_cases h1:k=1
 ·subst h1;rw[decide_eq_true rfl,Bool.true_and] at HQ;have c0:=(K0.out.alloc (.cells (chkC 0) 88)).cell 0;go_wp2_with (refine zFh rfl 88 #[(0,.tmp 4)] rfl (chkC 0) (by kernel_rfl) ?_)
  have HCK:=zh (Blk.new w2 88 (chkC 0));have HB2:=zh (zA0 w2 (.cells (chkC 0) 88));have HP:=zh (show zBm w2 ⟨w.heap.size,0,none⟩ (.mk 1 s cols ks) A2 cap2 from⟨K0.out.lt,K0.out.cell 0,K0.out.cell 1,K0.out.cell 2,K0.out.cell 3,hs,hl,hc,HK.out⟩);refine(zZt (zA7 (.mk 1 s cols ks)+1) (.mk 1 s cols ks) ⟨w.heap.size,0,none⟩ A2 cap2 w2.heap.size 0 1 w2 _ (by omega) HP.out HB2.out HCK.out (Nat.le_refl _) (by omega) (by omega)).mono ?_;rintro e w4 ⟨rfl,_,hb⟩;have HB:=jt H0 hb;clear hb c0;go_wp2;go_ret;exact⟨zA1 HQ.out.symm,HB.out⟩
 ·have q1:(k==1)=false:=bn h1;rw[decide_eq_false h1,Bool.false_and] at HQ;clear h1;have c0:=(K0.out.alloc (.cells (chkC 0) 88)).cell 0;go_wp2_with (refine zFh rfl 88 #[(0,.tmp 4)] rfl (chkC 0) (by kernel_rfl) ?_)
  go_ret;exact⟨zA1 HQ.out.symm,H0.out.trans ((zA0 w2 _).mono H0.out.size)⟩
theorem zX3 (A:Option Addr)(n cap:Nat)(w:World):Calls Tryz.prog 59 #[.slice A n cap] w fun e w'=>e= .returned (.agg (nodC 1 ⟨#[]⟩ 0 A n cap))/\Below w.heap.size w w':=by
 go_enter Tryz.func59,Tryz.ntmps59;go_wp2_with fail;have N:=zh (Blk.new w 25 (nodC 1 ⟨#[]⟩ 0 A n cap));have NB:=zh (zA0 w (.cells (nodC 1 ⟨#[]⟩ 0 A n cap) 25));dsimp only[nodC] at N NB;generalize w.alloc (.cells #[qI 1,qE,qI 0,.slice A n cap] 25)=wz at*;have c:=N.out.cell;exact bodyPost_ret (v:=.agg (nodC 1 ⟨#[]⟩ 0 A n cap)) (by simp[results,Tryz.results59,go_sem,c]) rfl ⟨rfl,NB.out⟩
theorem zL9 (A:Option Addr)(cap:Nat)(ts:List Tre)(w:World)(hK:zAo w A ts)(hn:ts.length<=cap)(hc:cap<=9223372036854775807)(hm:zA4 ts<900000):Calls Tryz.prog 29 #[.slice A ts.length cap] w fun e w'=>e= .returned (.bool (zBa (.mk 1 ⟨#[]⟩ 0 ts)))/\Below w.heap.size w w':=by
 have HN:=zh (zAv.of (k:=1) (s:=⟨#[]⟩) (c:=0) (by decide) hn hc hK);have HM:=zh (show zA7 (.mk 1 ⟨#[]⟩ 0 ts)<=900000 by rw[zA7];omega);clear hK;go_enter Tryz.func29,Tryz.ntmps29;go_wp2_with fail;refine(zX3 A ts.length cap w).mono ?_;rintro e w1 ⟨rfl,hb1⟩;have HN:=zh (HN.out.keep hb1);have H1:=zh hb1;clear hb1;go_wp2_with fail;refine(zB8 _ _ _ HM.out HN.out).mono ?_;rintro e w2 ⟨rfl,hb⟩;have HB:=jt H1 hb;clear hb;go_wp2;go_ret;exact⟨rfl,HB.out⟩
end At
namespace El
open At Ch Sp Sy Go.RowKit
variable{w:World}{b n:Nat}{ks:List Tre}
theorem zPw (s:List UInt8):∀(rs:List Rul) (acc:List (List UInt8)),s∈rs.foldl zFk acc↔s∈acc\/(s≠[]/\∃r∈rs,r.sym.data.toList=s)
 |[],acc=>by simp
 |r::rs,acc=>by
  rw[List.foldl_cons,zPw s rs];unfold zFk
  by_cases h:r.sym.data.toList=[]\/acc.contains r.sym.data.toList=true
  ·rw[if_pos h];constructor
   ·rintro(h1|⟨h1,x,h2,h3⟩)
    ·exact .inl h1
    ·exact .inr ⟨h1,x,List.mem_cons_of_mem _ h2,h3⟩
   ·rintro(h1|⟨h1,x,h2,h3⟩)
    ·exact .inl h1
    ·rcases List.mem_cons.1 h2 with rfl|h2
     ·rcases h with h|h
      ·exact absurd (h3.symm.trans h) h1
      ·rw[h3,List.contains_iff_mem] at h;exact .inl h
     ·exact .inr ⟨h1,x,h2,h3⟩
  ·rw[if_neg h,List.mem_append,List.mem_singleton];simp only[not_or] at h;constructor
   ·rintro((h1|h1)|⟨h1,x,h2,h3⟩)
    ·exact .inl h1
    ·exact .inr ⟨h1▸h.1,r,List.mem_cons_self,h1.symm⟩
    ·exact .inr ⟨h1,x,List.mem_cons_of_mem _ h2,h3⟩
   ·rintro(h1|⟨h1,x,h2,h3⟩)
    ·exact .inl (.inl h1)
    ·rcases List.mem_cons.1 h2 with rfl|h2
     ·exact .inl (.inr h3.symm)
     ·exact .inr ⟨h1,x,h2,h3⟩
theorem zV4 (rs:List Rul)(s:List UInt8):(zDn rs).contains s=zBx rs s:=by
 rw[Bool.eq_iff_iff,List.contains_iff_mem];unfold zDn zBx;rw[zPw,Bool.and_eq_true,List.any_eq_true];cases s with
 |nil=>simp
 |cons a r=>simp
structure zGv (w:World)(g:Nat)(A:Option Addr)(cap:Nat)(rs:List Rul):Prop where
 rul:zAc w A rs
 box:∃b n D,Blk w g 93 #[.slice A rs.length cap,.map (some b)]/\zC8 w b n D/\zGk D (zDn rs)
theorem zGv.keep {w w':World}{g:Nat}{A:Option Addr}{cap:Nat}{rs:List Rul}(h:zGv w g A cap rs)(hb:Below w.heap.size w w'):zGv w' g A cap rs:=by
 obtain⟨b,n,D,h1,h2,h3⟩:=h.box;exact⟨h.rul.keep hb,b,n,D,jL hb h1,World.ownsMap.kept (row:=none) h2 ⟨hb.os,hb.tape,hb.output,hb.size,fun i hi _=>hb.block i hi⟩ (by simp),h3⟩
theorem zMq {D:DataW Unit}{rs:List Rul}(hM:zC8 w b n D)(hS:zGk D (zDn rs)){s:ByteArray}(hs:s.size<=9223372036854775807):(Instr.lookup 91 (.map (some b)) (.string s) false).run Tryz.prog w= .ok (.bool (zBx rs s.data.toList)) w:=by
 obtain⟨c,h1,h2⟩:=zK5 hM law9 Tryz.underlying91 Tryz.underlying4 (yBe _) (Go.WideMaps.keyOf_string_mk (P:=Tryz.prog) (k:=9) Tryz.underlying9 (s:=s) (by unfold maxLen;omega));rw[hS s.data.toList] at h2;obtain rfl:(zDn rs).contains s.data.toList=c:=by simpa using h2
 rw[h1,zV4]
theorem _root_.Go.Proofs.YtapgncbegadbnaaGreatDoor.Sy.zCl.strs {B cap:Nat}{A:Option Addr}{ps:List (List UInt8)}(h:zCl w B (.slice A n cap) ps):zQd w A ps:=by
 obtain⟨A',cap',e,_,_,hI⟩:=h.form;injection e with e1;rw[e1];exact hI
def yDj (A:Option Addr)(cap:Nat)(rs:List Rul)(w:World)(e:Ending)(w':World):Prop:=∃g,e= .returned (qP g)/\zGv w' g A cap rs/\Below w.heap.size w w'
theorem zHd (A:Option Addr)(cap:Nat)(rs:List Rul)(w:World)(hR:zAc w A rs)(hn:rs.length<=1000000):Calls Tryz.prog 20 #[.slice A rs.length cap] w (yDj A cap rs w):=by
 have hmm:= @run_makeMap Tryz.prog;have B1:=zA0 w (.map #[] 0);have s1:(w.alloc (.map #[] 0)).heap.size=w.heap.size+1:=by simp
 have B2:=zA0 (w.alloc (.map #[] 0)) (.cells #[.slice A rs.length cap,.map (some w.heap.size)] 93);have HB:=zh (B1.trans (B2.mono B1.size));have HM:=zh (show zC8 ((w.alloc (.map #[] 0)).alloc (.cells #[.slice A rs.length cap,.map (some w.heap.size)] 93)) w.heap.size 0 (.map []) from(World.ownsMap_made (H:=Unit) w Tryz.prog 9 (plainElem Tryz.prog 4)).alloc _);have K1:=zh (Blk.new (w.alloc (.map #[] 0)) 93 #[.slice A rs.length cap,.map (some w.heap.size)]);rw[s1] at K1;have HR0:=zh hR;have HR:=zh (hR.keep HB.out);clear hR B1 B2 s1;go_enter Tryz.func20,Tryz.ntmps20;go_upto_region 2 with(fail)
 generalize (w.alloc (.map #[] 0)).alloc (.cells #[.slice A rs.length cap,.map (some w.heap.size)] 93)=w1 at*;clear hmm;go_wp2_with fail;refine(zQe A cap rs w1 HR.out hn).mono ?_;rintro e w2 ⟨v,rfl,ho,hb⟩;obtain⟨A5,cap5,rfl,hcl5,hcap5,hI⟩:=ho.form;have HI:=zh ho;have HW1:=zh HB.out.size;have HLS:=zh (show(zDn rs).length<=1000000 by have:=zFp rs rs.length;rw[List.take_length] at this;omega);have HSI:=zh (show ∀p∈zDn rs,p.length<=9223372036854775807 from fun p hp=>by
  obtain⟨h1,r,h2,h3⟩:=((zPw p rs []).1 hp).resolve_left (by simp);obtain⟨i,hi⟩:=List.getElem?_of_mem h2;obtain⟨hf,_⟩:=HR.out.at_ hi;have:=hf.1;rw[<-h3]
  simpa using this)
 replace K1:=kp hb K1;replace HR:=zh (HR.out.keep hb);replace HM:=zh (show zC8 w2 w.heap.size 0 (.map []) from World.ownsMap.kept (row:=none) HM.out ⟨hb.os,hb.tape,hb.output,hb.size,fun i hi _=>hb.block i hi⟩ (by simp));replace HB:=jt HB hb;clear ho hb hI;generalize hss:zDn rs=ss at*;have HSS:=zh hss;clear hss;have hls:=HLS.out;go_wp2_with fail
 go_loopw [13] (fun i wr=>∃(k:Nat) (D:DataW Unit),k<=ss.length/\i= .int .i64 k/\Hid (zC8 wr w.heap.size k D)/\Hid (zGk D (ss.take k))/\Hid (zCl wr w1.heap.size (.slice A5 ss.length cap5) ss)/\Hid (Blk wr (w.heap.size+1) 93 #[.slice A rs.length cap,.map (some w.heap.size)])/\Hid (Below w.heap.size w wr)) (fun i _=>ss.length -(intOf i).toNat)
 case atStart=>exact⟨0,.map [],by omega,rfl,HM,zh zQo,HI,K1,HB⟩
 case round=>
  clear HM HI K1 HR HB;obtain⟨k,D,hk,rfl,HM,HSE,HI,K1,HB⟩:=hrel
  by_cases hlt:k<ss.length
  ·obtain⟨p,hp⟩:∃p,ss[k]?=some p:=⟨_,gE hlt⟩
   obtain⟨gp,rfl,hgp,hcp⟩:=HI.out.strs k p hp;have HPZ:=zh (HSI.out p (List.mem_of_getElem? hp));have HSN:=zh (show zGk (D.put (.string (bys p).data.toList) (.lit (.bool true))) (ss.take (k+1)) by
    rw[List.take_add_one,hp,zQz];exact zN1 HSE.out (World.ownsMap.isMap HM.out) _)
   have HKEY:=zh (Go.WideMaps.keyOf_string_mk (P:=Tryz.prog) (k:=9) Tryz.underlying9 (s:=bys p) (by unfold maxLen;have:=HPZ.out;rw[show(bys p).size=p.length by simp[bys,ByteArray.size]];omega));have c1:=K1.out.cell 1;clear hp;go_wp2_with (at_mapUpdate;refine wpList_mapUpdate_own _ rfl _ _ _ 91 rfl 9 4 law9 Tryz.underlying91 _ w.heap.size k D rfl HM.out (by unfold maxLen;omega) _ _ _ rfl rfl HKEY.out (.lit (.bool true)) [] (plainElem_bool Tryz.underlying4 true) ?_)
   intro w3 hm3 hgrow3;have hne:∀r,some w.heap.size=some r->w.heap.size<=r:=fun r e=>by have:=sj e;omega
   have NB:=zh (HB.out.grown hgrow3 HB.out.size hne);have NI:=zh (show zCl w3 w1.heap.size (.slice (some ⟨gp,0,none⟩) ss.length cap5) ss from World.ownsRow.kept HI.out hgrow3 (.inr (zGu HM.out HI.out)));have NK:=zh (K1.out.grown hgrow3 (fun e=>by have:=sj e;omega));have NM:=zh (show zC8 w3 w.heap.size (k+1) (D.put (.string (bys p).data.toList) (.lit (.bool true))) from hm3);clear hm3 hgrow3 hne HM HI K1 HB c1 hcp;go_wp2;go_roundw
   case rel=>exact⟨k+1,_,by omega,by go_num,NM,HSN,NI,NK,NB⟩
   case measure=>simp[intOf];omega
  ·obtain rfl:k=ss.length:=by omega
   rw[List.take_length] at HSE;go_wp2;go_ret;exact⟨w.heap.size+1,rfl,⟨HR0.out.keep HB.out,w.heap.size,_,D,K1.out,HM.out,by rw[HSS.out];exact HSE.out⟩,HB.out⟩
def scrB (k:Int):Bool:=decide (k=7\/k=8\/k=9)
theorem zO6 (k:Int)(s:ByteArray)(cc:Int)(A:Option Addr)(n cap:Nat)(w:World):Calls Tryz.prog 107 #[.agg #[.int .i64 k,.string s,.int .i64 cc,.slice A n cap]] w fun e w'=>e= .returned (.bool (scrB k))/\Below w.heap.size w w':=by
 have HB:=zh (zA0 w (.cells #[.int .i64 k,.string s,.int .i64 cc,.slice A n cap] 25));have K1:=zh (Blk.new w 25 #[.int .i64 k,.string s,.int .i64 cc,.slice A n cap]);have c0:=K1.out.cell 0
 by_cases h7:k=7
 ·have q:(k==7)=true:=beq_iff_eq.2 h7;have HR:=zh (show scrB k=true from decide_eq_true (.inl h7));clear h7;go_enter Tryz.func107,Tryz.ntmps107;go_wp2;go_ret;exact⟨zA1 HR.out.symm,HB.out⟩
 have q7:(k==7)=false:=bn h7
 by_cases h8:k=8
 ·have q:(k==8)=true:=beq_iff_eq.2 h8;have HR:=zh (show scrB k=true from decide_eq_true (.inr (.inl h8)));clear h7 h8;go_enter Tryz.func107,Tryz.ntmps107;go_wp2;go_ret;exact⟨zA1 HR.out.symm,HB.out⟩
 have q8:(k==8)=false:=bn h8
 by_cases h9:k=9
 ·have q:(k==9)=true:=beq_iff_eq.2 h9;have HR:=zh (show scrB k=true from decide_eq_true (.inr (.inr h9)));clear h7 h8 h9;go_enter Tryz.func107,Tryz.ntmps107;go_wp2;go_ret;exact⟨zA1 HR.out.symm,HB.out⟩
 have q9:(k==9)=false:=bn h9;have HR:=zh (show scrB k=false from decide_eq_false (by rintro(h|h|h)<;>contradiction));clear h7 h8 h9;go_enter Tryz.func107,Tryz.ntmps107;go_wp2;go_ret;exact⟨zA1 HR.out.symm,HB.out⟩
theorem zPr {n:Tre}(h:scrB n.kind=false):unsc n=n:=by
 unfold unsc;unfold scrB at h;rw[if_neg (of_decide_eq_false h)]
theorem zOp {n b:Tre}(hk:n.kids=b::ks)(h:b.kids.length≠1):unsc n=n:=by
 unfold unsc;rw[hk]
 split
 ·dsimp only
  split
  ·next x hx=>rw[hx] at h;simp at h
  ·rfl
 ·rfl
theorem zS4 {n b x:Tre}(hs:scrB n.kind=true)(hk:n.kids=b::ks)(h:b.kids=[x]):unsc n=x:=by
 unfold unsc;unfold scrB at hs;rw[if_pos (of_decide_eq_true hs),hk];dsimp only;rw[h]
theorem zMk {w':World}{D:DataW Unit}(h:zC8 w b n D)(hb:Below w.heap.size w w'):zC8 w' b n D:=World.ownsMap.kept (row:=none) h ⟨hb.os,hb.tape,hb.output,hb.size,fun i hi _=>hb.block i hi⟩ (by simp)
theorem add_zero' (ad:Addr):ad.add (0*4)=ad:=by unfold Addr.add;cases ad;simp
theorem zA8 (w:World)(p:Addr)(u:Value):w.grownBy (w.setCell p u) (some p.block):=
 ⟨rfl,rfl,rfl,by simp[World.setCell],fun k _ hk=>Below.heap_setCell _ _ _ _ (fun e=>hk (by simp[e]))⟩
theorem zB6 {a b c:World}{row:Option Nat}(h:a.grownBy b row)(k:b.grownBy c row):a.grownBy c row:=
 ⟨k.os.trans h.os,k.tape.trans h.tape,k.output.trans h.output,Nat.le_trans h.size k.size,fun i hi hn=>(k.block i (ll hi h.size) hn).trans (h.block i hi hn)⟩
theorem zUh (x:World)(g:Nat)(c0 c1 c2 c3:Value):x.grownBy ((((x.setCell ⟨g,0,none⟩ c0).setCell ⟨g,1,none⟩ c1).setCell ⟨g,2,none⟩ c2).setCell ⟨g,3,none⟩ c3) (some g):=
 zB6 (zB6 (zB6 (zA8 x ⟨g,0,none⟩ c0) (zA8 _ ⟨g,1,none⟩ c1)) (zA8 _ ⟨g,2,none⟩ c2)) (zA8 _ ⟨g,3,none⟩ c3)
theorem set4 {x:World}{g:Nat}{t:TypeId}{d0 d1 d2 d3:Value}(h:Blk x g t #[d0,d1,d2,d3])(c0 c1 c2 c3:Value):Blk ((((x.setCell ⟨g,0,none⟩ c0).setCell ⟨g,1,none⟩ c1).setCell ⟨g,2,none⟩ c2).setCell ⟨g,3,none⟩ c3) g t #[c0,c1,c2,c3]:=(((h.set_ 0 c0).set_ 1 c1).set_ 2 c2).set_ 3 c3
theorem zNt (g:Nat)(A:Option Addr)(cap:Nat)(rs:List Rul)(n:Tre)(c:Array Value)(w:World)(hR:zGv w g A cap rs)(hN:zAv w n c)(hne:scrB n.kind=true->n.kids≠[]):Calls Tryz.prog 81 #[qP g,.agg c] w fun e w'=>e= .returned (.tuple #[.string (unsc n).text,.bool (zDj rs n)])/\Below w.heap.size w w':=by
 obtain⟨A2,cap2,rfl,hsz,hl,hc,hk⟩:=hN.form;obtain⟨b,nb,D,hbx,hmp,hse⟩:=hR.box;have hb0:=zA0 w (qO n A2 cap2);have HB:=zh hb0;have K1:=zh (Blk.new w 25 (qC n A2 cap2));have HGL:=zh (And.intro hbx.lt hmp.lt);have HBX:=zh (keep hb0 hbx);have HMP:=zh (zMk hmp hb0);have HSE:=zh hse;have HK:=zh (hk.keep hb0);have HNE:=zh hne;have HTZ:=zh hsz;clear hR hN hk hne hbx hmp hse hb0;go_enter Tryz.func81,Tryz.ntmps81;go_upto_region 1 with(fail)
 generalize w.alloc (qO n A2 cap2)=w1 at*;have k0:=K1.out.cell;go_wp2_with fail;refine(zO6 n.kind n.text n.cols A2 n.kids.length cap2 w1).mono ?_;rintro e w2 ⟨rfl,hb⟩;replace HBX:=kp hb HBX;replace HMP:=zh (zMk HMP.out hb);replace HK:=zh (HK.out.keep hb);replace K1:=kp hb K1;replace HB:=jt HB hb;clear hb k0;cases hsc:scrB n.kind
 ·have HU:=zh (zPr hsc);clear hsc;go_upto_region 3 with(fail)
  by_cases h2:n.kind=2
  ·have qk:(n.kind==2)=true:=beq_iff_eq.2 h2;have HOP:=zh (show zDj rs n=zBx rs n.text.data.toList by unfold zDj;rw[HU.out,decide_eq_true h2,Bool.true_and]);clear h2;refine ql [.pointer (some ⟨w.heap.size,1,none⟩),.string n.text,qP w.heap.size,.int .i64 n.kind,.bool true,.bool true,qP g,qP g,.pointer (some ⟨g,1,none⟩),.map (some b),.pointer (some ⟨w.heap.size,1,none⟩),.string n.text,.bool (zBx rs n.text.data.toList),.bool (zBx rs n.text.data.toList),.string n.text,.bool (zBx rs n.text.data.toList)] (qt 16 []) (fun wq=>(Blk wq g 93 #[.slice A rs.length cap,.map (some b)]/\zC8 wq b nb D)/\Blk wq w.heap.size 25 (qC n A2 cap2)/\Below w.heap.size w wq) ⟨⟨HBX.out.drew,World.ownsMap.drew HMP.out⟩,K1.out.drew,zA3 HB.out⟩ ?_ ?_
   ·refine⟨jB,jQ fun wq hI=>hI.2.1.cell 1,jB,jQ fun wq hI=>hI.2.1.cell 0,fun wq hI=>?_,jA,jA,jB,jB,jQ fun wq hI=>hI.1.1.cell 1,jB,jQ fun wq hI=>hI.2.1.cell 1,jQ fun wq hI=>zMq hI.1.2 HSE.out (s:=n.text) HTZ.out,jA,jA,jA,trivial⟩
    ·skip
     exact jv (.bool true) wq (by simp[go_sem,qk]) ⟨rfl,hI⟩
   ·intro wq hI;have HBE:=zh hI.2.2;clear hI;generalize wq=w9 at*;go_wp2;exact bodyPost_ret (v:=.tuple #[.string n.text,.bool (zBx rs n.text.data.toList)]) (by simp[results,Tryz.results81,go_sem]) rfl ⟨by rw[HOP.out,HU.out],HBE.out⟩
  ·have qk:(n.kind==2)=false:=bn h2;have HOP:=zh (show zDj rs n=false by unfold zDj;rw[HU.out,decide_eq_false h2,Bool.false_and]);clear h2;refine ql [.pointer (some ⟨w.heap.size,1,none⟩),.string n.text,qP w.heap.size,.int .i64 n.kind,.bool false,.bool false,undef,undef,undef,undef,undef,undef,undef,.bool false,.string n.text,.bool false] (qt 6 (qf 7 (qt 3 []))) (fun wq=>(Blk wq g 93 #[.slice A rs.length cap,.map (some b)]/\zC8 wq b nb D)/\Blk wq w.heap.size 25 (qC n A2 cap2)/\Below w.heap.size w wq) ⟨⟨HBX.out.drew,World.ownsMap.drew HMP.out⟩,K1.out.drew,zA3 HB.out⟩ ?_ ?_
   ·refine⟨jB,jQ fun wq hI=>hI.2.1.cell 1,jB,jQ fun wq hI=>hI.2.1.cell 0,fun wq hI=>?_,jA,rfl,rfl,rfl,rfl,rfl,rfl,rfl,jA,jA,jA,trivial⟩
    ·skip
     exact jv (.bool false) wq (by simp[go_sem,qk]) ⟨rfl,hI⟩
   ·intro wq hI;have HBE:=zh hI.2.2;clear hI;generalize wq=w9 at*;go_wp2;exact bodyPost_ret (v:=.tuple #[.string n.text,.bool (false)]) (by simp[results,Tryz.results81,go_sem]) rfl ⟨by rw[HOP.out,HU.out],HBE.out⟩
 have HSC:=zh hsc;obtain⟨b0,ks,hks⟩:∃b0 ks,n.kids=b0::ks:=by
  cases hq:n.kids with
  |nil=>exact absurd hq (HNE.out hsc)
  |cons b0 ks=>exact⟨b0,ks,rfl⟩
 obtain⟨ad,A3,cap3,hA2,hadl,_,hl3,hc3,hk3,hn3,d0,d1,d2,d3⟩:=HK.out.at_ (i:=0) (t:=b0) (by rw[hks];rfl);subst hA2;rw[add_zero'] at d0 d1 d2 d3;have HKS:=zh hks;have hpos:(0:Int)<(n.kids.length:Int):=by rw[hks,List.length_cons];omega
 have k3:=K1.out.cell 3;clear hks hsc
 by_cases h1:b0.kids.length=1
 ·obtain⟨x,hx⟩:∃x,b0.kids=[x]:=List.length_eq_one_iff.1 h1;obtain⟨ad4,A4,cap4,hA3,hadl4,hxz,_,_,_,_,e0,e1,e2,e3⟩:=hk3.at_ (i:=0) (t:=x) (by rw[hx];rfl);subst hA3;rw[add_zero'] at e0 e1 e2 e3;have HU:=zh (zS4 HSC.out HKS.out hx);have HTZ:=zh hxz;have h1i:(b0.kids.length:Int)=1:=by omega
  have q1:((b0.kids.length:Int)==1)=true:=by rw[h1i];rfl
  have k0:=K1.out.cell;have f0:=K1.out.frozen;clear hx h1 hk3;rw[show b0.kids.length=1 by omega] at d3;clear h1i q1;go_upto_region 3 with(fail)
  have hgr:=zUh w2 w.heap.size (.int .i64 x.kind) (.string x.text) (.int .i64 x.cols) (.slice A4 x.kids.length cap4);have hse:=set4 K1.out (.int .i64 x.kind) (.string x.text) (.int .i64 x.cols) (.slice A4 x.kids.length cap4);replace HBX:=zh (HBX.out.grown hgr (fun e=>by have:=sj e;have:=HGL.out.1;omega));replace HMP:=zh (show zC8 _ b nb D from World.ownsMap.kept HMP.out hgr (fun e=>by have:=sj e;have:=HGL.out.2;omega));replace HB:=zh (HB.out.grown hgr HB.out.size fun r e=>by have:=sj e;omega);clear K1 k0 f0 k3 d0 d1 d2 d3 e0 e1 e2 e3 hgr;have K1:=zh hse;clear hse;generalize (((w2.setCell ⟨w.heap.size,0,none⟩ (.int .i64 x.kind)).setCell ⟨w.heap.size,1,none⟩ (.string x.text)).setCell ⟨w.heap.size,2,none⟩ (.int .i64 x.cols)).setCell ⟨w.heap.size,3,none⟩ (.slice A4 x.kids.length cap4)=w3 at*
  by_cases h2:x.kind=2
  ·have qk:(x.kind==2)=true:=beq_iff_eq.2 h2;have HOP:=zh (show zDj rs n=zBx rs x.text.data.toList by unfold zDj;rw[HU.out,decide_eq_true h2,Bool.true_and]);clear h2;refine ql [.pointer (some ⟨w.heap.size,1,none⟩),.string x.text,qP w.heap.size,.int .i64 x.kind,.bool true,.bool true,qP g,qP g,.pointer (some ⟨g,1,none⟩),.map (some b),.pointer (some ⟨w.heap.size,1,none⟩),.string x.text,.bool (zBx rs x.text.data.toList),.bool (zBx rs x.text.data.toList),.string x.text,.bool (zBx rs x.text.data.toList)] (qt 16 []) (fun wq=>(Blk wq g 93 #[.slice A rs.length cap,.map (some b)]/\zC8 wq b nb D)/\Blk wq w.heap.size 25 (qC x A4 cap4)/\Below w.heap.size w wq) ⟨⟨HBX.out.drew,World.ownsMap.drew HMP.out⟩,K1.out.drew,zA3 HB.out⟩ ?_ ?_
   ·refine⟨jB,jQ fun wq hI=>hI.2.1.cell 1,jB,jQ fun wq hI=>hI.2.1.cell 0,fun wq hI=>?_,jA,jA,jB,jB,jQ fun wq hI=>hI.1.1.cell 1,jB,jQ fun wq hI=>hI.2.1.cell 1,jQ fun wq hI=>zMq hI.1.2 HSE.out (s:=x.text) HTZ.out,jA,jA,jA,trivial⟩
    ·skip
     exact jv (.bool true) wq (by simp[go_sem,qk]) ⟨rfl,hI⟩
   ·intro wq hI;have HBE:=zh hI.2.2;clear hI;generalize wq=w9 at*;go_wp2;exact bodyPost_ret (v:=.tuple #[.string x.text,.bool (zBx rs x.text.data.toList)]) (by simp[results,Tryz.results81,go_sem]) rfl ⟨by rw[HOP.out,HU.out],HBE.out⟩
  ·have qk:(x.kind==2)=false:=bn h2;have HOP:=zh (show zDj rs n=false by unfold zDj;rw[HU.out,decide_eq_false h2,Bool.false_and]);clear h2;refine ql [.pointer (some ⟨w.heap.size,1,none⟩),.string x.text,qP w.heap.size,.int .i64 x.kind,.bool false,.bool false,undef,undef,undef,undef,undef,undef,undef,.bool false,.string x.text,.bool false] (qt 6 (qf 7 (qt 3 []))) (fun wq=>(Blk wq g 93 #[.slice A rs.length cap,.map (some b)]/\zC8 wq b nb D)/\Blk wq w.heap.size 25 (qC x A4 cap4)/\Below w.heap.size w wq) ⟨⟨HBX.out.drew,World.ownsMap.drew HMP.out⟩,K1.out.drew,zA3 HB.out⟩ ?_ ?_
   ·refine⟨jB,jQ fun wq hI=>hI.2.1.cell 1,jB,jQ fun wq hI=>hI.2.1.cell 0,fun wq hI=>?_,jA,rfl,rfl,rfl,rfl,rfl,rfl,rfl,jA,jA,jA,trivial⟩
    ·skip
     exact jv (.bool false) wq (by simp[go_sem,qk]) ⟨rfl,hI⟩
   ·intro wq hI;have HBE:=zh hI.2.2;clear hI;generalize wq=w9 at*;go_wp2;exact bodyPost_ret (v:=.tuple #[.string x.text,.bool (false)]) (by simp[results,Tryz.results81,go_sem]) rfl ⟨by rw[HOP.out,HU.out],HBE.out⟩
 ·have HU:=zh (zOp HKS.out h1);have q1:((b0.kids.length:Int)==1)=false:=by rw[beq_eq_false_iff_ne];omega
  clear h1;go_upto_region 3 with(fail)
  clear q1 k3 d0 d1 d2 d3 hpos
  by_cases h2:n.kind=2
  ·have qk:(n.kind==2)=true:=beq_iff_eq.2 h2;have HOP:=zh (show zDj rs n=zBx rs n.text.data.toList by unfold zDj;rw[HU.out,decide_eq_true h2,Bool.true_and]);clear h2;refine ql [.pointer (some ⟨w.heap.size,1,none⟩),.string n.text,qP w.heap.size,.int .i64 n.kind,.bool true,.bool true,qP g,qP g,.pointer (some ⟨g,1,none⟩),.map (some b),.pointer (some ⟨w.heap.size,1,none⟩),.string n.text,.bool (zBx rs n.text.data.toList),.bool (zBx rs n.text.data.toList),.string n.text,.bool (zBx rs n.text.data.toList)] (qt 16 []) (fun wq=>(Blk wq g 93 #[.slice A rs.length cap,.map (some b)]/\zC8 wq b nb D)/\Blk wq w.heap.size 25 (qC n (some ad) cap2)/\Below w.heap.size w wq) ⟨⟨HBX.out.drew,World.ownsMap.drew HMP.out⟩,K1.out.drew,zA3 HB.out⟩ ?_ ?_
   ·refine⟨jB,jQ fun wq hI=>hI.2.1.cell 1,jB,jQ fun wq hI=>hI.2.1.cell 0,fun wq hI=>?_,jA,jA,jB,jB,jQ fun wq hI=>hI.1.1.cell 1,jB,jQ fun wq hI=>hI.2.1.cell 1,jQ fun wq hI=>zMq hI.1.2 HSE.out (s:=n.text) HTZ.out,jA,jA,jA,trivial⟩
    ·skip
     exact jv (.bool true) wq (by simp[go_sem,qk]) ⟨rfl,hI⟩
   ·intro wq hI;have HBE:=zh hI.2.2;clear hI;generalize wq=w9 at*;go_wp2;exact bodyPost_ret (v:=.tuple #[.string n.text,.bool (zBx rs n.text.data.toList)]) (by simp[results,Tryz.results81,go_sem]) rfl ⟨by rw[HOP.out,HU.out],HBE.out⟩
  ·have qk:(n.kind==2)=false:=bn h2;have HOP:=zh (show zDj rs n=false by unfold zDj;rw[HU.out,decide_eq_false h2,Bool.false_and]);clear h2;refine ql [.pointer (some ⟨w.heap.size,1,none⟩),.string n.text,qP w.heap.size,.int .i64 n.kind,.bool false,.bool false,undef,undef,undef,undef,undef,undef,undef,.bool false,.string n.text,.bool false] (qt 6 (qf 7 (qt 3 []))) (fun wq=>(Blk wq g 93 #[.slice A rs.length cap,.map (some b)]/\zC8 wq b nb D)/\Blk wq w.heap.size 25 (qC n (some ad) cap2)/\Below w.heap.size w wq) ⟨⟨HBX.out.drew,World.ownsMap.drew HMP.out⟩,K1.out.drew,zA3 HB.out⟩ ?_ ?_
   ·refine⟨jB,jQ fun wq hI=>hI.2.1.cell 1,jB,jQ fun wq hI=>hI.2.1.cell 0,fun wq hI=>?_,jA,rfl,rfl,rfl,rfl,rfl,rfl,rfl,jA,jA,jA,trivial⟩
    ·skip
     exact jv (.bool false) wq (by simp[go_sem,qk]) ⟨rfl,hI⟩
   ·intro wq hI;have HBE:=zh hI.2.2;clear hI;generalize wq=w9 at*;go_wp2;exact bodyPost_ret (v:=.tuple #[.string n.text,.bool (false)]) (by simp[results,Tryz.results81,go_sem]) rfl ⟨by rw[HOP.out,HU.out],HBE.out⟩
end El
namespace Sp
open At Go.RowKit
theorem zLb (c:UInt8)(w:World):Calls Tryz.prog 108 #[.int .u8 (c.toNat:Int)] w fun e w'=>e= .returned (.bool (letB c))/\w=w':=by
 have hc:=c.toNat_lt
 by_cases h1:97<=c.toNat
 ·by_cases h2:c.toNat<=122
  ·have HR:=zh (show letB c=true by unfold letB;rw[decide_eq_true h1,decide_eq_true h2];rfl);go_enter Tryz.func108,Tryz.ntmps108;go_wp2;go_ret;exact⟨zA1 (by first|exact HR.out.symm|(rw[HR.out];simp;omega)),rfl⟩
  ·have HR:=zh (show letB c=false by unfold letB;rw[decide_eq_false h2,Bool.and_false,decide_eq_false (show ¬c.toNat<=90 by omega),Bool.and_false];rfl);go_enter Tryz.func108,Tryz.ntmps108;go_wp2;go_ret;exact⟨zA1 (by first|exact HR.out.symm|(rw[HR.out];simp;omega)),rfl⟩
 ·by_cases h3:65<=c.toNat
  ·by_cases h4:c.toNat<=90
   ·have HR:=zh (show letB c=true by unfold letB;rw[decide_eq_true h3,decide_eq_true h4,Bool.or_eq_true];exact .inr rfl);go_enter Tryz.func108,Tryz.ntmps108;go_wp2;go_ret;exact⟨zA1 (by first|exact HR.out.symm|(rw[HR.out];simp;omega)),rfl⟩
   ·have HR:=zh (show letB c=false by unfold letB;rw[decide_eq_false h1,decide_eq_false h4,Bool.and_false];rfl);go_enter Tryz.func108,Tryz.ntmps108;go_wp2;go_ret;exact⟨zA1 (by first|exact HR.out.symm|(rw[HR.out];simp;omega)),rfl⟩
  ·have HR:=zh (show letB c=false by unfold letB;rw[decide_eq_false h1,decide_eq_false h3];rfl);go_enter Tryz.func108,Tryz.ntmps108;go_wp2;go_ret;exact⟨zA1 (by first|exact HR.out.symm|(rw[HR.out];simp;omega)),rfl⟩
theorem yAb (s:ByteArray)(w:World)(hs:s.size<=9223372036854775807):Calls Tryz.prog 139 #[.string s] w fun e w'=>e= .returned (.bool (zAl s.toList))/\w=w':=by
 go_enter Tryz.func139,Tryz.ntmps139;go_wp2_with fail
 go_loop [3] (fun i=>∃k:Nat,k<=s.size/\i=qI k/\Hid (∀(j:Nat) (hj:j<s.size),j<k->letB s[j]=true)) (fun i=>s.size -(intOf i).toNat)
 case atStart=>exact⟨0,by omega,rfl,fun j _ h=>by omega⟩
 case round=>
  obtain⟨k,hk,rfl,HJ⟩:=hrel
  by_cases hlt:k<s.size
  ·have HC:=zh (fun w=>zLb s[k] w);cases hl:letB s[k]
   ·have HF:=zh (zAq hlt hl);rw[hl] at HC;clear hl;go_wp2_with fail;refine(HC.out _).mono ?_;rintro e w' ⟨rfl,rfl⟩;go_wp2;go_ret;exact⟨zA1 (by unfold zAl zB9;rw[HF.out];rfl),rfl⟩
   ·have HL:=zh hl;rw[hl] at HC;clear hl;go_wp2_with fail;refine(HC.out _).mono ?_;rintro e w' ⟨rfl,rfl⟩;go_wp2;go_round
    case rel=>exact⟨k+1,by omega,by go_num,fun j hj h=>by
     rcases Nat.lt_or_ge j k with h'|h'
     ·exact HJ.out j hj h'
     ·obtain rfl:j=k:=by omega
      exact HL.out⟩
    case measure=>simp[intOf];omega
  ·have HF:=zh (zE2 (s:=s) (p:=letB) fun j hj=>HJ.out j hj (by omega));have HZ:=zh (zCe s)
   by_cases h1:1<=s.size
   ·by_cases h2:s.size<=16
    ·have HR:=zh (show zAl s.toList=true by unfold zAl zB9;rw[HF.out,HZ.out,decide_eq_true h1,decide_eq_true h2];rfl);go_wp2;go_ret;exact⟨zA1 (by first|exact HR.out.symm|(rw[HR.out];simp;omega)),rfl⟩
    ·have HR:=zh (show zAl s.toList=false by unfold zAl;rw[HZ.out,decide_eq_false h2,Bool.and_false,Bool.and_false]);go_wp2;go_ret;exact⟨zA1 (by first|exact HR.out.symm|(rw[HR.out];simp;omega)),rfl⟩
   ·have HR:=zh (show zAl s.toList=false by unfold zAl;rw[HZ.out,decide_eq_false h1,Bool.false_and,Bool.and_false]);go_wp2;go_ret;exact⟨zA1 (by first|exact HR.out.symm|(rw[HR.out];simp;omega)),rfl⟩
def zGf (a:Nat)(c:UInt8):Bool:=decide (a<=c.toNat)&&decide (c.toNat<=126)
theorem zPx (s:ByteArray)(a n:Nat)(w:World)(hs:s.size<=9223372036854775807):Calls Tryz.prog 138 #[.string s,.int .u8 (a:Int),qI (n:Int)] w fun e w'=>e= .returned (.bool (zCu a s.toList&&decide (s.size<=n)))/\w=w':=by
 go_enter Tryz.func138,Tryz.ntmps138;go_wp2_with fail
 go_loop [7] (fun i=>∃k:Nat,k<=s.size/\i=qI k/\Hid (∀(j:Nat) (hj:j<s.size),j<k->zGf a s[j]=true)) (fun i=>s.size -(intOf i).toNat)
 case atStart=>exact⟨0,by omega,rfl,fun j _ h=>by omega⟩
 case round=>
  obtain⟨k,hk,rfl,HJ⟩:=hrel
  by_cases hlt:k<s.size
  ·by_cases c1:(s[k].toNat:Int)<(a:Int)
   ·have HF:=zh (zAq (p:=zGf a) hlt (by unfold zGf;rw[decide_eq_false (by omega)];rfl));go_wp2;go_ret;exact⟨zA1 (by rw[show zCu a s.toList=false from HF.out,Bool.false_and]),rfl⟩
   ·by_cases c2:126<(s[k].toNat:Int)
    ·have HF:=zh (zAq (p:=zGf a) hlt (by unfold zGf;rw[decide_eq_false (p:=s[k].toNat<=126) (by omega),Bool.and_false]));go_wp2;go_ret;exact⟨zA1 (by rw[show zCu a s.toList=false from HF.out,Bool.false_and]),rfl⟩
    ·have HL:=zh (show zGf a s[k]=true by unfold zGf;rw[decide_eq_true (by omega),decide_eq_true (by omega)];rfl);go_wp2;go_round
     case rel=>exact⟨k+1,by omega,by go_num,fun j hj h=>by
      rcases Nat.lt_or_ge j k with h'|h'
      ·exact HJ.out j hj h'
      ·obtain rfl:j=k:=by omega
       exact HL.out⟩
     case measure=>simp[intOf];omega
  ·have HF:=zh (zE2 (s:=s) (p:=zGf a) fun j hj=>HJ.out j hj (by omega));go_wp2;go_ret;exact⟨zA1 (by rw[show zCu a s.toList=true from HF.out,Bool.true_and]),rfl⟩
theorem zSb (s:ByteArray)(a n:Nat)(w:World)(hs:s.size<=9223372036854775807):Calls Tryz.prog 136 #[.string s,.int .u8 (a:Int),qI (n:Int)] w fun e w'=>e= .returned (.bool (zCu a s.toList&&decide (s.size<=n)))/\w=w':=by
 go_enter Tryz.func136,Tryz.ntmps136;go_wp2_with fail
 go_loop [7] (fun i=>∃k:Nat,k<=s.size/\i=qI k/\Hid (∀(j:Nat) (hj:j<s.size),j<k->zGf a s[j]=true)) (fun i=>s.size -(intOf i).toNat)
 case atStart=>exact⟨0,by omega,rfl,fun j _ h=>by omega⟩
 case round=>
  obtain⟨k,hk,rfl,HJ⟩:=hrel
  by_cases hlt:k<s.size
  ·by_cases c1:(s[k].toNat:Int)<(a:Int)
   ·have HF:=zh (zAq (p:=zGf a) hlt (by unfold zGf;rw[decide_eq_false (by omega)];rfl));go_wp2;go_ret;exact⟨zA1 (by rw[show zCu a s.toList=false from HF.out,Bool.false_and]),rfl⟩
   ·by_cases c2:126<(s[k].toNat:Int)
    ·have HF:=zh (zAq (p:=zGf a) hlt (by unfold zGf;rw[decide_eq_false (p:=s[k].toNat<=126) (by omega),Bool.and_false]));go_wp2;go_ret;exact⟨zA1 (by rw[show zCu a s.toList=false from HF.out,Bool.false_and]),rfl⟩
    ·have HL:=zh (show zGf a s[k]=true by unfold zGf;rw[decide_eq_true (by omega),decide_eq_true (by omega)];rfl);go_wp2;go_round
     case rel=>exact⟨k+1,by omega,by go_num,fun j hj h=>by
      rcases Nat.lt_or_ge j k with h'|h'
      ·exact HJ.out j hj h'
      ·obtain rfl:j=k:=by omega
       exact HL.out⟩
     case measure=>simp[intOf];omega
  ·have HF:=zh (zE2 (s:=s) (p:=zGf a) fun j hj=>HJ.out j hj (by omega));go_wp2;go_ret;exact⟨zA1 (by rw[show zCu a s.toList=true from HF.out,Bool.true_and]),rfl⟩
theorem zYn (s:ByteArray)(h:0<s.size):s.toList.headD 0=s[0]:=by
 rw[ByteArray.toList_eq];obtain⟨⟨l⟩⟩:=s;cases l with
 |nil=>simp[ByteArray.size] at h
 |cons a r=>rfl
theorem zLv (s:ByteArray):s.toList.isEmpty=decide (s.size=0):=by
 rw[<-zCe s];cases s.toList<;>simp
theorem zH2 (s:ByteArray)(w:World)(hs:s.size<=9223372036854775807):Calls Tryz.prog 82 #[.string s] w fun e w'=>e= .returned (.bool (idB s.toList))/\Below w.heap.size w w':=by
 have HQ:=zh (show idB s.toList=(!s.toList.isEmpty&&(letB (s.toList.headD 0)&&symB s.toList)) from(yBt _).symm)
 by_cases h0:s.size=0
 ·have he:s.toList.isEmpty=true:=by rw[zLv,decide_eq_true h0]
  rw[he] at HQ;go_enter Tryz.func82,Tryz.ntmps82;go_wp2;go_ret;exact⟨zA1 (by rw[HQ.out];rfl),Below.refl _ _⟩
 ·have he:s.toList.isEmpty=false:=by rw[zLv,decide_eq_false h0]
  have hp:0<s.size:=by omega
  rw[he,zYn s hp,Bool.not_false,Bool.true_and] at HQ;have HC:=zh (fun w=>zLb s[0] w);cases hl:letB s[0]
  ·rw[hl] at HC HQ;clear hl;go_enter Tryz.func82,Tryz.ntmps82;go_wp2_with fail;refine(HC.out _).mono ?_;rintro e w' ⟨rfl,rfl⟩;go_wp2;go_ret;exact⟨zA1 (by rw[HQ.out];rfl),Below.refl _ _⟩
  ·rw[hl,Bool.true_and] at HQ;rw[hl] at HC;clear hl;go_enter Tryz.func82,Tryz.ntmps82;go_wp2_with fail;refine(HC.out _).mono ?_;rintro e w' ⟨rfl,rfl⟩;go_wp2_with fail;refine(zI5 s _ hs).mono ?_;rintro e w' ⟨rfl,hb⟩;have HB:=zh hb;clear hb;go_wp2;go_ret;exact⟨zA1 (by rw[HQ.out]),HB.out⟩
theorem zG3 (s:ByteArray)(w:World)(hs:s.size<=9223372036854775807):Calls Tryz.prog 61 #[.string s] w fun e w'=>e= .returned (.bool (idB s.toList))/\Below w.heap.size w w':=by
 have HQ:=zh (show idB s.toList=(zAl s.toList&&symB s.toList) from rfl);have HC:=zh (fun w=>zI1 s w hs);cases hl:zAl s.toList
 ·rw[hl] at HC HQ;clear hl;go_enter Tryz.func61,Tryz.ntmps61;go_wp2_with fail;refine(HC.out _).mono ?_;rintro e w' ⟨rfl,rfl⟩;go_wp2;go_ret;exact⟨zA1 (by rw[HQ.out];rfl),Below.refl _ _⟩
 ·rw[hl,Bool.true_and] at HQ;rw[hl] at HC;clear hl;go_enter Tryz.func61,Tryz.ntmps61;go_wp2_with fail;refine(HC.out _).mono ?_;rintro e w' ⟨rfl,rfl⟩;go_wp2_with fail;refine(zGb s _ hs).mono ?_;rintro e w' ⟨rfl,hb⟩;have HB:=zh hb;clear hb;go_wp2;go_ret;exact⟨zA1 (by rw[HQ.out]),HB.out⟩
end Sp
namespace El
open At Ch Sp Sy Go.RowKit
variable{w:World}{rs:List Rul}{l:List Tre}{k:Nat}{x:Tre}{ts:List ByteArray}
theorem zMs {n:Tre}{c:Array Value}(h:zAv w n c):(unsc n).text.size<=9223372036854775807:=by
 obtain⟨A2,cap2,rfl,hsz,_,_,hk⟩:=h.form;unfold unsc
 split
 ·split
  ·next b ks hks=>
   split
   ·next x hx=>
    obtain⟨_,A3,_,_,_,_,_,_,hk3,_⟩:=hk.at_ (i:=0) (t:=b) (by rw[hks];rfl);obtain⟨_,_,_,_,_,hxz,_⟩:=hk3.at_ (i:=0) (t:=x) (by rw[hx];rfl);exact hxz
   ·exact hsz
  ·exact hsz
 ·exact hsz
def tokS (rs:List Rul)(n:Tre):ByteArray:=if zDj rs n=true then(unsc n).text else zHq
def rolB (rs:List Rul)(n:Tre):Bool:=zDj rs n|| !(decide (n.kind=2))||idB n.text.data.toList
theorem zN3 (rs:List Rul)(n:Tre):tokN rs n=if rolB rs n=true then some (tokS rs n) else none:=by
 unfold tokN tokS rolB;cases zDj rs n
 ·by_cases h:n.kind=2
  ·cases idB n.text.data.toList<;>simp[h]
  ·simp[h]
 ·simp
theorem zJc (rs:List Rul):∀(a b:List Tre),zB2 rs (a++b)=match zB2 rs a with
  | .inl ts=>(match zB2 rs b with
   | .inl us=>.inl (ts++us)
   | .inr i=>.inr (a.length+i))
  | .inr i=>.inr i
 |[],b=>by
  simp only[List.nil_append,zB2,List.length_nil,Nat.zero_add];cases zB2 rs b<;>rfl
 |x::a,b=>by
  simp only[List.cons_append,zB2];cases tokN rs x with
  |none=>rfl
  |some t=>
   dsimp only;rw[zJc rs a b];cases zB2 rs a with
   |inr i=>rfl
   |inl ts=>
    dsimp only;cases zB2 rs b with
    |inl us=>rfl
    |inr i=>simp only[List.length_cons];congr 1;omega
theorem zG4 (hx:l[k]?=some x)(h:zB2 rs (l.take k)= .inl ts)(hr:rolB rs x=true):zB2 rs (l.take (k+1))= .inl (ts++[tokS rs x]):=by
 rw[List.take_add_one,hx,Option.toList_some,zJc,h];simp only[zB2,zN3,if_pos hr]
theorem zLy (hx:l[k]?=some x)(h:zB2 rs (l.take k)= .inl ts)(hr:rolB rs x=false):zB2 rs l= .inr k:=by
 obtain⟨hk,hx'⟩:=List.getElem?_eq_some_iff.1 hx;have e:l=l.take k++x::l.drop (k+1):=by rw[<-hx',<-List.drop_eq_getElem_cons hk,List.take_append_drop]
 have hkl:(l.take k).length=k:=by rw[List.length_take];omega
 have:=zJc rs (l.take k) (x::l.drop (k+1));rw[<-e,h] at this;rw[this];simp only[zB2,zN3,hr,Bool.false_eq_true,if_false,hkl,Nat.add_zero]
theorem zCt {rs:List Rul}:∀{l:List Tre} {ts:List ByteArray},zB2 rs l= .inl ts->ts.length=l.length
 |[],ts,h=>by simp only[zB2,Sum.inl.injEq] at h;rw[<-h];rfl
 |x::l,ts,h=>by
  simp only[zB2] at h;cases ht:tokN rs x with
  |none=>rw[ht] at h;cases h
  |some t=>
   rw[ht] at h;dsimp only at h;cases hl:zB2 rs l with
   |inr i=>rw[hl] at h;cases h
   |inl us=>
    rw[hl] at h;simp only[Sum.inl.injEq] at h;rw[<-h,List.length_cons,List.length_cons,zCt hl]
theorem zVo (g:Nat)(A:Option Addr)(cap:Nat)(rs:List Rul)(n:Tre)(c:Array Value)(w:World)(hR:zGv w g A cap rs)(hN:zAv w n c)(hne:scrB n.kind=true->n.kids≠[]):Calls Tryz.prog 47 #[qP g,.agg c] w fun e w'=>e= .returned (.tuple #[.string (tokS rs n),.bool (rolB rs n)])/\Below w.heap.size w w':=by
 obtain⟨A2,cap2,rfl,hsz,hl,hc,hk⟩:=hN.form;have hb0:=zA0 w (qO n A2 cap2);have HB:=zh hb0;have K1:=zh (Blk.new w 25 (qC n A2 cap2));have HR:=zh (hR.keep hb0);have HN:=zh (hN.keep hb0);have HNE:=zh hne;have HTZ:=zh hsz;clear hR hN hk hne hb0;go_enter Tryz.func47,Tryz.ntmps47;go_upto_region 1 with(fail)
 generalize w.alloc (qO n A2 cap2)=w1 at*;obtain⟨k0,k1,k2,k3⟩:=qb K1;go_wp2_with fail;refine(zNt g A cap rs n _ w1 HR.out HN.out HNE.out).mono ?_;rintro e w2 ⟨rfl,hb⟩;replace K1:=kp hb K1;replace HB:=jt HB hb;clear hb k0 k1 k2 k3;have k0:=K1.out.cell 0;have k1:=K1.out.cell 1;cases hop:zDj rs n
 ·by_cases h2:n.kind=2
  ·have q:(n.kind==2)=true:=beq_iff_eq.2 h2;have q':(n.kind !=2)=false:=by rw[bne,q];rfl
   have HS:=zh (show tokS rs n=zHq by unfold tokS;rw[hop];rfl);have HO:=zh (show rolB rs n=idB n.text.data.toList by unfold rolB;rw[hop,decide_eq_true h2];rfl);clear h2 hop;go_wp2_with fail;refine(zH2 n.text w2 HTZ.out).mono ?_;rintro e w3 ⟨rfl,hb⟩;replace HB:=jt HB hb;clear hb;go_wp2;exact bodyPost_ret (v:=.tuple #[.string ⟨#[35]⟩,.bool (idB n.text.toList)]) (by simp[results,Tryz.results47,go_sem]) rfl ⟨by rw[HS.out,HO.out,ByteArray.toList_eq];rfl,HB.out⟩
  ·have q:(n.kind==2)=false:=bn h2;have q':(n.kind !=2)=true:=by rw[bne,q];rfl
   have HS:=zh (show tokS rs n=zHq by unfold tokS;rw[hop];rfl);have HO:=zh (show rolB rs n=true by unfold rolB;rw[hop,decide_eq_false h2];rfl);clear h2 hop;go_wp2;exact bodyPost_ret (v:=.tuple #[.string ⟨#[35]⟩,.bool true]) (by simp[results,Tryz.results47,go_sem]) rfl ⟨by rw[HS.out,HO.out];rfl,HB.out⟩
 ·have HS:=zh (show tokS rs n=(unsc n).text by unfold tokS;rw[hop];rfl);have HO:=zh (show rolB rs n=true by unfold rolB;rw[hop];rfl);clear hop;go_wp2;exact bodyPost_ret (v:=.tuple #[.string (unsc n).text,.bool true]) (by simp[results,Tryz.results47,go_sem]) rfl ⟨by rw[HS.out,HO.out],HB.out⟩
abbrev zBq (w:World)(B:Nat)(v:Value)(ts:List ByteArray):Prop:=w.ownsRow B 9 1 v ts.length (ts.map Value.string)
theorem zBq.snoc {B:Nat}{v:Value}{t:ByteArray}{n:Nat}{xs:List Value}(hn:n=ts.length+1)(hx:xs=ts.map Value.string++[.string t])(h:w.ownsRow B 9 1 v n xs):zBq w B v (ts++[t]):=by
 unfold zBq;rw[List.length_append,List.map_append];subst hn hx;exact h
def yA7 (rs:List Rul)(l:List Tre)(w:World)(e:Ending)(w':World):Prop:=(match zB2 rs l with
 | .inl ts=>∃v,e= .returned (.tuple #[v,qI 0,.bool true])/\zBq w' w.heap.size v ts
 | .inr i=>e= .returned (.tuple #[qN,qI (i:Int),.bool false]))/\Below w.heap.size w w'
theorem zLw (g:Nat)(A A1:Option Addr)(cap cap1:Nat)(rs:List Rul)(l:List Tre)(w:World)(hR:zGv w g A cap rs)(hN:zAo w A1 l)(hne:∀n∈l,scrB n.kind=true->n.kids≠[])(hn:l.length<=1000000):Calls Tryz.prog 23 #[qP g,.slice A1 l.length cap1] w (yA7 rs l w):=by
 obtain⟨i0,hi,hz0,hz1,hz2⟩:=info_parts zJ4;have HR0:=zh hR;have HN0:=zh hN;have HNE:=zh hne;clear hR hN hne;go_enter Tryz.func23,Tryz.ntmps23;go_wp2_with fail
 go_loopw [4,13] (fun v i wr=>∃(k:Nat) (ts:List ByteArray),k<=l.length/\i=qI k/\Hid (zB2 rs (l.take k)= .inl ts)/\Hid (zBq wr w.heap.size v ts)/\Hid (Below w.heap.size w wr)) (fun _ i _=>l.length -(intOf i).toNat)
 case atStart=>exact⟨0,[],by omega,rfl,zh rfl,zh (World.ownsRow_nil _ _ _ _),zh (Below.refl _ _)⟩
 case round=>
  obtain⟨k,ts,hk,rfl,HT,HO,HB⟩:=hrel
  by_cases hlt:k<l.length
  ·obtain⟨x,hx⟩:∃x,l[k]?=some x:=⟨_,gE hlt⟩
   obtain⟨ad,A3,cap3,rfl,hadl,hsz,hl3,hc3,hk3,hn3,d0,d1,d2,d3⟩:=(HN0.out.keep HB.out).at_ hx;have HX:=zh hx;have HNX:=zh hn3;have HNEX:=zh (HNE.out x (List.mem_of_getElem? hx));have HLEN:=zh (show ts.length=k by have:=zCt HT.out;rw[List.length_take] at this;omega);have hba:=zA0 wr (qO x A3 cap3);clear hx hn3 hk3;go_upto_region 4 with(fail)
   have HBW:=jt HB hba;have HO1:=zh (show zBq _ w.heap.size u4 ts from World.ownsRow.alloc HO.out (qO x A3 cap3));have K1:=zh (Blk.new wr 25 (qC x A3 cap3));replace HNX:=zh (HNX.out.keep hba);have HR:=zh (HR0.out.keep HBW.out);clear hba HO HB d0 d1 d2 d3 hadl;generalize wr.alloc (qO x A3 cap3)=w1 at*;obtain⟨k0,k1,k2,k3⟩:=qb K1;go_wp2_with fail;refine(zVo g A cap rs x _ w1 HR.out HNX.out HNEX.out).mono ?_;rintro e w2 ⟨rfl,hb⟩;obtain⟨cs2,HO2⟩:∃_:Unit,Hid (zBq w2 w.heap.size u4 ts):=⟨(),zh (World.ownsRow.kept (row:=none) HO1.out ⟨hb.os,hb.tape,hb.output,hb.size,fun i hi _=>hb.block i hi⟩ (by cases u4.ownBlock<;>simp))⟩
   have HB:=jt HBW hb;have HFIT:=zh (show(tokS rs x).size<=9223372036854775807 by
    unfold tokS
    split
    ·exact zMs HNX.out
    ·decide)
   clear hb k0 k1 k2 k3 K1 HNX HO1 HBW;cases hr:rolB rs x
   ·have HS:=zh (zLy HX.out HT.out hr);clear hr;go_wp2;exact bodyPost_ret (v:=.tuple #[qN,qI (k:Int),.bool false]) (by simp[results,Tryz.results23,go_sem]) rfl ⟨by rw[HS.out],HB.out⟩
   ·have HS:=zh (zG4 HX.out HT.out hr);clear hr;generalize tokS rs x=tx at*;obtain⟨A2,cap2,rfl,hcl2,hcap2,_⟩:∃A2 cap2,u4= .slice A2 ts.length cap2/\ts.length<=cap2/\cap2<=9223372036854775807/\True:=by
     obtain⟨h1,h2⟩:=HO2.out;rcases h2 with⟨rfl,h0⟩|⟨gq,cap,cur,rfl,hg,hb,hn,hc,hs,ht⟩
     ·exact⟨none,0,by rw[h0],by omega,by omega,trivial⟩
     ·exact⟨_,cap,rfl,by omega,by unfold maxLen at*;omega,trivial⟩
    have hown:=World.ownsRow.alloc HO2.out (.cells #[.string tx] 9);have HBL:=zh (World.ownsRow.lt HO2.out);have HSZ:=zh HB.out.size;go_wp2_with (at_builtin;refine wpList_append_own _ rfl (.tmp 27) (.tmp 29) 37 rfl w.heap.size 9 i0 qE 1 16 Tryz.underlying37 hi hz0 hz1 hz2 rfl (by decide) _ _ _ rfl hown ⟨w2.heap.size,0,none⟩ 1 1 [.string tx] rfl rfl (Ch.zDd _ _ _) ?c2a ?c3a ?c4a ?c5a ?_)
    case c2a=>intro u hu;simp at hu;subst hu;rfl
    case c3a=>have:=HLEN.out;unfold maxLen;omega
    case c4a=>have:=HLEN.out;omega
    case c5a=>have:=HSZ.out;simp;omega
    intro v' w3 hown' hgrow _;have NB:=zh ((HB.out.alloc HB.out.size (.cells #[.string tx] 9)).grown hgrow (by have:=HSZ.out;simp;omega) (fun k hk=>(HBL.out k hk).1));have NO:=zh (zBq.snoc rfl rfl hown');clear hown hown' hgrow HO2 HB;go_wp2;go_roundw
    case rel=>exact⟨k+1,ts++[tx],by omega,by go_num,HS,NO,NB⟩
    case measure=>simp[intOf];omega
  ·obtain rfl:k=l.length:=by omega
   have HT:=zh (show zB2 rs l= .inl ts by have:=HT.out;rwa [List.take_length] at this);go_wp2;exact bodyPost_ret (v:=.tuple #[u4,qI 0,.bool true]) (by simp[results,Tryz.results23,go_sem]) rfl ⟨by rw[HT.out];exact⟨_,rfl,HO.out⟩,HB.out⟩
end El
end Go.Proofs.YtapgncbegadbnaaGreatDoor
