/- The reader of the program: newReader, operator. -/
import Derived.Test.YtchllommcolijaaGreatDoorH579a98df
namespace Go.Proofs.YtchllommcolijaaGreatDoor.At
open Go.RowKit
theorem zKt (k:Int):∀(a b:List Tre) (D n:Nat),chkL k (a++b) D n=if(chkL k a D n).1=true then chkL k b D (chkL k a D n).2 else chkL k a D n
 |[],b,D,n=>by rw[List.nil_append,show chkL k [] D n=(true,n) by rw[chkL]];rfl
 |x::a,b,D,n=>by
  rw[List.cons_append,chkL,chkL];cases zBk k x.kind
  ·cases hc:(chkT x D n).1
   ·simp only[Bool.false_eq_true,↓reduceIte]
   ·simp only[Bool.false_eq_true,↓reduceIte];exact zKt k a b D _
  ·simp only[Bool.false_eq_true,↓reduceIte]
theorem zUd {k:Int}{ks:List Tre}{j D n nj:Nat}{y:Tre}(hy:ks[j]?=some y)(h:chkL k (ks.take j) D n=(true,nj)):chkL k (ks.take (j+1)) D n=if zBk k y.kind then(false,nj) else((chkT y D nj).1,(chkT y D nj).2):=by
 rw[List.take_add_one,hy,Option.toList,zKt,h,if_pos rfl,chkL];cases zBk k y.kind
 ·cases hc:(chkT y D nj).1
  ·simp only[Bool.false_eq_true,↓reduceIte]
  ·simp only[Bool.false_eq_true,↓reduceIte,chkL]
 ·simp only[↓reduceIte]
theorem zM2 {k:Int}{ks:List Tre}{j D n:Nat}(h:(chkL k (ks.take j) D n).1=false):chkL k ks D n=chkL k (ks.take j) D n:=by
 conv=>lhs;rw[←List.take_append_drop j ks]
 rw[zKt,h,if_neg (by simp)]
def InvC (gc n1 n2:Nat):List Bool→World→Prop
 |[true],w=>Hid (Blk w gc 68 (chkC n2))
 |_,w=>Hid (Blk w gc 68 (chkC n1))
theorem zXw (n:Int)(v:Int):(chkC n).setIfInBounds 39 (.int .i64 v)=chkC v:=rfl
theorem zXl (n:Int):(chkC n)[39]?=some (.int .i64 n):=rfl
set_option maxRecDepth 100000 in
set_option maxHeartbeats 4000000 in
theorem zVu:∀(m:Nat) (t:Tre) (p:Addr) (A:Option Addr) (cap gc n d:Nat) (w0 w:World),zAa t<m→zBy w0 p t A cap→Below w0.heap.size w0 w→Blk w gc 68 (chkC n)→w0.heap.size≤gc→n≤1000→d≤25→Calls Tryz.prog 23 #[.pointer (some ⟨gc,0,none⟩),.pointer (some p),.int .i64 (d:Int)] w fun e w'=>e= .returned (.bool (chkT t d n).1)∧Blk w' gc 68 (chkC (chkT t d n).2)∧Below w0.heap.size w0 w':=by
 intro m
 induction m with
 |zero=>intro t p A cap gc n d w0 w h;omega
 |succ m ih=>
  intro t p A cap gc n d w0 w hm hP hB hC hgc hn hd;have IH:=zh ih;clear ih;obtain⟨k,s,cols,ks⟩:=t;have HP:=zh hP;have HM:=zh hm;have HQ0:=zh (show chkT (.mk k s cols ks) d n=if 1000<n+1∨24<d∨ownT k s.data.toList cols ks.length=false then(false,n+1) else chkL k ks (d+1) (n+1) by rw[chkT]);have f0:=hC.frozen 39;have f1:=hC.cell 39;rw[zXl] at f1;have HC1:=zh (show Blk (w.setCell ⟨gc,39,none⟩ (.int .i64 ((n:Int)+1))) gc 68 (chkC (n+1:Nat)) by
   have:=hC.set_ 39 (.int .i64 ((n:Int)+1));rw[zXw] at this;exact this)
  have HB1:=zh (hB.setCell (p:=⟨gc,39,none⟩) hgc (.int .i64 ((n:Int)+1)));clear hP hB hC hm;go_enter Tryz.func23,Tryz.ntmps23
  by_cases h1:1000<n+1
  ·have HQ:=zh (show chkT (.mk k s cols ks) d n=(false,n+1) by rw[HQ0.out,if_pos (.inl h1)]);go_wp2_with fail;go_ret;exact⟨zA0 (by rw[HQ.out]),by rw[HQ.out];exact HC1.out,HB1.out⟩
  by_cases h2:24<d
  ·have HQ:=zh (show chkT (.mk k s cols ks) d n=(false,n+1) by rw[HQ0.out,if_pos (.inr (.inl h2))]);go_wp2_with fail;go_ret;exact⟨zA0 (by rw[HQ.out]),by rw[HQ.out];exact HC1.out,HB1.out⟩
  have f2:=HC1.out.cell 39;rw[zXl] at f2;go_wp2_with fail;generalize w.setCell ⟨gc,39,none⟩ (.int .i64 ((n:Int)+1))=w1 at*;clear f0 f1 f2;refine(zG3 gc (n+1:Nat) p k s cols ks A cap w1 (HP.out.keep HB1.out) HC1.out).mono ?_;rintro e w2 ⟨rfl,hb⟩;have HC:=kp hb HC1;have HB:=jt HB1 hb;clear hb HC1 HB1;cases ho:ownT k s.data.toList cols ks.length
  ·have HQ:=zh (show chkT (.mk k s cols ks) d n=(false,n+1) by rw[HQ0.out,if_pos (.inr (.inr ho))]);clear ho;go_wp2_with fail;go_ret;exact⟨zA0 (by rw[HQ.out]),by rw[HQ.out];exact HC.out,HB.out⟩
  rw[if_neg (by rintro(h|h|h);exact h1 h;exact h2 h;rw[ho] at h;cases h)] at HQ0;clear ho;have d3:w2.cell? ⟨p.block,p.off+3,none⟩=some (.slice A ks.length cap):=(HP.out.keep HB.out).kids;have hlen:=HP.out.len;have hcap:=HP.out.capl;dsimp only[Tre.kids] at hlen;have hwd:IntKind.i64.wrap ((d:Int)+1)=((d:Int)+1):=IntWalk.i64_in _ (by omega);have HWD:=zh hwd;clear hwd;go_wp2_with fail;clear d3
  go_loopw [35] (fun i wr=>∃(j nj:Nat),j≤ks.length∧i= .int .i64 j∧nj≤1000∧Hid (chkL k (ks.take j) (d+1) (n+1)=(true,nj))∧Hid (Blk wr gc 68 (chkC nj))∧Hid (Below w0.heap.size w0 wr)) (fun i _=>ks.length -(intOf i).toNat)
  case atStart=>exact⟨0,n+1,by omega,rfl,by omega,zh (show chkL k (ks.take 0) (d+1) (n+1)=(true,n+1) by rw[List.take_zero,chkL]),HC,HB⟩
  case round=>
   clear HC HB;obtain⟨j,nj,hj,rfl,hnj,HX,HC,HB⟩:=hrel
   by_cases hlt:j<ks.length
   ·obtain⟨y,hy⟩:∃y,ks[j]?=some y:=⟨_,gE hlt⟩
    obtain⟨ad,A3,cap3,rfl,hY⟩:=HP.out.down.ptr hy;have HY:=zh hY;have hcy:=zEe hy;have HSN:=zh (zUd hy HX.out);have HCU:Hid (zAa y<m):=by have h1:=HM.out;show _<_;rw[zAa] at h1;omega
    have HI:=zh ((zLq y (d+1) nj hnj));obtain⟨ky,sy,cy,ksy⟩:=y;clear hy hY hcy;rw[zI5] at HSN;have HBP:=zh (show((k==1)==(ky==1))=zBk k ky by rw[←zK2];cases (k==1)<;>cases (ky==1)<;>rfl);go_upto_region 7 with(fail)
    have hwd:=HWD.out;cases hbp:((k==1)==(ky==1))
    ·rw[hbp] at HBP;rw[←HBP.out,if_neg (by simp)] at HSN;obtain⟨n2,hn2⟩:∃n2,n2=(chkT (.mk ky sy cy ksy) (d+1) nj).2:=⟨_,rfl⟩
     have HN2:=zh hn2;clear hn2;cases hfv:(chkT (.mk ky sy cy ksy) (d+1) nj).1
     ·have HFV:=zh hfv;have HQ:=zh (show chkT (.mk k s cols ks) d n=(false,n2) by rw[HQ0.out,zM2 (j:=j+1) (by rw[HSN.out];exact hfv),HSN.out,hfv,HN2.out]);clear hfv;refine zHs (by kernel_rfl) _ [.pointer (some p),.pointer (some p),.pointer (some p),.int .i64 k,.bool (k==1),.pointer (some p),.pointer (some p),.pointer (some ⟨p.block,p.off+3,none⟩),.slice (some ad) ks.length cap,.int .i64 j,.pointer (some (ad.add (j*4))),.pointer (some (ad.add (j*4))),.int .i64 ky,.bool (ky==1),.bool false,.bool false,.pointer (some ⟨gc,0,none⟩),.pointer (some p),.pointer (some p),.pointer (some ⟨p.block,p.off+3,none⟩),.slice (some ad) ks.length cap,.int .i64 j,.pointer (some (ad.add (j*4))),.int .i64 (d:Int),.int .i64 ((d+1:Nat):Int),.bool false,.bool true,.bool true] [true,true,true,true,true,true,true,true,true,true,true,true,true,true,true,true,true,true,true,true,true,true,true,true,true,true,true,true] [25] (fun L wq=>Hid (Below w0.heap.size w0 wq)∧InvC gc nj n2 L wq) (by kernel_rfl) (by simp[fin,zAi,zA7,List.range,List.range.loop,Act.put];rfl) (by kernel_rfl) (by kernel_rfl) ⟨zA2 HB.out,zh HC.out.drew⟩ ?_ ?_
      ·refine⟨fun L wq hL hb ha hI=>?_,fun L wq hL hb ha hI=>?_,fun L wq hL hb ha hI=>?_,fun L wq hL hb ha hI=>?_,fun L wq hL hb ha hI=>?_,fun L wq hL hb ha hI=>?_,fun L wq hL hb ha hI=>?_,fun L wq hL hb ha hI=>?_,fun L wq hL hb ha hI=>?_,fun L wq hL hb ha hI=>?_,fun L wq hL hb ha hI=>?_,fun L wq hL hb ha hI=>?_,fun L wq hL hb ha hI=>?_,fun L wq hL hb ha hI=>?_,fun L wq hL hb ha hI=>?_,fun L wq hL hb ha hI=>?_,fun L wq hL hb ha hI=>?_,fun L wq hL hb ha hI=>?_,fun L wq hL hb ha hI=>?_,fun L wq hL hb ha hI=>?_,fun L wq hL hb ha hI=>?_,fun L wq hL hb ha hI=>?_,fun L wq hL hb ha hI=>?_,fun L wq hL hb ha hI=>?_,fun L wq hL hb ha hI=>?_,fun L wq hL hb ha hI=>?_,fun L wq hL hb ha hI=>?_,fun L wq hL hb ha hI=>?_,trivial⟩
       ·exact jv (.pointer (some p)) wq (by kernel_rfl) ⟨rfl,hI⟩
       ·exact jv (.pointer (some p)) wq (by simp[go_sem]) ⟨rfl,hI⟩
       ·exact jv (.pointer (some p)) wq (by simp[go_sem]) ⟨rfl,hI⟩
       ·have cJ:wq.cell? p=some (.int .i64 k):=(HP.out.keep hI.1.out).kind;exact jv (.int .i64 k) wq (by simp[go_sem,cJ]) ⟨rfl,hI⟩
       ·exact jv (.bool (k==1)) wq (by simp[go_sem]) ⟨rfl,hI⟩
       ·exact jv (.pointer (some p)) wq (by kernel_rfl) ⟨rfl,hI⟩
       ·exact jv (.pointer (some p)) wq (by simp[go_sem]) ⟨rfl,hI⟩
       ·exact jv (.pointer (some ⟨p.block,p.off+3,none⟩)) wq (by simp[go_sem]) ⟨rfl,hI⟩
       ·have cJ:wq.cell? ⟨p.block,p.off+3,none⟩=some (.slice (some ad) ks.length cap):=(HP.out.keep hI.1.out).kids;exact jv (.slice (some ad) ks.length cap) wq (by simp[go_sem,cJ]) ⟨rfl,hI⟩
       ·exact jv (.int .i64 j) wq (by kernel_rfl) ⟨rfl,hI⟩
       ·skip
        exact jv (.pointer (some (ad.add (j*4)))) wq (by simp[go_sem,hlt];try omega) ⟨rfl,hI⟩
       ·exact jv (.pointer (some (ad.add (j*4)))) wq (by simp[go_sem]) ⟨rfl,hI⟩
       ·have cJ:wq.cell? (ad.add (j*4))=some (.int .i64 ky):=(HY.out.keep hI.1.out).kind;exact jv (.int .i64 ky) wq (by simp[go_sem,cJ]) ⟨rfl,hI⟩
       ·exact jv (.bool (ky==1)) wq (by simp[go_sem]) ⟨rfl,hI⟩
       ·skip
        exact jv (.bool false) wq (by simp[go_sem,hbp]) ⟨rfl,hI⟩
       ·exact jv (.bool false) wq (by kernel_rfl) ⟨rfl,hI⟩
       ·exact jv (.pointer (some ⟨gc,0,none⟩)) wq (by kernel_rfl) ⟨rfl,hI⟩
       ·exact jv (.pointer (some p)) wq (by kernel_rfl) ⟨rfl,hI⟩
       ·exact jv (.pointer (some p)) wq (by simp[go_sem]) ⟨rfl,hI⟩
       ·exact jv (.pointer (some ⟨p.block,p.off+3,none⟩)) wq (by simp[go_sem]) ⟨rfl,hI⟩
       ·have cJ:wq.cell? ⟨p.block,p.off+3,none⟩=some (.slice (some ad) ks.length cap):=(HP.out.keep hI.1.out).kids;exact jv (.slice (some ad) ks.length cap) wq (by simp[go_sem,cJ]) ⟨rfl,hI⟩
       ·exact jv (.int .i64 j) wq (by kernel_rfl) ⟨rfl,hI⟩
       ·skip
        exact jv (.pointer (some (ad.add (j*4)))) wq (by simp[go_sem,hlt];try omega) ⟨rfl,hI⟩
       ·exact jv (.int .i64 (d:Int)) wq (by kernel_rfl) ⟨rfl,hI⟩
       ·skip
        exact jv (.int .i64 ((d+1:Nat):Int)) wq (by simp[go_sem,hwd]) ⟨rfl,hI⟩
       ·have e8:L 25=false:=hL;simp only[List.map,e8] at hI;refine jc 23 (#[.pointer (some ⟨gc,0,none⟩),.pointer (some (ad.add (j*4))),.int .i64 ((d+1:Nat):Int)]) wq (by kernel_rfl) ((IH.out (.mk ky sy cy ksy) (ad.add (j*4)) A3 cap3 gc nj (d+1) w0 wq HCU.out HY.out hI.1.out hI.2.out hgc hnj (by omega)).mono ?_);rintro e wa ⟨rfl,hb5,hb6⟩;exact⟨_,rfl,by rw[HFV.out],hb6,show Hid (Blk wa gc 68 (chkC n2)) from zh (by rw[HN2.out];exact hb5)⟩
       ·exact jv (.bool true) wq (by simp[go_sem]) ⟨rfl,hI⟩
       ·exact jv (.bool true) wq (by kernel_rfl) ⟨rfl,hI⟩
      ·intro wq hI;have HB:=hI.1;have HC:=hI.2;clear hI;go_wp2_with fail;go_ret;exact⟨zA0 (by rw[HQ.out]),by rw[HQ.out];exact HC.out,HB.out⟩
     ·have HFV:=zh hfv;have HS:=zh (show chkL k (ks.take (j+1)) (d+1) (n+1)=(true,n2) by rw[HSN.out,hfv,HN2.out]);have HN22:=zh (show n2≤1000 by have h3:=HI.out.1.1 hfv;have h4:=HI.out.2 hfv;rw[HN2.out,h4];exact h3.2.2);clear hfv;refine zHs (by kernel_rfl) _ [.pointer (some p),.pointer (some p),.pointer (some p),.int .i64 k,.bool (k==1),.pointer (some p),.pointer (some p),.pointer (some ⟨p.block,p.off+3,none⟩),.slice (some ad) ks.length cap,.int .i64 j,.pointer (some (ad.add (j*4))),.pointer (some (ad.add (j*4))),.int .i64 ky,.bool (ky==1),.bool false,.bool false,.pointer (some ⟨gc,0,none⟩),.pointer (some p),.pointer (some p),.pointer (some ⟨p.block,p.off+3,none⟩),.slice (some ad) ks.length cap,.int .i64 j,.pointer (some (ad.add (j*4))),.int .i64 (d:Int),.int .i64 ((d+1:Nat):Int),.bool true,.bool false,.bool false] [true,true,true,true,true,true,true,true,true,true,true,true,true,true,true,true,true,true,true,true,true,true,true,true,true,true,true,true] [25] (fun L wq=>Hid (Below w0.heap.size w0 wq)∧InvC gc nj n2 L wq) (by kernel_rfl) (by simp[fin,zAi,zA7,List.range,List.range.loop,Act.put];rfl) (by kernel_rfl) (by kernel_rfl) ⟨zA2 HB.out,zh HC.out.drew⟩ ?_ ?_
      ·refine⟨fun L wq hL hb ha hI=>?_,fun L wq hL hb ha hI=>?_,fun L wq hL hb ha hI=>?_,fun L wq hL hb ha hI=>?_,fun L wq hL hb ha hI=>?_,fun L wq hL hb ha hI=>?_,fun L wq hL hb ha hI=>?_,fun L wq hL hb ha hI=>?_,fun L wq hL hb ha hI=>?_,fun L wq hL hb ha hI=>?_,fun L wq hL hb ha hI=>?_,fun L wq hL hb ha hI=>?_,fun L wq hL hb ha hI=>?_,fun L wq hL hb ha hI=>?_,fun L wq hL hb ha hI=>?_,fun L wq hL hb ha hI=>?_,fun L wq hL hb ha hI=>?_,fun L wq hL hb ha hI=>?_,fun L wq hL hb ha hI=>?_,fun L wq hL hb ha hI=>?_,fun L wq hL hb ha hI=>?_,fun L wq hL hb ha hI=>?_,fun L wq hL hb ha hI=>?_,fun L wq hL hb ha hI=>?_,fun L wq hL hb ha hI=>?_,fun L wq hL hb ha hI=>?_,fun L wq hL hb ha hI=>?_,fun L wq hL hb ha hI=>?_,trivial⟩
       ·exact jv (.pointer (some p)) wq (by kernel_rfl) ⟨rfl,hI⟩
       ·exact jv (.pointer (some p)) wq (by simp[go_sem]) ⟨rfl,hI⟩
       ·exact jv (.pointer (some p)) wq (by simp[go_sem]) ⟨rfl,hI⟩
       ·have cJ:wq.cell? p=some (.int .i64 k):=(HP.out.keep hI.1.out).kind;exact jv (.int .i64 k) wq (by simp[go_sem,cJ]) ⟨rfl,hI⟩
       ·exact jv (.bool (k==1)) wq (by simp[go_sem]) ⟨rfl,hI⟩
       ·exact jv (.pointer (some p)) wq (by kernel_rfl) ⟨rfl,hI⟩
       ·exact jv (.pointer (some p)) wq (by simp[go_sem]) ⟨rfl,hI⟩
       ·exact jv (.pointer (some ⟨p.block,p.off+3,none⟩)) wq (by simp[go_sem]) ⟨rfl,hI⟩
       ·have cJ:wq.cell? ⟨p.block,p.off+3,none⟩=some (.slice (some ad) ks.length cap):=(HP.out.keep hI.1.out).kids;exact jv (.slice (some ad) ks.length cap) wq (by simp[go_sem,cJ]) ⟨rfl,hI⟩
       ·exact jv (.int .i64 j) wq (by kernel_rfl) ⟨rfl,hI⟩
       ·skip
        exact jv (.pointer (some (ad.add (j*4)))) wq (by simp[go_sem,hlt];try omega) ⟨rfl,hI⟩
       ·exact jv (.pointer (some (ad.add (j*4)))) wq (by simp[go_sem]) ⟨rfl,hI⟩
       ·have cJ:wq.cell? (ad.add (j*4))=some (.int .i64 ky):=(HY.out.keep hI.1.out).kind;exact jv (.int .i64 ky) wq (by simp[go_sem,cJ]) ⟨rfl,hI⟩
       ·exact jv (.bool (ky==1)) wq (by simp[go_sem]) ⟨rfl,hI⟩
       ·skip
        exact jv (.bool false) wq (by simp[go_sem,hbp]) ⟨rfl,hI⟩
       ·exact jv (.bool false) wq (by kernel_rfl) ⟨rfl,hI⟩
       ·exact jv (.pointer (some ⟨gc,0,none⟩)) wq (by kernel_rfl) ⟨rfl,hI⟩
       ·exact jv (.pointer (some p)) wq (by kernel_rfl) ⟨rfl,hI⟩
       ·exact jv (.pointer (some p)) wq (by simp[go_sem]) ⟨rfl,hI⟩
       ·exact jv (.pointer (some ⟨p.block,p.off+3,none⟩)) wq (by simp[go_sem]) ⟨rfl,hI⟩
       ·have cJ:wq.cell? ⟨p.block,p.off+3,none⟩=some (.slice (some ad) ks.length cap):=(HP.out.keep hI.1.out).kids;exact jv (.slice (some ad) ks.length cap) wq (by simp[go_sem,cJ]) ⟨rfl,hI⟩
       ·exact jv (.int .i64 j) wq (by kernel_rfl) ⟨rfl,hI⟩
       ·skip
        exact jv (.pointer (some (ad.add (j*4)))) wq (by simp[go_sem,hlt];try omega) ⟨rfl,hI⟩
       ·exact jv (.int .i64 (d:Int)) wq (by kernel_rfl) ⟨rfl,hI⟩
       ·skip
        exact jv (.int .i64 ((d+1:Nat):Int)) wq (by simp[go_sem,hwd]) ⟨rfl,hI⟩
       ·have e8:L 25=false:=hL;simp only[List.map,e8] at hI;refine jc 23 (#[.pointer (some ⟨gc,0,none⟩),.pointer (some (ad.add (j*4))),.int .i64 ((d+1:Nat):Int)]) wq (by kernel_rfl) ((IH.out (.mk ky sy cy ksy) (ad.add (j*4)) A3 cap3 gc nj (d+1) w0 wq HCU.out HY.out hI.1.out hI.2.out hgc hnj (by omega)).mono ?_);rintro e wa ⟨rfl,hb5,hb6⟩;exact⟨_,rfl,by rw[HFV.out],hb6,show Hid (Blk wa gc 68 (chkC n2)) from zh (by rw[HN2.out];exact hb5)⟩
       ·exact jv (.bool false) wq (by simp[go_sem]) ⟨rfl,hI⟩
       ·exact jv (.bool false) wq (by kernel_rfl) ⟨rfl,hI⟩
      ·intro wq hI;have HB:=hI.1;have HC:=hI.2;clear hI;go_wp2_with fail;go_roundw
       case rel=>exact⟨j+1,n2,by omega,by go_num,HN22.out,HS,HC,HB⟩
       case measure=>simp[intOf];omega
    ·rw[hbp] at HBP;rw[←HBP.out,if_pos rfl] at HSN;have HQ:=zh (show chkT (.mk k s cols ks) d n=(false,nj) by rw[HQ0.out,zM2 (j:=j+1) (by rw[HSN.out]),HSN.out]);obtain⟨n2,hn2⟩:∃n2,n2=nj:=⟨_,rfl⟩
     have HN2:=zh hn2;clear hn2;refine zA8 (by kernel_rfl) _ [.pointer (some p),.pointer (some p),.pointer (some p),.int .i64 k,.bool (k==1),.pointer (some p),.pointer (some p),.pointer (some ⟨p.block,p.off+3,none⟩),.slice (some ad) ks.length cap,.int .i64 j,.pointer (some (ad.add (j*4))),.pointer (some (ad.add (j*4))),.int .i64 ky,.bool (ky==1),.bool true,.bool true,undef,undef,undef,undef,undef,undef,undef,undef,undef,undef,undef,.bool true] [true,true,true,true,true,true,true,true,true,true,true,true,true,true,true,true,false,false,false,false,false,false,false,false,false,false,false,true] (fun wq=>Hid (Below w0.heap.size w0 wq)∧Hid (Blk wq gc 68 (chkC nj))) (by kernel_rfl) (by simp[fin,zAi,zA7,List.range,List.range.loop,Act.put];rfl) (by kernel_rfl) ⟨zA2 HB.out,zh HC.out.drew⟩ ?_ ?_
     ·refine⟨fun wq hI=>?_,fun wq hI=>?_,fun wq hI=>?_,fun wq hI=>?_,fun wq hI=>?_,fun wq hI=>?_,fun wq hI=>?_,fun wq hI=>?_,fun wq hI=>?_,fun wq hI=>?_,fun wq hI=>?_,fun wq hI=>?_,fun wq hI=>?_,fun wq hI=>?_,fun wq hI=>?_,fun wq hI=>?_,rfl,rfl,rfl,rfl,rfl,rfl,rfl,rfl,rfl,rfl,rfl,fun wq hI=>?_,trivial⟩
      ·exact jv (.pointer (some p)) wq (by kernel_rfl) ⟨rfl,hI⟩
      ·exact jv (.pointer (some p)) wq (by simp[go_sem]) ⟨rfl,hI⟩
      ·exact jv (.pointer (some p)) wq (by simp[go_sem]) ⟨rfl,hI⟩
      ·have cJ:wq.cell? p=some (.int .i64 k):=(HP.out.keep hI.1.out).kind;exact jv (.int .i64 k) wq (by simp[go_sem,cJ]) ⟨rfl,hI⟩
      ·exact jv (.bool (k==1)) wq (by simp[go_sem]) ⟨rfl,hI⟩
      ·exact jv (.pointer (some p)) wq (by kernel_rfl) ⟨rfl,hI⟩
      ·exact jv (.pointer (some p)) wq (by simp[go_sem]) ⟨rfl,hI⟩
      ·exact jv (.pointer (some ⟨p.block,p.off+3,none⟩)) wq (by simp[go_sem]) ⟨rfl,hI⟩
      ·have cJ:wq.cell? ⟨p.block,p.off+3,none⟩=some (.slice (some ad) ks.length cap):=(HP.out.keep hI.1.out).kids;exact jv (.slice (some ad) ks.length cap) wq (by simp[go_sem,cJ]) ⟨rfl,hI⟩
      ·exact jv (.int .i64 j) wq (by kernel_rfl) ⟨rfl,hI⟩
      ·skip
       exact jv (.pointer (some (ad.add (j*4)))) wq (by simp[go_sem,hlt];try omega) ⟨rfl,hI⟩
      ·exact jv (.pointer (some (ad.add (j*4)))) wq (by simp[go_sem]) ⟨rfl,hI⟩
      ·have cJ:wq.cell? (ad.add (j*4))=some (.int .i64 ky):=(HY.out.keep hI.1.out).kind;exact jv (.int .i64 ky) wq (by simp[go_sem,cJ]) ⟨rfl,hI⟩
      ·exact jv (.bool (ky==1)) wq (by simp[go_sem]) ⟨rfl,hI⟩
      ·skip
       exact jv (.bool true) wq (by simp[go_sem,hbp]) ⟨rfl,hI⟩
      ·exact jv (.bool true) wq (by kernel_rfl) ⟨rfl,hI⟩
      ·exact jv (.bool true) wq (by kernel_rfl) ⟨rfl,hI⟩
     ·intro wq hI;have HB:=hI.1;have HC:=hI.2;clear hI;go_wp2_with fail;go_ret;exact⟨zA0 (by rw[HQ.out]),by rw[HQ.out];exact HC.out,HB.out⟩
   ·obtain rfl:j=ks.length:=by omega
    rw[List.take_length] at HX;rw[HX.out] at HQ0;go_wp2_with fail;go_ret;exact⟨zA0 (by rw[HQ0.out]),by rw[HQ0.out];exact HC.out,HB.out⟩
theorem zEw {P:Program}{ops:Array Oper}{rest:List Oper}{o:Oper}{a:Act}{w:World}{Q:Exit→Act→World→Prop}(hg:o.guard=none)(t:TypeId)(parts:Array (Nat×Operand))(ho:o.op= .build t parts)(cells:Array Value)
  (hf:P.built t (parts.map fun(i,x)=>(i,a.eval x)).toList=some cells) (h:wpList P ops Q rest (a.put o.dst (.agg cells)) w):wpList P ops Q (o::rest) a w:=
 wpList_build hg t parts ho (by rw[hf];rfl) (by rw[hf];exact h)
set_option maxRecDepth 100000 in
set_option maxHeartbeats 800000 in
theorem zK1 (t:Tre)(c:Array Value)(w:World)(hN:zBd w t c):Calls Tryz.prog 15 #[.agg c] w fun e w'=>e= .returned (.bool (zFt t))∧Below w.heap.size w w':=by
 obtain⟨k,s,cols,ks⟩:=t;have HQ:=zh (zTq (.mk k s cols ks));obtain⟨A2,cap2,rfl,hs,hl,hc,hk⟩:=hN.form;dsimp only[Tre.kind,Tre.text,Tre.cols,Tre.kids] at hs hl hc hk⊢;rw[zI5] at HQ;have K0:=zh (Blk.new w 25 (nodC k s cols A2 ks.length cap2));have H0:=zh (zA1 w (.cells (nodC k s cols A2 ks.length cap2) 25));have HK:=zh (hk.keep H0.out);clear hk hN;dsimp only[nodC] at K0 H0 HK;go_enter Tryz.func15,Tryz.ntmps15;go_wp2_with fail;generalize w.alloc (.cells #[.int .i64 k,.string s,.int .i64 cols,.slice A2 ks.length cap2] 25)=w1 at*;refine(zTu w1).mono ?_;rintro e w2 ⟨rfl,hb⟩;have K0:=kp hb K0;have HK:=zh (HK.out.keep hb);have H0:=jt H0 hb;clear hb
 by_cases h1:k=1
 ·subst h1;rw[decide_eq_true rfl,Bool.true_and] at HQ;have c0:=(K0.out.alloc (.cells (chkC 0) 68)).cell 0;go_wp2_with (refine zEw rfl 68 #[(0,.tmp 4)] rfl (chkC 0) (by kernel_rfl) ?_)
  have HCK:=zh (Blk.new w2 68 (chkC 0));have HB2:=zh (zA1 w2 (.cells (chkC 0) 68));have HP:=zh (show zBy w2 ⟨w.heap.size,0,none⟩ (.mk 1 s cols ks) A2 cap2 from⟨K0.out.lt,K0.out.cell 0,K0.out.cell 1,K0.out.cell 2,K0.out.cell 3,hs,hl,hc,HK.out⟩);refine(zVu (zAa (.mk 1 s cols ks)+1) (.mk 1 s cols ks) ⟨w.heap.size,0,none⟩ A2 cap2 w2.heap.size 0 1 w2 _ (by omega) HP.out HB2.out HCK.out (Nat.le_refl _) (by omega) (by omega)).mono ?_;rintro e w4 ⟨rfl,_,hb⟩;have HB:=jt H0 hb;clear hb c0;go_wp2_with fail;go_ret;exact⟨zA0 HQ.out.symm,HB.out⟩
 ·have q1:(k==1)=false:=bn h1;rw[decide_eq_false h1,Bool.false_and] at HQ;clear h1;have c0:=(K0.out.alloc (.cells (chkC 0) 68)).cell 0;go_wp2_with (refine zEw rfl 68 #[(0,.tmp 4)] rfl (chkC 0) (by kernel_rfl) ?_)
  go_ret;exact⟨zA0 HQ.out.symm,H0.out.trans ((zA1 w2 _).mono H0.out.size)⟩
end Go.Proofs.YtchllommcolijaaGreatDoor.At
namespace Go.Proofs.YtchllommcolijaaGreatDoor.El
open At Ch Sp Sy Go.RowKit
theorem zNk (s:List UInt8):∀(rs:List Rul) (acc:List (List UInt8)),s∈rs.foldl zF0 acc↔s∈acc∨(s≠[]∧∃r∈rs,r.sym.data.toList=s)
 |[],acc=>by simp
 |r::rs,acc=>by
  rw[List.foldl_cons,zNk s rs];unfold zF0
  by_cases h:r.sym.data.toList=[]∨acc.contains r.sym.data.toList=true
  ·rw[if_pos h];constructor
   ·rintro(h1|⟨h1,x,h2,h3⟩)
    ·exact .inl h1
    ·exact .inr ⟨h1,x,List.mem_cons_of_mem _ h2,h3⟩
   ·rintro(h1|⟨h1,x,h2,h3⟩)
    ·exact .inl h1
    ·rcases List.mem_cons.1 h2 with rfl|h2
     ·rcases h with h|h
      ·exact absurd (h3.symm.trans h) h1
      ·rw[h3,List.contains_iff_mem] at h;exact .inl h
     ·exact .inr ⟨h1,x,h2,h3⟩
  ·rw[if_neg h,List.mem_append,List.mem_singleton];simp only[not_or] at h;constructor
   ·rintro((h1|h1)|⟨h1,x,h2,h3⟩)
    ·exact .inl h1
    ·exact .inr ⟨h1▸h.1,r,List.mem_cons_self,h1.symm⟩
    ·exact .inr ⟨h1,x,List.mem_cons_of_mem _ h2,h3⟩
   ·rintro(h1|⟨h1,x,h2,h3⟩)
    ·exact .inl (.inl h1)
    ·rcases List.mem_cons.1 h2 with rfl|h2
     ·exact .inl (.inr h3.symm)
     ·exact .inr ⟨h1,x,h2,h3⟩
theorem zTw (rs:List Rul)(s:List UInt8):(zCw rs).contains s=zB9 rs s:=by
 rw[Bool.eq_iff_iff,List.contains_iff_mem];unfold zCw zB9;rw[zNk,Bool.and_eq_true,List.any_eq_true];cases s with
 |nil=>simp
 |cons a r=>simp
structure zG4 (w:World)(g:Nat)(A:Option Addr)(cap:Nat)(rs:List Rul):Prop where
 rul:zAg w A rs
 box:∃b n D,Blk w g 73 #[.slice A rs.length cap,.map (some b)]∧zBw w b n D∧zFr D (zCw rs)
theorem zG4.keep {w w':World}{g:Nat}{A:Option Addr}{cap:Nat}{rs:List Rul}(h:zG4 w g A cap rs)(hb:Below w.heap.size w w'):zG4 w' g A cap rs:=by
 obtain⟨b,n,D,h1,h2,h3⟩:=h.box;exact⟨h.rul.keep hb,b,n,D,jL hb h1,World.ownsMap.kept (row:=none) h2 ⟨hb.os,hb.tape,hb.output,hb.size,fun i hi _=>hb.block i hi⟩ (by simp),h3⟩
theorem zKv {w:World}{b n:Nat}{D:DataW Unit}{rs:List Rul}(hM:zBw w b n D)(hS:zFr D (zCw rs)){s:ByteArray}(hs:s.size≤9223372036854775807):(Instr.lookup 71 (.map (some b)) (.string s) false).run Tryz.prog w= .ok (.bool (zB9 rs s.data.toList)) w:=by
 obtain⟨c,h1,h2⟩:=zJf hM law9 Tryz.underlying71 Tryz.underlying4 (zY4 _) (Go.WideMaps.keyOf_string_mk (P:=Tryz.prog) (k:=9) Tryz.underlying9 (s:=s) (by unfold maxLen;omega));rw[hS s.data.toList] at h2;obtain rfl:(zCw rs).contains s.data.toList=c:=by simpa using h2
 rw[h1,zTw]
theorem _root_.Go.Proofs.YtchllommcolijaaGreatDoor.Sy.zCh.strs {w:World}{B n cap:Nat}{A:Option Addr}{ps:List (List UInt8)}(h:zCh w B (.slice A n cap) ps):zOd w A ps:=by
 obtain⟨A',cap',e,_,_,hI⟩:=h.form;injection e with e1;rw[e1];exact hI
def yA7 (A:Option Addr)(cap:Nat)(rs:List Rul)(w:World)(e:Ending)(w':World):Prop:=∃g,e= .returned (.pointer (some ⟨g,0,none⟩))∧zG4 w' g A cap rs∧Below w.heap.size w w'
set_option maxRecDepth 100000 in
set_option maxHeartbeats 1600000 in
theorem zKy (A:Option Addr)(cap:Nat)(rs:List Rul)(w:World)(hR:zAg w A rs)(hn:rs.length≤1000000):Calls Tryz.prog 16 #[.slice A rs.length cap] w (yA7 A cap rs w):=by
 have hmm:= @run_makeMap Tryz.prog;have B1:=zA1 w (.map #[] 0);have s1:(w.alloc (.map #[] 0)).heap.size=w.heap.size+1:=by simp
 have B2:=zA1 (w.alloc (.map #[] 0)) (.cells #[.slice A rs.length cap,.map (some w.heap.size)] 73);have HB:=zh (B1.trans (B2.mono B1.size));have HM:=zh (show zBw ((w.alloc (.map #[] 0)).alloc (.cells #[.slice A rs.length cap,.map (some w.heap.size)] 73)) w.heap.size 0 (.map []) from(World.ownsMap_made (H:=Unit) w Tryz.prog 9 (plainElem Tryz.prog 4)).alloc _);have K1:=zh (Blk.new (w.alloc (.map #[] 0)) 73 #[.slice A rs.length cap,.map (some w.heap.size)]);rw[s1] at K1;have HR0:=zh hR;have HR:=zh (hR.keep HB.out);clear hR B1 B2 s1;go_enter Tryz.func16,Tryz.ntmps16;go_upto_region 2 with(fail)
 generalize (w.alloc (.map #[] 0)).alloc (.cells #[.slice A rs.length cap,.map (some w.heap.size)] 73)=w1 at*;clear hmm;go_wp2_with fail;refine(zO7 A cap rs w1 HR.out hn).mono ?_;rintro e w2 ⟨v,rfl,ho,hb⟩;obtain⟨A5,cap5,rfl,hcl5,hcap5,hI⟩:=ho.form;have HI:=zh ho;have HW1:=zh HB.out.size;have HLS:=zh (show(zCw rs).length≤1000000 by have:=zF1 rs rs.length;rw[List.take_length] at this;omega);have HSI:=zh (show ∀p∈zCw rs,p.length≤9223372036854775807 from fun p hp=>by
  obtain⟨h1,r,h2,h3⟩:=((zNk p rs []).1 hp).resolve_left (by simp);obtain⟨i,hi⟩:=List.getElem?_of_mem h2;obtain⟨hf,_⟩:=HR.out.at_ hi;have:=hf.1;rw[←h3]
  simpa using this)
 replace K1:=kp hb K1;replace HR:=zh (HR.out.keep hb);replace HM:=zh (show zBw w2 w.heap.size 0 (.map []) from World.ownsMap.kept (row:=none) HM.out ⟨hb.os,hb.tape,hb.output,hb.size,fun i hi _=>hb.block i hi⟩ (by simp));replace HB:=jt HB hb;clear ho hb hI;generalize hss:zCw rs=ss at*;have HSS:=zh hss;clear hss;have hls:=HLS.out;go_wp2_with fail
 go_loopw [13] (fun i wr=>∃(k:Nat) (D:DataW Unit),k≤ss.length∧i= .int .i64 k∧Hid (zBw wr w.heap.size k D)∧Hid (zFr D (ss.take k))∧Hid (zCh wr w1.heap.size (.slice A5 ss.length cap5) ss)∧Hid (Blk wr (w.heap.size+1) 73 #[.slice A rs.length cap,.map (some w.heap.size)])∧Hid (Below w.heap.size w wr)) (fun i _=>ss.length -(intOf i).toNat)
 case atStart=>exact⟨0,.map [],by omega,rfl,HM,zh zPv,HI,K1,HB⟩
 case round=>
  clear HM HI K1 HR HB;obtain⟨k,D,hk,rfl,HM,HSE,HI,K1,HB⟩:=hrel
  by_cases hlt:k<ss.length
  ·obtain⟨p,hp⟩:∃p,ss[k]?=some p:=⟨_,gE hlt⟩
   obtain⟨gp,rfl,hgp,hcp⟩:=HI.out.strs k p hp;have HPZ:=zh (HSI.out p (List.mem_of_getElem? hp));have HSN:=zh (show zFr (D.put (.string (bys p).data.toList) (.lit (.bool true))) (ss.take (k+1)) by
    rw[List.take_add_one,hp,zP9];exact zL2 HSE.out (World.ownsMap.isMap HM.out) _)
   have HKEY:=zh (Go.WideMaps.keyOf_string_mk (P:=Tryz.prog) (k:=9) Tryz.underlying9 (s:=bys p) (by unfold maxLen;have:=HPZ.out;rw[show(bys p).size=p.length by simp[bys,ByteArray.size]];omega));have c1:=K1.out.cell 1;clear hp;go_wp2_with (at_mapUpdate;refine wpList_mapUpdate_own _ rfl _ _ _ 71 rfl 9 4 law9 Tryz.underlying71 _ w.heap.size k D rfl HM.out (by unfold maxLen;omega) _ _ _ rfl rfl HKEY.out (.lit (.bool true)) [] (plainElem_bool Tryz.underlying4 true) ?_)
   intro w3 hm3 hgrow3;have hne:∀r,some w.heap.size=some r→w.heap.size≤r:=fun r e=>by have:=sj e;omega
   have NB:=zh (HB.out.grown hgrow3 HB.out.size hne);have NI:=zh (show zCh w3 w1.heap.size (.slice (some ⟨gp,0,none⟩) ss.length cap5) ss from World.ownsRow.kept HI.out hgrow3 (.inr (zG0 HM.out HI.out)));have NK:=zh (K1.out.grown hgrow3 (fun e=>by have:=sj e;omega));have NM:=zh (show zBw w3 w.heap.size (k+1) (D.put (.string (bys p).data.toList) (.lit (.bool true))) from hm3);clear hm3 hgrow3 hne HM HI K1 HB c1 hcp;go_wp2_with fail;go_roundw
   case rel=>exact⟨k+1,_,by omega,by go_num,NM,HSN,NI,NK,NB⟩
   case measure=>simp[intOf];omega
  ·obtain rfl:k=ss.length:=by omega
   rw[List.take_length] at HSE;go_wp2_with fail;go_ret;exact⟨w.heap.size+1,rfl,⟨HR0.out.keep HB.out,w.heap.size,_,D,K1.out,HM.out,by rw[HSS.out];exact HSE.out⟩,HB.out⟩
def scrB (k:Int):Bool:=decide (k=7∨k=8∨k=9)
set_option maxHeartbeats 800000 in
theorem zM0 (k:Int)(s:ByteArray)(cc:Int)(A:Option Addr)(n cap:Nat)(w:World):Calls Tryz.prog 101 #[.agg #[.int .i64 k,.string s,.int .i64 cc,.slice A n cap]] w fun e w'=>e= .returned (.bool (scrB k))∧Below w.heap.size w w':=by
 have HB:=zh (zA1 w (.cells #[.int .i64 k,.string s,.int .i64 cc,.slice A n cap] 25));have K1:=zh (Blk.new w 25 #[.int .i64 k,.string s,.int .i64 cc,.slice A n cap]);have c0:=K1.out.cell 0
 by_cases h7:k=7
 ·have q:(k==7)=true:=beq_iff_eq.2 h7;have HR:=zh (show scrB k=true from decide_eq_true (.inl h7));clear h7;go_enter Tryz.func101,Tryz.ntmps101;go_wp2_with fail;go_ret;exact⟨zA0 HR.out.symm,HB.out⟩
 have q7:(k==7)=false:=bn h7
 by_cases h8:k=8
 ·have q:(k==8)=true:=beq_iff_eq.2 h8;have HR:=zh (show scrB k=true from decide_eq_true (.inr (.inl h8)));clear h7 h8;go_enter Tryz.func101,Tryz.ntmps101;go_wp2_with fail;go_ret;exact⟨zA0 HR.out.symm,HB.out⟩
 have q8:(k==8)=false:=bn h8
 by_cases h9:k=9
 ·have q:(k==9)=true:=beq_iff_eq.2 h9;have HR:=zh (show scrB k=true from decide_eq_true (.inr (.inr h9)));clear h7 h8 h9;go_enter Tryz.func101,Tryz.ntmps101;go_wp2_with fail;go_ret;exact⟨zA0 HR.out.symm,HB.out⟩
 have q9:(k==9)=false:=bn h9;have HR:=zh (show scrB k=false from decide_eq_false (by rintro(h|h|h)<;>contradiction));clear h7 h8 h9;go_enter Tryz.func101,Tryz.ntmps101;go_wp2_with fail;go_ret;exact⟨zA0 HR.out.symm,HB.out⟩
theorem zO0 {n:Tre}(h:scrB n.kind=false):unsc n=n:=by
 unfold unsc;unfold scrB at h;rw[if_neg (of_decide_eq_false h)]
theorem zN8 {n b:Tre}{ks:List Tre}(hk:n.kids=b::ks)(h:b.kids.length≠1):unsc n=n:=by
 unfold unsc;rw[hk]
 split
 ·dsimp only
  split
  ·next x hx=>rw[hx] at h;simp at h
  ·rfl
 ·rfl
theorem zPy {n b x:Tre}{ks:List Tre}(hs:scrB n.kind=true)(hk:n.kids=b::ks)(h:b.kids=[x]):unsc n=x:=by
 unfold unsc;unfold scrB at hs;rw[if_pos (of_decide_eq_true hs),hk];dsimp only;rw[h]
theorem zLa {w w':World}{b n:Nat}{D:DataW Unit}(h:zBw w b n D)(hb:Below w.heap.size w w'):zBw w' b n D:=World.ownsMap.kept (row:=none) h ⟨hb.os,hb.tape,hb.output,hb.size,fun i hi _=>hb.block i hi⟩ (by simp)
theorem add_zero' (ad:Addr):ad.add (0*4)=ad:=by unfold Addr.add;cases ad;simp
theorem zA9 (w:World)(p:Addr)(u:Value):w.grownBy (w.setCell p u) (some p.block):=
 ⟨rfl,rfl,rfl,by simp[World.setCell],fun k _ hk=>Below.heap_setCell _ _ _ _ (fun e=>hk (by simp[e]))⟩
theorem zBj {a b c:World}{row:Option Nat}(h:a.grownBy b row)(k:b.grownBy c row):a.grownBy c row:=
 ⟨k.os.trans h.os,k.tape.trans h.tape,k.output.trans h.output,Nat.le_trans h.size k.size,fun i hi hn=>(k.block i (ll hi h.size) hn).trans (h.block i hi hn)⟩
theorem zUw (x:World)(g:Nat)(c0 c1 c2 c3:Value):x.grownBy ((((x.setCell ⟨g,0,none⟩ c0).setCell ⟨g,1,none⟩ c1).setCell ⟨g,2,none⟩ c2).setCell ⟨g,3,none⟩ c3) (some g):=
 zBj (zBj (zBj (zA9 x ⟨g,0,none⟩ c0) (zA9 _ ⟨g,1,none⟩ c1)) (zA9 _ ⟨g,2,none⟩ c2)) (zA9 _ ⟨g,3,none⟩ c3)
theorem set4 {x:World}{g:Nat}{t:TypeId}{d0 d1 d2 d3:Value}(h:Blk x g t #[d0,d1,d2,d3])(c0 c1 c2 c3:Value):Blk ((((x.setCell ⟨g,0,none⟩ c0).setCell ⟨g,1,none⟩ c1).setCell ⟨g,2,none⟩ c2).setCell ⟨g,3,none⟩ c3) g t #[c0,c1,c2,c3]:=(((h.set_ 0 c0).set_ 1 c1).set_ 2 c2).set_ 3 c3
set_option maxRecDepth 100000 in
set_option maxHeartbeats 4000000 in
theorem zLw (g:Nat)(A:Option Addr)(cap:Nat)(rs:List Rul)(n:Tre)(c:Array Value)(w:World)(hR:zG4 w g A cap rs)(hN:zBd w n c)(hne:scrB n.kind=true→n.kids≠[]):Calls Tryz.prog 79 #[.pointer (some ⟨g,0,none⟩),.agg c] w fun e w'=>e= .returned (.tuple #[.string (unsc n).text,.bool (zD3 rs n)])∧Below w.heap.size w w':=by
 obtain⟨A2,cap2,rfl,hsz,hl,hc,hk⟩:=hN.form;obtain⟨b,nb,D,hbx,hmp,hse⟩:=hR.box;have hb0:=zA1 w (.cells #[.int .i64 n.kind,.string n.text,.int .i64 n.cols,.slice A2 n.kids.length cap2] 25);have HB:=zh hb0;have K1:=zh (Blk.new w 25 #[.int .i64 n.kind,.string n.text,.int .i64 n.cols,.slice A2 n.kids.length cap2]);have HGL:=zh (And.intro hbx.lt hmp.lt);have HBX:=zh (keep hb0 hbx);have HMP:=zh (zLa hmp hb0);have HSE:=zh hse;have HK:=zh (hk.keep hb0);have HNE:=zh hne;have HTZ:=zh hsz;clear hR hN hk hne hbx hmp hse hb0;go_enter Tryz.func79,Tryz.ntmps79;go_upto_region 1 with(fail)
 generalize w.alloc (.cells #[.int .i64 n.kind,.string n.text,.int .i64 n.cols,.slice A2 n.kids.length cap2] 25)=w1 at*;have k0:=fun i=>K1.out.cell i
 go_wp2_with fail;refine(zM0 n.kind n.text n.cols A2 n.kids.length cap2 w1).mono ?_;rintro e w2 ⟨rfl,hb⟩;replace HBX:=kp hb HBX;replace HMP:=zh (zLa HMP.out hb);replace HK:=zh (HK.out.keep hb);replace K1:=kp hb K1;replace HB:=jt HB hb;clear hb k0;cases hsc:scrB n.kind
 ·have HU:=zh (zO0 hsc);clear hsc;go_upto_region 3 with(fail)
  by_cases h2:n.kind=2
  ·have qk:(n.kind==2)=true:=beq_iff_eq.2 h2;have HOP:=zh (show zD3 rs n=zB9 rs n.text.data.toList by unfold zD3;rw[HU.out,decide_eq_true h2,Bool.true_and]);clear h2;refine zA8 (by kernel_rfl) _ [.pointer (some ⟨w.heap.size,1,none⟩),.string n.text,.pointer (some ⟨w.heap.size,0,none⟩),.int .i64 n.kind,.bool true,.bool true,.pointer (some ⟨g,0,none⟩),.pointer (some ⟨g,0,none⟩),.pointer (some ⟨g,1,none⟩),.map (some b),.pointer (some ⟨w.heap.size,1,none⟩),.string n.text,.bool (zB9 rs n.text.data.toList),.bool (zB9 rs n.text.data.toList),.string n.text,.bool (zB9 rs n.text.data.toList)] [true,true,true,true,true,true,true,true,true,true,true,true,true,true,true,true] (fun wq=>(Blk wq g 73 #[.slice A rs.length cap,.map (some b)]∧zBw wq b nb D)∧Blk wq w.heap.size 25 #[.int .i64 n.kind,.string n.text,.int .i64 n.cols,.slice A2 n.kids.length cap2]∧Below w.heap.size w wq) (by kernel_rfl) (by simp[fin,zAi,zA7,List.range,List.range.loop,Act.put];rfl) (by kernel_rfl) ⟨⟨HBX.out.drew,World.ownsMap.drew HMP.out⟩,K1.out.drew,zA2 HB.out⟩ ?_ ?_
   ·refine⟨fun wq hI=>?_,fun wq hI=>?_,fun wq hI=>?_,fun wq hI=>?_,fun wq hI=>?_,fun wq hI=>?_,fun wq hI=>?_,fun wq hI=>?_,fun wq hI=>?_,fun wq hI=>?_,fun wq hI=>?_,fun wq hI=>?_,fun wq hI=>?_,fun wq hI=>?_,fun wq hI=>?_,fun wq hI=>?_,trivial⟩
    ·exact jv (.pointer (some ⟨w.heap.size,1,none⟩)) wq (by simp[go_sem]) ⟨rfl,hI⟩
    ·have cJ:=hI.2.1.cell 1;exact jv (.string n.text) wq (by simp[go_sem,cJ]) ⟨rfl,hI⟩
    ·exact jv (.pointer (some ⟨w.heap.size,0,none⟩)) wq (by simp[go_sem]) ⟨rfl,hI⟩
    ·have cJ:=hI.2.1.cell 0;exact jv (.int .i64 n.kind) wq (by simp[go_sem,cJ]) ⟨rfl,hI⟩
    ·skip
     exact jv (.bool true) wq (by simp[go_sem,qk]) ⟨rfl,hI⟩
    ·exact jv (.bool true) wq (by kernel_rfl) ⟨rfl,hI⟩
    ·exact jv (.pointer (some ⟨g,0,none⟩)) wq (by kernel_rfl) ⟨rfl,hI⟩
    ·exact jv (.pointer (some ⟨g,0,none⟩)) wq (by simp[go_sem]) ⟨rfl,hI⟩
    ·exact jv (.pointer (some ⟨g,1,none⟩)) wq (by simp[go_sem]) ⟨rfl,hI⟩
    ·have cJ:=hI.1.1.cell 1;exact jv (.map (some b)) wq (by simp[go_sem,cJ]) ⟨rfl,hI⟩
    ·exact jv (.pointer (some ⟨w.heap.size,1,none⟩)) wq (by simp[go_sem]) ⟨rfl,hI⟩
    ·have cJ:=hI.2.1.cell 1;exact jv (.string n.text) wq (by simp[go_sem,cJ]) ⟨rfl,hI⟩
    ·have hlk:=zKv hI.1.2 HSE.out (s:=n.text) HTZ.out;exact jv (.bool (zB9 rs n.text.data.toList)) wq (by simp[go_sem,hlk]) ⟨rfl,hI⟩
    ·exact jv (.bool (zB9 rs n.text.data.toList)) wq (by kernel_rfl) ⟨rfl,hI⟩
    ·exact jv (.string n.text) wq (by kernel_rfl) ⟨rfl,hI⟩
    ·exact jv (.bool (zB9 rs n.text.data.toList)) wq (by kernel_rfl) ⟨rfl,hI⟩
   ·intro wq hI;have HBE:=zh hI.2.2;clear hI;generalize wq=w9 at*;go_wp2_with fail;exact bodyPost_ret (v:=.tuple #[.string n.text,.bool (zB9 rs n.text.data.toList)]) (by simp[results,Tryz.results79,go_sem]) rfl ⟨by rw[HOP.out,HU.out],HBE.out⟩
  ·have qk:(n.kind==2)=false:=bn h2;have HOP:=zh (show zD3 rs n=false by unfold zD3;rw[HU.out,decide_eq_false h2,Bool.false_and]);clear h2;refine zA8 (by kernel_rfl) _ [.pointer (some ⟨w.heap.size,1,none⟩),.string n.text,.pointer (some ⟨w.heap.size,0,none⟩),.int .i64 n.kind,.bool false,.bool false,undef,undef,undef,undef,undef,undef,undef,.bool false,.string n.text,.bool false] [true,true,true,true,true,true,false,false,false,false,false,false,false,true,true,true] (fun wq=>(Blk wq g 73 #[.slice A rs.length cap,.map (some b)]∧zBw wq b nb D)∧Blk wq w.heap.size 25 #[.int .i64 n.kind,.string n.text,.int .i64 n.cols,.slice A2 n.kids.length cap2]∧Below w.heap.size w wq) (by kernel_rfl) (by simp[fin,zAi,zA7,List.range,List.range.loop,Act.put];rfl) (by kernel_rfl) ⟨⟨HBX.out.drew,World.ownsMap.drew HMP.out⟩,K1.out.drew,zA2 HB.out⟩ ?_ ?_
   ·refine⟨fun wq hI=>?_,fun wq hI=>?_,fun wq hI=>?_,fun wq hI=>?_,fun wq hI=>?_,fun wq hI=>?_,rfl,rfl,rfl,rfl,rfl,rfl,rfl,fun wq hI=>?_,fun wq hI=>?_,fun wq hI=>?_,trivial⟩
    ·exact jv (.pointer (some ⟨w.heap.size,1,none⟩)) wq (by simp[go_sem]) ⟨rfl,hI⟩
    ·have cJ:=hI.2.1.cell 1;exact jv (.string n.text) wq (by simp[go_sem,cJ]) ⟨rfl,hI⟩
    ·exact jv (.pointer (some ⟨w.heap.size,0,none⟩)) wq (by simp[go_sem]) ⟨rfl,hI⟩
    ·have cJ:=hI.2.1.cell 0;exact jv (.int .i64 n.kind) wq (by simp[go_sem,cJ]) ⟨rfl,hI⟩
    ·skip
     exact jv (.bool false) wq (by simp[go_sem,qk]) ⟨rfl,hI⟩
    ·exact jv (.bool false) wq (by kernel_rfl) ⟨rfl,hI⟩
    ·exact jv (.bool false) wq (by kernel_rfl) ⟨rfl,hI⟩
    ·exact jv (.string n.text) wq (by kernel_rfl) ⟨rfl,hI⟩
    ·exact jv (.bool false) wq (by kernel_rfl) ⟨rfl,hI⟩
   ·intro wq hI;have HBE:=zh hI.2.2;clear hI;generalize wq=w9 at*;go_wp2_with fail;exact bodyPost_ret (v:=.tuple #[.string n.text,.bool (false)]) (by simp[results,Tryz.results79,go_sem]) rfl ⟨by rw[HOP.out,HU.out],HBE.out⟩
 have HSC:=zh hsc;obtain⟨b0,ks,hks⟩:∃b0 ks,n.kids=b0::ks:=by
  cases hq:n.kids with
  |nil=>exact absurd hq (HNE.out hsc)
  |cons b0 ks=>exact⟨b0,ks,rfl⟩
 obtain⟨ad,A3,cap3,hA2,hadl,_,hl3,hc3,hk3,hn3,d0,d1,d2,d3⟩:=HK.out.at_ (i:=0) (t:=b0) (by rw[hks];rfl);subst hA2;rw[add_zero'] at d0 d1 d2 d3;have HKS:=zh hks;have hpos:(0:Int)<(n.kids.length:Int):=by rw[hks,List.length_cons];omega
 have k3:=K1.out.cell 3;clear hks hsc
 by_cases h1:b0.kids.length=1
 ·obtain⟨x,hx⟩:∃x,b0.kids=[x]:=List.length_eq_one_iff.1 h1;obtain⟨ad4,A4,cap4,hA3,hadl4,hxz,_,_,_,_,e0,e1,e2,e3⟩:=hk3.at_ (i:=0) (t:=x) (by rw[hx];rfl);subst hA3;rw[add_zero'] at e0 e1 e2 e3;have HU:=zh (zPy HSC.out HKS.out hx);have HTZ:=zh hxz;have h1i:(b0.kids.length:Int)=1:=by omega
  have q1:((b0.kids.length:Int)==1)=true:=by rw[h1i];rfl
  have k0:=fun i=>K1.out.cell i
  have f0:=fun i=>K1.out.frozen i
  clear hx h1 hk3;rw[show b0.kids.length=1 by omega] at d3;clear h1i q1;go_upto_region 3 with(fail)
  have hgr:=zUw w2 w.heap.size (.int .i64 x.kind) (.string x.text) (.int .i64 x.cols) (.slice A4 x.kids.length cap4);have hse:=set4 K1.out (.int .i64 x.kind) (.string x.text) (.int .i64 x.cols) (.slice A4 x.kids.length cap4);replace HBX:=zh (HBX.out.grown hgr (fun e=>by have:=sj e;have:=HGL.out.1;omega));replace HMP:=zh (show zBw _ b nb D from World.ownsMap.kept HMP.out hgr (fun e=>by have:=sj e;have:=HGL.out.2;omega));replace HB:=zh (HB.out.grown hgr HB.out.size fun r e=>by have:=sj e;omega);clear K1 k0 f0 k3 d0 d1 d2 d3 e0 e1 e2 e3 hgr;have K1:=zh hse;clear hse;generalize (((w2.setCell ⟨w.heap.size,0,none⟩ (.int .i64 x.kind)).setCell ⟨w.heap.size,1,none⟩ (.string x.text)).setCell ⟨w.heap.size,2,none⟩ (.int .i64 x.cols)).setCell ⟨w.heap.size,3,none⟩ (.slice A4 x.kids.length cap4)=w3 at*
  by_cases h2:x.kind=2
  ·have qk:(x.kind==2)=true:=beq_iff_eq.2 h2;have HOP:=zh (show zD3 rs n=zB9 rs x.text.data.toList by unfold zD3;rw[HU.out,decide_eq_true h2,Bool.true_and]);clear h2;refine zA8 (by kernel_rfl) _ [.pointer (some ⟨w.heap.size,1,none⟩),.string x.text,.pointer (some ⟨w.heap.size,0,none⟩),.int .i64 x.kind,.bool true,.bool true,.pointer (some ⟨g,0,none⟩),.pointer (some ⟨g,0,none⟩),.pointer (some ⟨g,1,none⟩),.map (some b),.pointer (some ⟨w.heap.size,1,none⟩),.string x.text,.bool (zB9 rs x.text.data.toList),.bool (zB9 rs x.text.data.toList),.string x.text,.bool (zB9 rs x.text.data.toList)] [true,true,true,true,true,true,true,true,true,true,true,true,true,true,true,true] (fun wq=>(Blk wq g 73 #[.slice A rs.length cap,.map (some b)]∧zBw wq b nb D)∧Blk wq w.heap.size 25 #[.int .i64 x.kind,.string x.text,.int .i64 x.cols,.slice A4 x.kids.length cap4]∧Below w.heap.size w wq) (by kernel_rfl) (by simp[fin,zAi,zA7,List.range,List.range.loop,Act.put];rfl) (by kernel_rfl) ⟨⟨HBX.out.drew,World.ownsMap.drew HMP.out⟩,K1.out.drew,zA2 HB.out⟩ ?_ ?_
   ·refine⟨fun wq hI=>?_,fun wq hI=>?_,fun wq hI=>?_,fun wq hI=>?_,fun wq hI=>?_,fun wq hI=>?_,fun wq hI=>?_,fun wq hI=>?_,fun wq hI=>?_,fun wq hI=>?_,fun wq hI=>?_,fun wq hI=>?_,fun wq hI=>?_,fun wq hI=>?_,fun wq hI=>?_,fun wq hI=>?_,trivial⟩
    ·exact jv (.pointer (some ⟨w.heap.size,1,none⟩)) wq (by simp[go_sem]) ⟨rfl,hI⟩
    ·have cJ:=hI.2.1.cell 1;exact jv (.string x.text) wq (by simp[go_sem,cJ]) ⟨rfl,hI⟩
    ·exact jv (.pointer (some ⟨w.heap.size,0,none⟩)) wq (by simp[go_sem]) ⟨rfl,hI⟩
    ·have cJ:=hI.2.1.cell 0;exact jv (.int .i64 x.kind) wq (by simp[go_sem,cJ]) ⟨rfl,hI⟩
    ·skip
     exact jv (.bool true) wq (by simp[go_sem,qk]) ⟨rfl,hI⟩
    ·exact jv (.bool true) wq (by kernel_rfl) ⟨rfl,hI⟩
    ·exact jv (.pointer (some ⟨g,0,none⟩)) wq (by kernel_rfl) ⟨rfl,hI⟩
    ·exact jv (.pointer (some ⟨g,0,none⟩)) wq (by simp[go_sem]) ⟨rfl,hI⟩
    ·exact jv (.pointer (some ⟨g,1,none⟩)) wq (by simp[go_sem]) ⟨rfl,hI⟩
    ·have cJ:=hI.1.1.cell 1;exact jv (.map (some b)) wq (by simp[go_sem,cJ]) ⟨rfl,hI⟩
    ·exact jv (.pointer (some ⟨w.heap.size,1,none⟩)) wq (by simp[go_sem]) ⟨rfl,hI⟩
    ·have cJ:=hI.2.1.cell 1;exact jv (.string x.text) wq (by simp[go_sem,cJ]) ⟨rfl,hI⟩
    ·have hlk:=zKv hI.1.2 HSE.out (s:=x.text) HTZ.out;exact jv (.bool (zB9 rs x.text.data.toList)) wq (by simp[go_sem,hlk]) ⟨rfl,hI⟩
    ·exact jv (.bool (zB9 rs x.text.data.toList)) wq (by kernel_rfl) ⟨rfl,hI⟩
    ·exact jv (.string x.text) wq (by kernel_rfl) ⟨rfl,hI⟩
    ·exact jv (.bool (zB9 rs x.text.data.toList)) wq (by kernel_rfl) ⟨rfl,hI⟩
   ·intro wq hI;have HBE:=zh hI.2.2;clear hI;generalize wq=w9 at*;go_wp2_with fail;exact bodyPost_ret (v:=.tuple #[.string x.text,.bool (zB9 rs x.text.data.toList)]) (by simp[results,Tryz.results79,go_sem]) rfl ⟨by rw[HOP.out,HU.out],HBE.out⟩
  ·have qk:(x.kind==2)=false:=bn h2;have HOP:=zh (show zD3 rs n=false by unfold zD3;rw[HU.out,decide_eq_false h2,Bool.false_and]);clear h2;refine zA8 (by kernel_rfl) _ [.pointer (some ⟨w.heap.size,1,none⟩),.string x.text,.pointer (some ⟨w.heap.size,0,none⟩),.int .i64 x.kind,.bool false,.bool false,undef,undef,undef,undef,undef,undef,undef,.bool false,.string x.text,.bool false] [true,true,true,true,true,true,false,false,false,false,false,false,false,true,true,true] (fun wq=>(Blk wq g 73 #[.slice A rs.length cap,.map (some b)]∧zBw wq b nb D)∧Blk wq w.heap.size 25 #[.int .i64 x.kind,.string x.text,.int .i64 x.cols,.slice A4 x.kids.length cap4]∧Below w.heap.size w wq) (by kernel_rfl) (by simp[fin,zAi,zA7,List.range,List.range.loop,Act.put];rfl) (by kernel_rfl) ⟨⟨HBX.out.drew,World.ownsMap.drew HMP.out⟩,K1.out.drew,zA2 HB.out⟩ ?_ ?_
   ·refine⟨fun wq hI=>?_,fun wq hI=>?_,fun wq hI=>?_,fun wq hI=>?_,fun wq hI=>?_,fun wq hI=>?_,rfl,rfl,rfl,rfl,rfl,rfl,rfl,fun wq hI=>?_,fun wq hI=>?_,fun wq hI=>?_,trivial⟩
    ·exact jv (.pointer (some ⟨w.heap.size,1,none⟩)) wq (by simp[go_sem]) ⟨rfl,hI⟩
    ·have cJ:=hI.2.1.cell 1;exact jv (.string x.text) wq (by simp[go_sem,cJ]) ⟨rfl,hI⟩
    ·exact jv (.pointer (some ⟨w.heap.size,0,none⟩)) wq (by simp[go_sem]) ⟨rfl,hI⟩
    ·have cJ:=hI.2.1.cell 0;exact jv (.int .i64 x.kind) wq (by simp[go_sem,cJ]) ⟨rfl,hI⟩
    ·skip
     exact jv (.bool false) wq (by simp[go_sem,qk]) ⟨rfl,hI⟩
    ·exact jv (.bool false) wq (by kernel_rfl) ⟨rfl,hI⟩
    ·exact jv (.bool false) wq (by kernel_rfl) ⟨rfl,hI⟩
    ·exact jv (.string x.text) wq (by kernel_rfl) ⟨rfl,hI⟩
    ·exact jv (.bool false) wq (by kernel_rfl) ⟨rfl,hI⟩
   ·intro wq hI;have HBE:=zh hI.2.2;clear hI;generalize wq=w9 at*;go_wp2_with fail;exact bodyPost_ret (v:=.tuple #[.string x.text,.bool (false)]) (by simp[results,Tryz.results79,go_sem]) rfl ⟨by rw[HOP.out,HU.out],HBE.out⟩
 ·have HU:=zh (zN8 HKS.out h1);have q1:((b0.kids.length:Int)==1)=false:=by rw[beq_eq_false_iff_ne];omega
  clear h1;go_upto_region 3 with(fail)
  clear q1 k3 d0 d1 d2 d3 hpos
  by_cases h2:n.kind=2
  ·have qk:(n.kind==2)=true:=beq_iff_eq.2 h2;have HOP:=zh (show zD3 rs n=zB9 rs n.text.data.toList by unfold zD3;rw[HU.out,decide_eq_true h2,Bool.true_and]);clear h2;refine zA8 (by kernel_rfl) _ [.pointer (some ⟨w.heap.size,1,none⟩),.string n.text,.pointer (some ⟨w.heap.size,0,none⟩),.int .i64 n.kind,.bool true,.bool true,.pointer (some ⟨g,0,none⟩),.pointer (some ⟨g,0,none⟩),.pointer (some ⟨g,1,none⟩),.map (some b),.pointer (some ⟨w.heap.size,1,none⟩),.string n.text,.bool (zB9 rs n.text.data.toList),.bool (zB9 rs n.text.data.toList),.string n.text,.bool (zB9 rs n.text.data.toList)] [true,true,true,true,true,true,true,true,true,true,true,true,true,true,true,true] (fun wq=>(Blk wq g 73 #[.slice A rs.length cap,.map (some b)]∧zBw wq b nb D)∧Blk wq w.heap.size 25 #[.int .i64 n.kind,.string n.text,.int .i64 n.cols,.slice (some ad) n.kids.length cap2]∧Below w.heap.size w wq) (by kernel_rfl) (by simp[fin,zAi,zA7,List.range,List.range.loop,Act.put];rfl) (by kernel_rfl) ⟨⟨HBX.out.drew,World.ownsMap.drew HMP.out⟩,K1.out.drew,zA2 HB.out⟩ ?_ ?_
   ·refine⟨fun wq hI=>?_,fun wq hI=>?_,fun wq hI=>?_,fun wq hI=>?_,fun wq hI=>?_,fun wq hI=>?_,fun wq hI=>?_,fun wq hI=>?_,fun wq hI=>?_,fun wq hI=>?_,fun wq hI=>?_,fun wq hI=>?_,fun wq hI=>?_,fun wq hI=>?_,fun wq hI=>?_,fun wq hI=>?_,trivial⟩
    ·exact jv (.pointer (some ⟨w.heap.size,1,none⟩)) wq (by simp[go_sem]) ⟨rfl,hI⟩
    ·have cJ:=hI.2.1.cell 1;exact jv (.string n.text) wq (by simp[go_sem,cJ]) ⟨rfl,hI⟩
    ·exact jv (.pointer (some ⟨w.heap.size,0,none⟩)) wq (by simp[go_sem]) ⟨rfl,hI⟩
    ·have cJ:=hI.2.1.cell 0;exact jv (.int .i64 n.kind) wq (by simp[go_sem,cJ]) ⟨rfl,hI⟩
    ·skip
     exact jv (.bool true) wq (by simp[go_sem,qk]) ⟨rfl,hI⟩
    ·exact jv (.bool true) wq (by kernel_rfl) ⟨rfl,hI⟩
    ·exact jv (.pointer (some ⟨g,0,none⟩)) wq (by kernel_rfl) ⟨rfl,hI⟩
    ·exact jv (.pointer (some ⟨g,0,none⟩)) wq (by simp[go_sem]) ⟨rfl,hI⟩
    ·exact jv (.pointer (some ⟨g,1,none⟩)) wq (by simp[go_sem]) ⟨rfl,hI⟩
    ·have cJ:=hI.1.1.cell 1;exact jv (.map (some b)) wq (by simp[go_sem,cJ]) ⟨rfl,hI⟩
    ·exact jv (.pointer (some ⟨w.heap.size,1,none⟩)) wq (by simp[go_sem]) ⟨rfl,hI⟩
    ·have cJ:=hI.2.1.cell 1;exact jv (.string n.text) wq (by simp[go_sem,cJ]) ⟨rfl,hI⟩
    ·have hlk:=zKv hI.1.2 HSE.out (s:=n.text) HTZ.out;exact jv (.bool (zB9 rs n.text.data.toList)) wq (by simp[go_sem,hlk]) ⟨rfl,hI⟩
    ·exact jv (.bool (zB9 rs n.text.data.toList)) wq (by kernel_rfl) ⟨rfl,hI⟩
    ·exact jv (.string n.text) wq (by kernel_rfl) ⟨rfl,hI⟩
    ·exact jv (.bool (zB9 rs n.text.data.toList)) wq (by kernel_rfl) ⟨rfl,hI⟩
   ·intro wq hI;have HBE:=zh hI.2.2;clear hI;generalize wq=w9 at*;go_wp2_with fail;exact bodyPost_ret (v:=.tuple #[.string n.text,.bool (zB9 rs n.text.data.toList)]) (by simp[results,Tryz.results79,go_sem]) rfl ⟨by rw[HOP.out,HU.out],HBE.out⟩
  ·have qk:(n.kind==2)=false:=bn h2;have HOP:=zh (show zD3 rs n=false by unfold zD3;rw[HU.out,decide_eq_false h2,Bool.false_and]);clear h2;refine zA8 (by kernel_rfl) _ [.pointer (some ⟨w.heap.size,1,none⟩),.string n.text,.pointer (some ⟨w.heap.size,0,none⟩),.int .i64 n.kind,.bool false,.bool false,undef,undef,undef,undef,undef,undef,undef,.bool false,.string n.text,.bool false] [true,true,true,true,true,true,false,false,false,false,false,false,false,true,true,true] (fun wq=>(Blk wq g 73 #[.slice A rs.length cap,.map (some b)]∧zBw wq b nb D)∧Blk wq w.heap.size 25 #[.int .i64 n.kind,.string n.text,.int .i64 n.cols,.slice (some ad) n.kids.length cap2]∧Below w.heap.size w wq) (by kernel_rfl) (by simp[fin,zAi,zA7,List.range,List.range.loop,Act.put];rfl) (by kernel_rfl) ⟨⟨HBX.out.drew,World.ownsMap.drew HMP.out⟩,K1.out.drew,zA2 HB.out⟩ ?_ ?_
   ·refine⟨fun wq hI=>?_,fun wq hI=>?_,fun wq hI=>?_,fun wq hI=>?_,fun wq hI=>?_,fun wq hI=>?_,rfl,rfl,rfl,rfl,rfl,rfl,rfl,fun wq hI=>?_,fun wq hI=>?_,fun wq hI=>?_,trivial⟩
    ·exact jv (.pointer (some ⟨w.heap.size,1,none⟩)) wq (by simp[go_sem]) ⟨rfl,hI⟩
    ·have cJ:=hI.2.1.cell 1;exact jv (.string n.text) wq (by simp[go_sem,cJ]) ⟨rfl,hI⟩
    ·exact jv (.pointer (some ⟨w.heap.size,0,none⟩)) wq (by simp[go_sem]) ⟨rfl,hI⟩
    ·have cJ:=hI.2.1.cell 0;exact jv (.int .i64 n.kind) wq (by simp[go_sem,cJ]) ⟨rfl,hI⟩
    ·skip
     exact jv (.bool false) wq (by simp[go_sem,qk]) ⟨rfl,hI⟩
    ·exact jv (.bool false) wq (by kernel_rfl) ⟨rfl,hI⟩
    ·exact jv (.bool false) wq (by kernel_rfl) ⟨rfl,hI⟩
    ·exact jv (.string n.text) wq (by kernel_rfl) ⟨rfl,hI⟩
    ·exact jv (.bool false) wq (by kernel_rfl) ⟨rfl,hI⟩
   ·intro wq hI;have HBE:=zh hI.2.2;clear hI;generalize wq=w9 at*;go_wp2_with fail;exact bodyPost_ret (v:=.tuple #[.string n.text,.bool (false)]) (by simp[results,Tryz.results79,go_sem]) rfl ⟨by rw[HOP.out,HU.out],HBE.out⟩
end Go.Proofs.YtchllommcolijaaGreatDoor.El
namespace Go.Proofs.YtchllommcolijaaGreatDoor.Sp
open At Go.RowKit
set_option maxHeartbeats 400000 in
theorem zJu (c:UInt8)(w:World):Calls Tryz.prog 102 #[.int .u8 (c.toNat:Int)] w fun e w'=>e= .returned (.bool (letB c))∧w=w':=by
 have hc:=c.toNat_lt
 by_cases h1:97≤c.toNat
 ·by_cases h2:c.toNat≤122
  ·have HR:=zh (show letB c=true by unfold letB;rw[decide_eq_true h1,decide_eq_true h2];rfl);go_enter Tryz.func102,Tryz.ntmps102;go_wp2_with fail;go_ret;exact⟨zA0 (by first|exact HR.out.symm|(rw[HR.out];simp;omega)),rfl⟩
  ·have HR:=zh (show letB c=false by unfold letB;rw[decide_eq_false h2,Bool.and_false,decide_eq_false (show ¬c.toNat≤90 by omega),Bool.and_false];rfl);go_enter Tryz.func102,Tryz.ntmps102;go_wp2_with fail;go_ret;exact⟨zA0 (by first|exact HR.out.symm|(rw[HR.out];simp;omega)),rfl⟩
 ·by_cases h3:65≤c.toNat
  ·by_cases h4:c.toNat≤90
   ·have HR:=zh (show letB c=true by unfold letB;rw[decide_eq_true h3,decide_eq_true h4,Bool.or_eq_true];exact .inr rfl);go_enter Tryz.func102,Tryz.ntmps102;go_wp2_with fail;go_ret;exact⟨zA0 (by first|exact HR.out.symm|(rw[HR.out];simp;omega)),rfl⟩
   ·have HR:=zh (show letB c=false by unfold letB;rw[decide_eq_false h1,decide_eq_false h4,Bool.and_false];rfl);go_enter Tryz.func102,Tryz.ntmps102;go_wp2_with fail;go_ret;exact⟨zA0 (by first|exact HR.out.symm|(rw[HR.out];simp;omega)),rfl⟩
  ·have HR:=zh (show letB c=false by unfold letB;rw[decide_eq_false h1,decide_eq_false h3];rfl);go_enter Tryz.func102,Tryz.ntmps102;go_wp2_with fail;go_ret;exact⟨zA0 (by first|exact HR.out.symm|(rw[HR.out];simp;omega)),rfl⟩
set_option maxHeartbeats 400000 in
theorem zVe (s:ByteArray)(w:World)(hs:s.size≤9223372036854775807):Calls Tryz.prog 109 #[.string s] w fun e w'=>e= .returned (.bool (zAl s.toList))∧w=w':=by
 go_enter Tryz.func109,Tryz.ntmps109;go_wp2_with fail
 go_loop [3] (fun i=>∃k:Nat,k≤s.size∧i= .int .i64 k∧Hid (∀(j:Nat) (hj:j<s.size),j<k→letB s[j]=true)) (fun i=>s.size -(intOf i).toNat)
 case atStart=>exact⟨0,by omega,rfl,fun j _ h=>by omega⟩
 case round=>
  obtain⟨k,hk,rfl,HJ⟩:=hrel
  by_cases hlt:k<s.size
  ·have HC:=zh (fun w=>zJu s[k] w);cases hl:letB s[k]
   ·have HF:=zh (zAn hlt hl);rw[hl] at HC;clear hl;go_wp2_with fail;refine(HC.out _).mono ?_;rintro e w' ⟨rfl,rfl⟩;go_wp2_with fail;go_ret;exact⟨zA0 (by unfold zAl zB2;rw[HF.out];rfl),rfl⟩
   ·have HL:=zh hl;rw[hl] at HC;clear hl;go_wp2_with fail;refine(HC.out _).mono ?_;rintro e w' ⟨rfl,rfl⟩;go_wp2_with fail;go_round
    case rel=>exact⟨k+1,by omega,by go_num,fun j hj h=>by
     rcases Nat.lt_or_ge j k with h'|h'
     ·exact HJ.out j hj h'
     ·obtain rfl:j=k:=by omega
      exact HL.out⟩
    case measure=>simp[intOf];omega
  ·have HF:=zh (zDq (s:=s) (p:=letB) fun j hj=>HJ.out j hj (by omega));have HZ:=zh (zC2 s)
   by_cases h1:1≤s.size
   ·by_cases h2:s.size≤16
    ·have HR:=zh (show zAl s.toList=true by unfold zAl zB2;rw[HF.out,HZ.out,decide_eq_true h1,decide_eq_true h2];rfl);go_wp2_with fail;go_ret;exact⟨zA0 (by first|exact HR.out.symm|(rw[HR.out];simp;omega)),rfl⟩
    ·have HR:=zh (show zAl s.toList=false by unfold zAl;rw[HZ.out,decide_eq_false h2,Bool.and_false,Bool.and_false]);go_wp2_with fail;go_ret;exact⟨zA0 (by first|exact HR.out.symm|(rw[HR.out];simp;omega)),rfl⟩
   ·have HR:=zh (show zAl s.toList=false by unfold zAl;rw[HZ.out,decide_eq_false h1,Bool.false_and,Bool.and_false]);go_wp2_with fail;go_ret;exact⟨zA0 (by first|exact HR.out.symm|(rw[HR.out];simp;omega)),rfl⟩
def zFq (a:Nat)(c:UInt8):Bool:=decide (a≤c.toNat)&&decide (c.toNat≤126)
set_option maxHeartbeats 400000 in
theorem zOp (s:ByteArray)(a n:Nat)(w:World)(hs:s.size≤9223372036854775807):Calls Tryz.prog 108 #[.string s,.int .u8 (a:Int),.int .i64 (n:Int)] w fun e w'=>e= .returned (.bool (zCk a s.toList&&decide (s.size≤n)))∧w=w':=by
 go_enter Tryz.func108,Tryz.ntmps108;go_wp2_with fail
 go_loop [7] (fun i=>∃k:Nat,k≤s.size∧i= .int .i64 k∧Hid (∀(j:Nat) (hj:j<s.size),j<k→zFq a s[j]=true)) (fun i=>s.size -(intOf i).toNat)
 case atStart=>exact⟨0,by omega,rfl,fun j _ h=>by omega⟩
 case round=>
  obtain⟨k,hk,rfl,HJ⟩:=hrel
  by_cases hlt:k<s.size
  ·by_cases c1:(s[k].toNat:Int)<(a:Int)
   ·have HF:=zh (zAn (p:=zFq a) hlt (by unfold zFq;rw[decide_eq_false (by omega)];rfl));go_wp2_with fail;go_ret;exact⟨zA0 (by rw[show zCk a s.toList=false from HF.out,Bool.false_and]),rfl⟩
   ·by_cases c2:126<(s[k].toNat:Int)
    ·have HF:=zh (zAn (p:=zFq a) hlt (by unfold zFq;rw[decide_eq_false (p:=s[k].toNat≤126) (by omega),Bool.and_false]));go_wp2_with fail;go_ret;exact⟨zA0 (by rw[show zCk a s.toList=false from HF.out,Bool.false_and]),rfl⟩
    ·have HL:=zh (show zFq a s[k]=true by unfold zFq;rw[decide_eq_true (by omega),decide_eq_true (by omega)];rfl);go_wp2_with fail;go_round
     case rel=>exact⟨k+1,by omega,by go_num,fun j hj h=>by
      rcases Nat.lt_or_ge j k with h'|h'
      ·exact HJ.out j hj h'
      ·obtain rfl:j=k:=by omega
       exact HL.out⟩
     case measure=>simp[intOf];omega
  ·have HF:=zh (zDq (s:=s) (p:=zFq a) fun j hj=>HJ.out j hj (by omega));go_wp2_with fail;go_ret;exact⟨zA0 (by rw[show zCk a s.toList=true from HF.out,Bool.true_and]),rfl⟩
set_option maxHeartbeats 400000 in
theorem zQa (s:ByteArray)(a n:Nat)(w:World)(hs:s.size≤9223372036854775807):Calls Tryz.prog 125 #[.string s,.int .u8 (a:Int),.int .i64 (n:Int)] w fun e w'=>e= .returned (.bool (zCk a s.toList&&decide (s.size≤n)))∧w=w':=by
 go_enter Tryz.func125,Tryz.ntmps125;go_wp2_with fail
 go_loop [7] (fun i=>∃k:Nat,k≤s.size∧i= .int .i64 k∧Hid (∀(j:Nat) (hj:j<s.size),j<k→zFq a s[j]=true)) (fun i=>s.size -(intOf i).toNat)
 case atStart=>exact⟨0,by omega,rfl,fun j _ h=>by omega⟩
 case round=>
  obtain⟨k,hk,rfl,HJ⟩:=hrel
  by_cases hlt:k<s.size
  ·by_cases c1:(s[k].toNat:Int)<(a:Int)
   ·have HF:=zh (zAn (p:=zFq a) hlt (by unfold zFq;rw[decide_eq_false (by omega)];rfl));go_wp2_with fail;go_ret;exact⟨zA0 (by rw[show zCk a s.toList=false from HF.out,Bool.false_and]),rfl⟩
   ·by_cases c2:126<(s[k].toNat:Int)
    ·have HF:=zh (zAn (p:=zFq a) hlt (by unfold zFq;rw[decide_eq_false (p:=s[k].toNat≤126) (by omega),Bool.and_false]));go_wp2_with fail;go_ret;exact⟨zA0 (by rw[show zCk a s.toList=false from HF.out,Bool.false_and]),rfl⟩
    ·have HL:=zh (show zFq a s[k]=true by unfold zFq;rw[decide_eq_true (by omega),decide_eq_true (by omega)];rfl);go_wp2_with fail;go_round
     case rel=>exact⟨k+1,by omega,by go_num,fun j hj h=>by
      rcases Nat.lt_or_ge j k with h'|h'
      ·exact HJ.out j hj h'
      ·obtain rfl:j=k:=by omega
       exact HL.out⟩
     case measure=>simp[intOf];omega
  ·have HF:=zh (zDq (s:=s) (p:=zFq a) fun j hj=>HJ.out j hj (by omega));go_wp2_with fail;go_ret;exact⟨zA0 (by rw[show zCk a s.toList=true from HF.out,Bool.true_and]),rfl⟩
theorem zV7 (s:ByteArray)(h:0<s.size):s.toList.headD 0=s[0]:=by
 rw[ByteArray.toList_eq];obtain⟨⟨l⟩⟩:=s;cases l with
 |nil=>simp[ByteArray.size] at h
 |cons a r=>rfl
theorem zKb (s:ByteArray):s.toList.isEmpty=decide (s.size=0):=by
 rw[←zC2 s];cases s.toList<;>simp
set_option maxHeartbeats 400000 in
theorem zGg (s:ByteArray)(w:World)(hs:s.size≤9223372036854775807):Calls Tryz.prog 80 #[.string s] w fun e w'=>e= .returned (.bool (idB s.toList))∧Below w.heap.size w w':=by
 have HQ:=zh (show idB s.toList=(!s.toList.isEmpty&&(letB (s.toList.headD 0)&&symB s.toList)) from(zYc _).symm)
 by_cases h0:s.size=0
 ·have he:s.toList.isEmpty=true:=by rw[zKb,decide_eq_true h0]
  rw[he] at HQ;go_enter Tryz.func80,Tryz.ntmps80;go_wp2_with fail;go_ret;exact⟨zA0 (by rw[HQ.out];rfl),Below.refl _ _⟩
 ·have he:s.toList.isEmpty=false:=by rw[zKb,decide_eq_false h0]
  have hp:0<s.size:=by omega
  rw[he,zV7 s hp,Bool.not_false,Bool.true_and] at HQ;have HC:=zh (fun w=>zJu s[0] w);cases hl:letB s[0]
  ·rw[hl] at HC HQ;clear hl;go_enter Tryz.func80,Tryz.ntmps80;go_wp2_with fail;refine(HC.out _).mono ?_;rintro e w' ⟨rfl,rfl⟩;go_wp2_with fail;go_ret;exact⟨zA0 (by rw[HQ.out];rfl),Below.refl _ _⟩
  ·rw[hl,Bool.true_and] at HQ;rw[hl] at HC;clear hl;go_enter Tryz.func80,Tryz.ntmps80;go_wp2_with fail;refine(HC.out _).mono ?_;rintro e w' ⟨rfl,rfl⟩;go_wp2_with fail;refine(zH6 s _ hs).mono ?_;rintro e w' ⟨rfl,hb⟩;have HB:=zh hb;clear hb;go_wp2_with fail;go_ret;exact⟨zA0 (by rw[HQ.out]),HB.out⟩
set_option maxHeartbeats 400000 in
theorem zFm (s:ByteArray)(w:World)(hs:s.size≤9223372036854775807):Calls Tryz.prog 91 #[.string s] w fun e w'=>e= .returned (.bool (idB s.toList))∧Below w.heap.size w w':=by
 have HQ:=zh (show idB s.toList=(zAl s.toList&&symB s.toList) from rfl);have HC:=zh (fun w=>zHb s w hs);cases hl:zAl s.toList
 ·rw[hl] at HC HQ;clear hl;go_enter Tryz.func91,Tryz.ntmps91;go_wp2_with fail;refine(HC.out _).mono ?_;rintro e w' ⟨rfl,rfl⟩;go_wp2_with fail;go_ret;exact⟨zA0 (by rw[HQ.out];rfl),Below.refl _ _⟩
 ·rw[hl,Bool.true_and] at HQ;rw[hl] at HC;clear hl;go_enter Tryz.func91,Tryz.ntmps91;go_wp2_with fail;refine(HC.out _).mono ?_;rintro e w' ⟨rfl,rfl⟩;go_wp2_with fail;refine(zFc s _ hs).mono ?_;rintro e w' ⟨rfl,hb⟩;have HB:=zh hb;clear hb;go_wp2_with fail;go_ret;exact⟨zA0 (by rw[HQ.out]),HB.out⟩
end Go.Proofs.YtchllommcolijaaGreatDoor.Sp
