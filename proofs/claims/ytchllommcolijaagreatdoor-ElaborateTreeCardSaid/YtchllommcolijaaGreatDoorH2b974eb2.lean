/- The reference's list: memory of its boxes, what its functions give, plain laws of its rounds. -/
import Derived.Test.YtchllommcolijaaGreatDoorH58345c63
import Derived.Test.YtchllommcolijaaGreatDoorHe5ce66b4
namespace Go.Proofs.YtchllommcolijaaGreatDoor.Ch
open Go.RowKit
set_option maxHeartbeats 800000 in
theorem zWj (A T:Option Addr)(cap cT:Nat)(rs:List Rul)(ts:List ByteArray)(w:World)(hR:zAg w A rs)(hT:zBp w T ts)(hn:rs.length≤1000000)(hm:ts.length≤1000000):Calls Tryz.prog 92 #[.slice A rs.length cap,.slice T ts.length cT] w fun e w'=>e= .returned (.bool (zAj rs&&zDh ts))∧Below w.heap.size w w':=by
 have HR:=zh hR;have HT:=zh hT;clear hR hT;go_enter Tryz.func92,Tryz.ntmps92;go_wp2_with fail;refine(zBu A cap rs _ HR.out hn).mono ?_;rintro e w1 ⟨rfl,hb⟩;have HB:=zh hb;have HT:=zh (HT.out.keep hb);clear hb;cases q:zAj rs
 ·have HQ:=zh (show(zAj rs&&zDh ts)=false by rw[q];rfl);clear q;go_wp2_with fail;go_ret;exact⟨by rw[HQ.out];rfl,HB.out⟩
 ·have HQ:=zh (show(zAj rs&&zDh ts)=zDh ts by rw[q];rfl);clear q;go_wp2_with fail;refine(zOr T cT ts _ HT.out hm).mono ?_;rintro e w2 ⟨rfl,hb⟩;have HB:=jt HB hb;clear hb;go_wp2_with fail;go_ret;exact⟨by rw[HQ.out];rfl,HB.out⟩
def allL (rs:List Rul)(ts:List ByteArray):List Rd:=if zAj rs&&zDh ts then allR rs ts 0 ts.length else[]
def yA0 (rs:List Rul)(ts:List ByteArray)(w:World)(e:Ending)(w':World):Prop:=∃A cap,e= .returned (.tuple #[.slice A (allL rs ts).length cap,.int .i64 (okI rs ts)])∧(allL rs ts).length≤cap∧cap≤9223372036854775807∧zAp (fun b=>w.heap.size≤b) w' A (allL rs ts)∧Below w.heap.size w w'
set_option maxHeartbeats 800000 in
theorem zWn (A T:Option Addr)(cap cT:Nat)(rs:List Rul)(ts:List ByteArray)(w:World)(hR:zAg w A rs)(hT:zBp w T ts)(hn:rs.length≤1000)(hm:ts.length≤7):Calls Tryz.prog 67 #[.slice A rs.length cap,.slice T ts.length cT] w (yA0 rs ts w):=by
 have HR:=zh hR;have HT:=zh hT;clear hR hT;go_enter Tryz.func67,Tryz.ntmps67;go_wp2_with fail;refine(zWj A T cap cT rs ts _ HR.out HT.out (by omega) (by omega)).mono ?_;rintro e w1 ⟨rfl,hb⟩;have HB:=zh hb;have HT:=zh (HT.out.keep hb);have HR:=zh (HR.out.keep hb);clear hb;cases q:(zAj rs&&zDh ts)
 ·have HA:=zh (show allL rs ts=[] by unfold allL;rw[q];rfl);have HO:=zh (show okI rs ts=1 by unfold okI;rw[q];rfl);clear q;go_wp2_with fail
  go_returns
  exact⟨none,0,by rw[HA.out,HO.out];rfl,by rw[HA.out];exact Nat.le_refl _,by omega,by rw[HA.out];exact zAp.nil _ _ _,HB.out⟩
 ·have HA:=zh (show allL rs ts=allR rs ts 0 ts.length by unfold allL;rw[q];rfl);have HO:=zh (show okI rs ts=0 by unfold okI;rw[q];rfl);have HC:=zh (zW0 A T cap cT rs ts (zh (by rw[Bool.and_eq_true] at q;exact q.1)) (by rw[Bool.and_eq_true] at q;have:=q.1;unfold zAj at this;rw[Bool.and_eq_true] at this;exact of_decide_eq_true this.1) hm ts.length 0 ts.length w1 (by omega) (Nat.le_refl _) HR.out HT.out);clear q;go_wp2_with fail;refine HC.out.mono ?_;rintro e w2 ⟨v,rfl,ho,hb⟩;have HB9:=jt HB hb;have HSZ:=zh HB.out.size;obtain⟨A1,c1,rfl,h1,h2,h3⟩:=AppR.form ho fun b h=>h
  have H3:=zh h3;have H12:=zh (And.intro h1 h2);clear h1 h2;clear ho hb h3;go_wp2_with fail
  go_returns
  exact⟨A1,c1,by rw[HA.out,HO.out];rfl,by rw[HA.out];exact H12.out.1,H12.out.2,by rw[HA.out];exact H3.out.any fun b _ h=>Nat.le_trans HSZ.out h,HB9.out⟩
end Go.Proofs.YtchllommcolijaaGreatDoor.Ch
namespace Go.Proofs.YtchllommcolijaaGreatDoor.El
open At Go.RowKit
mutual
def zDf:Tre→Int→Int
 | .mk k s _ ks,n=>if 300<s.size∨(k=1∧7<ks.length) then -1 else zBh ks (n -1)
def zBh:List Tre→Int→Int
 |[],n=>n
 |t::ts,n=>if 0≤n then zBh ts (zDf t n) else n
end
theorem zIx (ts:List Tre){n:Int}(h:n<0):zBh ts n=n:=by
 cases ts with
 |nil=>rw[zBh]
 |cons x r=>rw[zBh,if_neg (by omega)]
theorem zJe:∀(a b:List Tre) (n:Int),zBh (a++b) n=zBh b (zBh a n)
 |[],b,n=>by rw[List.nil_append,show zBh [] n=n by rw[zBh]]
 |x::a,b,n=>by
  rw[List.cons_append,zBh,zBh]
  split
  ·exact zJe a b _
  ·rw[zIx b (by omega)]
theorem zKj {ks:List Tre}{k:Nat}{x:Tre}(h:ks[k]?=some x)(n:Int)(h0:0≤zBh (ks.take k) n):zBh (ks.take (k+1)) n=zDf x (zBh (ks.take k) n):=by
 rw[List.take_add_one,h,Option.toList,zJe,zBh,if_pos h0,zBh]
theorem zJw (ks:List Tre)(k:Nat)(n:Int)(h0:zBh (ks.take k) n<0):zBh ks n=zBh (ks.take k) n:=by
 conv=>lhs;rw[←List.take_append_drop k ks]
 rw[zJe,zIx _ h0]
mutual
theorem zPq:∀(t:Tre) (n:Int),0≤n→zDf t n≤n -1∧-1≤zDf t n∧(0≤zDf t n→zDf t n=n -zAa t)
 | .mk k s c ks,n,h0=>by
  rw[zDf,zAa]
  split
  ·exact⟨by omega,by omega,fun h=>by omega⟩
  ·obtain⟨h1,h2,h3⟩:=zFk ks (n -1) (by omega);exact⟨h1,h2,fun h=>by have:=h3 h;omega⟩
theorem zFk:∀(ts:List Tre) (n:Int),-1≤n→zBh ts n≤n∧-1≤zBh ts n∧(0≤zBh ts n→zBh ts n=n -zAc ts)
 |[],n,h0=>by rw[zBh,zAc];exact⟨Int.le_refl _,h0,fun _=>by simp⟩
 |t::ts,n,h0=>by
  rw[zBh,zAc]
  split
  ·next hn=>
   obtain⟨h1,h2,h3⟩:=zPq t n hn;obtain⟨g1,g2,g3⟩:=zFk ts (zDf t n) h2;refine⟨by omega,g2,fun h=>?_⟩;have:=g3 h;have:=h3 (by omega);omega
  ·exact⟨Int.le_refl _,h0,fun h=>by omega⟩
end
def zN1 (t:Tre)(n:Int):Bool:=decide (0≤zDf t n)
mutual
def zE4:Tre→Bool
 | .mk k _ _ ks=>(!decide (k=1)||decide (ks.length≤7))&&zH1 ks
def zH1:List Tre→Bool
 |[]=>true
 |t::ts=>zE4 t&&zH1 ts
end
mutual
theorem zM6:∀(t:Tre) (n:Int),0≤zDf t n→zE4 t=true
 | .mk k s c ks,n,h=>by
  rw[zDf] at h
  split at h
  ·omega
  ·next hn=>
   rw[zE4,zK8 ks _ h,Bool.and_true]
   by_cases hk:k=1
   ·rw[decide_eq_true (p:=ks.length≤7) (by omega)];simp
   ·rw[decide_eq_false hk];rfl
theorem zK8:∀(ts:List Tre) (n:Int),0≤zBh ts n→zH1 ts=true
 |[],n,_=>by rw[zH1]
 |t::ts,n,h=>by
  rw[zBh] at h
  split at h
  ·next hn=>
   have h1:=zK8 ts _ h;have h2:0≤zDf t n:=by
    rcases Int.lt_or_le (zDf t n) 0 with h3|h3
    ·rw[zIx ts h3] at h;omega
    ·exact h3
   rw[zH1,zM6 t n h2,h1];rfl
  ·omega
end
theorem zOz {t:Tre}{n:Int}(hn:0≤n)(h:zN1 t n=true):(zAa t:Int)≤n∧zE4 t=true:=by
 unfold zN1 at h;have h1:=of_decide_eq_true h;have h2:=(zPq t n hn).2.2 h1;exact⟨by omega,zM6 t n h1⟩
set_option maxRecDepth 100000 in
set_option maxHeartbeats 1600000 in
theorem zWt:∀(m:Nat) (t:Tre) (c:Array Value) (n:Int) (w:World),zAa t<m→zBd w t c→0≤n→n≤1000000→Calls Tryz.prog 13 #[.agg c,.int .i64 n] w fun e w'=>e= .returned (.int .i64 (zDf t n))∧Below w.heap.size w w':=by
 intro m
 induction m with
 |zero=>intro t c n w h;omega
 |succ m ih=>
  intro t c n w hm hN hn0 hn1;have IH:=zh ih;clear ih;obtain⟨k,s,cols,ks⟩:=t;obtain⟨A2,cap2,rfl,hs,hl,hc,hk⟩:=hN.form;dsimp only[Tre.kind,Tre.text,Tre.cols,Tre.kids] at hs hl hc hk⊢;have HK:=zh hk;have HM:=zh hm;have K0:=zh (Blk.new w 25 #[.int .i64 k,.string s,.int .i64 cols,.slice A2 ks.length cap2]);have H0:=zh (zA1 w (.cells #[.int .i64 k,.string s,.int .i64 cols,.slice A2 ks.length cap2] 25));have HK:=zh (HK.out.keep H0.out);clear hk hN hm;go_enter Tryz.func13,Tryz.ntmps13;go_upto_region 1 with(fail)
  generalize w.alloc (.cells #[.int .i64 k,.string s,.int .i64 cols,.slice A2 ks.length cap2] 25)=w1 at*;have k0:=K0.out.cell 0;have k1:=K0.out.cell 1;have k3:=K0.out.cell 3
  by_cases hz:300<s.size
  ·have HQ:=zh (show zDf (.mk k s cols ks) n= -1 by rw[zDf,if_pos (.inl hz)]);have q1:(300:Int)<(s.size:Int):=by omega
   clear hz;go_wp2_with fail;go_ret;exact⟨At.zBf (by rw[HQ.out]),H0.out⟩
  have q1:¬((300:Int)<(s.size:Int)):=by omega
  by_cases hk1:k=1
  ·have qk:(k==1)=true:=beq_iff_eq.2 hk1
   by_cases h7:7<ks.length
   ·have HQ:=zh (show zDf (.mk k s cols ks) n= -1 by rw[zDf,if_pos (.inr ⟨hk1,h7⟩)]);have q2:(7:Int)<(ks.length:Int):=by omega
    clear hz hk1 h7;go_wp2_with fail;go_ret;exact⟨At.zBf (by rw[HQ.out]),H0.out⟩
   ·have HQ:=zh (show zDf (.mk k s cols ks) n=zBh ks (n -1) by rw[zDf,if_neg (by omega)]);have q2:¬((7:Int)<(ks.length:Int)):=by omega
    clear hz hk1 h7;go_wp2_with fail
    go_loopw [1,5] (fun v i wr=>∃(j:Nat),j≤ks.length∧i= .int .i64 j∧v= .int .i64 (zBh (ks.take j) (n -1))∧Hid (Blk wr w.heap.size 25 #[.int .i64 k,.string s,.int .i64 cols,.slice A2 ks.length cap2])∧Hid (zB0 wr A2 ks)∧Hid (Below w.heap.size w wr)) (fun _ i _=>ks.length -(intOf i).toNat)
    case atStart=>exact⟨0,by omega,rfl,by rw[List.take_zero,zBh],K0,HK,H0⟩
    case round=>
     clear K0 HK H0 k0 k1 k3;obtain⟨j,hj,rfl,rfl,K0,HK,H0⟩:=hrel;have c0:=K0.out.cell 3;have hlow:=(zFk (ks.take j) (n -1) (by omega)).2.1;have hup:=(zFk (ks.take j) (n -1) (by omega)).1
     by_cases hlt:j<ks.length
     ·by_cases hz:0≤zBh (ks.take j) (n -1)
      ·obtain⟨x,hx⟩:∃x,ks[j]?=some x:=⟨_,gE hlt⟩
       obtain⟨ad,A3,cap3,rfl,hadl,hs3,hl3,hc3,hk3,hN3,d0,d1,d2,d3⟩:=HK.out.at_ hx;have HN3:=zh hN3;have HS:=zh (zKj hx (n -1) hz);have HCU:Hid (zAa x<m):=by
        have h1:=HM.out;have h2:=zEe hx;show _<_;rw[zAa] at h1;omega
       clear hx hk3 hN3;generalize zBh (ks.take j) (n -1)=r at*;go_wp2_with fail;refine(IH.out x _ r wr HCU.out HN3.out hz (by omega)).mono ?_;rintro e w2 ⟨rfl,hb⟩;have K0:=kp hb K0;have HK:=zh (HK.out.keep hb);have H0:=jt H0 hb;clear hb c0 d0 d1 d2 d3;go_wp2_with fail;go_roundw
       case rel=>exact⟨j+1,by omega,by go_num,by rw[HS.out],K0,HK,H0⟩
       case measure=>simp[intOf];omega
      ·have HS:=zh (zJw ks j (n -1) (by omega));generalize zBh (ks.take j) (n -1)=r at*;go_wp2_with fail;go_ret;exact⟨At.zBf (by rw[HQ.out,HS.out]),H0.out⟩
     ·obtain rfl:j=ks.length:=by omega
      have HT:=zh (show ks.take ks.length=ks from List.take_length);rw[HT.out] at*;generalize zBh ks (n -1)=r at*;go_wp2_with fail;go_ret;exact⟨At.zBf (by rw[HQ.out]),H0.out⟩
  ·have qk:(k==1)=false:=bn hk1;have HQ:=zh (show zDf (.mk k s cols ks) n=zBh ks (n -1) by rw[zDf,if_neg (by omega)]);clear hz hk1;go_wp2_with fail
   go_loopw [1,5] (fun v i wr=>∃(j:Nat),j≤ks.length∧i= .int .i64 j∧v= .int .i64 (zBh (ks.take j) (n -1))∧Hid (Blk wr w.heap.size 25 #[.int .i64 k,.string s,.int .i64 cols,.slice A2 ks.length cap2])∧Hid (zB0 wr A2 ks)∧Hid (Below w.heap.size w wr)) (fun _ i _=>ks.length -(intOf i).toNat)
   case atStart=>exact⟨0,by omega,rfl,by rw[List.take_zero,zBh],K0,HK,H0⟩
   case round=>
    clear K0 HK H0 k0 k1 k3;obtain⟨j,hj,rfl,rfl,K0,HK,H0⟩:=hrel;have c0:=K0.out.cell 3;have hlow:=(zFk (ks.take j) (n -1) (by omega)).2.1;have hup:=(zFk (ks.take j) (n -1) (by omega)).1
    by_cases hlt:j<ks.length
    ·by_cases hz:0≤zBh (ks.take j) (n -1)
     ·obtain⟨x,hx⟩:∃x,ks[j]?=some x:=⟨_,gE hlt⟩
      obtain⟨ad,A3,cap3,rfl,hadl,hs3,hl3,hc3,hk3,hN3,d0,d1,d2,d3⟩:=HK.out.at_ hx;have HN3:=zh hN3;have HS:=zh (zKj hx (n -1) hz);have HCU:Hid (zAa x<m):=by
       have h1:=HM.out;have h2:=zEe hx;show _<_;rw[zAa] at h1;omega
      clear hx hk3 hN3;generalize zBh (ks.take j) (n -1)=r at*;go_wp2_with fail;refine(IH.out x _ r wr HCU.out HN3.out hz (by omega)).mono ?_;rintro e w2 ⟨rfl,hb⟩;have K0:=kp hb K0;have HK:=zh (HK.out.keep hb);have H0:=jt H0 hb;clear hb c0 d0 d1 d2 d3;go_wp2_with fail;go_roundw
      case rel=>exact⟨j+1,by omega,by go_num,by rw[HS.out],K0,HK,H0⟩
      case measure=>simp[intOf];omega
     ·have HS:=zh (zJw ks j (n -1) (by omega));generalize zBh (ks.take j) (n -1)=r at*;go_wp2_with fail;go_ret;exact⟨At.zBf (by rw[HQ.out,HS.out]),H0.out⟩
    ·obtain rfl:j=ks.length:=by omega
     have HT:=zh (show ks.take ks.length=ks from List.take_length);rw[HT.out] at*;generalize zBh ks (n -1)=r at*;go_wp2_with fail;go_ret;exact⟨At.zBf (by rw[HQ.out]),H0.out⟩
set_option maxRecDepth 100000 in
set_option maxHeartbeats 800000 in
theorem zU1 (t:Tre)(c:Array Value)(n:Int)(w:World)(hN:zBd w t c)(hn0:0≤n)(hn:n≤1000000):Calls Tryz.prog 6 #[.agg c,.int .i64 n] w fun e w'=>e= .returned (.bool (zN1 t n))∧Below w.heap.size w w':=by
 obtain⟨k,s,cols,ks⟩:=t;obtain⟨A2,cap2,rfl,hs,hl,hc,hk⟩:=hN.form;dsimp only[Tre.kind,Tre.text,Tre.cols,Tre.kids] at hs hl hc hk⊢;have HQ:=zh (show zN1 (.mk k s cols ks) n=decide (0≤zDf (.mk k s cols ks) n) from rfl);have K0:=zh (Blk.new w 25 #[.int .i64 k,.string s,.int .i64 cols,.slice A2 ks.length cap2]);have H0:=zh (zA1 w (.cells #[.int .i64 k,.string s,.int .i64 cols,.slice A2 ks.length cap2] 25));have HN:=zh (hN.keep H0.out);clear hk hN;go_enter Tryz.func6,Tryz.ntmps6;go_wp2_with fail;generalize w.alloc (.cells #[.int .i64 k,.string s,.int .i64 cols,.slice A2 ks.length cap2] 25)=w1 at*;refine(zWt (zAa (.mk k s cols ks)+1) _ _ n w1 (by omega) HN.out hn0 hn).mono ?_;rintro e w2 ⟨rfl,hb⟩;have HB:=jt H0 hb;clear hb;generalize zDf (.mk k s cols ks) n=r at*
 by_cases hr:0≤r
 ·have HR:=zh (decide_eq_true hr);go_wp2_with fail;go_ret;exact⟨zA0 (by rw[HQ.out,HR.out]),HB.out⟩
 ·have HR:=zh (decide_eq_false hr);go_wp2_with fail;go_ret;exact⟨zA0 (by rw[HQ.out,HR.out]),HB.out⟩
end Go.Proofs.YtchllommcolijaaGreatDoor.El
namespace Go.Proofs.YtchllommcolijaaGreatDoor.El
open At Ch Sp Sy Go.RowKit
theorem zGc (rs:List Rul)(n:Tre):varN rs n true=zDe rs n∧varN rs n false=none:=by
 constructor
 ·unfold varN zDe
  by_cases h:n.kind=7∨n.kind=9
  ·rw[if_pos ⟨rfl,h⟩,if_pos h];cases n.kids with
   |nil=>rfl
   |cons a r=>cases r<;>rfl
  ·rw[if_neg (fun e=>h e.2),if_neg h]
 ·unfold varN;rw[if_neg (fun e=>by cases e.1)]
theorem zTd {rs:List Rul}{f:Nat}{items:List Tre}{path:List Int}{k:Nat}(h:items.drop k=[]):zAe rs (f+1) items path k= .bad 15 (path++[(k:Int)]):=by
 rw[zAe];unfold zHy;rw[if_pos (List.drop_eq_nil_iff.1 h)]
theorem zSx {rs:List Rul}{f:Nat}{items:List Tre}{path:List Int}{k i:Nat}(h0:items.drop k≠[])(h:zB5 rs (items.drop k)= .inr i):zAe rs (f+1) items path k= .bad 15 (path++[((k+i:Nat):Int)]):=by
 rw[zAe];unfold zHy;rw[if_neg (fun e=>h0 (List.drop_eq_nil_iff.2 e)),h]
theorem zSa {rs:List Rul}{f:Nat}{items:List Tre}{path:List Int}{k:Nat}{ts:List ByteArray}(h0:items.drop k≠[])(h:zB5 rs (items.drop k)= .inl ts)(ha:allL rs ts=[]):zAe rs (f+1) items path k= .bad 15 (path++[(k:Int)]):=by
 rw[zAe];unfold zHy;rw[if_neg (fun e=>h0 (List.drop_eq_nil_iff.2 e)),h];dsimp only;rw[show zEt rs ts=[] from ha]
theorem zVv {rs:List Rul}{f:Nat}{items:List Tre}{path:List Int}{k:Nat}{ts:List ByteArray}{x y:Rd}{zs:List Rd}(h0:items.drop k≠[])(h:zB5 rs (items.drop k)= .inl ts)(ha:allL rs ts=x::y::zs):zAe rs (f+1) items path k= .bad 14 (path++[(k:Int)]):=by
 rw[zAe];unfold zHy;rw[if_neg (fun e=>h0 (List.drop_eq_nil_iff.2 e)),h];dsimp only;rw[show zEt rs ts=x::y::zs from ha]
theorem zUg {rs:List Rul}{ts:List ByteArray}{x:Rd}(h:x∈allL rs ts):zAj rs=true∧x∈allR rs ts 0 ts.length:=by
 unfold allL at h
 split at h
 ·next hc=>
  rw[Bool.and_eq_true] at hc;exact⟨hc.1,h⟩
 ·cases h
theorem zSy {rs:List Rul}{f:Nat}{items:List Tre}{path:List Int}{k:Nat}{ts:List ByteArray}{x:Rd}(h0:items.drop k≠[])(h:zB5 rs (items.drop k)= .inl ts)(ha:allL rs ts=[x])(hk:∀n∈items.drop k,kindOk n):
  zAe rs (f+1) items path k=(zBm rs (zAe rs f) path (fun i=>decide ((i:Int)∈pfxR rs x)) k (items.drop k) ts 0).then_ fun xs=>.ok (bldR rs (items.drop k) xs x ts.length):=by
 rw[zAe];unfold zHy;rw[if_neg (fun e=>h0 (List.drop_eq_nil_iff.2 e)),h];dsimp only;rw[show zEt rs ts=[x] from ha];dsimp only;have hx:=zUg (rs:=rs) (ts:=ts) (x:=x) (by rw[ha];exact List.mem_cons_self);exact zXi hx.1 h hx.2 hk
theorem zYt {n:Tre}(h:zB8 n=true):kindOk n:=by
 have hk:=(zDz h).2;unfold zBv at hk;unfold kindOk;refine⟨fun e=>?_,fun e=>?_⟩
 ·rw[if_neg (show ¬n.kind=12 by omega),Bool.and_eq_true,if_neg (show ¬n.kind=1 by omega),if_pos e] at hk;exact List.length_eq_zero_iff.1 (of_decide_eq_true hk.2)
 ·rw[if_neg (show ¬n.kind=12 by omega),Bool.and_eq_true,if_neg (show ¬n.kind=1 by omega),if_neg (show ¬(n.kind=2∨n.kind=3∨n.kind=4) by omega),if_pos (.inr (.inl e))] at hk;exact of_decide_eq_true hk.2
def sltR (rs:List Rul)(M:List Tre→List Int→Nat→Mea Trm)(n:Tre)(path:List Int)(op pre:Bool)(s:Nat):Mea (List Trm):=
 if op=true then(if s=0 then zAs M path n.kids.tail 1 (if(varN rs n pre).isSome then 2 else 0) else zAs M path (n.kids.drop s) s (if s=1∧(varN rs n pre).isSome=true then 2 else 0))
 else zEo M n path s
def skR (n:Tre)(op:Bool)(s:Nat):Bool:=(op&&decide (s=0))||zCf n s
def begR (rs:List Rul)(n:Tre)(op pre:Bool)(s:Nat):Nat:=if op=true∧s=1∧(varN rs n pre).isSome=true then 2 else 0
theorem zR7 (rs:List Rul)(M:List Tre→List Int→Nat→Mea Trm)(n:Tre)(path:List Int)(op pre:Bool):sltF rs M n path op pre=sltR rs M n path op pre 0:=by
 unfold sltF sltR;cases op with
 |true=>rw[if_pos rfl,if_pos rfl,if_pos rfl]
 |false=>
  rw[if_neg (by decide),if_neg (by decide)];unfold zEo zCf;cases hn:n.kids with
  |nil=>simp[zAs]
  |cons d ks=>
   dsimp only;simp only[List.drop_succ_cons,List.drop_zero]
   by_cases h:n.kind=6∧d.kids.isEmpty=true
   ·rw[if_pos h,if_pos (by rw[decide_eq_true h.1,h.2];rfl)]
   ·rw[if_neg h,if_neg (by
     intro e;simp only[Bool.and_eq_true,decide_eq_true_eq] at e;exact h ⟨e.1,e.2.2⟩)]
theorem zSv {n:Tre}{s:Nat}(h:zCf n s=true):s=0:=by
 unfold zCf at h;simp only[Bool.and_eq_true,decide_eq_true_eq] at h;exact h.2.1
theorem zU5 {rs:List Rul}{M:List Tre→List Int→Nat→Mea Trm}{n:Tre}{path:List Int}{op pre:Bool}{s:Nat}(h:skR n op s=true):sltR rs M n path op pre s=sltR rs M n path op pre (s+1):=by
 unfold skR at h;rw[Bool.or_eq_true,Bool.and_eq_true,decide_eq_true_eq] at h;unfold sltR;cases op with
 |true=>
  have hs:s=0:=h.elim (fun h=>h.2) zSv;subst hs;rw[if_pos rfl,if_pos rfl,if_pos rfl,if_neg (show ¬0+1=0 by omega),List.drop_one];simp only[Nat.zero_add,true_and]
 |false=>
  rw[if_neg (by decide),if_neg (by decide)];exact zMc (h.elim (fun h=>by cases h.1) id)
theorem zYo {rs:List Rul}{M:List Tre→List Int→Nat→Mea Trm}{n:Tre}{path:List Int}{op pre:Bool}{s:Nat}{d:Tre}(h:skR n op s=false)(hd:n.kids[s]?=some d):
  sltR rs M n path op pre s=(M d.kids (path++[(s:Int)]) (begR rs n op pre s)).then_ fun t=>(sltR rs M n path op pre (s+1)).then_ fun ts=>.ok (t::ts):=by
 unfold skR at h;rw[Bool.or_eq_false_iff] at h;unfold sltR begR;cases op with
 |true=>
  have hs:¬s=0:=by simpa using h.1
  rw[if_pos rfl,if_neg hs,zH9 hd];simp only[true_and];rw[if_pos trivial,if_neg (show ¬s+1=0 by omega),if_neg (show ¬(s+1=1∧(varN rs n pre).isSome=true) from fun e=>hs (by omega))]
 |false=>
  rw[if_neg (show ¬(false=true) by decide),if_neg (show ¬(false=true∧s=1∧(varN rs n pre).isSome=true) from fun e=>by cases e.1),if_neg (show ¬(false=true) by decide)];exact zTa h.2 hd
theorem zWy {rs:List Rul}{M:List Tre→List Int→Nat→Mea Trm}{n:Tre}{path:List Int}{op pre:Bool}:sltR rs M n path op pre n.kids.length= .ok []:=by
 unfold sltR;cases op with
 |true=>
  rw[if_pos rfl]
  split
  ·next h=>rw[List.length_eq_zero_iff.1 h];simp[zAs]
  ·rw[List.drop_length,zAs]
 |false=>
  rw[if_neg (by decide)]
  by_cases h:n.kids=[]
  ·unfold zEo zCf;rw[h];simp[zAs]
  ·exact rest_end h
def RSo (tot:Mea (List (List Trm)))(xs:List (List Trm))(rest:Mea (List (List Trm))):Prop:=tot=rest.then_ fun ys=>.ok (xs++ys)
theorem RSo.start (m:Mea (List (List Trm))):RSo m [] m:=by
 unfold RSo;cases m<;>rfl
theorem RSo.bad {tot:Mea (List (List Trm))}{xs:List (List Trm)}{m:Mea (List Trm)}{F:List Trm→Mea (List (List Trm))}{er:Int}{p:List Int}(h:RSo tot xs (m.then_ F))(hm:m= .bad er p):tot= .bad er p:=by
 unfold RSo at h;rw[h,hm];rfl
theorem RSo.next {tot:Mea (List (List Trm))}{xs:List (List Trm)}{m:Mea (List Trm)}{r:Mea (List (List Trm))}{t:List Trm}(h:RSo tot xs (m.then_ fun t=>r.then_ fun ts=>.ok (t::ts)))(hm:m= .ok t):RSo tot (xs++[t]) r:=by
 unfold RSo at*;rw[h,hm];cases r with
 |ok ts=>simp[Mea.then_]
 |bad e p=>rfl
theorem RSo.end {tot:Mea (List (List Trm))}{xs:List (List Trm)}(h:RSo tot xs (.ok [])):tot= .ok xs:=by
 unfold RSo at h;rw[h];simp[Mea.then_]
theorem zOi {rs:List Rul}{M:List Tre→List Int→Nat→Mea Trm}{path:List Int}{pb:Nat→Bool}{k i:Nat}{its:List Tre}{ts:List ByteArray}{n:Tre}{t:ByteArray}(hn:its[i]?=some n)(ht:ts[i]?=some t):
  zBm rs M path pb k (its.drop i) (ts.drop i) i=(sltF rs M n (path++[((k+i:Nat):Int)]) (!decide (t.data.toList=[35])) (pb i)).then_ fun p=>(zBm rs M path pb k (its.drop (i+1)) (ts.drop (i+1)) (i+1)).then_ fun ps=>.ok (p::ps):=by
 obtain⟨h1,rfl⟩:=List.getElem?_eq_some_iff.1 hn;obtain⟨h2,rfl⟩:=List.getElem?_eq_some_iff.1 ht;rw[List.drop_eq_getElem_cons h1,List.drop_eq_getElem_cons h2,zBm]
theorem zRn {rs:List Rul}{M:List Tre→List Int→Nat→Mea Trm}{path:List Int}{pb:Nat→Bool}{k i:Nat}{its:List Tre}{ts:List ByteArray}(h:its.length≤i):zBm rs M path pb k (its.drop i) (ts.drop i) i= .ok []:=by
 rw[List.drop_eq_nil_iff.2 h];cases ts.drop i<;>simp[zBm]
inductive Amb (rs:List Rul):List Tre→List Int→Nat→List Int→List Rd→Prop
 |here (items:List Tre) (path:List Int) (k:Nat) (ts:List ByteArray) (x y:Rd) (zs:List Rd) (ht:zB5 rs (items.drop k)= .inl ts) (ha:allL rs ts=x::y::zs):Amb rs items path k (path++[(k:Int)]) [x,y]
 |there (items:List Tre) (path:List Int) (k i s b:Nat) (n d:Tre) (q:List Int) (rds:List Rd) (hn:(items.drop k)[i]?=some n) (hd:n.kids[s]?=some d) (h:Amb rs d.kids (path++[((k+i:Nat):Int),(s:Int)]) b q rds):Amb rs items path k q rds
def RFl (Q:List Rd→Prop)(ok:Nat→Prop)(w:World)(g:Nat)(e:Int)(p:List Int):Prop:=∃A c Ar cr rds,Blk w g 58 #[.int .i64 e,.slice A p.length c,.slice Ar rds.length cr]∧p.length≤c∧c≤9223372036854775807∧zAo w A p∧ok g∧(∀ad,A=some ad→0<p.length→ok ad.block)∧rds.length≤cr∧cr≤9223372036854775807∧zAp ok w Ar rds∧Q rds
theorem RFl.keep {Q:List Rd→Prop}{ok:Nat→Prop}{w w':World}{g:Nat}{e:Int}{p:List Int}(h:RFl Q ok w g e p)(hb:Below w.heap.size w w'):RFl Q ok w' g e p:=by
 obtain⟨A,c,Ar,cr,rds,h1,h2,h3,h4,h5,h6,h7,h8,h9,h10⟩:=h;exact⟨A,c,Ar,cr,rds,jL hb h1,h2,h3,h4.keep hb,h5,h6,h7,h8,h9.keep hb,h10⟩
theorem RFl.any {Q Q':List Rd→Prop}{ok ok':Nat→Prop}{w:World}{g:Nat}{e:Int}{p:List Int}(h:RFl Q ok w g e p)(hq:∀rds,Q rds→Q' rds)(hl:∀b,b<w.heap.size→ok b→ok' b):RFl Q' ok' w g e p:=by
 obtain⟨A,c,Ar,cr,rds,h1,h2,h3,h4,h5,h6,h7,h8,h9,h10⟩:=h;refine⟨A,c,Ar,cr,rds,h1,h2,h3,h4,hl _ h1.lt h5,fun ad ha hn=>?_,h7,h8,h9.any hl,hq _ h10⟩;obtain⟨ad',r3,r4,_⟩:=h4.2 hn;obtain rfl:ad=ad':=sj (ha.symm.trans r3);exact hl _ r4 (h6 ad ha hn)
theorem RFl.grown {Q:List Rd→Prop}{ok:Nat→Prop}{w w':World}{g:Nat}{e:Int}{p:List Int}{q:Nat}(h:RFl Q ok w g e p)(hg:w.grownBy w' (some q))(hq:¬ok q):RFl Q ok w' g e p:=by
 obtain⟨A,c,Ar,cr,rds,h1,h2,h3,h4,h5,h6,h7,h8,h9,h10⟩:=h;refine⟨A,c,Ar,cr,rds,h1.grown hg fun e=>hq (by rw[←sj e];exact h5),h2,h3,?_,h5,h6,h7,h8,h9.map hg.size (fun _ _ h=>h) (fun p hp ho=>World.cell?_of_block (hg.block _ hp fun e=>hq (by rw[←sj e];exact ho))),h10⟩;obtain⟨r1,r2⟩:=h4;refine⟨r1,fun hn=>?_⟩;obtain⟨ad,r3,r4,r5⟩:=r2 hn;refine⟨ad,r3,ll r4 hg.size,fun j u hj=>?_⟩;rw[←r5 j u hj];refine World.cell?_of_block (hg.block _ (by rw[zA3];exact r4) fun e=>?_);have e9:=sj e;rw[zA3] at e9;exact hq (by rw[←e9];exact h6 ad r3 hn)
def zJ4 (rs:List Rul)(items:List Tre)(path:List Int)(k:Nat)(m:Mea Trm)(g:Nat)(w:World)(e:Ending)(w':World):Prop:=(match m with
 | .ok t=>∃c,e= .returned (.tuple #[.agg c,.pointer none])∧TmAt (fun b=>w.heap.size≤b) w' t c
 | .bad er p=>∃gf,e= .returned (.tuple #[.agg zerC,.pointer (some ⟨gf,0,none⟩)])∧RFl (fun rds=>er=14→Amb rs items path k p rds) (fun b=>w.heap.size≤b) w' gf er p)∧Gr g w w'
abbrev lstC (A:Option Addr)(cap:Nat)(rs:List Rul)(Ai:Option Addr)(ci:Nat)(its:List Tre)(Ap:Option Addr)(cp:Nat)(path:List Int)(k:Nat)(v:Value):Array Value:= #[.slice A rs.length cap,.slice Ai its.length ci,.slice Ap path.length cp,.int .i64 (k:Int),v]
def zW6 (A:Option Addr)(cap:Nat)(rs:List Rul)(f:Nat):Prop:=∀(items:List Tre) (path:List Int) (k:Nat) (Ai Ap:Option Addr) (ci cp g:Nat) (w0 w:World),zAg w0 A rs→zB0 w0 Ai (items.drop k)→Below w0.heap.size w0 w→w0.heap.size≤g→(items.drop k).length≤ci→ci≤9223372036854775807→zAo w Ap path→(∀ad,Ap=some ad→0<path.length→ad.block≠g)→path.length≤cp→cp≤9223372036854775807→
 Blk w g 96 (lstC A cap rs Ai ci (items.drop k) Ap cp path k (.slice none 0 0))→zCm 1 items=true→zAc items<f→path.length+zAc items+2≤900000→items.length≤7→zH1 items=true→k≤2→
 Calls Tryz.prog 36 #[.pointer (some ⟨g,0,none⟩)] w (zJ4 rs items path k (zAe rs f items path k) g w)
def SltP (Q:List Int→List Rd→Prop)(m:Mea (List Trm))(w:World)(e:Ending)(w':World):Prop:=(match m with
 | .ok ts=>∃A cap,e= .returned (.tuple #[.slice A ts.length cap,.pointer none])∧ts.length≤cap∧cap≤9223372036854775807∧zCs (fun b=>w.heap.size≤b) w' A ts
 | .bad er p=>∃gf,e= .returned (.tuple #[.slice none 0 0,.pointer (some ⟨gf,0,none⟩)])∧RFl (fun rds=>er=14→Q p rds) (fun b=>w.heap.size≤b) w' gf er p)∧Below w.heap.size w w'
def OwnP (ok:Nat→Prop)(w:World)(B:Nat)(v:Value)(xs:List (List Trm)):Prop:=∃cs:List Value,w.ownsRow B 29 1 v xs.length cs∧cs.length=xs.length∧∀(j:Nat) c x,cs[j]?=some c→xs[j]?=some x→∃A cap,c= .slice A x.length cap∧x.length≤cap∧cap≤9223372036854775807∧zCs ok w A x
theorem OwnP.nil (ok:Nat→Prop)(w:World)(B:Nat):OwnP ok w B (.slice none 0 0) []:=⟨[],World.ownsRow_nil _ _ _ _,rfl,fun j c x h=>by simp at h⟩
theorem OwnP.keep {ok:Nat→Prop}{w w':World}{B:Nat}{v:Value}{xs:List (List Trm)}(h:OwnP ok w B v xs)(hb:Below w.heap.size w w'):OwnP ok w' B v xs:=by
 obtain⟨cs,h1,h2,h3⟩:=h;exact⟨cs,Sp.own_below h1 hb,h2,fun j c x hj hx=>by
  obtain⟨A,cap,e1,e2,e3,e4⟩:=h3 j c x hj hx;exact⟨A,cap,e1,e2,e3,e4.keep hb⟩⟩
theorem OwnP.snoc {ok ok':Nat→Prop}{w w':World}{B:Nat}{v v':Value}{xs:List (List Trm)}{cs:List Value}{x:List Trm}{A:Option Addr}{cap:Nat}(hl:cs.length=xs.length)(h:∀(j:Nat) c x,cs[j]?=some c→xs[j]?=some x→∃A cap,c= .slice A x.length cap∧x.length≤cap∧cap≤9223372036854775807∧zCs ok w A x)
  (h1:x.length≤cap) (h2:cap≤9223372036854775807) (hx:zCs ok w A x) (ho:w'.ownsRow B 29 1 v' (xs.length+1) (cs++[.slice A x.length cap])) (hg:w.grownBy w' v.ownBlock) (hr:∀b,b<w.heap.size→ok b→some b≠v.ownBlock) (hok:∀b,b<w.heap.size→ok b→ok' b):OwnP ok' w' B v' (xs++[x]):=by
 have mv:∀{A:Option Addr} {ts:List Trm},zCs ok w A ts→zCs ok' w' A ts:=fun h=>h.map hg.size hok fun p hp hb=>World.cell?_of_block (hg.block _ hp (hr _ hp hb))
 refine⟨cs++[.slice A x.length cap],by rw[List.length_append];exact ho,by simp[hl],fun j d y hj hy=>?_⟩;rcases Nat.lt_or_ge j cs.length with hlt|hge
 ·rw[List.getElem?_append_left hlt] at hj;rw[List.getElem?_append_left (by omega)] at hy;obtain⟨A',cap',e1,e2,e3,e4⟩:=h j d y hj hy;exact⟨A',cap',e1,e2,e3,mv e4⟩
 ·rw[List.getElem?_append_right hge] at hj;rw[List.getElem?_append_right (by omega),←hl] at hy
  by_cases e:j -cs.length=0
  ·rw[e] at hj hy;simp only[List.getElem?_cons_zero,Option.some.injEq] at hj hy;subst hj hy;exact⟨A,cap,rfl,h1,h2,mv hx⟩
  ·rw[List.getElem?_eq_none (by simp;omega)] at hj;cases hj
theorem OwnP.zZg {ok:Nat→Prop}{w w':World}{B:Nat}{v:Value}{xs:List (List Trm)}{g:Nat}(h:OwnP ok w B v xs)(hg:w.grownBy w' (some g))(hB:g<B)(ho:∀b,ok b→some b≠some g):OwnP ok w' B v xs:=by
 obtain⟨cs,h1,h2,h3⟩:=h;refine⟨cs,World.ownsRow.kept h1 hg ?_,h2,fun j c x hj hx=>?_⟩
 ·cases hq:v.ownBlock with
  |none=>exact .inl rfl
  |some b=>exact .inr fun e=>by have:=(World.ownsRow.lt h1 b hq).1;have:=sj e;omega
 ·obtain⟨A,cap,e1,e2,e3,e4⟩:=h3 j c x hj hx;exact⟨A,cap,e1,e2,e3,e4.map hg.size (fun _ _ h=>h) fun p hp hb=>World.cell?_of_block (hg.block _ hp fun e=>ho _ hb e)⟩
def zIz (ok:Nat→Prop)(w:World)(A:Option Addr)(xs:List (List Trm)):Prop:=∀(q:Nat) (x:List Trm),xs[q]?=some x→∃ad:Addr,A=some ad∧ad.block<w.heap.size∧∃A2 cap2,w.cell? (ad.add q)=some (.slice A2 x.length cap2)∧x.length≤cap2∧cap2≤9223372036854775807∧zCs ok w A2 x
theorem zIz.keep {ok:Nat→Prop}{w w':World}{A:Option Addr}{xs:List (List Trm)}(h:zIz ok w A xs)(hb:Below w.heap.size w w'):zIz ok w' A xs:=fun q x hq=>by
 obtain⟨ad,h1,h2,A2,cap2,h3,h4,h5,h6⟩:=h q x hq;exact⟨ad,h1,ll h2 hb.size,A2,cap2,by rw[hb.cell (by rw[zA3];exact h2)];exact h3,h4,h5,h6.keep hb⟩
theorem zIz.any {ok ok':Nat→Prop}{w:World}{A:Option Addr}{xs:List (List Trm)}(h:zIz ok w A xs)(hok:∀b,b<w.heap.size→ok b→ok' b):zIz ok' w A xs:=fun q x hq=>by
 obtain⟨ad,h1,h2,A2,cap2,h3,h4,h5,h6⟩:=h q x hq;exact⟨ad,h1,h2,A2,cap2,h3,h4,h5,h6.any hok⟩
theorem OwnP.form {ok:Nat→Prop}{w:World}{B:Nat}{v:Value}{xs:List (List Trm)}(h:OwnP ok w B v xs):∃A cap,v= .slice A xs.length cap∧xs.length≤cap∧cap≤9223372036854775807∧zIz ok w A xs:=by
 obtain⟨cs,ho,hl,hr⟩:=h;rcases ho.2 with⟨rfl,h0⟩|⟨g,cap,cur,rfl,hg,hb,hn,hc,hs,ht⟩
 ·obtain rfl:xs=[]:=List.length_eq_zero_iff.1 h0;exact⟨none,0,rfl,by simp,by omega,fun j p hj=>by simp at hj⟩
 ·have hb':Blk w g 29 cur:=hb;refine⟨_,cap,rfl,hn,by unfold maxLen at hc;omega,fun q x hq=>?_⟩;have hql:=(List.getElem?_eq_some_iff.1 hq).1;obtain⟨c,hcq⟩:∃c,cs[q]?=some c:=⟨_,gE (by omega)⟩
  obtain⟨A2,cap2,rfl,e2,e3,e4⟩:=hr q c x hcq hq;refine⟨⟨g,0,none⟩,rfl,hb'.lt,A2,cap2,?_,e2,e3,e4⟩;rw[show(⟨g,0,none⟩:Addr).add q=⟨g,q,none⟩ by unfold Addr.add;split<;>simp_all,hb'.cell];rw[←ht,List.getElem?_take] at hcq
  split at hcq
  ·rw[←Array.getElem?_toList];exact hcq
  ·cases hcq
end Go.Proofs.YtchllommcolijaaGreatDoor.El
