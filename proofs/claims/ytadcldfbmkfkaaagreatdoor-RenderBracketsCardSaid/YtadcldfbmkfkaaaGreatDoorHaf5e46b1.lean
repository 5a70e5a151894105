/- form, Valid and ValidItems of the reference. -/
import Derived.Test.YtadcldfbmkfkaaaGreatDoorH79cbaaca
namespace Go.Proofs.YtadcldfbmkfkaaaGreatDoor.At
open Go.RowKit
theorem zMw (ts:List Tre){n:Int}(h:n<0):zBd ts n=n:=by
 cases ts with
 |nil=>rw[zBd]
 |cons x r=>rw[zBd,if_neg (by omega)]
theorem zJm:∀(a b:List Tre) (n:Int),zBd (a++b) n=zBd b (zBd a n)
 |[],b,n=>by rw[List.nil_append,show zBd [] n=n by rw[zBd]]
 |x::a,b,n=>by
  rw[List.cons_append,zBd,zBd]
  split
  ·exact zJm a b _
  ·rw[zMw b (by omega)]
theorem zS0 {ks:List Tre}{k:Nat}{x:Tre}(h:ks[k]?=some x)(n:Int)(h0:0≤zBd (ks.take k) n):zBd (ks.take (k+1)) n=zEt x (zBd (ks.take k) n):=by
 rw[List.take_add_one,h,Option.toList,zJm,zBd,if_pos h0,zBd]
theorem zRi (ks:List Tre)(k:Nat)(n:Int)(h0:zBd (ks.take k) n<0):zBd ks n=zBd (ks.take k) n:=by
 conv=>lhs;rw[←List.take_append_drop k ks]
 rw[zJm,zMw _ h0]
mutual
theorem zSy:∀(t:Tre) (n:Int),0≤n→-1≤zEt t n
 | .mk k s c ks,n,h=>by rw[zEt];exact zJ1 ks (n -1) (by omega)
theorem zJ1:∀(ts:List Tre) (n:Int),-1≤n→-1≤zBd ts n
 |[],n,h=>by rw[zBd];exact h
 |t::ts,n,h=>by
  rw[zBd]
  split
  ·rename_i h0;exact zJ1 ts _ (zSy t n h0)
  ·exact h
end
theorem yBo (t:Tre)(n:Nat):(0≤zEt t n)↔zA7 t≤n:=by
 constructor
 ·intro h;have:=(zQ1 t n).2.1 h;omega
 ·have key:∀m,(∀(t:Tre) (n:Int),zA7 t<m→(zA7 t:Int)≤n→zEt t n=n -zA7 t):=by
   intro m
   induction m with
   |zero=>intro t n h;omega
   |succ m ih=>
    intro t n h hn;obtain⟨k,s,c,ks⟩:=t;rw[zEt,zA7] at*;have go:∀(ts:List Tre) (n:Int),zA3 ts<m→(zA3 ts:Int)≤n→zBd ts n=n -zA3 ts:=by
     intro ts
     induction ts with
     |nil=>intro n _ _;rw[zBd,zA3];simp
     |cons x r ihr=>
      intro n h1 h2;rw[zA3] at h1 h2;rw[zBd,zA3,if_pos (by omega),ih x n (by omega) (by omega),ihr _ (by omega) (by omega)];omega
    rw[go ks (n -1) (by omega) (by omega)];omega
  intro h;rw[key (zA7 t+1) t n (by omega) (by omega)];omega
set_option maxRecDepth 100000 in
set_option maxHeartbeats 800000 in
theorem zPx:∀(m:Nat) (t:Tre) (c:Array Value) (n:Int) (w:World),zA7 t<m→zBc w t c→0≤n→n≤1000000→Calls Tryz.prog 63 #[.agg c,.int .i64 n] w fun e w'=>e= .returned (.int .i64 (zEt t n))∧Below w.heap.size w w':=by
 intro m
 induction m with
 |zero=>intro t c n w h;omega
 |succ m ih=>
  intro t c n w hm hN hn0 hn1;have IH:=zh ih;clear ih;obtain⟨k,s,cols,ks⟩:=t;obtain⟨A2,cap2,rfl,hs,hl,hc,hk⟩:=hN.form;dsimp only[Tre.kind,Tre.text,Tre.cols,Tre.kids] at hs hl hc hk⊢;have HK:=zh hk;have HM:=zh hm;have HQ:=zh (show zEt (.mk k s cols ks) n=zBd ks (n -1) by rw[zEt]);clear hk hN hm;go_enter Tryz.func63,Tryz.ntmps63;go_wp2_with fail;have K0:=zh (Blk.new w 25 #[.int .i64 k,.string s,.int .i64 cols,.slice A2 ks.length cap2]);have H0:=zh (zA0 w (.cells #[.int .i64 k,.string s,.int .i64 cols,.slice A2 ks.length cap2] 25));have HK:=zh (HK.out.keep H0.out);generalize w.alloc (.cells #[.int .i64 k,.string s,.int .i64 cols,.slice A2 ks.length cap2] 25)=w1 at*
  go_loopw [1,5] (fun v i wr=>∃(j:Nat),j≤ks.length∧i= .int .i64 j∧v= .int .i64 (zBd (ks.take j) (n -1))∧Hid (Blk wr w.heap.size 25 #[.int .i64 k,.string s,.int .i64 cols,.slice A2 ks.length cap2])∧Hid (zB7 wr A2 ks)∧Hid (Below w.heap.size w wr)) (fun _ i _=>ks.length -(intOf i).toNat)
  case atStart=>exact⟨0,by omega,rfl,by rw[List.take_zero,zBd],K0,HK,H0⟩
  case round=>
   clear K0 HK H0;obtain⟨j,hj,rfl,rfl,K0,HK,H0⟩:=hrel;have c0:=K0.out.cell 3;have hlow:=zJ1 (ks.take j) (n -1) (by omega);have hup:=(zLt (ks.take j) (n -1)).1
   by_cases hlt:j<ks.length
   ·by_cases hz:0≤zBd (ks.take j) (n -1)
    ·obtain⟨x,hx⟩:∃x,ks[j]?=some x:=⟨_,gE hlt⟩
     obtain⟨ad,A3,cap3,rfl,hadl,hs3,hl3,hc3,hk3,hN3,d0,d1,d2,d3⟩:=HK.out.at_ hx;have HN3:=zh hN3;have HS:=zh (zS0 hx (n -1) hz);have HCU:Hid (zA7 x<m):=by
      have h1:=HM.out;have h2:=zE7 hx;show _<_;rw[zA7] at h1;omega
     clear hx hk3 hN3;generalize zBd (ks.take j) (n -1)=r at*;go_wp2_with fail;refine(IH.out x _ r wr HCU.out HN3.out hz (by omega)).mono ?_;rintro e w2 ⟨rfl,hb⟩;have K0:=kp hb K0;have HK:=zh (HK.out.keep hb);have H0:=jt H0 hb;clear hb c0 d0 d1 d2 d3;go_wp2_with fail;go_roundw
     case rel=>exact⟨j+1,by omega,by go_num,by rw[HS.out],K0,HK,H0⟩
     case measure=>simp[intOf];omega
    ·have HS:=zh (zRi ks j (n -1) (by omega));generalize zBd (ks.take j) (n -1)=r at*;go_wp2_with fail;go_ret;exact⟨zC1 (by rw[HQ.out,HS.out]),H0.out⟩
   ·obtain rfl:j=ks.length:=by omega
    have HT:=zh (show ks.take ks.length=ks from List.take_length);rw[HT.out] at*;generalize zBd ks (n -1)=r at*;go_wp2_with fail;go_ret;exact⟨zC1 (by rw[HQ.out]),H0.out⟩
theorem zOn:(⟨#[40,41,91,93,123,125,124,60,62,47,46]⟩:ByteArray).toList=zHx:=by rw[ByteArray.toList_eq];rfl
theorem tl (s:ByteArray):s.toList=s.data.toList:=ByteArray.toList_eq s
set_option maxRecDepth 100000 in
set_option maxHeartbeats 800000 in
theorem zTe (k:Int)(s:ByteArray)(cols:Int)(A:Option Addr)(n cap:Nat)(w:World)(hs:s.size≤9223372036854775807):Calls Tryz.prog 115 #[.agg #[.int .i64 k,.string s,.int .i64 cols,.slice A n cap]] w fun e w'=>e= .returned (.bool (zDe k s.data.toList))∧Below w.heap.size w w':=by
 have HL:=zh (show s.data.toList.length=s.size by simp)
 by_cases h2:k=2
 ·subst h2;have HQ:=zh (show zDe 2 s.data.toList=symB s.toList by unfold zDe;rw[if_pos rfl,tl]);go_enter Tryz.func115,Tryz.ntmps115;go_wp2_with fail;refine(zGr s _ hs).mono ?_;rintro e w1 ⟨rfl,hb⟩;have HB:=zh ((zA0 w _).trans (hb.mono (by simp)));clear hb;go_wp2_with fail;go_ret;exact⟨zA1 HQ.out.symm,HB.out⟩
 have q2:(k==2)=false:=beq_eq_false_iff_ne.2 h2
 by_cases h3:k=3
 ·subst h3;clear h2 q2;have HQ:=zh (show zDe 3 s.data.toList=numR s.data.toList by rw[zPu];rfl);go_enter Tryz.func115,Tryz.ntmps115;go_wp2_with fail;refine(zPp s _ hs).mono ?_;rintro e w1 ⟨rfl,rfl⟩;go_wp2_with fail;go_ret;exact⟨zA1 HQ.out.symm,zA0 _ _⟩
 have q3:(k==3)=false:=beq_eq_false_iff_ne.2 h3
 by_cases h4:k=4
 ·subst h4;clear h2 q2 h3 q3;have HQ:=zh (show zDe 4 s.data.toList=(decide (s.size≤200)&&zK2 s.toList) by rw[←HL.out,tl];rfl)
  by_cases h200:s.size≤200
  ·rw[decide_eq_true h200,Bool.true_and] at HQ;go_enter Tryz.func115,Tryz.ntmps115;go_wp2_with fail;refine(zVl s _ hs).mono ?_;rintro e w1 ⟨rfl,rfl⟩;go_wp2_with fail;go_ret;exact⟨zA1 HQ.out.symm,zA0 _ _⟩
  ·rw[decide_eq_false h200,Bool.false_and] at HQ;go_enter Tryz.func115,Tryz.ntmps115;go_wp2_with fail;go_ret;exact⟨zA1 HQ.out.symm,zA0 _ _⟩
 have q4:(k==4)=false:=beq_eq_false_iff_ne.2 h4
 by_cases h10:k=10
 ·subst h10;clear h2 q2 h3 q3 h4 q4;have HQ:=zh (show zDe 10 s.data.toList=inB (acS.map (·.toList)) s.toList by rw[zQk,tl];rfl);go_enter Tryz.func115,Tryz.ntmps115;go_wp2_with fail;have K0:=zh (Blk.new w 25 #[.int .i64 10,.string s,.int .i64 cols,.slice A n cap]);have H0:=zh (zA0 w (.cells #[.int .i64 10,.string s,.int .i64 cols,.slice A n cap] 25));generalize w.alloc (.cells #[.int .i64 10,.string s,.int .i64 cols,.slice A n cap] 25)=wz at*;have d1:=K0.out.drew.cell 1;have HN:Hid (acS.length=6):=rfl
  go_region_with (first
   |(go_at_call 162;refine(zHu _).mono ?_;rintro e w1 ⟨rfl,hS,hb⟩;have HS:=zh hS;have HB:=zh ((zA2 H0.out).trans (hb.mono H0.out.size));have e1:=(keep hb K0.out.drew).cell 1;clear hS hb)
   |(go_at_call 161;rw[←HN.out];refine(zO2 _ 6 acS s _ HS.out (by decide)).mono ?_;rintro e w2 ⟨rfl,rfl⟩))
  all_goals
   go_wp2_with fail;go_ret;exact⟨zA1 HQ.out.symm,HB.out⟩
 have q10:(k==10)=false:=beq_eq_false_iff_ne.2 h10
 by_cases h11:k=11
 ·subst h11;clear h2 q2 h3 q3 h4 q4 h10 q10;have HQ:=zh (show zDe 11 s.data.toList=zOh s.data.toList from rfl)
  by_cases hz:s.size=2
  ·obtain⟨a,b,rfl⟩:=two_bytes s hz;clear hz HL hs;rw[zQl] at HQ;have HA:=zh (fun w1=>zM3 ⟨#[40,41,91,93,123,125,124,60,62,47,46]⟩ a w1 (by decide));have HB:=zh (fun w1=>zM3 ⟨#[40,41,91,93,123,125,124,60,62,47,46]⟩ b w1 (by decide));rw[zOn] at HA HB;go_enter Tryz.func115,Tryz.ntmps115;go_wp2_with fail;refine(HA.out _).mono ?_;rintro e w1 ⟨rfl,rfl⟩;cases ha:hasB zHx a
   ·rw[ha] at HQ;clear ha;go_wp2_with fail;go_ret;exact⟨zA1 HQ.out.symm,zA0 _ _⟩
   ·rw[ha] at HQ;clear ha;go_wp2_with fail;refine(HB.out _).mono ?_;rintro e w1 ⟨rfl,rfl⟩;go_wp2_with fail;go_ret;exact⟨zA1 (by rw[HQ.out,Bool.true_and]),zA0 _ _⟩
  ·rw[zT2 hz] at HQ;have hq:((s.size:Int)==2)=false:=by rw[beq_eq_false_iff_ne];omega
   clear hz;go_enter Tryz.func115,Tryz.ntmps115;go_wp2_with fail;go_ret;exact⟨zA1 HQ.out.symm,zA0 _ _⟩
 have q11:(k==11)=false:=beq_eq_false_iff_ne.2 h11;have HQ:=zh (show zDe k s.data.toList=s.toList.isEmpty by unfold zDe;rw[if_neg h2,if_neg h3,if_neg h4,if_neg h10,if_neg h11,tl]);clear h2 h3 h4 h10 h11;go_enter Tryz.func115,Tryz.ntmps115;go_wp2_with fail;go_ret;exact⟨zA1 HQ.out.symm,zA0 _ _⟩
set_option maxRecDepth 100000 in
set_option maxHeartbeats 800000 in
theorem zVb (k:Int)(s:ByteArray)(c:Int)(A:Option Addr)(n cap:Nat)(w:World)(hn:n≤9223372036854775807):Calls Tryz.prog 116 #[.agg #[.int .i64 k,.string s,.int .i64 c,.slice A n cap]] w fun e w'=>e= .returned (.bool (zBl k c n))∧Below w.heap.size w w':=by
 by_cases h12:k=12
 ·subst h12;have HQ:=zh (show zBl 12 c n=(decide (1≤c∧c≤16)&&(decide (1≤n∧n≤256)&&decide ((n:Int)%c=0))) from rfl)
  by_cases c1:1≤c
  ·by_cases c2:c≤16
   ·rw[decide_eq_true ⟨c1,c2⟩,Bool.true_and] at HQ
    by_cases n1:1≤n
    ·by_cases n2:n≤256
     ·rw[decide_eq_true ⟨n1,n2⟩,Bool.true_and] at HQ;go_enter Tryz.func116,Tryz.ntmps116;go_wp2_with fail;go_ret;exact⟨zA1 (by rw[HQ.out];first|rfl|(simp;done)),zA0 _ _⟩
     ·rw[decide_eq_false (p:=1≤n∧n≤256) (by omega),Bool.false_and] at HQ;go_enter Tryz.func116,Tryz.ntmps116;go_wp2_with fail;go_ret;exact⟨zA1 (by rw[HQ.out]),zA0 _ _⟩
    ·rw[decide_eq_false (p:=1≤n∧n≤256) (by omega),Bool.false_and] at HQ;go_enter Tryz.func116,Tryz.ntmps116;go_wp2_with fail;go_ret;exact⟨zA1 (by rw[HQ.out]),zA0 _ _⟩
   ·rw[decide_eq_false (p:=1≤c∧c≤16) (by omega),Bool.false_and] at HQ;go_enter Tryz.func116,Tryz.ntmps116;go_wp2_with fail;go_ret;exact⟨zA1 (by rw[HQ.out]),zA0 _ _⟩
  ·rw[decide_eq_false (p:=1≤c∧c≤16) (by omega),Bool.false_and] at HQ;go_enter Tryz.func116,Tryz.ntmps116;go_wp2_with fail;go_ret;exact⟨zA1 (by rw[HQ.out]),zA0 _ _⟩
 have q12:(k==12)=false:=beq_eq_false_iff_ne.2 h12
 by_cases hc:c=0
 ·subst hc;have HQ:=zh (show zBl k 0 n=(if k=1 then decide (n≤200) else if k=2∨k=3∨k=4 then decide (n=0) else if k=5∨k=6∨k=7∨k=8 then decide (n=2) else if k=9 then decide (n=3) else if k=10∨k=11 then decide (n=1) else false) by unfold zBl;rw[if_neg h12,decide_eq_true rfl,Bool.true_and])
  by_cases h1:k=1
  ·subst h1;go_enter Tryz.func116,Tryz.ntmps116;go_wp2_with fail;go_ret;exact⟨zA1 (by rw[HQ.out,Bool.eq_iff_iff];simp;try omega),zA0 _ _⟩
  have q1:(k==1)=false:=beq_eq_false_iff_ne.2 h1
  by_cases h2:k=2
  ·subst h2;go_enter Tryz.func116,Tryz.ntmps116;go_wp2_with fail;go_ret;exact⟨zA1 (by rw[HQ.out,Bool.eq_iff_iff];simp;try omega),zA0 _ _⟩
  have q2:(k==2)=false:=beq_eq_false_iff_ne.2 h2
  by_cases h3:k=3
  ·subst h3;go_enter Tryz.func116,Tryz.ntmps116;go_wp2_with fail;go_ret;exact⟨zA1 (by rw[HQ.out,Bool.eq_iff_iff];simp;try omega),zA0 _ _⟩
  have q3:(k==3)=false:=beq_eq_false_iff_ne.2 h3
  by_cases h4:k=4
  ·subst h4;go_enter Tryz.func116,Tryz.ntmps116;go_wp2_with fail;go_ret;exact⟨zA1 (by rw[HQ.out,Bool.eq_iff_iff];simp;try omega),zA0 _ _⟩
  have q4:(k==4)=false:=beq_eq_false_iff_ne.2 h4
  by_cases h5:k=5
  ·subst h5;go_enter Tryz.func116,Tryz.ntmps116;go_wp2_with fail;go_ret;exact⟨zA1 (by rw[HQ.out,Bool.eq_iff_iff];simp;try omega),zA0 _ _⟩
  have q5:(k==5)=false:=beq_eq_false_iff_ne.2 h5
  by_cases h6:k=6
  ·subst h6;go_enter Tryz.func116,Tryz.ntmps116;go_wp2_with fail;go_ret;exact⟨zA1 (by rw[HQ.out,Bool.eq_iff_iff];simp;try omega),zA0 _ _⟩
  have q6:(k==6)=false:=beq_eq_false_iff_ne.2 h6
  by_cases h7:k=7
  ·subst h7;go_enter Tryz.func116,Tryz.ntmps116;go_wp2_with fail;go_ret;exact⟨zA1 (by rw[HQ.out,Bool.eq_iff_iff];simp;try omega),zA0 _ _⟩
  have q7:(k==7)=false:=beq_eq_false_iff_ne.2 h7
  by_cases h8:k=8
  ·subst h8;go_enter Tryz.func116,Tryz.ntmps116;go_wp2_with fail;go_ret;exact⟨zA1 (by rw[HQ.out,Bool.eq_iff_iff];simp;try omega),zA0 _ _⟩
  have q8:(k==8)=false:=beq_eq_false_iff_ne.2 h8
  by_cases h9:k=9
  ·subst h9;go_enter Tryz.func116,Tryz.ntmps116;go_wp2_with fail;go_ret;exact⟨zA1 (by rw[HQ.out,Bool.eq_iff_iff];simp;try omega),zA0 _ _⟩
  have q9:(k==9)=false:=beq_eq_false_iff_ne.2 h9
  by_cases h10:k=10
  ·subst h10;go_enter Tryz.func116,Tryz.ntmps116;go_wp2_with fail;go_ret;exact⟨zA1 (by rw[HQ.out,Bool.eq_iff_iff];simp;try omega),zA0 _ _⟩
  have q10:(k==10)=false:=beq_eq_false_iff_ne.2 h10
  by_cases h11:k=11
  ·subst h11;go_enter Tryz.func116,Tryz.ntmps116;go_wp2_with fail;go_ret;exact⟨zA1 (by rw[HQ.out,Bool.eq_iff_iff];simp;try omega),zA0 _ _⟩
  have q11:(k==11)=false:=beq_eq_false_iff_ne.2 h11;rw[if_neg h1,if_neg (by omega),if_neg (by omega),if_neg h9,if_neg (by omega)] at HQ;clear h1 h2 h3 h4 h5 h6 h7 h8 h9 h10 h11 h12;go_enter Tryz.func116,Tryz.ntmps116;go_wp2_with fail;go_ret;exact⟨zA1 (by rw[HQ.out]),zA0 _ _⟩
 ·have HQ:=zh (show zBl k c n=false by unfold zBl;rw[if_neg h12,decide_eq_false hc,Bool.false_and]);have qc:(c==0)=false:=beq_eq_false_iff_ne.2 hc;have qc2:(c !=0)=true:=by rw[bne,qc];rfl
  clear hc h12;go_enter Tryz.func116,Tryz.ntmps116;go_wp2_with fail;go_ret;exact⟨zA1 (by rw[HQ.out]),zA0 _ _⟩
abbrev nodC (k:Int)(s:ByteArray)(c:Int)(A:Option Addr)(n cap:Nat):Array Value:= #[.int .i64 k,.string s,.int .i64 c,.slice A n cap]
theorem zOv {ks:List Tre}{k:Nat}{x:Tre}(h:ks[k]?=some x):zA3 (ks.take (k+1))=zA3 (ks.take k)+zA7 x:=by
 rw[List.take_add_one,h,Option.toList];generalize ks.take k=l
 induction l with
 |nil=>simp[zA3]
 |cons a r ih=>rw[List.cons_append,zA3,zA3,ih];omega
theorem zP6 (ks:List Tre)(k:Nat):zA3 (ks.take k)≤zA3 ks:=by
 induction ks generalizing k with
 |nil=>simp[zA3]
 |cons a r ih=>
  cases k with
  |zero=>simp[zA3]
  |succ k=>rw[List.take_succ_cons,zA3,zA3];have:=ih k;omega
theorem zOd {ks:List Tre}{k:Nat}{x:Tre}(h:ks[k]?=some x):zDc (ks.take (k+1))=max (zDc (ks.take k)) (zDr x):=by
 rw[List.take_add_one,h,Option.toList];generalize ks.take k=l
 induction l with
 |nil=>simp[zDc]
 |cons a r ih=>rw[List.cons_append,zDc,zDc,ih];omega
mutual
theorem zGa:∀t:Tre,zDr t≤zA7 t
 | .mk k s c ks=>by rw[zDr,zA7];have:=zHy ks;omega
theorem zHy:∀ts:List Tre,zDc ts≤zA3 ts
 |[]=>by rw[zDc,zA3];omega
 |t::ts=>by rw[zDc,zA3];have:=zGa t;have:=zHy ts;omega
end
theorem zSd {ks:List Tre}{k:Nat}{x:Tre}{q:Int}(h:ks[k]?=some x):zC0 q (ks.take (k+1))=(zC0 q (ks.take k)&&(!zBi q x.kind&&zAt x)):=by
 rw[List.take_add_one,h,Option.toList];generalize ks.take k=l
 induction l with
 |nil=>simp[zC0]
 |cons a r ih=>rw[List.cons_append,zC0,zC0,ih];simp[Bool.and_assoc]
theorem zJa {ks:List Tre}{q:Int}{k:Nat}(h:zC0 q (ks.take k)=false):zC0 q ks=false:=by
 induction ks generalizing k with
 |nil=>rw[List.take_nil] at h;rw[zC0] at h;cases h
 |cons a r ih=>
  cases k with
  |zero=>rw[List.take_zero,zC0] at h;cases h
  |succ k=>
   rw[List.take_succ_cons,zC0] at h;rw[zC0];cases ha:(!zBi q a.kind)
   ·rfl
   ·cases hb:zAt a
    ·rfl
    ·rw[ha,hb,Bool.true_and,Bool.true_and] at h;rw[ih h];rfl
set_option maxRecDepth 100000 in
set_option maxHeartbeats 800000 in
theorem zRp:∀(m:Nat) (t:Tre) (c:Array Value) (w:World),zA7 t<m→m≤1000000→zBc w t c→Calls Tryz.prog 66 #[.agg c] w fun e w'=>e= .returned (.int .i64 (zA7 t:Nat))∧Below w.heap.size w w':=by
 intro m
 induction m with
 |zero=>intro t c w h;omega
 |succ m ih=>
  intro t c w hm hm2 hN;have IH:=zh (fun t c w h hN=>ih t c w h (by omega) hN);clear ih;obtain⟨k,s,cols,ks⟩:=t;obtain⟨A2,cap2,rfl,hs,hl,hc,hk⟩:=hN.form;dsimp only[Tre.kind,Tre.text,Tre.cols,Tre.kids] at hs hl hc hk⊢;have HK:=zh hk;have HQ:=zh (show zA7 (.mk k s cols ks)=zA3 ks+1 by rw[zA7]);rw[HQ.out] at hm;have HM:=zh hm;have hle:=zP6 ks;have HLE:=zh hle;clear hk hN hle;go_enter Tryz.func66,Tryz.ntmps66;go_wp2_with fail;have K0:=zh (Blk.new w 25 (nodC k s cols A2 ks.length cap2));have H0:=zh (zA0 w (.cells (nodC k s cols A2 ks.length cap2) 25));have HK:=zh (HK.out.keep H0.out);dsimp only[nodC] at K0 H0 HK;generalize w.alloc (.cells #[.int .i64 k,.string s,.int .i64 cols,.slice A2 ks.length cap2] 25)=w1 at*
  go_loopw [3,4] (fun v i wr=>∃(j x:Nat),j≤ks.length∧i= .int .i64 j∧v= .int .i64 x∧x≤1000000∧Hid (x=zA3 (ks.take j)+1)∧Hid (Blk wr w.heap.size 25 (nodC k s cols A2 ks.length cap2))∧Hid (zB7 wr A2 ks)∧Hid (Below w.heap.size w wr)) (fun _ i _=>ks.length -(intOf i).toNat)
  case atStart=>exact⟨0,1,by omega,rfl,rfl,by omega,rfl,K0,HK,H0⟩
  case round=>
   clear K0 HK H0;obtain⟨j,x,hj,rfl,rfl,hx0,HX,K0,HK,H0⟩:=hrel;have c0:=K0.out.cell 3;dsimp only[nodC] at c0
   by_cases hlt:j<ks.length
   ·obtain⟨y,hy⟩:∃y,ks[j]?=some y:=⟨_,gE hlt⟩
    obtain⟨ad,A3,cap3,rfl,hadl,hs3,hl3,hc3,hk3,hN3,d0,d1,d2,d3⟩:=HK.out.at_ hy;have HN3:=zh hN3;have hcy:=zE7 hy;have hsn:=zOv hy;have hle:=HLE.out (j+1);have HS:=zh (show x+zA7 y=zA3 (ks.take (j+1))+1 by rw[hsn,HX.out];omega);have hb1:x+zA7 y≤1000000:=by rw[HS.out];omega
    have HCU:Hid (zA7 y<m):=by show _<_;omega
    clear hy hk3 hN3 hsn hle hcy;generalize hcy:zA7 y=u at*;have HCY:=zh hcy;clear hcy;go_wp2_with fail;refine(IH.out y _ wr (by rw[HCY.out];exact HCU.out) HN3.out).mono ?_;rw[HCY.out];rintro e w2 ⟨rfl,hb⟩;have K0:=kp hb K0;have HK:=zh (HK.out.keep hb);have H0:=jt H0 hb;clear hb c0 d0 d1 d2 d3;go_wp2_with fail;go_roundw
    case rel=>exact⟨j+1,x+u,by omega,by go_num,by go_num,by omega,HS,K0,HK,H0⟩
    case measure=>simp[intOf];omega
   ·obtain rfl:j=ks.length:=by omega
    rw[List.take_length] at HX;go_wp2_with fail;go_ret;exact⟨zC1 (by rw[HQ.out,←HX.out]),H0.out⟩
set_option maxRecDepth 100000 in
set_option maxHeartbeats 800000 in
theorem zS7:∀(m:Nat) (t:Tre) (c:Array Value) (w:World),zA7 t<m→m≤1000000→zBc w t c→Calls Tryz.prog 67 #[.agg c] w fun e w'=>e= .returned (.int .i64 (zDr t:Nat))∧Below w.heap.size w w':=by
 intro m
 induction m with
 |zero=>intro t c w h;omega
 |succ m ih=>
  intro t c w hm hm2 hN;have IH:=zh (fun t c w h hN=>ih t c w h (by omega) hN);clear ih;obtain⟨k,s,cols,ks⟩:=t;obtain⟨A2,cap2,rfl,hs,hl,hc,hk⟩:=hN.form;dsimp only[Tre.kind,Tre.text,Tre.cols,Tre.kids] at hs hl hc hk⊢;have HK:=zh hk;have HQ:=zh (show zDr (.mk k s cols ks)=zDc ks+1 by rw[zDr]);rw[zA7] at hm;have HM:=zh hm;clear hk hN;go_enter Tryz.func67,Tryz.ntmps67;go_wp2_with fail;have K0:=zh (Blk.new w 25 (nodC k s cols A2 ks.length cap2));have H0:=zh (zA0 w (.cells (nodC k s cols A2 ks.length cap2) 25));have HK:=zh (HK.out.keep H0.out);dsimp only[nodC] at K0 H0 HK;generalize w.alloc (.cells #[.int .i64 k,.string s,.int .i64 cols,.slice A2 ks.length cap2] 25)=w1 at*
  go_loopw [3,4] (fun v i wr=>∃(j x:Nat),j≤ks.length∧i= .int .i64 j∧v= .int .i64 x∧x≤1000000∧Hid (x=zDc (ks.take j))∧Hid (Blk wr w.heap.size 25 (nodC k s cols A2 ks.length cap2))∧Hid (zB7 wr A2 ks)∧Hid (Below w.heap.size w wr)) (fun _ i _=>ks.length -(intOf i).toNat)
  case atStart=>exact⟨0,0,by omega,rfl,rfl,by omega,rfl,K0,HK,H0⟩
  case round=>
   clear K0 HK H0;obtain⟨j,x,hj,rfl,rfl,hx0,HX,K0,HK,H0⟩:=hrel;have c0:=K0.out.cell 3;dsimp only[nodC] at c0
   by_cases hlt:j<ks.length
   ·obtain⟨y,hy⟩:∃y,ks[j]?=some y:=⟨_,gE hlt⟩
    obtain⟨ad,A3,cap3,rfl,hadl,hs3,hl3,hc3,hk3,hN3,d0,d1,d2,d3⟩:=HK.out.at_ hy;have HN3:=zh hN3;have hcy:=zE7 hy;have hsn:=zOd hy;have hdc:=zGa y;have HS:=zh (show max x (zDr y)=zDc (ks.take (j+1)) by rw[hsn,HX.out]);have hb1:zDr y≤1000000:=by omega
    have HCU:Hid (zA7 y<m):=by show _<_;omega
    clear hy hk3 hN3 hsn hcy hdc;generalize hcy:zDr y=u at*;have HCY:=zh hcy;clear hcy;go_wp2_with fail;refine(IH.out y _ wr HCU.out HN3.out).mono ?_;rw[HCY.out];rintro e w2 ⟨rfl,hb⟩;have K0:=kp hb K0;have HK:=zh (HK.out.keep hb);have H0:=jt H0 hb;clear hb c0 d0 d1 d2 d3;have hmx:max (x:Int) (u:Int)=((max x u:Nat):Int):=by omega
    have hmx2:(if(x:Int)<u then(u:Int) else x)=((max x u:Nat):Int):=by split<;>omega
    go_wp2_with fail
    all_goals
     go_roundw
     case rel=>exact⟨j+1,max x u,by omega,by go_num,(by first|rfl|(congr 1;omega)),by omega,HS,K0,HK,H0⟩
     case measure=>simp[intOf];omega
   ·obtain rfl:j=ks.length:=by omega
    rw[List.take_length] at HX;go_wp2_with fail;go_ret;exact⟨zC1 (by rw[HQ.out,←HX.out];rfl),H0.out⟩
structure zBq (w:World)(p:Addr)(t:Tre)(A:Option Addr)(cap:Nat):Prop where
 lt:p.block<w.heap.size
 kind:w.cell? p=some (.int .i64 t.kind)
 text:w.cell? ⟨p.block,p.off+1,none⟩=some (.string t.text)
 cols:w.cell? ⟨p.block,p.off+2,none⟩=some (.int .i64 t.cols)
 kids:w.cell? ⟨p.block,p.off+3,none⟩=some (.slice A t.kids.length cap)
 size:t.text.size≤9223372036854775807
 len:t.kids.length≤cap
 capl:cap≤9223372036854775807
 down:zB7 w A t.kids
theorem zBq.keep {w w':World}{p:Addr}{t:Tre}{A:Option Addr}{cap:Nat}(h:zBq w p t A cap)(hb:Below w.heap.size w w'):zBq w' p t A cap:=
 ⟨ll h.lt hb.size,(hb.cell h.lt).trans h.kind,(hb.cell (p:=⟨p.block,p.off+1,none⟩) h.lt).trans h.text,(hb.cell (p:=⟨p.block,p.off+2,none⟩) h.lt).trans h.cols,(hb.cell (p:=⟨p.block,p.off+3,none⟩) h.lt).trans h.kids,h.size,h.len,h.capl,h.down.keep hb⟩
theorem zBq.drew {w:World}{p:Addr}{t:Tre}{A:Option Addr}{cap:Nat}(h:zBq w p t A cap):zBq w.drew p t A cap:=h.keep (zA2 (Below.refl _ _))
theorem zB7.ptr {w:World}{A:Option Addr}{ts:List Tre}(h:zB7 w A ts){i:Nat}{t:Tre}(hi:ts[i]?=some t):∃ad A2 cap2,A=some ad∧zBq w (ad.add (i*4)) t A2 cap2:=by
 obtain⟨ad,A2,cap2,h1,h2,h3,h4,h5,h6,h7,d0,d1,d2,d3⟩:=h.at_ hi;exact⟨ad,A2,cap2,h1,⟨by rw[zD7];exact h2,d0,d1,d2,d3,h3,h4,h5,h6⟩⟩
theorem zIc (k:Int)(s:ByteArray)(c:Int)(ks:List Tre):(Tre.mk k s c ks).kind=k:=rfl
theorem zKc (k j:Int):((j==1)==(k==1))=zBi k j:=by
 unfold zBi;rw[show(j==1)=decide (j=1) from rfl,show(k==1)=decide (k=1) from rfl];cases decide (j=1)<;>cases decide (k=1)<;>rfl
set_option maxRecDepth 100000 in
set_option maxHeartbeats 1600000 in
theorem zTj:∀(m:Nat) (t:Tre) (c:Array Value) (w:World),zA7 t<m→zBc w t c→Calls Tryz.prog 65 #[.agg c] w fun e w'=>e= .returned (.bool (zAt t))∧Below w.heap.size w w':=by
 intro m
 induction m with
 |zero=>intro t c w h;omega
 |succ m ih=>
  intro t c w hm hN;have IH:=zh ih;clear ih;obtain⟨k,s,cols,ks⟩:=t;obtain⟨A2,cap2,rfl,hs,hl,hc,hk⟩:=hN.form;dsimp only[Tre.kind,Tre.text,Tre.cols,Tre.kids] at hs hl hc hk⊢;have HK:=zh hk;have HM:=zh hm;have HQ0:=zh (show zAt (.mk k s cols ks)=(zDe k s.data.toList&&zBl k cols ks.length&&zC0 k ks) by rw[zAt,ownT]);clear hk hN hm;go_enter Tryz.func65,Tryz.ntmps65;go_wp2_with fail;have K0:=zh (Blk.new w 25 (nodC k s cols A2 ks.length cap2));have H0:=zh (zA0 w (.cells (nodC k s cols A2 ks.length cap2) 25));have HK:=zh (HK.out.keep H0.out);dsimp only[nodC] at K0 H0 HK;generalize w.alloc (.cells #[.int .i64 k,.string s,.int .i64 cols,.slice A2 ks.length cap2] 25)=w1 at*;refine(zTe k s cols A2 ks.length cap2 _ hs).mono ?_;rintro e w2 ⟨rfl,hb⟩;have K0:=kp hb K0;have HK:=zh (HK.out.keep hb);have H0:=jt H0 hb;clear hb;cases ht:zDe k s.data.toList
  ·have HQ:=zh (show zAt (.mk k s cols ks)=false by rw[HQ0.out,ht];rfl);clear ht;go_wp2_with fail;go_ret;exact⟨zA1 HQ.out.symm,H0.out⟩
  rw[ht,Bool.true_and] at HQ0;clear ht;have c0:=K0.out.cell 0;have c1:=K0.out.cell 1;have c2:=K0.out.cell 2;have c3:=K0.out.cell 3;go_wp2_with fail;refine(zVb k s cols A2 ks.length cap2 _ (by omega)).mono ?_;rintro e w3 ⟨rfl,hb⟩;have K0:=kp hb K0;have HK:=zh (HK.out.keep hb);have H0:=jt H0 hb;clear hb c0 c1 c2 c3;cases ht:zBl k cols ks.length
  ·have HQ:=zh (show zAt (.mk k s cols ks)=false by rw[HQ0.out,ht];rfl);clear ht;go_wp2_with fail;go_ret;exact⟨zA1 HQ.out.symm,H0.out⟩
  rw[ht,Bool.true_and] at HQ0;clear ht;go_wp2_with fail
  go_loopw [3] (fun i wr=>∃(j:Nat),j≤ks.length∧i= .int .i64 j∧Hid (zC0 k (ks.take j)=true)∧Hid (Blk wr w.heap.size 25 (nodC k s cols A2 ks.length cap2))∧Hid (zB7 wr A2 ks)∧Hid (Below w.heap.size w wr)) (fun i _=>ks.length -(intOf i).toNat)
  case atStart=>exact⟨0,by omega,rfl,zh (show zC0 k (ks.take 0)=true by rw[List.take_zero,zC0]),K0,HK,H0⟩
  case round=>
   clear K0 HK H0;obtain⟨j,hj,rfl,HX,K0,HK,H0⟩:=hrel;have c0:=K0.out.cell 3;dsimp only[nodC] at c0
   by_cases hlt:j<ks.length
   ·obtain⟨y,hy⟩:∃y,ks[j]?=some y:=⟨_,gE hlt⟩
    obtain⟨ad,A3,cap3,rfl,hP⟩:=HK.out.ptr hy;have HP:=zh hP;have hcy:=zE7 hy;have HSN:=zh (zSd (q:=k) hy);have HCU:Hid (zA7 y<m):=by have h1:=HM.out;show _<_;rw[zA7] at h1;omega
    obtain⟨ky,sy,cy,ksy⟩:=y;clear hy hP hcy;have HBP:=zh (zKc k ky);go_upto_region 6 with(fail)
    clear c0;cases hbp:((ky==1)==(k==1))
    ·rw[hbp] at HBP;rw[zIc ky sy cy ksy,←HBP.out,HX.out,Bool.true_and,Bool.not_false,Bool.true_and] at HSN;cases hfv:zAt (.mk ky sy cy ksy)
     ·have HFV:=zh hfv;have HQ:=zh (show zAt (.mk k s cols ks)=false by rw[HQ0.out];exact zJa (HSN.out.trans hfv));clear hfv;refine zAa (by kernel_rfl) _ [.pointer (some ⟨w.heap.size,3,none⟩),.slice (some ad) ks.length cap2,.int .i64 j,.pointer (some (ad.add (j*4))),.pointer (some (ad.add (j*4))),.int .i64 ky,.bool (ky==1),.pointer (some ⟨w.heap.size,0,none⟩),.int .i64 k,.bool (k==1),.bool false,.bool false,.pointer (some ⟨w.heap.size,3,none⟩),.slice (some ad) ks.length cap2,.int .i64 j,.pointer (some (ad.add (j*4))),.agg (nodC ky sy cy A3 ksy.length cap3),.bool false,.bool true,.bool true] [true,true,true,true,true,true,true,true,true,true,true,true,true,true,true,true,true,true,true,true] (fun wq=>Hid (Blk wq w.heap.size 25 (nodC k s cols (some ad) ks.length cap2))∧Hid (zBq wq (ad.add (j*4)) (.mk ky sy cy ksy) A3 cap3)∧Hid (zB7 wq (some ad) ks)∧Hid (Below w.heap.size w wq)) (by kernel_rfl) (by simp[fin,zAm,zAb,List.range,List.range.loop,Act.put];rfl) (by kernel_rfl) ⟨K0.out.drew,HP.out.drew,HK.out.keep (zA2 (Below.refl _ _)),zA2 H0.out⟩ ?_ ?_
      ·refine⟨fun wq hI=>?_,fun wq hI=>?_,fun wq hI=>?_,fun wq hI=>?_,fun wq hI=>?_,fun wq hI=>?_,fun wq hI=>?_,fun wq hI=>?_,fun wq hI=>?_,fun wq hI=>?_,fun wq hI=>?_,fun wq hI=>?_,fun wq hI=>?_,fun wq hI=>?_,fun wq hI=>?_,fun wq hI=>?_,fun wq hI=>?_,fun wq hI=>?_,fun wq hI=>?_,fun wq hI=>?_,trivial⟩
       ·exact jv (.pointer (some ⟨w.heap.size,3,none⟩)) wq (by simp[execOp,Act.eval,go_sem]) ⟨rfl,hI⟩
       ·have cJ:=hI.1.out.cell 3;exact jv (.slice (some ad) ks.length cap2) wq (by simp[execOp,Act.eval,go_sem,cJ]) ⟨rfl,hI⟩
       ·exact jv (.int .i64 j) wq (by kernel_rfl) ⟨rfl,hI⟩
       ·skip
        exact jv (.pointer (some (ad.add (j*4)))) wq (by simp[execOp,Act.eval,go_sem,hlt];try omega) ⟨rfl,hI⟩
       ·exact jv (.pointer (some (ad.add (j*4)))) wq (by simp[execOp,Act.eval,go_sem]) ⟨rfl,hI⟩
       ·have cJ:wq.cell? (ad.add (j*4))=some (.int .i64 ky):=hI.2.1.out.kind;exact jv (.int .i64 ky) wq (by simp[execOp,Act.eval,go_sem,cJ]) ⟨rfl,hI⟩
       ·exact jv (.bool (ky==1)) wq (by simp[execOp,Act.eval,go_sem]) ⟨rfl,hI⟩
       ·exact jv (.pointer (some ⟨w.heap.size,0,none⟩)) wq (by simp[execOp,Act.eval,go_sem]) ⟨rfl,hI⟩
       ·have cJ:=hI.1.out.cell 0;exact jv (.int .i64 k) wq (by simp[execOp,Act.eval,go_sem,cJ]) ⟨rfl,hI⟩
       ·exact jv (.bool (k==1)) wq (by simp[execOp,Act.eval,go_sem]) ⟨rfl,hI⟩
       ·skip
        exact jv (.bool false) wq (by simp[execOp,Act.eval,go_sem,hbp]) ⟨rfl,hI⟩
       ·exact jv (.bool false) wq (by kernel_rfl) ⟨rfl,hI⟩
       ·exact jv (.pointer (some ⟨w.heap.size,3,none⟩)) wq (by simp[execOp,Act.eval,go_sem]) ⟨rfl,hI⟩
       ·have cJ:=hI.1.out.cell 3;exact jv (.slice (some ad) ks.length cap2) wq (by simp[execOp,Act.eval,go_sem,cJ]) ⟨rfl,hI⟩
       ·exact jv (.int .i64 j) wq (by kernel_rfl) ⟨rfl,hI⟩
       ·skip
        exact jv (.pointer (some (ad.add (j*4)))) wq (by simp[execOp,Act.eval,go_sem,hlt];try omega) ⟨rfl,hI⟩
       ·have hP:=hI.2.1.out;have c0:=hP.kind;have c1:=hP.text;have c2:=hP.cols;have c3:=hP.kids;dsimp only[Tre.kind,Tre.text,Tre.cols,Tre.kids] at c0 c1 c2 c3;clear hP;exact jv (.agg (nodC ky sy cy A3 ksy.length cap3)) wq (by simp[execOp,Act.eval,go_sem,c0,c1,c2,c3]) ⟨rfl,hI⟩
       ·refine jc 65 (#[.agg (nodC ky sy cy A3 ksy.length cap3)]) wq (by kernel_rfl) ((IH.out (.mk ky sy cy ksy) _ wq HCU.out (zBc.of hI.2.1.out.size hI.2.1.out.len hI.2.1.out.capl hI.2.1.out.down)).mono ?_);rintro e wa ⟨rfl,hb5⟩;exact⟨_,rfl,by rw[HFV.out],keep hb5 hI.1.out,hI.2.1.out.keep hb5,hI.2.2.1.out.keep hb5,hI.2.2.2.out.trans (hb5.mono hI.2.2.2.out.size)⟩
       ·exact jv (.bool true) wq (by simp[execOp,Act.eval,go_sem]) ⟨rfl,hI⟩
       ·exact jv (.bool true) wq (by kernel_rfl) ⟨rfl,hI⟩
      ·intro wq hI;have HB:=hI.2.2.2;clear hI;go_wp2_with fail;go_ret;exact⟨zA1 HQ.out.symm,HB.out⟩
     ·have HFV:=zh hfv;have HS:=zh (HSN.out.trans hfv);clear hfv;refine zAa (by kernel_rfl) _ [.pointer (some ⟨w.heap.size,3,none⟩),.slice (some ad) ks.length cap2,.int .i64 j,.pointer (some (ad.add (j*4))),.pointer (some (ad.add (j*4))),.int .i64 ky,.bool (ky==1),.pointer (some ⟨w.heap.size,0,none⟩),.int .i64 k,.bool (k==1),.bool false,.bool false,.pointer (some ⟨w.heap.size,3,none⟩),.slice (some ad) ks.length cap2,.int .i64 j,.pointer (some (ad.add (j*4))),.agg (nodC ky sy cy A3 ksy.length cap3),.bool true,.bool false,.bool false] [true,true,true,true,true,true,true,true,true,true,true,true,true,true,true,true,true,true,true,true] (fun wq=>Hid (Blk wq w.heap.size 25 (nodC k s cols (some ad) ks.length cap2))∧Hid (zBq wq (ad.add (j*4)) (.mk ky sy cy ksy) A3 cap3)∧Hid (zB7 wq (some ad) ks)∧Hid (Below w.heap.size w wq)) (by kernel_rfl) (by simp[fin,zAm,zAb,List.range,List.range.loop,Act.put];rfl) (by kernel_rfl) ⟨K0.out.drew,HP.out.drew,HK.out.keep (zA2 (Below.refl _ _)),zA2 H0.out⟩ ?_ ?_
      ·refine⟨fun wq hI=>?_,fun wq hI=>?_,fun wq hI=>?_,fun wq hI=>?_,fun wq hI=>?_,fun wq hI=>?_,fun wq hI=>?_,fun wq hI=>?_,fun wq hI=>?_,fun wq hI=>?_,fun wq hI=>?_,fun wq hI=>?_,fun wq hI=>?_,fun wq hI=>?_,fun wq hI=>?_,fun wq hI=>?_,fun wq hI=>?_,fun wq hI=>?_,fun wq hI=>?_,fun wq hI=>?_,trivial⟩
       ·exact jv (.pointer (some ⟨w.heap.size,3,none⟩)) wq (by simp[execOp,Act.eval,go_sem]) ⟨rfl,hI⟩
       ·have cJ:=hI.1.out.cell 3;exact jv (.slice (some ad) ks.length cap2) wq (by simp[execOp,Act.eval,go_sem,cJ]) ⟨rfl,hI⟩
       ·exact jv (.int .i64 j) wq (by kernel_rfl) ⟨rfl,hI⟩
       ·skip
        exact jv (.pointer (some (ad.add (j*4)))) wq (by simp[execOp,Act.eval,go_sem,hlt];try omega) ⟨rfl,hI⟩
       ·exact jv (.pointer (some (ad.add (j*4)))) wq (by simp[execOp,Act.eval,go_sem]) ⟨rfl,hI⟩
       ·have cJ:wq.cell? (ad.add (j*4))=some (.int .i64 ky):=hI.2.1.out.kind;exact jv (.int .i64 ky) wq (by simp[execOp,Act.eval,go_sem,cJ]) ⟨rfl,hI⟩
       ·exact jv (.bool (ky==1)) wq (by simp[execOp,Act.eval,go_sem]) ⟨rfl,hI⟩
       ·exact jv (.pointer (some ⟨w.heap.size,0,none⟩)) wq (by simp[execOp,Act.eval,go_sem]) ⟨rfl,hI⟩
       ·have cJ:=hI.1.out.cell 0;exact jv (.int .i64 k) wq (by simp[execOp,Act.eval,go_sem,cJ]) ⟨rfl,hI⟩
       ·exact jv (.bool (k==1)) wq (by simp[execOp,Act.eval,go_sem]) ⟨rfl,hI⟩
       ·skip
        exact jv (.bool false) wq (by simp[execOp,Act.eval,go_sem,hbp]) ⟨rfl,hI⟩
       ·exact jv (.bool false) wq (by kernel_rfl) ⟨rfl,hI⟩
       ·exact jv (.pointer (some ⟨w.heap.size,3,none⟩)) wq (by simp[execOp,Act.eval,go_sem]) ⟨rfl,hI⟩
       ·have cJ:=hI.1.out.cell 3;exact jv (.slice (some ad) ks.length cap2) wq (by simp[execOp,Act.eval,go_sem,cJ]) ⟨rfl,hI⟩
       ·exact jv (.int .i64 j) wq (by kernel_rfl) ⟨rfl,hI⟩
       ·skip
        exact jv (.pointer (some (ad.add (j*4)))) wq (by simp[execOp,Act.eval,go_sem,hlt];try omega) ⟨rfl,hI⟩
       ·have hP:=hI.2.1.out;have c0:=hP.kind;have c1:=hP.text;have c2:=hP.cols;have c3:=hP.kids;dsimp only[Tre.kind,Tre.text,Tre.cols,Tre.kids] at c0 c1 c2 c3;clear hP;exact jv (.agg (nodC ky sy cy A3 ksy.length cap3)) wq (by simp[execOp,Act.eval,go_sem,c0,c1,c2,c3]) ⟨rfl,hI⟩
       ·refine jc 65 (#[.agg (nodC ky sy cy A3 ksy.length cap3)]) wq (by kernel_rfl) ((IH.out (.mk ky sy cy ksy) _ wq HCU.out (zBc.of hI.2.1.out.size hI.2.1.out.len hI.2.1.out.capl hI.2.1.out.down)).mono ?_);rintro e wa ⟨rfl,hb5⟩;exact⟨_,rfl,by rw[HFV.out],keep hb5 hI.1.out,hI.2.1.out.keep hb5,hI.2.2.1.out.keep hb5,hI.2.2.2.out.trans (hb5.mono hI.2.2.2.out.size)⟩
       ·exact jv (.bool false) wq (by simp[execOp,Act.eval,go_sem]) ⟨rfl,hI⟩
       ·exact jv (.bool false) wq (by kernel_rfl) ⟨rfl,hI⟩
      ·intro wq hI;have HK:=hI.2.2.1;have K0:=hI.1;have H0:=hI.2.2.2;clear hI;go_wp2_with fail;go_roundw
       case rel=>exact⟨j+1,by omega,by go_num,HS,K0,HK,H0⟩
       case measure=>simp[intOf];omega
    ·rw[hbp] at HBP;have HQ:=zh (show zAt (.mk k s cols ks)=false by
      rw[HQ0.out];refine zJa (HSN.out.trans ?_);rw[zIc ky sy cy ksy,←HBP.out];simp)
     refine zAa (by kernel_rfl) _ [.pointer (some ⟨w.heap.size,3,none⟩),.slice (some ad) ks.length cap2,.int .i64 j,.pointer (some (ad.add (j*4))),.pointer (some (ad.add (j*4))),.int .i64 ky,.bool (ky==1),.pointer (some ⟨w.heap.size,0,none⟩),.int .i64 k,.bool (k==1),.bool true,.bool true,undef,undef,undef,undef,undef,undef,undef,.bool true] [true,true,true,true,true,true,true,true,true,true,true,true,false,false,false,false,false,false,false,true] (fun wq=>Hid (Blk wq w.heap.size 25 (nodC k s cols (some ad) ks.length cap2))∧Hid (zBq wq (ad.add (j*4)) (.mk ky sy cy ksy) A3 cap3)∧Hid (zB7 wq (some ad) ks)∧Hid (Below w.heap.size w wq)) (by kernel_rfl) (by simp[fin,zAm,zAb,List.range,List.range.loop,Act.put];rfl) (by kernel_rfl) ⟨K0.out.drew,HP.out.drew,HK.out.keep (zA2 (Below.refl _ _)),zA2 H0.out⟩ ?_ ?_
     ·refine⟨fun wq hI=>?_,fun wq hI=>?_,fun wq hI=>?_,fun wq hI=>?_,fun wq hI=>?_,fun wq hI=>?_,fun wq hI=>?_,fun wq hI=>?_,fun wq hI=>?_,fun wq hI=>?_,fun wq hI=>?_,fun wq hI=>?_,rfl,rfl,rfl,rfl,rfl,rfl,rfl,fun wq hI=>?_,trivial⟩
      ·exact jv (.pointer (some ⟨w.heap.size,3,none⟩)) wq (by simp[execOp,Act.eval,go_sem]) ⟨rfl,hI⟩
      ·have cJ:=hI.1.out.cell 3;exact jv (.slice (some ad) ks.length cap2) wq (by simp[execOp,Act.eval,go_sem,cJ]) ⟨rfl,hI⟩
      ·exact jv (.int .i64 j) wq (by kernel_rfl) ⟨rfl,hI⟩
      ·skip
       exact jv (.pointer (some (ad.add (j*4)))) wq (by simp[execOp,Act.eval,go_sem,hlt];try omega) ⟨rfl,hI⟩
      ·exact jv (.pointer (some (ad.add (j*4)))) wq (by simp[execOp,Act.eval,go_sem]) ⟨rfl,hI⟩
      ·have cJ:wq.cell? (ad.add (j*4))=some (.int .i64 ky):=hI.2.1.out.kind;exact jv (.int .i64 ky) wq (by simp[execOp,Act.eval,go_sem,cJ]) ⟨rfl,hI⟩
      ·exact jv (.bool (ky==1)) wq (by simp[execOp,Act.eval,go_sem]) ⟨rfl,hI⟩
      ·exact jv (.pointer (some ⟨w.heap.size,0,none⟩)) wq (by simp[execOp,Act.eval,go_sem]) ⟨rfl,hI⟩
      ·have cJ:=hI.1.out.cell 0;exact jv (.int .i64 k) wq (by simp[execOp,Act.eval,go_sem,cJ]) ⟨rfl,hI⟩
      ·exact jv (.bool (k==1)) wq (by simp[execOp,Act.eval,go_sem]) ⟨rfl,hI⟩
      ·skip
       exact jv (.bool true) wq (by simp[execOp,Act.eval,go_sem,hbp]) ⟨rfl,hI⟩
      ·exact jv (.bool true) wq (by kernel_rfl) ⟨rfl,hI⟩
      ·exact jv (.bool true) wq (by kernel_rfl) ⟨rfl,hI⟩
     ·intro wq hI;have HB:=hI.2.2.2;clear hI;go_wp2_with fail;go_ret;exact⟨zA1 HQ.out.symm,HB.out⟩
   ·obtain rfl:j=ks.length:=by omega
    rw[List.take_length] at HX;go_wp2_with fail;go_ret;exact⟨zA1 (by rw[HQ0.out,HX.out]),H0.out⟩
set_option maxRecDepth 100000 in
set_option maxHeartbeats 800000 in
theorem zHr (t:Tre)(c:Array Value)(w:World)(hm:zA7 t≤900000)(hN:zBc w t c):Calls Tryz.prog 34 #[.agg c] w fun e w'=>e= .returned (.bool (zFc t))∧Below w.heap.size w w':=by
 obtain⟨k,s,cols,ks⟩:=t;have HQ:=zh (show zFc (.mk k s cols ks)=(decide (k=1)&&(zAt (.mk k s cols ks)&&(decide (zA7 (.mk k s cols ks)≤1000)&&decide (zDr (.mk k s cols ks)≤24)))) from rfl);obtain⟨A2,cap2,rfl,hs,hl,hc,hk⟩:=hN.form;dsimp only[Tre.kind,Tre.text,Tre.cols,Tre.kids] at hs hl hc hk⊢;have HN:=zh (hN.keep (zA0 w (.cells (nodC k s cols A2 ks.length cap2) 25)));have HF:=zh (fun c w h=>zTj (zA7 (.mk k s cols ks)+1) (.mk k s cols ks) c w (by omega) h);have HC:=zh (fun c w h=>zRp (zA7 (.mk k s cols ks)+1) (.mk k s cols ks) c w (by omega) (by omega) h);have HD:=zh (fun c w h=>zS7 (zA7 (.mk k s cols ks)+1) (.mk k s cols ks) c w (by omega) (by omega) h);clear hk hN;have hb1:=zGa (.mk k s cols ks);generalize hf:zAt (.mk k s cols ks)=f at*;generalize hct:zA7 (.mk k s cols ks)=n at*;generalize hdp:zDr (.mk k s cols ks)=d at*;clear hf hct hdp
 by_cases h1:k=1
 ·subst h1;rw[decide_eq_true rfl,Bool.true_and] at HQ;go_enter Tryz.func34,Tryz.ntmps34;go_wp2_with fail;have K0:=zh (Blk.new w 25 (nodC 1 s cols A2 ks.length cap2));have H0:=zh (zA0 w (.cells (nodC 1 s cols A2 ks.length cap2) 25));dsimp only[nodC] at K0 H0 HN;generalize w.alloc (.cells #[.int .i64 1,.string s,.int .i64 cols,.slice A2 ks.length cap2] 25)=w1 at*;refine(HF.out _ _ HN.out).mono ?_;rintro e w2 ⟨rfl,hb⟩;have K0:=kp hb K0;have HN:=zh (HN.out.keep hb);have H0:=jt H0 hb;clear hb;cases f
  ·rw[Bool.false_and] at HQ;go_wp2_with fail;go_ret;exact⟨zA1 HQ.out.symm,H0.out⟩
  rw[Bool.true_and] at HQ;have c0:=K0.out.cell 0;have c1:=K0.out.cell 1;have c2:=K0.out.cell 2;have c3:=K0.out.cell 3;go_wp2_with fail;refine(HC.out _ _ HN.out).mono ?_;rintro e w3 ⟨rfl,hb⟩;have K0:=kp hb K0;have HN:=zh (HN.out.keep hb);have H0:=jt H0 hb;clear hb c0 c1 c2 c3
  by_cases hn:n≤1000
  ·rw[decide_eq_true hn,Bool.true_and] at HQ;have c0:=K0.out.cell 0;have c1:=K0.out.cell 1;have c2:=K0.out.cell 2;have c3:=K0.out.cell 3;go_wp2_with fail;refine(HD.out _ _ HN.out).mono ?_;rintro e w4 ⟨rfl,hb⟩;have H0:=jt H0 hb;clear hb c0 c1 c2 c3;go_wp2_with fail;go_ret;exact⟨zA1 (by rw[HQ.out];first|rfl|(rw[decide_eq_decide];omega)),H0.out⟩
  ·rw[decide_eq_false hn,Bool.false_and] at HQ;go_wp2_with fail;go_ret;exact⟨zA1 HQ.out.symm,H0.out⟩
 ·rw[decide_eq_false h1,Bool.false_and] at HQ;have q1:(k==1)=false:=bn h1;clear h1;go_enter Tryz.func34,Tryz.ntmps34;go_wp2_with fail;go_ret;exact⟨zA1 HQ.out.symm,zA0 _ _⟩
def zPy:Array Value:= #[.string ⟨#[]⟩,.int .i64 0,.nilFunc,.string ⟨#[114,111,119]⟩,.int .i64 0,.func (.func 122) #[] #[],.string ⟨#[115,121,109]⟩,.int .i64 0,.func (.func 119) #[] #[],.string ⟨#[110,117,109]⟩,.int .i64 0,.func (.func 123) #[] #[],.string ⟨#[116,101,120,116]⟩,.int .i64 0,.func (.func 124) #[] #[],.string ⟨#[102,114,97,99]⟩,.int .i64 2,.func (.func 122) #[] #[],.string ⟨#[114,111,111,116]⟩,.int .i64 2,.func (.func 122) #[] #[],.string ⟨#[115,117,98]⟩,.int .i64 2,.func (.func 122) #[] #[],.string ⟨#[115,117,112]⟩,.int .i64 2,.func (.func 122) #[] #[],.string ⟨#[98,111,116,104]⟩,.int .i64 3,.func (.func 122) #[] #[],.string ⟨#[97,99,99,101,110,116]⟩,.int .i64 1,.func (.func 125) #[] #[],.string ⟨#[102,101,110,99,101]⟩,.int .i64 1,.func (.func 126) #[] #[],.string ⟨#[109,97,116,114,105,120]⟩,.int .i64 0,.func (.func 122) #[] #[]]
def chkC (n:Int):Array Value:= #[.string ⟨#[]⟩,.int .i64 0,.nilFunc,.string ⟨#[114,111,119]⟩,.int .i64 0,.func (.func 122) #[] #[],.string ⟨#[115,121,109]⟩,.int .i64 0,.func (.func 119) #[] #[],.string ⟨#[110,117,109]⟩,.int .i64 0,.func (.func 123) #[] #[],.string ⟨#[116,101,120,116]⟩,.int .i64 0,.func (.func 124) #[] #[],.string ⟨#[102,114,97,99]⟩,.int .i64 2,.func (.func 122) #[] #[],.string ⟨#[114,111,111,116]⟩,.int .i64 2,.func (.func 122) #[] #[],.string ⟨#[115,117,98]⟩,.int .i64 2,.func (.func 122) #[] #[],.string ⟨#[115,117,112]⟩,.int .i64 2,.func (.func 122) #[] #[],.string ⟨#[98,111,116,104]⟩,.int .i64 3,.func (.func 122) #[] #[],.string ⟨#[97,99,99,101,110,116]⟩,.int .i64 1,.func (.func 125) #[] #[],.string ⟨#[102,101,110,99,101]⟩,.int .i64 1,.func (.func 126) #[] #[],.string ⟨#[109,97,116,114,105,120]⟩,.int .i64 0,.func (.func 122) #[] #[],.int .i64 n]
set_option maxRecDepth 100000 in
set_option maxHeartbeats 400000 in
theorem zTp (w:World):Calls Tryz.prog 70 #[] w fun e w'=>e= .returned (.agg zPy)∧Below w.heap.size w w':=by
 have hl:=run_loadVar_new (P:=Tryz.prog) w 104 zPy 13 103 Tryz.underlying104 (by kernel_rfl);go_enter Tryz.func70,Tryz.ntmps70;go_wp2_with (refine wpList_store_row (by rfl) 104 (.tmp 0) (.tmp 13) (by rfl) w.heap.size zPy (by rfl) (by rfl) 104 _ (heap_alloc_new w _) (by kernel_rfl) (by rfl) (by kernel_rfl) ?_;rw[World.setRow_alloc_new])
 refine bodyPost_ret (v:=.agg zPy) (by simp[results,Tryz.results70,Act.put,asAddr,hl]) rfl ⟨rfl,zA0 _ _⟩
def zCc (k:Nat):Int:=if k=5∨k=6∨k=7∨k=8 then 2 else if k=9 then 3 else if k=10∨k=11 then 1 else 0
theorem zUj (k:Nat)(h:k≤12)(n:Int):(chkC n)[k*3+1]?=some (.int .i64 (zCc k)):=by
 match k,h with
 |0,_=>rfl
 |1,_=>rfl
 |2,_=>rfl
 |3,_=>rfl
 |4,_=>rfl
 |5,_=>rfl
 |6,_=>rfl
 |7,_=>rfl
 |8,_=>rfl
 |9,_=>rfl
 |10,_=>rfl
 |11,_=>rfl
 |12,_=>rfl
 |k+13,h=>omega
theorem yAt (s:ByteArray):symB s.toList=zDe 2 s.data.toList:=by rw[tl];rfl
theorem zLk (k:Nat)(h1:1≤k)(h12:k≤12)(s:ByteArray)(hs:s.size≤9223372036854775807):∃F:FuncId,(∀n,(chkC n)[k*3+2]?=some (.func (.func F) #[] #[]))∧(∀args w,(callFunc F args).run Tryz.prog w= .ok (.enter F args) w)∧(∀w,Calls Tryz.prog F #[.string s] w fun e w'=>e= .returned (.bool (zDe k s.data.toList))∧Below w.heap.size w w'):=by
 have hl:s.data.toList.length=s.size:=by simp
 have he:∀w,Calls Tryz.prog 122 #[.string s] w fun e w'=>e= .returned (.bool s.data.toList.isEmpty)∧Below w.heap.size w w':=fun w=>by
  refine(zUg s w).mono ?_;rintro e w1 ⟨rfl,rfl⟩;exact⟨by rw[tl],Below.refl _ _⟩
 match k,h1,h12 with
 |1,_,_=>exact⟨122,fun _=>rfl,fun args w=>by kernel_rfl,he⟩
 |2,_,_=>exact⟨119,fun _=>rfl,fun args w=>by kernel_rfl,fun w=>by
   refine(zHq s w hs).mono ?_;rintro e w1 ⟨rfl,hb⟩;exact⟨by rw[yAt];rfl,hb⟩⟩
 |3,_,_=>exact⟨123,fun _=>rfl,fun args w=>by kernel_rfl,fun w=>zQo s w hs⟩
 |4,_,_=>exact⟨124,fun _=>rfl,fun args w=>by kernel_rfl,fun w=>by
   refine(zUh s w hs).mono ?_;rintro e w1 ⟨rfl,rfl⟩;exact⟨by rw[←hl,tl];rfl,Below.refl _ _⟩⟩
 |5,_,_=>exact⟨122,fun _=>rfl,fun args w=>by kernel_rfl,he⟩
 |6,_,_=>exact⟨122,fun _=>rfl,fun args w=>by kernel_rfl,he⟩
 |7,_,_=>exact⟨122,fun _=>rfl,fun args w=>by kernel_rfl,he⟩
 |8,_,_=>exact⟨122,fun _=>rfl,fun args w=>by kernel_rfl,he⟩
 |9,_,_=>exact⟨122,fun _=>rfl,fun args w=>by kernel_rfl,he⟩
 |10,_,_=>exact⟨125,fun _=>rfl,fun args w=>by kernel_rfl,fun w=>by
   refine(zKk s w).mono ?_;rintro e w1 ⟨rfl,rfl⟩;exact⟨by rw[tl];rfl,Below.refl _ _⟩⟩
 |11,_,_=>exact⟨126,fun _=>rfl,fun args w=>by kernel_rfl,fun w=>zUe s w⟩
 |12,_,_=>exact⟨122,fun _=>rfl,fun args w=>by kernel_rfl,he⟩
theorem zZg {k:Int}{s:List UInt8}{c:Int}{n:Nat}(h:k<1∨12<k):ownT k s c n=false:=by
 unfold ownT zBl;rw[if_neg (by omega),if_neg (by omega),if_neg (by omega),if_neg (by omega),if_neg (by omega),if_neg (by omega),Bool.and_false,Bool.and_false]
set_option maxRecDepth 100000 in
set_option maxHeartbeats 1600000 in
theorem yB2 (gc:Nat)(n:Int)(p:Addr)(k:Int)(s:ByteArray)(cols:Int)(ks:List Tre)(A:Option Addr)(cap:Nat)(w:World)(hP:zBq w p (.mk k s cols ks) A cap)(hC:Blk w gc 107 (chkC n))(hk:k<1∨12<k):Calls Tryz.prog 127 #[.pointer (some ⟨gc,0,none⟩),.pointer (some p)] w fun e w'=>e= .returned (.bool (ownT k s.data.toList cols ks.length))∧Below w.heap.size w w':=by
 have HP:=zh hP;have HC:=zh hC;have HQ:=zh (zZg (s:=s.data.toList) (c:=cols) (n:=ks.length) hk);clear hP hC
 by_cases h1:k<1
 ·clear hk;go_enter Tryz.func127,Tryz.ntmps127;go_upto_region 1 with(fail)
  refine zAa (by kernel_rfl) _ [.pointer (some p),.pointer (some p),.pointer (some p),.int .i64 k,.bool true,.bool true,undef,undef,undef,undef,undef,.bool true,.bool true,undef,undef,undef,undef,undef,undef,undef,undef,undef,undef,undef,undef,undef,undef,undef,undef,.bool true] [true,true,true,true,true,true,false,false,false,false,false,true,true,false,false,false,false,false,false,false,false,false,false,false,false,false,false,false,false,true] (fun wq=>Hid (zBq wq p (.mk k s cols ks) A cap)∧Hid (Blk wq gc 107 (chkC n))∧Hid (Below w.heap.size w wq)) (by kernel_rfl) (by simp[fin,zAm,zAb,List.range,List.range.loop,Act.put];rfl) (by kernel_rfl) ⟨HP.out.drew,HC.out.drew,zA2 (Below.refl _ _)⟩ ?_ ?_
  ·refine⟨fun wq hI=>?_,fun wq hI=>?_,fun wq hI=>?_,fun wq hI=>?_,fun wq hI=>?_,fun wq hI=>?_,rfl,rfl,rfl,rfl,rfl,fun wq hI=>?_,fun wq hI=>?_,rfl,rfl,rfl,rfl,rfl,rfl,rfl,rfl,rfl,rfl,rfl,rfl,rfl,rfl,rfl,rfl,fun wq hI=>?_,trivial⟩
   ·exact jv (.pointer (some p)) wq (by kernel_rfl) ⟨rfl,hI⟩
   ·exact jv (.pointer (some p)) wq (by simp[go_sem]) ⟨rfl,hI⟩
   ·exact jv (.pointer (some p)) wq (by simp[go_sem]) ⟨rfl,hI⟩
   ·have cJ:wq.cell? p=some (.int .i64 k):=hI.1.out.kind;exact jv (.int .i64 k) wq (by simp[go_sem,cJ]) ⟨rfl,hI⟩
   ·skip
    exact jv (.bool true) wq (by simp[go_sem,h1]) ⟨rfl,hI⟩
   ·exact jv (.bool true) wq (by kernel_rfl) ⟨rfl,hI⟩
   ·exact jv (.bool true) wq (by kernel_rfl) ⟨rfl,hI⟩
   ·exact jv (.bool true) wq (by kernel_rfl) ⟨rfl,hI⟩
   ·exact jv (.bool true) wq (by kernel_rfl) ⟨rfl,hI⟩
  ·intro wq hI;have HB:=hI.2.2;clear hI;go_wp2_with fail;go_ret;exact⟨zA1 HQ.out.symm,HB.out⟩
 ·have h12:12<k:=by omega
  clear hk;go_enter Tryz.func127,Tryz.ntmps127;go_upto_region 1 with(fail)
  refine zAa (by kernel_rfl) _ [.pointer (some p),.pointer (some p),.pointer (some p),.int .i64 k,.bool false,.bool false,.pointer (some p),.pointer (some p),.pointer (some p),.int .i64 k,.bool true,.bool true,.bool true,undef,undef,undef,undef,undef,undef,undef,undef,undef,undef,undef,undef,undef,undef,undef,undef,.bool true] [true,true,true,true,true,true,true,true,true,true,true,true,true,false,false,false,false,false,false,false,false,false,false,false,false,false,false,false,false,true] (fun wq=>Hid (zBq wq p (.mk k s cols ks) A cap)∧Hid (Blk wq gc 107 (chkC n))∧Hid (Below w.heap.size w wq)) (by kernel_rfl) (by simp[fin,zAm,zAb,List.range,List.range.loop,Act.put];rfl) (by kernel_rfl) ⟨HP.out.drew,HC.out.drew,zA2 (Below.refl _ _)⟩ ?_ ?_
  ·refine⟨fun wq hI=>?_,fun wq hI=>?_,fun wq hI=>?_,fun wq hI=>?_,fun wq hI=>?_,fun wq hI=>?_,fun wq hI=>?_,fun wq hI=>?_,fun wq hI=>?_,fun wq hI=>?_,fun wq hI=>?_,fun wq hI=>?_,fun wq hI=>?_,rfl,rfl,rfl,rfl,rfl,rfl,rfl,rfl,rfl,rfl,rfl,rfl,rfl,rfl,rfl,rfl,fun wq hI=>?_,trivial⟩
   ·exact jv (.pointer (some p)) wq (by kernel_rfl) ⟨rfl,hI⟩
   ·exact jv (.pointer (some p)) wq (by simp[go_sem]) ⟨rfl,hI⟩
   ·exact jv (.pointer (some p)) wq (by simp[go_sem]) ⟨rfl,hI⟩
   ·have cJ:wq.cell? p=some (.int .i64 k):=hI.1.out.kind;exact jv (.int .i64 k) wq (by simp[go_sem,cJ]) ⟨rfl,hI⟩
   ·skip
    exact jv (.bool false) wq (by simp[go_sem];omega) ⟨rfl,hI⟩
   ·exact jv (.bool false) wq (by kernel_rfl) ⟨rfl,hI⟩
   ·exact jv (.pointer (some p)) wq (by kernel_rfl) ⟨rfl,hI⟩
   ·exact jv (.pointer (some p)) wq (by simp[go_sem]) ⟨rfl,hI⟩
   ·exact jv (.pointer (some p)) wq (by simp[go_sem]) ⟨rfl,hI⟩
   ·have cJ:wq.cell? p=some (.int .i64 k):=hI.1.out.kind;exact jv (.int .i64 k) wq (by simp[go_sem,cJ]) ⟨rfl,hI⟩
   ·skip
    exact jv (.bool true) wq (by simp[go_sem,h12]) ⟨rfl,hI⟩
   ·exact jv (.bool true) wq (by kernel_rfl) ⟨rfl,hI⟩
   ·exact jv (.bool true) wq (by kernel_rfl) ⟨rfl,hI⟩
   ·exact jv (.bool true) wq (by kernel_rfl) ⟨rfl,hI⟩
  ·intro wq hI;have HB:=hI.2.2;clear hI;go_wp2_with fail;go_ret;exact⟨zA1 HQ.out.symm,HB.out⟩
set_option maxRecDepth 100000 in
set_option maxHeartbeats 1600000 in
theorem yA4 (gc:Nat)(n:Int)(p:Addr)(kk:Nat)(s:ByteArray)(cols:Int)(ks:List Tre)(A:Option Addr)(cap:Nat)(w:World)(hP:zBq w p (.mk kk s cols ks) A cap)(hC:Blk w gc 107 (chkC n))(hk1:1≤kk)(hk12:kk≤12)(htb:zDe kk s.data.toList=false):Calls Tryz.prog 127 #[.pointer (some ⟨gc,0,none⟩),.pointer (some p)] w fun e w'=>e= .returned (.bool (ownT kk s.data.toList cols ks.length))∧Below w.heap.size w w':=by
 obtain⟨F,hF,hE,hT⟩:=zLk kk hk1 hk12 s hP.size;have HP:=zh hP;have HC:=zh hC;have HF:=zh hF;have HE:=zh hE;have HT:=zh hT;have HTB:=zh htb;have HQ:=zh (show ownT kk s.data.toList cols ks.length=false by unfold ownT;rw[htb];rfl);clear hP hC hF hE hT htb;go_enter Tryz.func127,Tryz.ntmps127;go_upto_region 1 with(fail)
 ·skip
  refine zAa (by kernel_rfl) _ [.pointer (some p),.pointer (some p),.pointer (some p),.int .i64 (kk:Int),.bool false,.bool false,.pointer (some p),.pointer (some p),.pointer (some p),.int .i64 (kk:Int),.bool false,.bool false,.bool false,.pointer (some ⟨gc,0,none⟩),.pointer (some p),.pointer (some p),.pointer (some p),.int .i64 (kk:Int),.pointer (some ⟨gc,0,none⟩),.pointer (some ⟨gc,0,none⟩),.pointer (some ⟨gc,kk*3,none⟩),.pointer (some ⟨gc,kk*3+2,none⟩),.func (.func F) #[] #[],.pointer (some p),.pointer (some p),.pointer (some ⟨p.block,p.off+1,none⟩),.string s,.bool false,.bool true,.bool true] [true,true,true,true,true,true,true,true,true,true,true,true,true,true,true,true,true,true,true,true,true,true,true,true,true,true,true,true,true,true] (fun wq=>Hid (zBq wq p (.mk (kk:Int) s cols ks) A cap)∧Hid (Blk wq gc 107 (chkC n))∧Hid (Below w.heap.size w wq)) (by kernel_rfl) (by simp[fin,zAm,zAb,List.range,List.range.loop,Act.put];rfl) (by kernel_rfl) ⟨HP.out.drew,HC.out.drew,zA2 (Below.refl _ _)⟩ ?_ ?_
  ·refine⟨fun wq hI=>?_,fun wq hI=>?_,fun wq hI=>?_,fun wq hI=>?_,fun wq hI=>?_,fun wq hI=>?_,fun wq hI=>?_,fun wq hI=>?_,fun wq hI=>?_,fun wq hI=>?_,fun wq hI=>?_,fun wq hI=>?_,fun wq hI=>?_,fun wq hI=>?_,fun wq hI=>?_,fun wq hI=>?_,fun wq hI=>?_,fun wq hI=>?_,fun wq hI=>?_,fun wq hI=>?_,fun wq hI=>?_,fun wq hI=>?_,fun wq hI=>?_,fun wq hI=>?_,fun wq hI=>?_,fun wq hI=>?_,fun wq hI=>?_,fun wq hI=>?_,fun wq hI=>?_,fun wq hI=>?_,trivial⟩
   ·exact jv (.pointer (some p)) wq (by kernel_rfl) ⟨rfl,hI⟩
   ·exact jv (.pointer (some p)) wq (by simp[go_sem]) ⟨rfl,hI⟩
   ·exact jv (.pointer (some p)) wq (by simp[go_sem]) ⟨rfl,hI⟩
   ·have cJ:wq.cell? p=some (.int .i64 (kk:Int)):=hI.1.out.kind;exact jv (.int .i64 (kk:Int)) wq (by simp[go_sem,cJ]) ⟨rfl,hI⟩
   ·skip
    exact jv (.bool false) wq (by simp[go_sem];omega) ⟨rfl,hI⟩
   ·exact jv (.bool false) wq (by kernel_rfl) ⟨rfl,hI⟩
   ·exact jv (.pointer (some p)) wq (by kernel_rfl) ⟨rfl,hI⟩
   ·exact jv (.pointer (some p)) wq (by simp[go_sem]) ⟨rfl,hI⟩
   ·exact jv (.pointer (some p)) wq (by simp[go_sem]) ⟨rfl,hI⟩
   ·have cJ:wq.cell? p=some (.int .i64 (kk:Int)):=hI.1.out.kind;exact jv (.int .i64 (kk:Int)) wq (by simp[go_sem,cJ]) ⟨rfl,hI⟩
   ·skip
    exact jv (.bool false) wq (by simp[go_sem];omega) ⟨rfl,hI⟩
   ·exact jv (.bool false) wq (by kernel_rfl) ⟨rfl,hI⟩
   ·exact jv (.bool false) wq (by kernel_rfl) ⟨rfl,hI⟩
   ·exact jv (.pointer (some ⟨gc,0,none⟩)) wq (by kernel_rfl) ⟨rfl,hI⟩
   ·exact jv (.pointer (some p)) wq (by kernel_rfl) ⟨rfl,hI⟩
   ·exact jv (.pointer (some p)) wq (by simp[go_sem]) ⟨rfl,hI⟩
   ·exact jv (.pointer (some p)) wq (by simp[go_sem]) ⟨rfl,hI⟩
   ·have cJ:wq.cell? p=some (.int .i64 (kk:Int)):=hI.1.out.kind;exact jv (.int .i64 (kk:Int)) wq (by simp[go_sem,cJ]) ⟨rfl,hI⟩
   ·exact jv (.pointer (some ⟨gc,0,none⟩)) wq (by simp[go_sem]) ⟨rfl,hI⟩
   ·exact jv (.pointer (some ⟨gc,0,none⟩)) wq (by simp[go_sem]) ⟨rfl,hI⟩
   ·have hidx:=hk12;exact jv (.pointer (some ⟨gc,kk*3,none⟩)) wq (by simp[go_sem];try omega) ⟨rfl,hI⟩
   ·exact jv (.pointer (some ⟨gc,kk*3+2,none⟩)) wq (by simp[go_sem]) ⟨rfl,hI⟩
   ·have cJ:wq.cell? ⟨gc,kk*3+2,none⟩=some (.func (.func F) #[] #[]):=(hI.2.1.out.cell _).trans (HF.out n);exact jv (.func (.func F) #[] #[]) wq (by simp[go_sem,cJ]) ⟨rfl,hI⟩
   ·exact jv (.pointer (some p)) wq (by kernel_rfl) ⟨rfl,hI⟩
   ·exact jv (.pointer (some p)) wq (by simp[go_sem]) ⟨rfl,hI⟩
   ·exact jv (.pointer (some ⟨p.block,p.off+1,none⟩)) wq (by simp[go_sem]) ⟨rfl,hI⟩
   ·have cJ:wq.cell? ⟨p.block,p.off+1,none⟩=some (.string s):=hI.1.out.text;exact jv (.string s) wq (by simp[go_sem,cJ]) ⟨rfl,hI⟩
   ·refine jc F (#[.string s]) wq (by simp[execOp,Act.eval,go_sem,HE.out]) ((HT.out wq).mono ?_);rintro e wa ⟨rfl,hb5⟩;exact⟨_,rfl,by rw[HTB.out],hI.1.out.keep hb5,keep hb5 hI.2.1.out,hI.2.2.out.trans (hb5.mono hI.2.2.out.size)⟩
   ·exact jv (.bool true) wq (by simp[go_sem]) ⟨rfl,hI⟩
   ·exact jv (.bool true) wq (by kernel_rfl) ⟨rfl,hI⟩
  ·intro wq hI;have HB:=hI.2.2;clear hI;go_wp2_with fail;go_ret;exact⟨zA1 HQ.out.symm,HB.out⟩
end Go.Proofs.YtadcldfbmkfkaaaGreatDoor.At
