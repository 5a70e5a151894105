/- The reference's list of all readings (under way). -/
import Derived.Test.YtchllommcolijaaGreatDoorHd12699f2
namespace Go.Proofs.YtchllommcolijaaGreatDoor.Ch
open Go.RowKit
def AllP (rs:List Rul)(ts:List ByteArray)(i j:Nat)(w:World)(e:Ending)(w':World):Prop:=∃v,e= .returned v∧AppR (fun b=>w.heap.size≤b) w' w.heap.size v (allR rs ts i j)∧Below w.heap.size w w'
def preR (rs:List Rul)(ts:List ByteArray)(i j n:Nat):List Rd:=zD9 ts i j++(List.range n).flatMap (zB3 rs ts (allR rs ts) i j)
theorem zQ1 {rs:List Rul}{ts:List ByteArray}{i j:Nat}:preR rs ts i j 0=zD9 ts i j:=by unfold preR;simp
theorem zX5 {rs:List Rul}{ts:List ByteArray}{i j n:Nat}:preR rs ts i j (n+1)=preR rs ts i j n++zB3 rs ts (allR rs ts) i j n:=by
 unfold preR;rw[List.range_succ,List.flatMap_append,List.append_assoc];simp
theorem zBo {rs:List Rul}(hr:zAj rs=true){ts:List ByteArray}(ht:ts.length≤7){i j:Nat}(hj:j≤ts.length):(allR rs ts i j).length≤1376256:=zVc hr ht hj
theorem zPm {rs:List Rul}{ts:List ByteArray}{i j:Nat}(h:i<j):allR rs ts i j=preR rs ts i j rs.length:=by
 rw[zQ7 h];rfl
theorem zL3 {rs:List Rul}{ts:List ByteArray}{i j n:Nat}(h:i<j)(hn:n≤rs.length):(preR rs ts i j n).length≤(allR rs ts i j).length:=by
 rw[zPm h];unfold preR;rw[List.length_append,List.length_append];have:((List.range n).flatMap (zB3 rs ts (allR rs ts) i j)).length≤((List.range rs.length).flatMap (zB3 rs ts (allR rs ts) i j)).length:=by
  rw[show rs.length=n+(rs.length -n) by omega,List.range_add,List.flatMap_append,List.length_append];omega
 omega
def AllC (A T:Option Addr)(cap cT:Nat)(rs:List Rul)(ts:List ByteArray)(m:Nat):Prop:=∀(i j:Nat) (w:World),j -i≤m→j≤ts.length→zAg w A rs→zBp w T ts→Calls Tryz.prog 93 #[.slice A rs.length cap,.slice T ts.length cT,.int .i64 i,.int .i64 j] w (AllP rs ts i j w)
structure PkO (M:Prop) where
 a:Prop
 out:(Unit→a)→M
structure PkA (M:Prop) where
 a:Prop
 b:Prop
 c:Prop
 d:Prop
 out:(Unit→a)→(Unit→b)→(Unit→c)→(Unit→d)→M
set_option maxRecDepth 100000 in
set_option maxHeartbeats 8000000 in
theorem rall_zero (A T:Option Addr)(cap cT:Nat)(rs:List Rul)(ts:List ByteArray):AllC A T cap cT rs ts 0:=by
 intro i j w hm hj hR hT;have HE:=zh (show allR rs ts i j=[] by unfold allR;rw[show j -i=0 by omega];rfl);have hij:(j:Int)≤(i:Int):=by omega
 clear hR hT hm hj;go_enter Tryz.func93,Tryz.ntmps93;go_wp2_with fail;go_ret;exact⟨_,rfl,by rw[HE.out];exact AppR.nil _ _ _,Below.refl _ _⟩
set_option maxRecDepth 100000 in
set_option maxHeartbeats 8000000 in
noncomputable def rall_pack:PkO (∀(A T:Option Addr) (cap cT:Nat) (rs:List Rul) (ts:List ByteArray) (_HV8:Hid (zAj rs=true)) (_hr8:rs.length≤64) (_ht6:ts.length≤7) (m:Nat) (_ih:AllC A T cap cT rs ts m),AllC A T cap cT rs ts (m+1)):=by
 apply PkO.mk
 intro hr A T cap cT rs ts HV8 hr8 ht6 m ih;obtain⟨i0,hi,hz0,hz1,hz2⟩:=info_parts zJm;intro i j w hm hj hR hT
 by_cases hij:j≤i
 ·have HE:=zh (show allR rs ts i j=[] by unfold allR;rw[show j -i=0 by omega];rfl);have hij:(j:Int)≤(i:Int):=by omega
  clear hR hT hm hj ih;go_enter Tryz.func93,Tryz.ntmps93;go_wp2_with fail;go_ret;exact⟨_,rfl,by rw[HE.out];exact AppR.nil _ _ _,Below.refl _ _⟩
 ·have IH:=zh ih;have HR0:=zh hR;have HT0:=zh hT;have HIJ:=zh (show i<j by omega);have HJ:=zh hj;have HM:=zh hm;obtain⟨s,hs⟩:∃s,ts[i]?=some s:=⟨_,gE (by omega)⟩
  obtain⟨hf,ad,rfl,hadl,c0⟩:=hT i s hs;have HTB:=zh (show tokB ts i zCi=(s.toList==zCi) by unfold tokB;rw[hs]);have j1:(0:Int)≤(i:Int):=by omega
  have j2:(i:Int)<(ts.length:Int):=by omega
  have j3:(j:Int)≤7:=by omega
  have j4:(i:Int)<(j:Int):=by omega
  have HS:=zh hs;clear ih hR hT hm hj hs hf hadl hij;go_enter Tryz.func93,Tryz.ntmps93;have HBB:=zh (show zD9 ts i j=if(decide (j=i+1)&&(s.toList==[35]))=true then[.mk (-1) i []] else[] by
   unfold zD9;rw[HTB.out];unfold zCi
   by_cases h1:j=i+1<;>by_cases h2:(s.toList==[35])=true<;>simp[h1,h2])
  have e24:((j:Int)==(i:Int)+1)=decide (j=i+1):=by
   rw[Bool.eq_iff_iff,beq_iff_eq,decide_eq_true_iff];omega
  go_upto_region 4 with(fail)
  go_cut [31] (fun b wc=>b= .bool (decide (j=i+1)&&(s.toList==[35]))∧w=wc)
  case first=>
   by_cases h1:j=i+1
   ·have e25:((j:Int)==(i:Int)+1)=true:=by rw[e24,decide_eq_true h1]
    have H1:=zh (decide_eq_true h1);clear h1 e24;go_wp2_with fail;go_meet
    case rel=>exact⟨by rw[H1.out,Bool.true_and],rfl⟩
   ·have e25:((j:Int)==(i:Int)+1)=false:=by rw[e24,decide_eq_false h1]
    have H1:=zh (decide_eq_false h1);clear h1 e24;go_wp2_with fail;go_meet
    case rel=>exact⟨by rw[H1.out,Bool.false_and],rfl⟩
  case rest=>
   obtain⟨rfl,rfl⟩:=hcut;clear e24 c0;go_upto_if 31 with(fail)
   go_cut [9] (fun v w1=>Hid (AppR (fun b=>w.heap.size≤b) w1 w.heap.size v (preR rs ts i j 0))∧Hid (Below w.heap.size w w1))
   case first=>
    cases hb:(decide (j=i+1)&&(s.toList==[35]))
    ·rw[hb] at HBB;have HZ:=zh (show preR rs ts i j 0=[] from zQ1.trans HBB.out);clear hb;go_wp2_with fail;go_meet
     case rel=>exact⟨by rw[HZ.out];exact AppR.nil (fun b=>w.heap.size≤b) _ _,Below.refl _ _⟩
    ·rw[hb] at HBB;have HZ:=zh (show preR rs ts i j 0=[]++[.mk (-1) i []] from zQ1.trans HBB.out);clear hb;have hba:=zA1 w (.cells (rdC (-1) i none 0 0) 83);have K6:=zh (Blk.new w 83 (rdC (-1) i none 0 0));have hE:=RdAt.of (ok:=fun b=>(Value.slice none 0 0).ownBlock≠some b∧w.heap.size≤b) (w:=w.alloc (.cells (rdC (-1) i none 0 0) 83)) (r:= -1) (a:=i) (ks:=[]) (A:=none) (cap:=0) (Nat.le_refl _) (by omega) (zAp.nil _ _ _);have ho:=AppR.nil (fun b=>w.heap.size≤b) (w.alloc (.cells (rdC (-1) i none 0 0) 83)) w.heap.size;obtain⟨css,ho,hl,hrr⟩:=ho;have HB:=zh (hba);go_wp2_with (at_builtin;refine zAb _ rfl (.tmp 32) (.tmp 35) 56 rfl w.heap.size 83 i0 (.agg #[.int .i64 0,.int .i64 0,.slice none 0 0]) 3 40 Tryz.underlying56 hi hz0 hz1 hz2 rfl (by decide) _ _ _ rfl ho (w.heap.size+1) (some ⟨w.heap.size,0,none⟩) 1 1 (rdC (-1) i none 0 0).toList rfl (by have:=zBb K6.out rfl;rw[World.size_alloc] at this;exact this) (zGj hE) (by unfold maxLen;simp) (by simp) HB.out.size ?_;intro v' w' g2 g3 g4)
     have HO:=zh (AppR.push hl hrr hE g2 g3 g4);rw[←HZ.out] at HO;have HB:=zh (HB.out.grown g3 HB.out.size fun b hb=>by cases hb);clear ho hl hrr g2 g3 g4 hE hba;go_wp2_with fail;go_meet
     case rel=>exact⟨HO,HB⟩
   case rest=>
    obtain⟨HO,HB⟩:=hcut;clear HBB HTB;go_wp2_with fail
    go_loopw [9,10] (fun v t wr=>∃n:Nat,n≤rs.length∧t= .int .i64 n∧Hid (AppR (fun b=>w.heap.size≤b) wr w.heap.size v (preR rs ts i j n))∧Hid (Below w.heap.size w wr)) (fun _ t _=>rs.length -(intOf t).toNat)
    case atStart=>exact⟨0,by omega,rfl,HO,HB⟩
    case round=>
     clear HO HB
     rename_i K0 e0
     revert A cap cT rs ts m i j w s ad wc u18 u19 u20 u21 u22 u23 u24 u25 u26 u27 u28 u29 u30 u31 u32 u33 u34 u35 u36 u195 K0 wr u9 u10 u11 u12 u13 u14 u15 u16 u17 u37 u38 u39 u40 u41 u42 u43 u44 u45 u46 u47 u48 u49 u50 u51 u52 u53 u54 u55 u56 u57 u58 u59 u60 u61 u62 u63 u64 u65 u66 u67 u68 u69 u70 u71 u72 u73 u74 u75 u76 u77 u78 u79 u80 u81 u82 u83 u84 u85 u86 u87 u88 u89 u90 u91 u92 u93 u94 u95 u96 u97 u98 u99 u100 u101 u102 u103 u104 u105 u106 u107 u108 u109 u110 u111 u112 u113 u114 u115 u116 u117 u118 u119 u120 u121 u122 u123 u124 u125 u126 u127 u128 u129 u130 u131 u132 u133 u134 u135 u136 u137 u138 u139 u140 u141 u142 u143 u144 u145 u146 u147 u148 u149 u150 u151 u152 u153 u154 u155 u156 u157 u158 u159 u160 u161 u162 u163 u164 u165 u166 u167 u168 u169 u170 u171 u172 u173 u174 u175 u176 u177 u178 u179 u180 u181 u182 u183 u184 u185 u186 u187 u188 u189 u190 u191 u192 u193 u194;exact hr ()
end Go.Proofs.YtchllommcolijaaGreatDoor.Ch
