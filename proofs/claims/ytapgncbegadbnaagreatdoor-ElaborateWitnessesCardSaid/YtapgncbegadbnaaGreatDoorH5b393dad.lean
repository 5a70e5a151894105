/- The reference's list: memory of its boxes, what its functions give, plain laws of its rounds. -/
import Derived.Test.YtapgncbegadbnaaGreatDoorH8020c3ac
import Derived.Test.YtapgncbegadbnaaGreatDoorH7ecd2ed2
set_option maxRecDepth 100000
set_option maxHeartbeats 8000000
namespace Go.Proofs.YtapgncbegadbnaaGreatDoor
namespace Ch
open Go.RowKit
theorem yCt:zEn.d:=by
 intro cap cT rs ts HV8 hr8 ht6 m i j w HIJ HJ HM s ad HT0 j1 j2 j3 j4 HS _ wc u18 u19 u20 u21 u22 u23 u24 u25 u26 u27 u28 u29 u30 u31 u32 u33 u34 u35 u36 u195 K0 e0 wr u9 u11 u12 u13 u14 u15 u16 u17 u37 u38 u39 u40 u41 u42 u43 u44 u45 u46 u47 u48 u49 u50 u51 u52 u53 u54 u55 u56 u57 u58 u59 u60 u61 u62 u63 u64 u65 u66 u67 u68 u69 u70 u71 u72 u73 u74 u75 u76 u77 u78 u79 u80 u81 u82 u83 u84 u85 u86 u87 u88 u89 u90 u91 u92 u93 u94 u95 u96 u97 u98 u99 u100 u101 u102 u103 u104 u105 u106 u107 u108 u109 u110 u111 u112 u113 u114 u115 u116 u117 u118 u119 u120 u121 u122 u123 u124 u125 u126 u127 u128 u129 u130 u131 u132 u133 u134 u135 u136 u137 u138 u139 u140 u141 u142 u143 u144 u145 u146 u147 u148 u149 u150 u151 u152 u153 u154 u155 u156 u157 u158 u159 u160 u161 u162 u163 u164 u165 u166 u167 u168 u169 u170 u171 u172 u173 u174 u175 u176 u177 u178 u179 u180 u181 u182 u183 u184 u185 u186 u187 u188 u189 u190 u191 u192 u193 u194 n hn _ _ hlt u _ ad2 HR0 IH HU HPN Q1 K1 e1 K2 e2 w5 HO HB g0 HXG HFAR KU k0 q1 q2 q3 q4;obtain⟨i0,hi,hz0,hz1,hz2⟩:=info_parts zEe;have HN:=zh (zXv (ts:=ts) (i:=i) (j:=j) HU.out q4);have b1:(u.kind==1)=false:=bn q1;have b2:(u.kind==2)=false:=bn q2;have b3:(u.kind==3)=false:=bn q3;have b4:(u.kind==4)=true:=beq_iff_eq.2 q4;have HZ:=zh (show preR rs ts i j n=preR rs ts i j n++(List.range' (i+1) 0).flatMap (juxG rs ts i j n u) by simp);rw[HZ.out] at HO;clear q1 q2 q3 q4;go_wp2_with fail
 go_loopw [9,17] (fun v t wr=>∃m9:Nat,m9<=j -(i+1)/\t=qI ((i+1+m9:Nat):Int)/\Hid (AppR (fun b=>w.heap.size<=b) wr w.heap.size v (preR rs ts i j n++(List.range' (i+1) m9).flatMap (juxG rs ts i j n u)))/\Hid (Below w.heap.size w wr)/\Hid (Blk wr g0 53 u.c)/\Hid (v.ownBlock≠some g0)) (fun _ t _=>j -(intOf t).toNat)
 case atStart=>exact⟨0,by omega,rfl,HO,HB,KU,HFAR⟩
 case round=>
  clear HO HB KU HFAR;obtain⟨m9,hm9,rfl,HO,HB,HK,HF⟩:=hrel
  by_cases hlk:m9<j -(i+1)
  ·have j5:((i+1+m9:Nat):Int)<(j:Int):=by omega
   have HPT:=zh (show preR rs ts i j n++(List.range' (i+1) (m9+1)).flatMap (juxG rs ts i j n u)=(preR rs ts i j n++(List.range' (i+1) m9).flatMap (juxG rs ts i j n u))++(zAm n i (zA5 rs (allR rs ts i (i+1+m9)) u.left) (zA5 rs (allR rs ts (i+1+m9) j) u.right)) by rw[zEp,<-List.append_assoc];rfl);have HLN:=zh (show(preR rs ts i j n++(List.range' (i+1) m9).flatMap (juxG rs ts i j n u)).length+(zAm n i (zA5 rs (allR rs ts i (i+1+m9)) u.left) (zA5 rs (allR rs ts (i+1+m9) j) u.right)).length<=3000000000000 by
    have h1:(List.range' (i+1) (m9+1)).flatMap (juxG rs ts i j n u)=(List.range' (i+1) m9).flatMap (juxG rs ts i j n u)++(zAm n i (zA5 rs (allR rs ts i (i+1+m9)) u.left) (zA5 rs (allR rs ts (i+1+m9) j) u.right)):=by rw[zEp];rfl
    have h2:=zQr (g:=juxG rs ts i j n u) (a:=i+1) (t:=m9+1) (N:=j -(i+1)) (by omega);rw[h1,List.length_append] at h2;have h3:=zMm (rs:=rs) (ts:=ts) (n:=n+1) HIJ.out (by omega);rw[HPN.out,HN.out,List.length_append] at h3;have h4:=zBv HV8.out ht6 (i:=i) HJ.out;rw[List.length_append];omega)
   have HL1:=zh (show(allR rs ts i (i+1+m9)).length<=100000000 from Nat.le_trans (zBv HV8.out ht6 (i:=i) (j:=(i+1+m9)) (by have:=HJ.out;omega)) (by omega));have HL3:=zh (show(allR rs ts (i+1+m9) j).length<=100000000 from Nat.le_trans (zBv HV8.out ht6 (i:=(i+1+m9)) HJ.out) (by omega));have HPM:=zh (show(zA5 rs (allR rs ts i (i+1+m9)) u.left).length<=100000000 from Nat.le_trans zCq HL1.out);have HPL:=zh (show(zA5 rs (allR rs ts i (i+1+m9)) u.left).length*(zA5 rs (allR rs ts (i+1+m9) j) u.right).length+(zA5 rs (allR rs ts (i+1+m9) j) u.right).length<=3000000000000 from zLn (Nat.le_trans zCq (zBv HV8.out ht6 (by have:=HJ.out;omega))) (Nat.le_trans zCq (zBv HV8.out ht6 HJ.out)));have HA1:=zh (fun(wq:World) (hb:Below w.heap.size w wq)=>IH.out i (i+1+m9) wq (by have:=HM.out;have:=HIJ.out;omega) (by have:=HJ.out;omega) (HR0.out.keep hb) (HT0.out.keep hb));have HA2:=zh (fun(wq:World) (hb:Below w.heap.size w wq)=>IH.out (i+1+m9) j wq (by have:=HM.out;have:=HIJ.out;omega) HJ.out (HR0.out.keep hb) (HT0.out.keep hb));have HR7:=zh (HR0.out.keep HB.out);go_upto_region 35 with(fail)
   refine zHw (X:=GA) (by as_aux_lemma=>kernel_rfl) [true,false,false,false,false,false,false,false,false,false,false,false,false,false,false,false,false,false,false,false,false,false,false,false] _ (fun gx=>[u9,qI (↑n),qI (↑i),.slice (some ad2) rs.length cap,.slice (some ad2) rs.length cap,.slice (some ad) ts.length cT,qI (↑i),qI (↑(i+1+m9)),gx.a,.pointer (some ⟨g0,4,none⟩),qI u.left,gx.b,.slice (some ad2) rs.length cap,.slice (some ad2) rs.length cap,.slice (some ad) ts.length cT,qI (↑(i+1+m9)),qI (↑j),gx.c,.pointer (some ⟨g0,5,none⟩),qI u.right,gx.d,gx.e,gx.f,gx.f]) [true,true,true,true,true,true,true,true,true,true,true,true,true,true,true,true,true,true,true,true,true,true,true,true] [8,11,17,20,21,22] (InvA w wr u9 (allR rs ts i (i+1+m9)) (zA5 rs (allR rs ts i (i+1+m9)) u.left) (allR rs ts (i+1+m9) j) (zA5 rs (allR rs ts (i+1+m9) j) u.right) (zAm n i (zA5 rs (allR rs ts i (i+1+m9)) u.left) (zA5 rs (allR rs ts (i+1+m9) j) u.right)) (preR rs ts i j n++(List.range' (i+1) m9).flatMap (juxG rs ts i j n u))) ⟨.nilFunc,.nilFunc,.nilFunc,.nilFunc,.nilFunc,.nilFunc⟩ (by as_aux_lemma=>kernel_rfl) (fun gx=>by simp[fin,zBz,zAk,List.range,List.range.loop,Act.put];rfl) (fun _=>by as_aux_lemma=>kernel_rfl) (by as_aux_lemma=>kernel_rfl) InvA.start ?_ ?_
   ·refine⟨jS,jS,jS,jS,jS,jS,jS,jS,fun L gx wq hL hb ha hI=>?_,fun L gx wq hL hb ha hI=>?_,fun L gx wq hL hb ha hI=>?_,fun L gx wq hL hb ha hI=>?_,jS,jS,jS,jS,jS,fun L gx wq hL hb ha hI=>?_,fun L gx wq hL hb ha hI=>?_,fun L gx wq hL hb ha hI=>?_,fun L gx wq hL hb ha hI=>?_,fun L gx wq hL hb ha hI=>?_,fun L gx wq hL hb ha hI=>?_,jS,trivial⟩
    ·have e5:L 22=false:=ha 22 (by as_aux_lemma=>kernel_rfl);have hX:=hI.below (congrArg some e5);refine jc 113 (#[.slice (some ad2) rs.length cap,.slice (some ad) ts.length cT,qI (↑i),qI ((i+1+m9:Nat):Int)]) wq (by as_aux_lemma=>kernel_rfl) ((HA1.out wq (HB.out.trans (hX.mono HB.out.size))).mono ?_);rintro e wa ⟨v,rfl,ho,hb2⟩;exact⟨_,rfl,{gx with a:=v},rfl,(by refine zAg.of_same ⟨?_,?_,?_,?_,?_,?_,?_,?_,?_,?_,?_,?_,?_,?_,?_,?_,?_,?_,?_,?_,?_,?_,?_,?_,trivial⟩<;>first|exact jK|exact .inl rfl|exact .inr (.inl (by kernel_rfl))),InvA.s0 e5 hI hb2 ho⟩
    ·exact jq (.pointer (some ⟨g0,4,none⟩)) wq (by simp[go_sem,evAct]) rfl hI
    ·have e5:L 22=false:=ha 22 (by as_aux_lemma=>kernel_rfl);have hX:=hI.below (congrArg some e5);have cu:=(keep hX HK.out).cell 4;exact jq (qI u.left) wq (by simp[go_sem,evAct,cu]) rfl hI
    ·have e5:L 22=false:=ha 22 (by as_aux_lemma=>kernel_rfl);have hX:=hI.below (congrArg some e5);have ex:L 8=true:=hb 8 (by as_aux_lemma=>kernel_rfl);obtain⟨ga,gb,gc,gd,ge,gf⟩:=gx;obtain⟨A1,c1,e1,h1⟩:=InvA.list ((hI.1 (congrArg some e5)).2.1 (congrArg some ex)) (fun b h=>h);obtain rfl:ga=_:=e1;refine jc 134 (#[.slice (some ad2) rs.length cap,.slice A1 (allR rs ts i (i+1+m9)).length c1,qI u.left]) wq (by as_aux_lemma=>kernel_rfl) ((zDy (fun b=>wr.heap.size<=b) (some ad2) A1 cap c1 rs (allR rs ts i (i+1+m9)) u.left wq (HR7.out.keep hX) h1 (fun x hx=>(zFa hx).2) HL1.out).mono ?_);rintro e wa ⟨v,rfl,ho,hb2⟩;exact⟨_,rfl,⟨_,v,gc,gd,ge,gf⟩,rfl,(by refine zAg.of_same ⟨?_,?_,?_,?_,?_,?_,?_,?_,?_,?_,?_,?_,?_,?_,?_,?_,?_,?_,?_,?_,?_,?_,?_,?_,trivial⟩<;>first|exact jK|exact .inl rfl|exact .inr (.inl (by kernel_rfl))),InvA.s1 e5 hI hb2 ho⟩
    ·have e5:L 22=false:=ha 22 (by as_aux_lemma=>kernel_rfl);have hX:=hI.below (congrArg some e5);refine jc 113 (#[.slice (some ad2) rs.length cap,.slice (some ad) ts.length cT,qI ((i+1+m9:Nat):Int),qI (↑j)]) wq (by as_aux_lemma=>kernel_rfl) ((HA2.out wq (HB.out.trans (hX.mono HB.out.size))).mono ?_);rintro e wa ⟨v,rfl,ho,hb2⟩;exact⟨_,rfl,{gx with c:=v},rfl,(by refine zAg.of_same ⟨?_,?_,?_,?_,?_,?_,?_,?_,?_,?_,?_,?_,?_,?_,?_,?_,?_,?_,?_,?_,?_,?_,?_,?_,trivial⟩<;>first|exact jK|exact .inl rfl|exact .inr (.inl (by kernel_rfl))),InvA.s2 e5 hI hb2 ho⟩
    ·exact jq (.pointer (some ⟨g0,5,none⟩)) wq (by simp[go_sem,evAct]) rfl hI
    ·have e5:L 22=false:=ha 22 (by as_aux_lemma=>kernel_rfl);have hX:=hI.below (congrArg some e5);have cu:=(keep hX HK.out).cell 5;exact jq (qI u.right) wq (by simp[go_sem,evAct,cu]) rfl hI
    ·have e5:L 22=false:=ha 22 (by as_aux_lemma=>kernel_rfl);have hX:=hI.below (congrArg some e5);have ex:L 17=true:=hb 17 (by as_aux_lemma=>kernel_rfl);obtain⟨ga,gb,gc,gd,ge,gf⟩:=gx;obtain⟨A1,c1,e1,h1⟩:=InvA.list ((hI.1 (congrArg some e5)).2.2.2.1 (congrArg some ex)) (fun b h=>h);obtain rfl:gc=_:=e1;refine jc 134 (#[.slice (some ad2) rs.length cap,.slice A1 (allR rs ts (i+1+m9) j).length c1,qI u.right]) wq (by as_aux_lemma=>kernel_rfl) ((zDy (fun b=>wr.heap.size<=b) (some ad2) A1 cap c1 rs (allR rs ts (i+1+m9) j) u.right wq (HR7.out.keep hX) h1 (fun x hx=>(zFa hx).2) HL3.out).mono ?_);rintro e wa ⟨v,rfl,ho,hb2⟩;exact⟨_,rfl,⟨ga,gb,_,v,ge,gf⟩,rfl,(by refine zAg.of_same ⟨?_,?_,?_,?_,?_,?_,?_,?_,?_,?_,?_,?_,?_,?_,?_,?_,?_,?_,?_,?_,?_,?_,?_,?_,trivial⟩<;>first|exact jK|exact .inl rfl|exact .inr (.inl (by kernel_rfl))),InvA.s3 e5 hI hb2 ho⟩
    ·have e5:L 22=false:=ha 22 (by as_aux_lemma=>kernel_rfl);have hX:=hI.below (congrArg some e5);have ex:L 11=true:=hb 11 (by as_aux_lemma=>kernel_rfl);have ey:L 20=true:=hb 20 (by as_aux_lemma=>kernel_rfl);obtain⟨ga,gb,gc,gd,ge,gf⟩:=gx;obtain⟨A1,c1,e1,h1⟩:=InvA.list ((hI.1 (congrArg some e5)).2.2.1 (congrArg some ex)) (fun b h=>h);obtain⟨A2,c2,e2,h2⟩:=InvA.list ((hI.1 (congrArg some e5)).2.2.2.2.1 (congrArg some ey)) (fun b h=>h);obtain rfl:gb=_:=e1;obtain rfl:gd=_:=e2;refine jc 133 (#[qI (↑n),qI (↑i),.slice A1 (zA5 rs (allR rs ts i (i+1+m9)) u.left).length c1,.slice A2 (zA5 rs (allR rs ts (i+1+m9) j) u.right).length c2]) wq (by as_aux_lemma=>kernel_rfl) ((zNk (fun b=>wr.heap.size<=b) A1 A2 c1 c2 n i (zA5 rs (allR rs ts i (i+1+m9)) u.left) (zA5 rs (allR rs ts (i+1+m9) j) u.right) wq h1 h2 HPL.out HPM.out).mono ?_);rintro e wa ⟨v,rfl,ho,hb2⟩;exact⟨_,rfl,⟨ga,_,gc,_,v,gf⟩,rfl,(by refine zAg.of_same ⟨?_,?_,?_,?_,?_,?_,?_,?_,?_,?_,?_,?_,?_,?_,?_,?_,?_,?_,?_,?_,?_,?_,?_,?_,trivial⟩<;>first|exact jK|exact .inl rfl|exact .inr (.inl (by kernel_rfl))),InvA.s4 e5 hI hb2 ho⟩
    ·have e5:L 22=false:=hL;have x0:L 8=true:=hb 8 (by as_aux_lemma=>kernel_rfl);have x1:L 11=true:=hb 11 (by as_aux_lemma=>kernel_rfl);have x2:L 17=true:=hb 17 (by as_aux_lemma=>kernel_rfl);have x3:L 20=true:=hb 20 (by as_aux_lemma=>kernel_rfl);have x4:L 21=true:=hb 21 (by as_aux_lemma=>kernel_rfl);simp only[List.map,e5,x0,x1,x2,x3,x4] at hI⊢;refine InvA.append (.tmp 172) (.tmp 193) rfl hi hz0 hz1 hz2 (by as_aux_lemma=>kernel_rfl) (by as_aux_lemma=>kernel_rfl) hI HO.out HB.out HLN.out ?_;intro v' w' h9;exact⟨{gx with f:=v'},rfl,(by refine zAg.of_same ⟨?_,?_,?_,?_,?_,?_,?_,?_,?_,?_,?_,?_,?_,?_,?_,?_,?_,?_,?_,?_,?_,?_,?_,?_,trivial⟩<;>first|exact jK|exact .inl rfl|exact .inr (.inl (by kernel_rfl))),h9⟩
   ·intro gx wq hI;have hI:=hI.2 rfl;have HO:=zh hI.1;have HB:=zh hI.2.1;have HKF:=zh (hI.2.2 _ _ _ HK.out HF.out);have HK:=zh HKF.out.1;have HF:=zh HKF.out.2;clear hI HKF HA1 HA2;rw[<-HPT.out] at HO;generalize gx.f=v9 at*;go_wp2;go_roundw
    case rel=>exact⟨m9+1,by omega,by go_num,HO,HB,HK,HF⟩
    case measure=>simp[intOf];omega
  ·obtain rfl:m9=j -(i+1):=by omega
   have j5:¬((i+1+(j -(i+1)):Nat):Int)<(j:Int):=by have:=HIJ.out;omega
   have HE:=zh (show preR rs ts i j (n+1)=preR rs ts i j n++(List.range' (i+1) (j -(i+1))).flatMap (juxG rs ts i j n u) by rw[HPN.out,HN.out]);rw[<-HE.out] at HO;go_wp2;go_roundw
   case rel=>exact⟨n+1,by omega,by go_num,HO,HB⟩
   case measure=>simp[intOf];omega
theorem zRi (A T:Option Addr)(cap cT:Nat)(rs:List Rul)(ts:List ByteArray)(HV8:Hid (zAd rs=true))(hr8:rs.length<=64)(ht6:ts.length<=7):∀m:Nat,AllC A T cap cT rs ts m
 |0=>zVt A T cap cT rs ts
 |m+1=>zO2.out (fun _=>zEn.out (fun _=>yCr) (fun _=>yCy) (fun _=>yD3) (fun _=>yCt)) A T cap cT rs ts HV8 hr8 ht6 m (zRi A T cap cT rs ts HV8 hr8 ht6 m)
theorem zRy (A T:Option Addr)(cap cT:Nat)(rs:List Rul)(ts:List ByteArray)(w:World)(hR:zAc w A rs)(hT:zBp w T ts)(hn:rs.length<=1000000)(hm:ts.length<=1000000):Calls Tryz.prog 31 #[.slice A rs.length cap,.slice T ts.length cT] w fun e w'=>e= .returned (.bool (zAd rs&&zD5 ts))/\Below w.heap.size w w':=by
 have HR:=zh hR;have HT:=zh hT;clear hR hT;go_enter Tryz.func31,Tryz.ntmps31;go_wp2_with fail;refine(zB8 A cap rs _ HR.out hn).mono ?_;rintro e w1 ⟨rfl,hb⟩;have HB:=zh hb;have HT:=zh (HT.out.keep hb);clear hb;cases q:zAd rs
 ·have HQ:=zh (show(zAd rs&&zD5 ts)=false by rw[q];rfl);clear q;go_wp2;go_ret;exact⟨by rw[HQ.out];rfl,HB.out⟩
 ·have HQ:=zh (show(zAd rs&&zD5 ts)=zD5 ts by rw[q];rfl);clear q;go_wp2_with fail;refine(zPe T cT ts _ HT.out hm).mono ?_;rintro e w2 ⟨rfl,hb⟩;have HB:=jt HB hb;clear hb;go_wp2;go_ret;exact⟨by rw[HQ.out];rfl,HB.out⟩
def allL (rs:List Rul)(ts:List ByteArray):List Rd:=if zAd rs&&zD5 ts then allR rs ts 0 ts.length else[]
theorem zUu {rs:List Rul}{ts:List ByteArray}:zCv rs ts=(allL rs ts).take 2:=by
 unfold zCv allL
 split<;>simp
def yDm (rs:List Rul)(ts:List ByteArray)(w:World)(e:Ending)(w':World):Prop:=∃A cap,e= .returned (.tuple #[.slice A (allL rs ts).length cap,qI (okI rs ts)])/\(allL rs ts).length<=cap/\cap<=9223372036854775807/\zAp (fun b=>w.heap.size<=b) w' A (allL rs ts)/\Below w.heap.size w w'
theorem zYl (A T:Option Addr)(cap cT:Nat)(rs:List Rul)(ts:List ByteArray)(w:World)(hR:zAc w A rs)(hT:zBp w T ts)(hn:rs.length<=1000)(hm:ts.length<=7):Calls Tryz.prog 86 #[.slice A rs.length cap,.slice T ts.length cT] w (yDm rs ts w):=by
 have HR:=zh hR;have HT:=zh hT;clear hR hT;go_enter Tryz.func86,Tryz.ntmps86;go_wp2_with fail;refine(zRy A T cap cT rs ts _ HR.out HT.out (by omega) (by omega)).mono ?_;rintro e w1 ⟨rfl,hb⟩;have HB:=zh hb;have HT:=zh (HT.out.keep hb);have HR:=zh (HR.out.keep hb);clear hb;cases q:(zAd rs&&zD5 ts)
 ·have HA:=zh (show allL rs ts=[] by unfold allL;rw[q];rfl);have HO:=zh (show okI rs ts=1 by unfold okI;rw[q];rfl);clear q;go_wp2_with fail
  go_returns
  exact⟨none,0,by rw[HA.out,HO.out];rfl,by rw[HA.out];exact Nat.le_refl _,by omega,by rw[HA.out];exact zAp.nil _ _ _,HB.out⟩
 ·have HA:=zh (show allL rs ts=allR rs ts 0 ts.length by unfold allL;rw[q];rfl);have HO:=zh (show okI rs ts=0 by unfold okI;rw[q];rfl);have HC:=zh (zRi A T cap cT rs ts (zh (by rw[Bool.and_eq_true] at q;exact q.1)) (by rw[Bool.and_eq_true] at q;have:=q.1;unfold zAd at this;rw[Bool.and_eq_true] at this;exact of_decide_eq_true this.1) hm ts.length 0 ts.length w1 (by omega) (Nat.le_refl _) HR.out HT.out);clear q;go_wp2_with fail;refine HC.out.mono ?_;rintro e w2 ⟨v,rfl,ho,hb⟩;have HB9:=jt HB hb;have HSZ:=zh HB.out.size;obtain⟨A1,c1,rfl,h1,h2,h3⟩:=AppR.form ho fun b h=>h
  have H3:=zh h3;have H12:=zh (And.intro h1 h2);clear h1 h2;clear ho hb h3;go_wp2_with fail
  go_returns
  exact⟨A1,c1,by rw[HA.out,HO.out];rfl,by rw[HA.out];exact H12.out.1,H12.out.2,by rw[HA.out];exact H3.out.any fun b _ h=>Nat.le_trans HSZ.out h,HB9.out⟩
end Ch
namespace El
open At Go.RowKit
mutual
def zDv:Tre->Int->Int
 | .mk k s _ ks,n=>if 300<s.size\/(k=1/\7<ks.length) then -1 else zBo ks (n -1)
def zBo:List Tre->Int->Int
 |[],n=>n
 |t::ts,n=>if 0<=n then zBo ts (zDv t n) else n
end
theorem zJy (ts:List Tre){n:Int}(h:n<0):zBo ts n=n:=by
 cases ts with
 |nil=>rw[zBo]
 |cons x r=>rw[zBo,if_neg (by omega)]
theorem zJo:∀(a b:List Tre) (n:Int),zBo (a++b) n=zBo b (zBo a n)
 |[],b,n=>by rw[List.nil_append,show zBo [] n=n by rw[zBo]]
 |x::a,b,n=>by
  rw[List.cons_append,zBo,zBo]
  split
  ·exact zJo a b _
  ·rw[zJy b (by omega)]
theorem zLp {ks:List Tre}{k:Nat}{x:Tre}(h:ks[k]?=some x)(n:Int)(h0:0<=zBo (ks.take k) n):zBo (ks.take (k+1)) n=zDv x (zBo (ks.take k) n):=by
 rw[List.take_add_one,h,Option.toList,zJo,zBo,if_pos h0,zBo]
theorem zM0 (ks:List Tre)(k:Nat)(n:Int)(h0:zBo (ks.take k) n<0):zBo ks n=zBo (ks.take k) n:=by
 conv=>lhs;rw[<-List.take_append_drop k ks]
 rw[zJo,zJy _ h0]
mutual
theorem zS9:∀(t:Tre) (n:Int),0<=n->zDv t n<=n -1∧-1<=zDv t n/\(0<=zDv t n->zDv t n=n -zA7 t)
 | .mk k s c ks,n,h0=>by
  rw[zDv,zA7]
  split
  ·exact⟨by omega,by omega,fun h=>by omega⟩
  ·obtain⟨h1,h2,h3⟩:=zG5 ks (n -1) (by omega);exact⟨h1,h2,fun h=>by have:=h3 h;omega⟩
theorem zG5:∀(ts:List Tre) (n:Int),-1<=n->zBo ts n<=n∧-1<=zBo ts n/\(0<=zBo ts n->zBo ts n=n -zA4 ts)
 |[],n,h0=>by rw[zBo,zA4];exact⟨Int.le_refl _,h0,fun _=>by simp⟩
 |t::ts,n,h0=>by
  rw[zBo,zA4]
  split
  ·next hn=>
   obtain⟨h1,h2,h3⟩:=zS9 t n hn;obtain⟨g1,g2,g3⟩:=zG5 ts (zDv t n) h2;refine⟨by omega,g2,fun h=>?_⟩;have:=g3 h;have:=h3 (by omega);omega
  ·exact⟨Int.le_refl _,h0,fun h=>by omega⟩
end
def zNs (t:Tre)(n:Int):Bool:=decide (0<=zDv t n)
mutual
def zEr:Tre->Bool
 | .mk k _ _ ks=>(!decide (k=1)||decide (ks.length<=7))&&zH0 ks
def zH0:List Tre->Bool
 |[]=>true
 |t::ts=>zEr t&&zH0 ts
end
mutual
theorem zOz:∀(t:Tre) (n:Int),0<=zDv t n->zEr t=true
 | .mk k s c ks,n,h=>by
  rw[zDv] at h
  split at h
  ·omega
  ·next hn=>
   rw[zEr,zL2 ks _ h,Bool.and_true]
   by_cases hk:k=1
   ·rw[decide_eq_true (p:=ks.length<=7) (by omega)];simp
   ·rw[decide_eq_false hk];rfl
theorem zL2:∀(ts:List Tre) (n:Int),0<=zBo ts n->zH0 ts=true
 |[],n,_=>by rw[zH0]
 |t::ts,n,h=>by
  rw[zBo] at h
  split at h
  ·next hn=>
   have h1:=zL2 ts _ h;have h2:0<=zDv t n:=by
    rcases Int.lt_or_le (zDv t n) 0 with h3|h3
    ·rw[zJy ts h3] at h;omega
    ·exact h3
   rw[zH0,zOz t n h2,h1];rfl
  ·omega
end
theorem zRr {t:Tre}{n:Int}(hn:0<=n)(h:zNs t n=true):(zA7 t:Int)<=n/\zEr t=true:=by
 unfold zNs at h;have h1:=of_decide_eq_true h;have h2:=(zS9 t n hn).2.2 h1;exact⟨by omega,zOz t n h1⟩
theorem zZi:∀(m:Nat) (t:Tre) (c:Array Value) (n:Int) (w:World),zA7 t<m->zAv w t c->0<=n->n<=1000000->Calls Tryz.prog 17 #[.agg c,qI n] w fun e w'=>e= .returned (qI (zDv t n))/\Below w.heap.size w w':=by
 intro m
 induction m with
 |zero=>intro t c n w h;omega
 |succ m ih=>
  intro t c n w hm hN hn0 hn1;have IH:=zh ih;clear ih;obtain⟨k,s,cols,ks⟩:=t;obtain⟨A2,cap2,rfl,hs,hl,hc,hk⟩:=hN.form;dsimp only[qC,Tre.kind,Tre.text,Tre.cols,Tre.kids] at hs hl hc hk⊢;have HK:=zh hk;have HM:=zh hm;have K0:=zh (Blk.new w 25 #[qI k,.string s,qI cols,.slice A2 ks.length cap2]);have H0:=zh (zA0 w (.cells #[qI k,.string s,qI cols,.slice A2 ks.length cap2] 25));have HK:=zh (HK.out.keep H0.out);clear hk hN hm;go_enter Tryz.func17,Tryz.ntmps17;go_upto_region 1 with(fail)
  generalize w.alloc (.cells #[qI k,.string s,qI cols,.slice A2 ks.length cap2] 25)=w1 at*;have k0:=K0.out.cell 0;have k1:=K0.out.cell 1;have k3:=K0.out.cell 3
  by_cases hz:300<s.size
  ·have HQ:=zh (show zDv (.mk k s cols ks) n= -1 by rw[zDv,if_pos (.inl hz)]);have q1:(300:Int)<(s.size:Int):=by omega
   clear hz;go_wp2;go_ret;exact⟨At.zAj (by rw[HQ.out]),H0.out⟩
  have q1:¬((300:Int)<(s.size:Int)):=by omega
  by_cases hk1:k=1
  ·have qk:(k==1)=true:=beq_iff_eq.2 hk1
   by_cases h7:7<ks.length
   ·have HQ:=zh (show zDv (.mk k s cols ks) n= -1 by rw[zDv,if_pos (.inr ⟨hk1,h7⟩)]);have q2:(7:Int)<(ks.length:Int):=by omega
    clear hz hk1 h7;go_wp2;go_ret;exact⟨At.zAj (by rw[HQ.out]),H0.out⟩
   ·have HQ:=zh (show zDv (.mk k s cols ks) n=zBo ks (n -1) by rw[zDv,if_neg (by omega)]);have q2:¬((7:Int)<(ks.length:Int)):=by omega
    clear hz hk1 h7;go_wp2_with fail
    go_loopw [1,5] (fun v i wr=>∃(j:Nat),j<=ks.length/\i=qI j/\v=qI (zBo (ks.take j) (n -1))/\Hid (Blk wr w.heap.size 25 #[qI k,.string s,qI cols,.slice A2 ks.length cap2])/\Hid (zAo wr A2 ks)/\Hid (Below w.heap.size w wr)) (fun _ i _=>ks.length -(intOf i).toNat)
    case atStart=>exact⟨0,by omega,rfl,by rw[List.take_zero,zBo],K0,HK,H0⟩
    case round=>
     clear K0 HK H0 k0 k1 k3;obtain⟨j,hj,rfl,rfl,K0,HK,H0⟩:=hrel;have c0:=K0.out.cell 3;have hlow:=(zG5 (ks.take j) (n -1) (by omega)).2.1;have hup:=(zG5 (ks.take j) (n -1) (by omega)).1
     by_cases hlt:j<ks.length
     ·by_cases hz:0<=zBo (ks.take j) (n -1)
      ·obtain⟨x,hx⟩:∃x,ks[j]?=some x:=⟨_,gE hlt⟩
       obtain⟨ad,A3,cap3,rfl,hadl,hs3,hl3,hc3,hk3,hN3,d0,d1,d2,d3⟩:=HK.out.at_ hx;have HN3:=zh hN3;have HS:=zh (zLp hx (n -1) hz);have HCU:Hid (zA7 x<m):=by
        have h1:=HM.out;have h2:=zDe hx;show _<_;rw[zA7] at h1;omega
       clear hx hk3 hN3;generalize zBo (ks.take j) (n -1)=r at*;go_wp2_with fail;refine(IH.out x _ r wr HCU.out HN3.out hz (by omega)).mono ?_;rintro e w2 ⟨rfl,hb⟩;have K0:=kp hb K0;have HK:=zh (HK.out.keep hb);have H0:=jt H0 hb;clear hb c0 d0 d1 d2 d3;go_wp2;go_roundw
       case rel=>exact⟨j+1,by omega,by go_num,by rw[HS.out],K0,HK,H0⟩
       case measure=>simp[intOf];omega
      ·have HS:=zh (zM0 ks j (n -1) (by omega));generalize zBo (ks.take j) (n -1)=r at*;go_wp2;go_ret;exact⟨At.zAj (by rw[HQ.out,HS.out]),H0.out⟩
     ·obtain rfl:j=ks.length:=by omega
      have HT:=zh (show ks.take ks.length=ks from List.take_length);rw[HT.out] at*;generalize zBo ks (n -1)=r at*;go_wp2;go_ret;exact⟨At.zAj (by rw[HQ.out]),H0.out⟩
  ·have qk:(k==1)=false:=bn hk1;have HQ:=zh (show zDv (.mk k s cols ks) n=zBo ks (n -1) by rw[zDv,if_neg (by omega)]);clear hz hk1;go_wp2_with fail
   go_loopw [1,5] (fun v i wr=>∃(j:Nat),j<=ks.length/\i=qI j/\v=qI (zBo (ks.take j) (n -1))/\Hid (Blk wr w.heap.size 25 #[qI k,.string s,qI cols,.slice A2 ks.length cap2])/\Hid (zAo wr A2 ks)/\Hid (Below w.heap.size w wr)) (fun _ i _=>ks.length -(intOf i).toNat)
   case atStart=>exact⟨0,by omega,rfl,by rw[List.take_zero,zBo],K0,HK,H0⟩
   case round=>
    clear K0 HK H0 k0 k1 k3;obtain⟨j,hj,rfl,rfl,K0,HK,H0⟩:=hrel;have c0:=K0.out.cell 3;have hlow:=(zG5 (ks.take j) (n -1) (by omega)).2.1;have hup:=(zG5 (ks.take j) (n -1) (by omega)).1
    by_cases hlt:j<ks.length
    ·by_cases hz:0<=zBo (ks.take j) (n -1)
     ·obtain⟨x,hx⟩:∃x,ks[j]?=some x:=⟨_,gE hlt⟩
      obtain⟨ad,A3,cap3,rfl,hadl,hs3,hl3,hc3,hk3,hN3,d0,d1,d2,d3⟩:=HK.out.at_ hx;have HN3:=zh hN3;have HS:=zh (zLp hx (n -1) hz);have HCU:Hid (zA7 x<m):=by
       have h1:=HM.out;have h2:=zDe hx;show _<_;rw[zA7] at h1;omega
      clear hx hk3 hN3;generalize zBo (ks.take j) (n -1)=r at*;go_wp2_with fail;refine(IH.out x _ r wr HCU.out HN3.out hz (by omega)).mono ?_;rintro e w2 ⟨rfl,hb⟩;have K0:=kp hb K0;have HK:=zh (HK.out.keep hb);have H0:=jt H0 hb;clear hb c0 d0 d1 d2 d3;go_wp2;go_roundw
      case rel=>exact⟨j+1,by omega,by go_num,by rw[HS.out],K0,HK,H0⟩
      case measure=>simp[intOf];omega
     ·have HS:=zh (zM0 ks j (n -1) (by omega));generalize zBo (ks.take j) (n -1)=r at*;go_wp2;go_ret;exact⟨At.zAj (by rw[HQ.out,HS.out]),H0.out⟩
    ·obtain rfl:j=ks.length:=by omega
     have HT:=zh (show ks.take ks.length=ks from List.take_length);rw[HT.out] at*;generalize zBo ks (n -1)=r at*;go_wp2;go_ret;exact⟨At.zAj (by rw[HQ.out]),H0.out⟩
theorem zWz (t:Tre)(c:Array Value)(n:Int)(w:World)(hN:zAv w t c)(hn0:0<=n)(hn:n<=1000000):Calls Tryz.prog 6 #[.agg c,qI n] w fun e w'=>e= .returned (.bool (zNs t n))/\Below w.heap.size w w':=by
 obtain⟨k,s,cols,ks⟩:=t;obtain⟨A2,cap2,rfl,hs,hl,hc,hk⟩:=hN.form;dsimp only[qC,Tre.kind,Tre.text,Tre.cols,Tre.kids] at hs hl hc hk⊢;have HQ:=zh (show zNs (.mk k s cols ks) n=decide (0<=zDv (.mk k s cols ks) n) from rfl);have K0:=zh (Blk.new w 25 #[qI k,.string s,qI cols,.slice A2 ks.length cap2]);have H0:=zh (zA0 w (.cells #[qI k,.string s,qI cols,.slice A2 ks.length cap2] 25));have HN:=zh (hN.keep H0.out);clear hk hN;go_enter Tryz.func6,Tryz.ntmps6;go_wp2_with fail;generalize w.alloc (.cells #[qI k,.string s,qI cols,.slice A2 ks.length cap2] 25)=w1 at*;refine(zZi (zA7 (.mk k s cols ks)+1) _ _ n w1 (by omega) HN.out hn0 hn).mono ?_;rintro e w2 ⟨rfl,hb⟩;have HB:=jt H0 hb;clear hb;generalize zDv (.mk k s cols ks) n=r at*
 by_cases hr:0<=r
 ·have HR:=zh (decide_eq_true hr);go_wp2;go_ret;exact⟨zA1 (by rw[HQ.out,HR.out]),HB.out⟩
 ·have HR:=zh (decide_eq_false hr);go_wp2;go_ret;exact⟨zA1 (by rw[HQ.out,HR.out]),HB.out⟩
end El
namespace El
open At Ch Sp Sy Go.RowKit
variable{rs:List Rul}{f k i s B:Nat}{items its:List Tre}{path:List Int}{ts:List ByteArray}{x:Rd}{n:Tre}{op pre:Bool}{xs:List (List Trm)}{pb:Nat->Bool}{w w':World}
theorem zHn (rs:List Rul)(n:Tre):varN rs n true=zDu rs n/\varN rs n false=none:=by
 constructor
 ·unfold varN zDu
  by_cases h:n.kind=7\/n.kind=9
  ·rw[if_pos ⟨rfl,h⟩,if_pos h];cases n.kids with
   |nil=>rfl
   |cons a r=>cases r<;>rfl
  ·rw[if_neg (fun e=>h e.2),if_neg h]
 ·unfold varN;rw[if_neg (fun e=>by cases e.1)]
theorem zV1 (h:items.drop k=[]):zAb rs (f+1) items path k= .bad 15 (path++[(k:Int)]):=by
 rw[zAb];unfold zHc;rw[if_pos (List.drop_eq_nil_iff.1 h)]
theorem zWf (h0:items.drop k≠[])(h:zB2 rs (items.drop k)= .inr i):zAb rs (f+1) items path k= .bad 15 (path++[((k+i:Nat):Int)]):=by
 rw[zAb];unfold zHc;rw[if_neg (fun e=>h0 (List.drop_eq_nil_iff.2 e)),h]
theorem zUq (h0:items.drop k≠[])(h:zB2 rs (items.drop k)= .inl ts)(ha:allL rs ts=[]):zAb rs (f+1) items path k= .bad 15 (path++[(k:Int)]):=by
 rw[zAb];unfold zHc;rw[if_neg (fun e=>h0 (List.drop_eq_nil_iff.2 e)),h];dsimp only;rw[show zFg rs ts=[] from ha]
theorem zZe {y:Rd}{zs:List Rd}(h0:items.drop k≠[])(h:zB2 rs (items.drop k)= .inl ts)(ha:allL rs ts=x::y::zs):zAb rs (f+1) items path k= .bad 14 (path++[(k:Int)]):=by
 rw[zAb];unfold zHc;rw[if_neg (fun e=>h0 (List.drop_eq_nil_iff.2 e)),h];dsimp only;rw[show zFg rs ts=x::y::zs from ha]
theorem zXd (h:x∈allL rs ts):zAd rs=true/\x∈allR rs ts 0 ts.length:=by
 unfold allL at h
 split at h
 ·next hc=>
  rw[Bool.and_eq_true] at hc;exact⟨hc.1,h⟩
 ·cases h
theorem zX8 (h0:items.drop k≠[])(h:zB2 rs (items.drop k)= .inl ts)(ha:allL rs ts=[x])(hk:∀n∈items.drop k,kindOk n):
  zAb rs (f+1) items path k=(zBr rs (zAb rs f) path (fun i=>decide ((i:Int)∈pfxR rs x)) k (items.drop k) ts 0).then_ fun xs=>.ok (bldR rs (items.drop k) xs x ts.length):=by
 rw[zAb];unfold zHc;rw[if_neg (fun e=>h0 (List.drop_eq_nil_iff.2 e)),h];dsimp only;rw[show zFg rs ts=[x] from ha];dsimp only;have hx:=zXd (rs:=rs) (ts:=ts) (x:=x) (by rw[ha];exact List.mem_cons_self);exact zZ6 hx.1 h hx.2 hk
theorem yBd (h:zAt n=true):kindOk n:=by
 have hk:=(zEb h).2;unfold zBu at hk;unfold kindOk;refine⟨fun e=>?_,fun e=>?_⟩
 ·rw[if_neg (show ¬n.kind=12 by omega),Bool.and_eq_true,if_neg (show ¬n.kind=1 by omega),if_pos e] at hk;exact List.length_eq_zero_iff.1 (of_decide_eq_true hk.2)
 ·rw[if_neg (show ¬n.kind=12 by omega),Bool.and_eq_true,if_neg (show ¬n.kind=1 by omega),if_neg (show ¬(n.kind=2\/n.kind=3\/n.kind=4) by omega),if_pos (.inr (.inl e))] at hk;exact of_decide_eq_true hk.2
def sltR (rs:List Rul)(M:List Tre->List Int->Nat->Mea Trm)(n:Tre)(path:List Int)(op pre:Bool)(s:Nat):Mea (List Trm):=
 if op=true then(if s=0 then zAn M path n.kids.tail 1 (if(varN rs n pre).isSome then 2 else 0) else zAn M path (n.kids.drop s) s (if s=1/\(varN rs n pre).isSome=true then 2 else 0))
 else zF6 M n path s
def skR (n:Tre)(op:Bool)(s:Nat):Bool:=(op&&decide (s=0))||zCm n s
def begR (rs:List Rul)(n:Tre)(op pre:Bool)(s:Nat):Nat:=if op=true/\s=1/\(varN rs n pre).isSome=true then 2 else 0
theorem zTl (rs:List Rul)(M:List Tre->List Int->Nat->Mea Trm)(n:Tre)(path:List Int)(op pre:Bool):sltF rs M n path op pre=sltR rs M n path op pre 0:=by
 unfold sltF sltR;cases op with
 |true=>rw[if_pos rfl,if_pos rfl,if_pos rfl]
 |false=>
  rw[if_neg (by decide),if_neg (by decide)];unfold zF6 zCm;cases hn:n.kids with
  |nil=>simp[zAn]
  |cons d ks=>
   dsimp only;simp only[List.drop_succ_cons,List.drop_zero]
   by_cases h:n.kind=6/\d.kids.isEmpty=true
   ·rw[if_pos h,if_pos (by rw[decide_eq_true h.1,h.2];rfl)]
   ·rw[if_neg h,if_neg (by
     intro e;simp only[Bool.and_eq_true,decide_eq_true_eq] at e;exact h ⟨e.1,e.2.2⟩)]
theorem zWj (h:zCm n s=true):s=0:=by
 unfold zCm at h;simp only[Bool.and_eq_true,decide_eq_true_eq] at h;exact h.2.1
theorem zTw {M:List Tre->List Int->Nat->Mea Trm}(h:skR n op s=true):sltR rs M n path op pre s=sltR rs M n path op pre (s+1):=by
 unfold skR at h;rw[Bool.or_eq_true,Bool.and_eq_true,decide_eq_true_eq] at h;unfold sltR;cases op with
 |true=>
  have hs:s=0:=h.elim (fun h=>h.2) zWj;subst hs;rw[if_pos rfl,if_pos rfl,if_pos rfl,if_neg (show ¬0+1=0 by omega),List.drop_one];simp only[Nat.zero_add,true_and]
 |false=>
  rw[if_neg (by decide),if_neg (by decide)];exact zNm (h.elim (fun h=>by cases h.1) id)
theorem yCj {M:List Tre->List Int->Nat->Mea Trm}{d:Tre}(h:skR n op s=false)(hd:n.kids[s]?=some d):
  sltR rs M n path op pre s=(M d.kids (path++[(s:Int)]) (begR rs n op pre s)).then_ fun t=>(sltR rs M n path op pre (s+1)).then_ fun ts=>.ok (t::ts):=by
 unfold skR at h;rw[Bool.or_eq_false_iff] at h;unfold sltR begR;cases op with
 |true=>
  have hs:¬s=0:=by simpa using h.1
  rw[if_pos rfl,if_neg hs,zHx hd];simp only[true_and];rw[if_pos trivial,if_neg (show ¬s+1=0 by omega),if_neg (show ¬(s+1=1/\(varN rs n pre).isSome=true) from fun e=>hs (by omega))]
 |false=>
  rw[if_neg (show ¬(false=true) by decide),if_neg (show ¬(false=true/\s=1/\(varN rs n pre).isSome=true) from fun e=>by cases e.1),if_neg (show ¬(false=true) by decide)];exact zXi h.2 hd
theorem zZs {M:List Tre->List Int->Nat->Mea Trm}:sltR rs M n path op pre n.kids.length= .ok []:=by
 unfold sltR;cases op with
 |true=>
  rw[if_pos rfl]
  split
  ·next h=>rw[List.length_eq_zero_iff.1 h];simp[zAn]
  ·rw[List.drop_length,zAn]
 |false=>
  rw[if_neg (by decide)]
  by_cases h:n.kids=[]
  ·unfold zF6 zCm;rw[h];simp[zAn]
  ·exact rest_end h
def RSo (tot:Mea (List (List Trm)))(xs:List (List Trm))(rest:Mea (List (List Trm))):Prop:=tot=rest.then_ fun ys=>.ok (xs++ys)
theorem RSo.start (m:Mea (List (List Trm))):RSo m [] m:=by
 unfold RSo;cases m<;>rfl
theorem RSo.bad {tot:Mea (List (List Trm))}{xs:List (List Trm)}{m:Mea (List Trm)}{F:List Trm->Mea (List (List Trm))}{er:Int}{p:List Int}(h:RSo tot xs (m.then_ F))(hm:m= .bad er p):tot= .bad er p:=by
 unfold RSo at h;rw[h,hm];rfl
theorem RSo.next {tot:Mea (List (List Trm))}{m:Mea (List Trm)}{r:Mea (List (List Trm))}{t:List Trm}(h:RSo tot xs (m.then_ fun t=>r.then_ fun ts=>.ok (t::ts)))(hm:m= .ok t):RSo tot (xs++[t]) r:=by
 unfold RSo at*;rw[h,hm];cases r with
 |ok ts=>simp[Mea.then_]
 |bad e p=>rfl
theorem RSo.end {tot:Mea (List (List Trm))}(h:RSo tot xs (.ok [])):tot= .ok xs:=by
 unfold RSo at h;rw[h];simp[Mea.then_]
theorem zQf {M:List Tre->List Int->Nat->Mea Trm}{t:ByteArray}(hn:its[i]?=some n)(ht:ts[i]?=some t):
  zBr rs M path pb k (its.drop i) (ts.drop i) i=(sltF rs M n (path++[((k+i:Nat):Int)]) (!decide (t.data.toList=[35])) (pb i)).then_ fun p=>(zBr rs M path pb k (its.drop (i+1)) (ts.drop (i+1)) (i+1)).then_ fun ps=>.ok (p::ps):=by
 obtain⟨h1,rfl⟩:=List.getElem?_eq_some_iff.1 hn;obtain⟨h2,rfl⟩:=List.getElem?_eq_some_iff.1 ht;rw[List.drop_eq_getElem_cons h1,List.drop_eq_getElem_cons h2,zBr]
theorem zSe {M:List Tre->List Int->Nat->Mea Trm}(h:its.length<=i):zBr rs M path pb k (its.drop i) (ts.drop i) i= .ok []:=by
 rw[List.drop_eq_nil_iff.2 h];cases ts.drop i<;>simp[zBr]
inductive Amb (rs:List Rul):List Tre->List Int->Nat->List Int->List Rd->Prop
 |here (items:List Tre) (path:List Int) (k:Nat) (ts:List ByteArray) (x y:Rd) (zs:List Rd) (ht:zB2 rs (items.drop k)= .inl ts) (ha:allL rs ts=x::y::zs):Amb rs items path k (path++[(k:Int)]) [x,y]
 |there (items:List Tre) (path:List Int) (k i s b:Nat) (n d:Tre) (q:List Int) (rds:List Rd) (hn:(items.drop k)[i]?=some n) (hd:n.kids[s]?=some d) (h:Amb rs d.kids (path++[((k+i:Nat):Int),(s:Int)]) b q rds):Amb rs items path k q rds
def RFl (Q:List Rd->Prop)(ok:Nat->Prop)(w:World)(g:Nat)(e:Int)(p:List Int):Prop:=∃A c Ar cr rds,Blk w g 71 #[qI e,.slice A p.length c,.slice Ar rds.length cr]/\p.length<=c/\c<=9223372036854775807/\zAr w A p/\ok g/\(∀ad,A=some ad->0<p.length->ok ad.block)/\rds.length<=cr/\cr<=9223372036854775807/\zAp ok w Ar rds/\Q rds
theorem RFl.keep {Q:List Rd->Prop}{ok:Nat->Prop}{w w':World}{g:Nat}{e:Int}{p:List Int}(h:RFl Q ok w g e p)(hb:Below w.heap.size w w'):RFl Q ok w' g e p:=by
 obtain⟨A,c,Ar,cr,rds,h1,h2,h3,h4,h5,h6,h7,h8,h9,h10⟩:=h;exact⟨A,c,Ar,cr,rds,jL hb h1,h2,h3,h4.keep hb,h5,h6,h7,h8,h9.keep hb,h10⟩
theorem RFl.any {Q Q':List Rd->Prop}{ok ok':Nat->Prop}{w:World}{g:Nat}{e:Int}{p:List Int}(h:RFl Q ok w g e p)(hq:∀rds,Q rds->Q' rds)(hl:∀b,b<w.heap.size->ok b->ok' b):RFl Q' ok' w g e p:=by
 obtain⟨A,c,Ar,cr,rds,h1,h2,h3,h4,h5,h6,h7,h8,h9,h10⟩:=h;refine⟨A,c,Ar,cr,rds,h1,h2,h3,h4,hl _ h1.lt h5,fun ad ha hn=>?_,h7,h8,h9.any hl,hq _ h10⟩;obtain⟨ad',r3,r4,_⟩:=h4.2 hn;obtain rfl:ad=ad':=sj (ha.symm.trans r3);exact hl _ r4 (h6 ad ha hn)
theorem RFl.grown {Q:List Rd->Prop}{ok:Nat->Prop}{w w':World}{g:Nat}{e:Int}{p:List Int}{q:Nat}(h:RFl Q ok w g e p)(hg:w.grownBy w' (some q))(hq:¬ok q):RFl Q ok w' g e p:=by
 obtain⟨A,c,Ar,cr,rds,h1,h2,h3,h4,h5,h6,h7,h8,h9,h10⟩:=h;refine⟨A,c,Ar,cr,rds,h1.grown hg fun e=>hq (by rw[<-sj e];exact h5),h2,h3,?_,h5,h6,h7,h8,h9.map hg.size (fun _ _ h=>h) (fun p hp ho=>World.cell?_of_block (hg.block _ hp fun e=>hq (by rw[<-sj e];exact ho))),h10⟩;obtain⟨r1,r2⟩:=h4;refine⟨r1,fun hn=>?_⟩;obtain⟨ad,r3,r4,r5⟩:=r2 hn;refine⟨ad,r3,ll r4 hg.size,fun j u hj=>?_⟩;rw[<-r5 j u hj];refine World.cell?_of_block (hg.block _ (by rw[zA2];exact r4) fun e=>?_);have e9:=sj e;rw[zA2] at e9;exact hq (by rw[<-e9];exact h6 ad r3 hn)
def zJv (rs:List Rul)(items:List Tre)(path:List Int)(k:Nat)(m:Mea Trm)(g:Nat)(w:World)(e:Ending)(w':World):Prop:=(match m with
 | .ok t=>∃c,e= .returned (.tuple #[.agg c,.pointer none])/\TmAt (fun b=>w.heap.size<=b) w' t c
 | .bad er p=>∃gf,e= .returned (.tuple #[.agg zerC,qP gf])/\RFl (fun rds=>er=14->Amb rs items path k p rds) (fun b=>w.heap.size<=b) w' gf er p)/\Gr g w w'
abbrev lstC (A:Option Addr)(cap:Nat)(rs:List Rul)(Ai:Option Addr)(ci:Nat)(its:List Tre)(Ap:Option Addr)(cp:Nat)(path:List Int)(k:Nat)(v:Value):Array Value:= #[.slice A rs.length cap,.slice Ai its.length ci,.slice Ap path.length cp,qI (k:Int),v]
def zXn (A:Option Addr)(cap:Nat)(rs:List Rul)(f:Nat):Prop:=∀(items:List Tre) (path:List Int) (k:Nat) (Ai Ap:Option Addr) (ci cp g:Nat) (w0 w:World),zAc w0 A rs->zAo w0 Ai (items.drop k)->Below w0.heap.size w0 w->w0.heap.size<=g->(items.drop k).length<=ci->ci<=9223372036854775807->zAr w Ap path->(∀ad,Ap=some ad->0<path.length->ad.block≠g)->path.length<=cp->cp<=9223372036854775807->
 Blk w g 120 (lstC A cap rs Ai ci (items.drop k) Ap cp path k qN)->zC2 1 items=true->zA4 items<f->path.length+zA4 items+2<=900000->items.length<=7->zH0 items=true->k<=2->
 Calls Tryz.prog 52 #[qP g] w (zJv rs items path k (zAb rs f items path k) g w)
def SltP (Q:List Int->List Rd->Prop)(m:Mea (List Trm))(w:World)(e:Ending)(w':World):Prop:=(match m with
 | .ok ts=>∃A cap,e= .returned (.tuple #[.slice A ts.length cap,.pointer none])/\ts.length<=cap/\cap<=9223372036854775807/\zD2 (fun b=>w.heap.size<=b) w' A ts
 | .bad er p=>∃gf,e= .returned (.tuple #[qN,qP gf])/\RFl (fun rds=>er=14->Q p rds) (fun b=>w.heap.size<=b) w' gf er p)/\Below w.heap.size w w'
def OwnP (ok:Nat->Prop)(w:World)(B:Nat)(v:Value)(xs:List (List Trm)):Prop:=∃cs:List Value,w.ownsRow B 45 1 v xs.length cs/\cs.length=xs.length/\∀(j:Nat) c x,cs[j]?=some c->xs[j]?=some x->∃A cap,c= .slice A x.length cap/\x.length<=cap/\cap<=9223372036854775807/\zD2 ok w A x
theorem OwnP.nil (ok:Nat->Prop)(w:World)(B:Nat):OwnP ok w B qN []:=⟨[],World.ownsRow_nil _ _ _ _,rfl,fun j c x h=>by simp at h⟩
theorem OwnP.keep {ok:Nat->Prop}{w w':World}{B:Nat}{v:Value}{xs:List (List Trm)}(h:OwnP ok w B v xs)(hb:Below w.heap.size w w'):OwnP ok w' B v xs:=by
 obtain⟨cs,h1,h2,h3⟩:=h;exact⟨cs,Sp.own_below h1 hb,h2,fun j c x hj hx=>by
  obtain⟨A,cap,e1,e2,e3,e4⟩:=h3 j c x hj hx;exact⟨A,cap,e1,e2,e3,e4.keep hb⟩⟩
theorem OwnP.snoc {ok ok':Nat->Prop}{v v':Value}{cs:List Value}{x:List Trm}{A:Option Addr}{cap:Nat}(hl:cs.length=xs.length)(h:∀(j:Nat) c x,cs[j]?=some c->xs[j]?=some x->∃A cap,c= .slice A x.length cap/\x.length<=cap/\cap<=9223372036854775807/\zD2 ok w A x)
  (h1:x.length<=cap) (h2:cap<=9223372036854775807) (hx:zD2 ok w A x) (ho:w'.ownsRow B 45 1 v' (xs.length+1) (cs++[.slice A x.length cap])) (hg:w.grownBy w' v.ownBlock) (hr:∀b,b<w.heap.size->ok b->some b≠v.ownBlock) (hok:∀b,b<w.heap.size->ok b->ok' b):OwnP ok' w' B v' (xs++[x]):=by
 have mv:∀{A:Option Addr} {ts:List Trm},zD2 ok w A ts->zD2 ok' w' A ts:=fun h=>h.map hg.size hok fun p hp hb=>World.cell?_of_block (hg.block _ hp (hr _ hp hb))
 refine⟨cs++[.slice A x.length cap],by rw[List.length_append];exact ho,by simp[hl],fun j d y hj hy=>?_⟩;rcases Nat.lt_or_ge j cs.length with hlt|hge
 ·rw[List.getElem?_append_left hlt] at hj;rw[List.getElem?_append_left (by omega)] at hy;obtain⟨A',cap',e1,e2,e3,e4⟩:=h j d y hj hy;exact⟨A',cap',e1,e2,e3,mv e4⟩
 ·rw[List.getElem?_append_right hge] at hj;rw[List.getElem?_append_right (by omega),<-hl] at hy
  by_cases e:j -cs.length=0
  ·rw[e] at hj hy;simp only[List.getElem?_cons_zero,Option.some.injEq] at hj hy;subst hj hy;exact⟨A,cap,rfl,h1,h2,mv hx⟩
  ·rw[List.getElem?_eq_none (by simp;omega)] at hj;cases hj
theorem OwnP.yD5 {ok:Nat->Prop}{v:Value}{g:Nat}(h:OwnP ok w B v xs)(hg:w.grownBy w' (some g))(hB:g<B)(ho:∀b,ok b->some b≠some g):OwnP ok w' B v xs:=by
 obtain⟨cs,h1,h2,h3⟩:=h;refine⟨cs,World.ownsRow.kept h1 hg ?_,h2,fun j c x hj hx=>?_⟩
 ·cases hq:v.ownBlock with
  |none=>exact .inl rfl
  |some b=>exact .inr fun e=>by have:=(World.ownsRow.lt h1 b hq).1;have:=sj e;omega
 ·obtain⟨A,cap,e1,e2,e3,e4⟩:=h3 j c x hj hx;exact⟨A,cap,e1,e2,e3,e4.map hg.size (fun _ _ h=>h) fun p hp hb=>World.cell?_of_block (hg.block _ hp fun e=>ho _ hb e)⟩
def zJi (ok:Nat->Prop)(w:World)(A:Option Addr)(xs:List (List Trm)):Prop:=∀(q:Nat) (x:List Trm),xs[q]?=some x->∃ad:Addr,A=some ad/\ad.block<w.heap.size/\∃A2 cap2,w.cell? (ad.add q)=some (.slice A2 x.length cap2)/\x.length<=cap2/\cap2<=9223372036854775807/\zD2 ok w A2 x
theorem zJi.keep {ok:Nat->Prop}{w w':World}{A:Option Addr}{xs:List (List Trm)}(h:zJi ok w A xs)(hb:Below w.heap.size w w'):zJi ok w' A xs:=fun q x hq=>by
 obtain⟨ad,h1,h2,A2,cap2,h3,h4,h5,h6⟩:=h q x hq;exact⟨ad,h1,ll h2 hb.size,A2,cap2,by rw[hb.cell (by rw[zA2];exact h2)];exact h3,h4,h5,h6.keep hb⟩
theorem zJi.any {ok ok':Nat->Prop}{w:World}{A:Option Addr}{xs:List (List Trm)}(h:zJi ok w A xs)(hok:∀b,b<w.heap.size->ok b->ok' b):zJi ok' w A xs:=fun q x hq=>by
 obtain⟨ad,h1,h2,A2,cap2,h3,h4,h5,h6⟩:=h q x hq;exact⟨ad,h1,h2,A2,cap2,h3,h4,h5,h6.any hok⟩
theorem OwnP.form {ok:Nat->Prop}{v:Value}(h:OwnP ok w B v xs):∃A cap,v= .slice A xs.length cap/\xs.length<=cap/\cap<=9223372036854775807/\zJi ok w A xs:=by
 obtain⟨cs,ho,hl,hr⟩:=h;rcases ho.2 with⟨rfl,h0⟩|⟨g,cap,cur,rfl,hg,hb,hn,hc,hs,ht⟩
 ·obtain rfl:xs=[]:=List.length_eq_zero_iff.1 h0;exact⟨none,0,rfl,by simp,by omega,fun j p hj=>by simp at hj⟩
 ·have hb':Blk w g 45 cur:=hb;refine⟨_,cap,rfl,hn,by unfold maxLen at hc;omega,fun q x hq=>?_⟩;have hql:=(List.getElem?_eq_some_iff.1 hq).1;obtain⟨c,hcq⟩:∃c,cs[q]?=some c:=⟨_,gE (by omega)⟩
  obtain⟨A2,cap2,rfl,e2,e3,e4⟩:=hr q c x hcq hq;refine⟨⟨g,0,none⟩,rfl,hb'.lt,A2,cap2,?_,e2,e3,e4⟩;rw[show(⟨g,0,none⟩:Addr).add q=⟨g,q,none⟩ by unfold Addr.add;split<;>simp_all,hb'.cell];rw[<-ht,List.getElem?_take] at hcq
  split at hcq
  ·rw[<-Array.getElem?_toList];exact hcq
  ·cases hcq
end El
namespace Rn
open At Ch Sp Sy El Go.RowKit
variable{n t:Tre}{i cap:Nat}{p:List Int}{w:World}{A:Option Addr}
def zBw:List Int->Tre->Option Tre
 |[],n=>some n
 |[_],_=>none
 |i::s::r,n=>if 0<=i then match n.kids[i.toNat]? with
  |some d=>if 0<=s then match d.kids[s.toNat]? with
   |some m=>zBw r m
   |none=>none
   else none
  |none=>none
  else none
theorem zL7 {d m:Tre}{s:Nat}(h1:n.kids[i]?=some d)(h2:d.kids[s]?=some m)(r:List Int):zBw ((i:Int)::(s:Int)::r) n=zBw r m:=by
 rw[zBw,if_pos (by omega),Int.toNat_natCast,h1];dsimp only;rw[if_pos (by omega),Int.toNat_natCast,h2]
theorem zDx {r:Tre}{i s:Int}(h:zBw (i::s::p) n=some r):∃(a b:Nat) (d m:Tre),i=(a:Int)/\s=(b:Int)/\n.kids[a]?=some d/\d.kids[b]?=some m/\zBw p m=some r:=by
 rw[zBw] at h
 split at h
 ·rename_i hi
  cases hd:n.kids[i.toNat]? with
  |none=>rw[hd] at h;cases h
  |some d=>
   rw[hd] at h;dsimp only at h
   split at h
   ·rename_i hs
    cases hm:d.kids[s.toNat]? with
    |none=>rw[hm] at h;cases h
    |some m=>
     rw[hm] at h;exact⟨i.toNat,s.toNat,d,m,by omega,by omega,hd,hm,h⟩
   ·cases h
 ·cases h
theorem zO0:∀(p q:List Int) (n r:Tre),zBw p n=some r->zBw (p++q) n=zBw q r
 |[],q,n,r,h=>by rw[zBw] at h;injection h with h;rw[h];rfl
 |[_],q,n,r,h=>by rw[zBw] at h;cases h
 |i::s::p,q,n,r,h=>by
  obtain⟨a,b,d,m,rfl,rfl,h1,h2,h3⟩:=zDx h;show zBw ((a:Int)::(b:Int)::(p++q)) n=_;rw[zL7 h1 h2];exact zO0 p q m r h3
theorem zRs {rs:List Rul}{items:List Tre}{path:List Int}{k:Nat}{q:List Int}{rds:List Rd}(h:Amb rs items path k q rds):∀n0 r0:Tre,zBw path n0=some r0->r0.kids=items->∃(pth:List Int) (j:Nat) (r:Tre) (ts:List ByteArray) (x y:Rd) (zs:List Rd),q=pth++[(j:Int)]/\zBw pth n0=some r/\zB2 rs (r.kids.drop j)= .inl ts/\allL rs ts=x::y::zs/\rds=[x,y]:=by
 induction h with
 |here items path k ts x y zs ht ha=>
  intro n0 r0 h1 h2;exact⟨path,k,r0,ts,x,y,zs,rfl,h1,by rw[h2];exact ht,ha,rfl⟩
 |there items path k i s b n d q rds hn hd h ih=>
  intro n0 r0 h1 h2;refine ih n0 d ?_ rfl;rw[zO0 _ _ _ _ h1];rw[List.getElem?_drop,<-h2] at hn;exact(zL7 hn hd []).trans rfl
theorem zJ3:∀(p:List Int) (n r:Tre),zBw p n=some r->zA7 r<=zA7 n
 |[],n,r,h=>by rw[zBw] at h;injection h with h;rw[h];exact Nat.le_refl _
 |[_],n,r,h=>by rw[zBw] at h;cases h
 |i::s::p,n,r,h=>by
  obtain⟨a,b,d,m,rfl,rfl,h1,h2,h3⟩:=zDx h;have e1:=zJ3 p m r h3;have e2:=zDe h1;have e3:=zDe h2;cases n;cases d;rw[zA7];rw[zA7] at e2;simp only[Tre.kids] at e2 e3;omega
def PIx (w:World)(A:Option Addr)(p:List Int):Prop:=∀(k:Nat) (x:Int),p[k]?=some x->∃ad:Addr,A=some ad/\ad.block<w.heap.size/\w.cell? (ad.add k)=some (qI x)
theorem PIx.of (h:zAr w A p):PIx w A p:=fun _ _ hk=>h.at_ hk
theorem PIx.keep {w':World}(h:PIx w A p)(hb:Below w.heap.size w w'):PIx w' A p:=fun k x hk=>by
 obtain⟨ad,h1,h2,h3⟩:=h k x hk;exact⟨ad,h1,ll h2 hb.size,by rw[hb.cell (by rw[zA2];exact h2)];exact h3⟩
theorem PIx.two {ad:Addr}{i s:Int}(h:PIx w (some ad) (i::s::p)):PIx w (some (ad.add 2)) p:=fun k x hk=>by
 obtain⟨ad',h1,h2,h3⟩:=h (k+2) x (by simpa using hk);obtain rfl:=sj h1;exact⟨_,rfl,by rw[zA2];exact h2,by rw[Addr.add_add,Nat.add_comm 2 k];exact h3⟩
theorem PIx.nil (A:Option Addr):PIx w A []:=fun k x hk=>by simp at hk
theorem addz (a:Addr):a.add 0=a:=by unfold Addr.add;simp
theorem zDf.ptr {ok:Nat->Prop}{ks:List Tre}(h:zDf ok w A ks){x:Tre}(hi:ks[i]?=some x):∃ad A2 cap2,A=some ad/\zBm w (ad.add (i*4)) x A2 cap2/\zDf ok w A2 x.kids:=by
 obtain⟨ad,h1,h2,h3,c,h4,h5⟩:=h i x hi;obtain⟨A2,cap2,rfl,h6,h7,h8,h9⟩:=h4.form;exact⟨ad,A2,cap2,h1,⟨by rw[zA2];exact h2,h5 0 (by omega),At.zBc (j:=0) (h5 1 (by omega)),At.zBc (j:=1) (h5 2 (by omega)),At.zBc (j:=2) (h5 3 (by omega)),h6,h7,h8,h9.kids⟩,h9⟩
def lenV:Value->Nat
 | .slice _ n _=>n
 |_=>0
theorem zG2 (ok:Nat->Prop)(path:List Int)(t r:Tre)(hf:zBw path t=some r)(p:Addr)(A:Option Addr)(cap:Nat)(Ap:Option Addr)(cp:Nat)(w:World)(hP:zBm w p t A cap)(hD:zDf ok w A t.kids)(hQ:PIx w Ap path)(hc1:path.length<=cp)(hc2:cp<=9223372036854775807):
  Calls Tryz.prog 45 #[.pointer (some p),.slice Ap path.length cp] w fun e w'=>∃q A2 cap2,e= .returned (.tuple #[.pointer (some q),.bool true])/\zBm w' q r A2 cap2/\zDf ok w' A2 r.kids/\Below w.heap.size w w':=by
 have HF:=zh hf;have HP:=zh hP;have HD:=zh hD;have HQ:=zh hQ;have HB:=zh (Below.refl w.heap.size w);clear hf hP hD hQ;go_enter Tryz.func45,Tryz.ntmps45;go_wp2_with fail
 go_loopw [0,1] (fun v0 v1 wr=>∃(q:List Int) (m:Tre) (pp:Addr) (A2:Option Addr) (c2:Nat) (aq:Option Addr) (cq:Nat),v0= .pointer (some pp)/\v1= .slice aq q.length cq/\q.length<=cq/\cq<=9223372036854775807/\Hid (zBw q m=some r)/\Hid (zBm wr pp m A2 c2)/\Hid (zDf ok wr A2 m.kids)/\Hid (PIx wr aq q)/\Hid (Below w.heap.size w wr)) (fun _ v1 _=>lenV v1)
 case atStart=>exact⟨path,t,p,A,cap,Ap,cp,rfl,rfl,hc1,hc2,HF,HP,HD,HQ,HB⟩
 case round=>
  clear HF HP HD HQ HB;obtain⟨q,m,pp,A2,c2,aq,cq,rfl,rfl,hq1,hq2,HF,HP,HD,HQ,HB⟩:=hrel
  match q,hq1,HF,HQ with
  |[],hq1,HF,HQ=>
   have HE:=zh (show m=r from by have h:=HF.out;rw[zBw] at h;exact sj h);clear HF HQ;go_wp2;exact bodyPost_ret (v:=.tuple #[.pointer (some pp),.bool true]) (by simp[results,Tryz.results45,go_sem]) rfl ⟨pp,A2,c2,rfl,HE.out▸HP.out,HE.out▸HD.out,HB.out⟩
  |[_],hq1,HF,HQ=>exact absurd HF.out (by rw[zBw];simp)
  |i::s::q,hq1,HF,HQ=>
   obtain⟨a,b,d,m',rfl,rfl,h1,h2,h3⟩:=zDx HF.out;obtain⟨ad,rfl,hl0,k0⟩:=HQ.out 0 _ rfl;obtain⟨ad',e1,_,k1⟩:=HQ.out 1 _ rfl;obtain rfl:=sj e1;obtain⟨ak,A3,c3,e3,hp3,hd3⟩:=HD.out.ptr h1;obtain⟨al,A4,c4,e4,hp4,hd4⟩:=hd3.ptr h2;subst e3;subst e4;have HF3:=zh h3;have HP4:=zh hp4;have HD4:=zh hd4;have HQ2:=zh (HQ.out.two);have HQ3:=zh (show q.length+2<=cq from hq1);have c3:=HP.out.kids;have c4:=hp3.kids;have HIT:=zh (show(ak.add (a*4)).block<wr.heap.size from hp3.lt);have k0b:wr.cell? ad=some (qI a):=by rw[addz] at k0;exact k0
   have k1b:wr.cell? ⟨ad.block,ad.off+1,none⟩=some (qI b):=by unfold Addr.add at k1;simpa using k1
   have hl1:=(List.getElem?_eq_some_iff.1 h1).1;have hl2:=(List.getElem?_eq_some_iff.1 h2).1;have m1:(0:Int)<=(a:Int):=by omega
   have m2:(a:Int)<(m.kids.length:Int):=by omega
   have m3:(0:Int)<=(b:Int):=by omega
   have m4:(b:Int)<(d.kids.length:Int):=by omega
   rw[show((a:Int)::(b:Int)::q).length=q.length+2 from rfl];have m5:(2:Int)<=((q.length+2:Nat):Int):=by omega
   generalize hn:q.length+2=n at*;have m6:(0:Int)<(n:Int):=by omega
   have m7:(1:Int)<(n:Int):=by omega
   have m8:0<n:=by omega
   have m9:1<n:=by omega
   clear HF HQ h1 h2 h3 hp3 hp4 hd3 hd4 HD e1 hl0 hl1 hl2;go_wp2_with fail
   go_quiet (fail)
   have hbq:=below_drewN (Below.refl wr.heap.size wr) nq;have d3:=(hbq.cell (p:=⟨pp.block,pp.off+3,none⟩) HP.out.lt).trans c3;have d4:=(hbq.cell (p:=⟨(ak.add (a*4)).block,(ak.add (a*4)).off+3,none⟩) HIT.out).trans c4;replace HP4:=zh (HP4.out.keep hbq);replace HD4:=zh (HD4.out.keep hbq);replace HQ2:=zh (HQ2.out.keep hbq);replace HB:=jt HB hbq;clear hbq c3 c4 k0 k1 k0b k1b HP HIT;generalize wr.drewN nq=w3 at*;go_wp2_with fail;have HQ4:=zh (show PIx w3 (if cq=2 then some ad else some ⟨ad.block,ad.off+2,none⟩) q by
    split
    ·rename_i h
     have h9:=HQ3.out;obtain rfl:q=[]:=List.eq_nil_of_length_eq_zero (by omega);exact PIx.nil _
    ·have h9:=HQ2.out;unfold Addr.add at h9
     simpa using h9)
   go_roundw
   case rel=>exact⟨q,m',al.add (b*4),A4,c4,_,cq -2,rfl,by rw[show n -2=q.length by omega],by have:=HQ3.out;omega,by omega,HF3,HP4,HD4,HQ4,HB⟩
   case measure=>show n -2<n;omega
theorem _root_.Go.Proofs.YtapgncbegadbnaaGreatDoor.At.zBm.box {g:Nat}(h:Blk w g 25 (qC t A cap))(hs:t.text.size<=9223372036854775807)(hn:t.kids.length<=cap)(hc:cap<=9223372036854775807)(hk:zAo w A t.kids):zBm w ⟨g,0,none⟩ t A cap:=
 ⟨h.lt,h.cell 0,h.cell 1,h.cell 2,h.cell 3,hs,hn,hc,hk⟩
theorem _root_.Go.Proofs.YtapgncbegadbnaaGreatDoor.At.zBm.nod {p:Addr}(h:zBm w p t A cap):zAv w t (qC t A cap):=by
 cases t;exact zAv.of h.size h.len h.capl h.down
theorem _root_.Go.Proofs.YtapgncbegadbnaaGreatDoor.At.zBm.nd {ok:Nat->Prop}{p:Addr}(h:zBm w p t A cap)(hd:zDf ok w A t.kids):NdAt ok w t (qC t A cap):=by
 cases t;exact NdAt.of h.size h.len h.capl hd
theorem zPu (ok0:Nat->Prop)(path:List Int)(t r:Tre)(hf:zBw path t=some r)(hv:zBa t=true)(c:Array Value)(Ap:Option Addr)(cp:Nat)(w:World)(hN:zAv w t c)(hO:NdAt ok0 w t c)(hok:∀b,ok0 b->b<w.heap.size)(hQ:PIx w Ap path)(hc1:path.length<=cp)(hc2:cp<=9223372036854775807):
  Calls Tryz.prog 22 #[.agg c,.slice Ap path.length cp] w fun e w'=>∃A9 cap9,e= .returned (.tuple #[.agg (qC r A9 cap9),qI 0])/\NdAt (fun b=>ok0 b\/w.heap.size<=b) w' r (qC r A9 cap9)/\Below w.heap.size w w':=by
 obtain⟨A,cap,rfl,hsz,hl,hc,hk⟩:=hN.form;have B1:=zA0 w (qO t A cap);have B2:=zA0 (w.alloc (qO t A cap)) (.cells qZ 25);have hbb:=B1.trans (B2.mono B1.size);have HB:=zh hbb;have K0:=zh (keep B2 (Blk.new w 25 (qC t A cap)));have K1:=Blk.new (w.alloc (qO t A cap)) 25 qZ;rw[show(w.alloc (qO t A cap)).heap.size=w.heap.size+1 by simp] at K1;replace K1:=zh K1;have HN:=zh (hN.keep hbb);have HK:=zh (hk.keep hbb);have HQ:=zh (hQ.keep hbb);have HF:=zh hf;have HV:=zh hv;have HCN:=zh (show zA7 r<=1000000 by have h1:=zJ3 _ _ _ hf;unfold zBa at hv;simp only[Bool.and_eq_true,decide_eq_true_eq] at hv;omega);have HO:=zh ((show zDf ok0 w A t.kids from by obtain⟨A9,cap9,e9,_,_,_,h9⟩:=hO.form;cases e9;exact h9).keep hbb);have HOK:=zh hok;clear hN hk hO hok hQ hf hv B1 B2 hbb;go_enter Tryz.func22,Tryz.ntmps22;go_upto_region 1 with(fail)
 generalize (w.alloc (qO t A cap)).alloc (.cells qZ 25)=w1 at*;obtain⟨k0,k1,k2,k3⟩:=qb K0;go_wp2_with fail;refine(zEq t _ w1 HN.out).mono ?_;rw[HV.out];rintro e w2 ⟨rfl,hb⟩;replace HB:=jt HB hb;replace K0:=kp hb K0;replace K1:=kp hb K1;replace HK:=zh (HK.out.keep hb);replace HQ:=zh (HQ.out.keep hb);replace HO:=zh (HO.out.keep hb);clear hb HN k0 k1 k2 k3;go_wp2_with fail;refine(zG2 ok0 path t r HF.out ⟨w.heap.size,0,none⟩ A cap Ap cp w2 (At.zBm.box K0.out hsz hl hc HK.out) HO.out HQ.out hc1 hc2).mono ?_;rintro e w3 ⟨q,A2,cap2,rfl,hp,hd,hb⟩;replace HB:=jt HB hb;replace K1:=kp hb K1;have q0:=hp.kind;have q1:=hp.text;have q2:=hp.cols;have q3:=hp.kids;have HP:=zh hp.nod;have HPO:=zh (hp.nd hd);have HLT:=zh (show w.heap.size+1<w3.heap.size from K1.out.lt);clear hb hp hd HO K0 HK HQ;go_wp2_with fail;refine(zY5 ok0 r _ w3 HP.out HPO.out (fun b hb=>by have:=HLT.out;have:=HOK.out b hb;omega) HCN.out).mono ?_;rintro e w4 ⟨c',rfl,hn,hb⟩;replace HB:=jt HB hb;replace K1:=kp hb K1;obtain⟨A9,cap9,rfl,_⟩:=hn.form;have HN:=zh hn;have rc:=K1.out.cell;have rf:=K1.out.frozen;clear hb hn q0 q1 q2 q3 HP HPO;go_wp2_with fail;obtain⟨w9,e9,K9,HB9,HG9⟩:=zO9 K1.out HB.out (Nat.le_succ _) (qI r.kind) (.string r.text) (qI r.cols) (.slice A9 r.kids.length cap9);rw[e9];obtain⟨r0,r1,r2,r3⟩:=qb K9;exact bodyPost_ret (v:=.tuple #[.agg (qC r A9 cap9),qI 0]) (by simp[results,Tryz.results22,go_sem,r0,r1,r2,r3]) rfl ⟨A9,cap9,rfl,HN.out.grown HG9.out (fun b _ hb e=>by have h9:b=w.heap.size+1:=sj e;have h8:=HLT.out;rcases hb with hb|hb;have:=HOK.out b hb;omega;omega) fun b _ hb=>hb.imp id fun h=>by have h8:=HLT.out;omega,HB9.out⟩
end Rn
namespace El
open At Ch Sp Sy Go.RowKit
theorem zLc (d:Tre):zA7 d=zA4 d.kids+1:=by
 obtain⟨k,t,c,ks⟩:=d;rw[zA7];rfl
theorem zFx:∀(a b:List Tre),zA4 (a++b)=zA4 a+zA4 b
 |[],b=>by rw[zA4,Nat.zero_add];rfl
 |t::a,b=>by rw[List.cons_append,zA4,zA4,zFx a b];omega
theorem zI3 {l:List Tre}{q:Nat}{n:Tre}(h:l[q]?=some n):zA4 (l.take (q+1))=zA4 (l.take q)+zA7 n:=by
 rw[List.take_add_one,h,Option.toList_some,zFx,zA4,zA4];omega
theorem zSo (l:List Tre)(k:Nat):zA4 (l.drop k)<=zA4 l:=by
 have:=zFx (l.take k) (l.drop k);rw[List.take_append_drop] at this;omega
end El
end Go.Proofs.YtapgncbegadbnaaGreatDoor
