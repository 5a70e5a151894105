/- all of the reference: rules of kind 2. -/
import Derived.Test.YtchllommcolijaaGreatDoorH2f65711c
namespace Go.Proofs.YtchllommcolijaaGreatDoor.Ch
open Go.RowKit
set_option maxRecDepth 100000 in
set_option maxHeartbeats 8000000 in
theorem rall_b:rall_packr.b:=by
 intro cap cT rs ts HV8 hr8 ht6 m i j w HIJ HJ HM s ad HT0 j1 j2 j3 j4 HS _ wc u18 u19 u20 u21 u22 u23 u24 u25 u26 u27 u28 u29 u30 u31 u32 u33 u34 u35 u36 u195 K0 e0 wr u9 u11 u12 u13 u14 u15 u16 u17 u37 u38 u39 u40 u41 u42 u43 u44 u45 u46 u47 u48 u49 u50 u51 u52 u53 u54 u55 u56 u57 u58 u59 u60 u61 u62 u63 u64 u65 u66 u67 u68 u69 u70 u71 u72 u73 u74 u75 u76 u77 u78 u79 u80 u81 u82 u83 u84 u85 u86 u87 u88 u89 u90 u91 u92 u93 u94 u95 u96 u97 u98 u99 u100 u101 u102 u103 u104 u105 u106 u107 u108 u109 u110 u111 u112 u113 u114 u115 u116 u117 u118 u119 u120 u121 u122 u123 u124 u125 u126 u127 u128 u129 u130 u131 u132 u133 u134 u135 u136 u137 u138 u139 u140 u141 u142 u143 u144 u145 u146 u147 u148 u149 u150 u151 u152 u153 u154 u155 u156 u157 u158 u159 u160 u161 u162 u163 u164 u165 u166 u167 u168 u169 u170 u171 u172 u173 u174 u175 u176 u177 u178 u179 u180 u181 u182 u183 u184 u185 u186 u187 u188 u189 u190 u191 u192 u193 u194 n hn _ _ hlt u _ ad2 HR0 IH HU HPN Q1 K1 e1 K2 e2 w5 HO HB g0 HXG HFAR KU k0 q1 q2;obtain⟨i0,hi,hz0,hz1,hz2⟩:=info_parts zJm;have HN:=zh (zVs (ts:=ts) (i:=i) (j:=j) HU.out q2);have b1:(u.kind==1)=false:=bn q1;have b2:(u.kind==2)=true:=beq_iff_eq.2 q2;obtain⟨hf2,ad3,e3,hadl3,c0⟩:=(HT0.out.keep HB.out) i s HS.out;obtain rfl:=sj e3;have HTK:=zh (show tokB ts i u.sym.toList=(s.toList==u.sym.toList) by unfold tokB;rw[HS.out]);have c1:=KU.out.cell 1;clear e3 hf2 hadl3 q1 q2;go_upto_region 18 with(fail)
 go_quiet (fail)
 have HO:=zh (HO.out.keep (below_drewN (Below.refl _ _) nq));have HB:=zh (below_drewN HB.out nq);have KU:=zh (Blk.drewN KU.out nq);generalize w5.drewN nq=w7 at*;clear c0 c1;cases hbq:(s.toList==u.sym.toList)
 ·have HE:=zh (show preR rs ts i j (n+1)=preR rs ts i j n by rw[HPN.out,HN.out,HTK.out,hbq];simp);rw[←HE.out] at HO;go_wp2_with fail;go_roundw
  case rel=>exact⟨n+1,by omega,by go_num,HO,HB⟩
  case measure=>simp[intOf];omega
 ·have HE:=zh (show preR rs ts i j (n+1)=preR rs ts i j n++zBc n i (zA4 rs (allR rs ts (i+1) j) u.right) by rw[HPN.out,HN.out,HTK.out,hbq,if_pos rfl]);have HA1:=zh (fun(wq:World) (hb:Below w.heap.size w wq)=>IH.out (i+1) j wq (by have:=HM.out;have:=HIJ.out;omega) (HJ.out) (HR0.out.keep hb) (HT0.out.keep hb));have HR7:=zh (HR0.out.keep HB.out);have HL1:=zh (show(allR rs ts (i+1) j).length≤100000000 from Nat.le_trans (zBo HV8.out ht6 HJ.out) (by omega));clear hbq HTK;go_upto_region 19 with(fail)
  refine zAq (X:=GA) (by as_aux_lemma=>kernel_rfl) _ (fun gx=>[.slice (some ad2) rs.length cap,.slice (some ad2) rs.length cap,.slice (some ad) ts.length cT,.int .i64 (↑i),.int .i64 ((↑i)+1),.int .i64 (↑j),gx.a,.pointer (some ⟨g0,5,none⟩),.int .i64 u.right,gx.b,gx.b]) [true,true,true,true,true,true,true,true,true,true,true] [6,9] (fun L g wq=>InvA w w7 u9 (allR rs ts (i+1) j) (zA4 rs (allR rs ts (i+1) j) u.right) [] [] [] [] (L++[false,false,false,false]) g wq) ⟨.nilFunc,.nilFunc,.nilFunc,.nilFunc,.nilFunc,.nilFunc⟩ (by as_aux_lemma=>kernel_rfl) (fun gx=>by simp[fin,zAi,zA7,List.range,List.range.loop,Act.put];rfl) (fun _=>by as_aux_lemma=>kernel_rfl) (by as_aux_lemma=>kernel_rfl) InvA.start ?_ ?_
  ·refine⟨fun L gx wq hL hb ha hI=>?_,fun L gx wq hL hb ha hI=>?_,fun L gx wq hL hb ha hI=>?_,fun L gx wq hL hb ha hI=>?_,fun L gx wq hL hb ha hI=>?_,fun L gx wq hL hb ha hI=>?_,fun L gx wq hL hb ha hI=>?_,fun L gx wq hL hb ha hI=>?_,fun L gx wq hL hb ha hI=>?_,fun L gx wq hL hb ha hI=>?_,fun L gx wq hL hb ha hI=>?_,trivial⟩
   ·exact jq (.slice (some ad2) rs.length cap) wq (by as_aux_lemma=>kernel_rfl) rfl hI
   ·exact jq (.slice (some ad2) rs.length cap) wq (by as_aux_lemma=>kernel_rfl) rfl hI
   ·exact jq (.slice (some ad) ts.length cT) wq (by as_aux_lemma=>kernel_rfl) rfl hI
   ·exact jq (.int .i64 (↑i)) wq (by as_aux_lemma=>kernel_rfl) rfl hI
   ·skip
    exact jq (.int .i64 ((↑i)+1)) wq (by simp[go_sem];exact IntWalk.i64_in _ (by omega)) rfl hI
   ·exact jq (.int .i64 (↑j)) wq (by as_aux_lemma=>kernel_rfl) rfl hI
   ·have hX:=hI.below rfl;refine jc 93 (#[.slice (some ad2) rs.length cap,.slice (some ad) ts.length cT,.int .i64 ((i+1:Nat):Int),.int .i64 (↑j)]) wq (by as_aux_lemma=>kernel_rfl) ((HA1.out wq (HB.out.trans (hX.mono HB.out.size))).mono ?_);rintro e wa ⟨v,rfl,ho,hb2⟩;exact⟨_,rfl,{gx with a:=v},rfl,(by refine zA5.of_same ⟨?_,?_,?_,?_,?_,?_,?_,?_,?_,?_,?_,trivial⟩<;>first|exact jK|exact .inl rfl|exact .inr (.inl (by kernel_rfl))),InvA.s0 rfl hI hb2 ho⟩
   ·exact jq (.pointer (some ⟨g0,5,none⟩)) wq (by simp[go_sem]) rfl hI
   ·have hX:=hI.below rfl;have cu:=(keep hX KU.out).cell 5;exact jq (.int .i64 u.right) wq (by simp[go_sem,cu]) rfl hI
   ·have hX:=hI.below rfl;have ex:L 6=true:=hb 6 (by as_aux_lemma=>kernel_rfl);obtain⟨ga,gb,gc,gd,ge,gf⟩:=gx;obtain⟨A1,c1,e1,h1⟩:=InvA.list ((hI.1 rfl).2.1 (congrArg some ex)) (fun b h=>h);obtain rfl:ga=_:=e1;refine jc 123 (#[.slice (some ad2) rs.length cap,.slice A1 (allR rs ts (i+1) j).length c1,.int .i64 u.right]) wq (by as_aux_lemma=>kernel_rfl) ((zDk (fun b=>w7.heap.size≤b) (some ad2) A1 cap c1 rs (allR rs ts (i+1) j) u.right wq (HR7.out.keep hX) h1 (fun x hx=>(zFh hx).2) HL1.out).mono ?_);rintro e wa ⟨v,rfl,ho,hb2⟩;exact⟨_,rfl,⟨_,v,gc,gd,ge,gf⟩,rfl,(by refine zA5.of_same ⟨?_,?_,?_,?_,?_,?_,?_,?_,?_,?_,?_,trivial⟩<;>first|exact jK|exact .inl rfl|exact .inr (.inl (by kernel_rfl))),InvA.s1 rfl hI hb2 ho⟩
   ·exact jq (gx.b) wq (by as_aux_lemma=>kernel_rfl) rfl hI
  ·intro gx wq hI;have hI2:=hI.1 rfl;obtain⟨ga,gb,gc,gd,ge,gf⟩:=gx;obtain⟨L1,cl,e1,hc1,hc2,h3⟩:=(hI2.2.2.1 rfl).form (fun b h=>h);obtain rfl:gb=_:=e1;have HLT:=zh (show ∀b,u9.ownBlock=some b→b<w7.heap.size from fun b hb=>(AppR.lt HO.out b hb).2);have HSZ:=zh HB.out.size;have HO:=zh (HO.out.keep hI2.1);have HB:=zh (HB.out.trans (hI2.1.mono HB.out.size));have HL:=zh (h3.any (ok':=fun b=>u9.ownBlock≠some b∧w.heap.size≤b) fun b _ h=>⟨fun e=>by have:=HLT.out b e;omega,Nat.le_trans HSZ.out h⟩);have HXL:=zh (show(zA4 rs (allR rs ts (i+1) j) u.right).length≤100000000 from Nat.le_trans zCb HL1.out);clear hI hI2 h3 HA1 HL1 HLT HSZ HR7 KU HFAR;generalize (zA4 rs (allR rs ts (i+1) j) u.right)=X at*;dsimp only;have HZ:=zh (show preR rs ts i j n=preR rs ts i j n++zBc n i (X.take 0) by simp[zBc]);rw[HZ.out] at HO;have xl:X.length≤100000000:=HXL.out;have xc:=hc1;go_wp2_with fail
   go_loopw [9,14] (fun v t wr=>∃m9:Nat,m9≤X.length∧t= .int .i64 m9∧Hid (AppR (fun b=>w.heap.size≤b) wr w.heap.size v (preR rs ts i j n++zBc n i (X.take m9)))∧Hid (Below w.heap.size w wr)∧Hid (zAp (fun b=>v.ownBlock≠some b∧w.heap.size≤b) wr L1 X)) (fun _ t _=>X.length -(intOf t).toNat)
   case atStart=>exact⟨0,by omega,rfl,HO,HB,HL⟩
   case round=>
    clear HO HB HL;obtain⟨m9,hm9,rfl,HO,HB,HL⟩:=hrel
    by_cases hlk:m9<X.length
    ·obtain⟨x,hx⟩:∃x,X[m9]?=some x:=⟨_,gE hlk⟩
     obtain⟨ad5,rfl,hl5,hk5,_⟩:=HL.out m9 x hx;have HSN:=zh (zMd (r:=n) (a:=i) hx);have HPT:=zh (show preR rs ts i j n++zBc n i (X.take (m9+1))=(preR rs ts i j n++zBc n i (X.take m9))++[.mk n i [x]] by rw[HSN.out,List.append_assoc]);have HLN:=zh (show(preR rs ts i j n++zBc n i (X.take m9)).length≤3000000000000 by
      have h3:=zL3 (rs:=rs) (ts:=ts) (n:=n) HIJ.out (by omega);have h4:=zBo HV8.out ht6 (i:=i) HJ.out;rw[List.length_append];unfold zBc;rw[List.length_map,List.length_take];omega)
     have HX:=zh (HL.out.one hx);have m0:(0:Int)≤(m9:Int):=by omega
     have m1:(m9:Int)≤(m9:Int)+1:=by omega
     have m2:(m9:Int)+1≤(cl:Int):=by omega
     have m3:¬cl=m9:=by omega
     clear hx hk5 HSN;generalize preR rs ts i j n++zBc n i (X.take m9)=Y at*;have hxl:=HLN.out;have hba:=zA1 wr (.cells (rdC n i (some (ad5.add (m9*3))) 1 (cl -m9)) 83);have K6:=zh (Blk.new wr 83 (rdC n i (some (ad5.add (m9*3))) 1 (cl -m9)));have hE:=RdAt.of (ok:=fun b=>u9.ownBlock≠some b∧w.heap.size≤b) (w:=wr.alloc (.cells (rdC n i (some (ad5.add (m9*3))) 1 (cl -m9)) 83)) (r:=n) (a:=i) (ks:=[x]) (A:=some (ad5.add (m9*3))) (cap:=cl -m9) (by show 1≤_;omega) (by omega) (HX.out.keep hba);obtain⟨css,ho,hl,hrr⟩:=HO.out.keep hba;have hbs:w.heap.size≤(wr.alloc (.cells (rdC n i (some (ad5.add (m9*3))) 1 (cl -m9)) 83)).heap.size:=Nat.le_trans HB.out.size hba.size;have HLa:=zh (HL.out.keep hba);have HBa:=jt HB hba;have hfar:∀b,u9.ownBlock=some b→w.heap.size≤b:=fun b hb=>(AppR.lt HO.out b hb).1
     clear hba HO HL HX HB;go_wp2_with (at_builtin;refine zAb _ rfl (.tmp 115) (.tmp 124) 56 rfl w.heap.size 83 i0 (.agg #[.int .i64 0,.int .i64 0,.slice none 0 0]) 3 40 Tryz.underlying56 hi hz0 hz1 hz2 rfl (by decide) _ _ _ rfl ho (wr.heap.size+1) (some ⟨wr.heap.size,0,none⟩) 1 1 (rdC n i (some (ad5.add (m9*3))) 1 (cl -m9)).toList rfl (by have:=zBb K6.out rfl;rw[World.size_alloc] at this;exact this) (zGj hE) (by unfold maxLen;omega) (by omega) hbs ?_);intro v' w' g2 g3 g4;rw[←World.size_alloc wr (.cells (rdC n i (some (ad5.add (m9*3))) 1 (cl -m9)) 83)] at g4;have HO:=zh (AppR.push hl hrr hE g2 g3 g4);rw[←HPT.out] at HO;have HB:=zh (HBa.out.grown g3 hbs hfar);have HL:=zh (zAp.push HLa.out g3 g4);clear ho hl hrr g2 g3 g4 hE hbs hfar HLa HBa K6;go_wp2_with fail;go_roundw
     case rel=>exact⟨m9+1,by omega,by go_num,HO,HB,HL⟩
     case measure=>simp[intOf];omega
    ·obtain rfl:m9=X.length:=by omega
     rw[List.take_of_length_le (Nat.le_refl _),←HE.out] at HO;go_wp2_with fail;go_roundw
     case rel=>exact⟨n+1,by omega,by go_num,HO,HB⟩
     case measure=>simp[intOf];omega
end Go.Proofs.YtchllommcolijaaGreatDoor.Ch
