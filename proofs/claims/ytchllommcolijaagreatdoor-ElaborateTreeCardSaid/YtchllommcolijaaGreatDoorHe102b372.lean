/- operand of the reference: the meaning of an operand with the meanings of its slots. -/
import Derived.Test.YtchllommcolijaaGreatDoorH4fe176c1
namespace Go.Proofs.YtchllommcolijaaGreatDoor.El
open At Ch Sp Sy Go.RowKit
def RTmP (ok:Nat→Prop)(t:Trm)(w:World)(e:Ending)(w':World):Prop:=∃c,e= .returned (.agg c)∧TmAt (fun b=>ok b∨w.heap.size≤b) w' t c∧Below w.heap.size w w'
theorem zSj {n:Tre}(h:zB8 n=true):1≤n.kind∧n.kind≤12:=by
 have h:=(zDz h).2;unfold zBv at h
 split at h
 ·omega
 ·rw[Bool.and_eq_true] at h;have h2:=h.2
  repeat' split at h2
  all_goals (first|omega|cases h2)
theorem zR1 {n:Tre}{m:Nat}(h:n.text.size≤1000)(hc:n.kind=12→n.cols<100):(zBn n m).1.size≤2000∧(zBn n m).2.size≤2000:=by
 have h0:=zJt h hc
 by_cases h6:n.kind=6
 ·unfold zBn;rw[if_neg (by omega),if_pos h6];constructor
  ·show(if m=1 then zJr else zE3).size≤2000
   split<;>decide
  ·show zE3.size≤2000;decide
 ·have e:zBn n m=zAz n:=by
   unfold zAz zBn;rw[if_neg h6,if_neg h6]
  rw[e];exact h0
structure OdS (w:World)(cs:Array Value)(v:Value)(sh:ByteArray×ByteArray)(x:World):Prop where
 bel:Below w.heap.size w x
 k0:Blk x w.heap.size 25 cs
 k1:Blk x (w.heap.size+1) 31 zerC
 k2:Blk x (w.heap.size+2) 31 #[.int .i64 4,.string sh.1,.string ⟨#[]⟩,v,.string sh.2]
theorem OdS.keep {w x x':World}{cs:Array Value}{v:Value}{sh:ByteArray×ByteArray}(h:OdS w cs v sh x)(hb:Below x.heap.size x x'):OdS w cs v sh x':=
 ⟨h.bel.trans (hb.mono h.bel.size),jL hb h.k0,jL hb h.k1,jL hb h.k2⟩
theorem OdS.one {w x:World}{cs:Array Value}{v:Value}{sh:ByteArray×ByteArray}(h:OdS w cs v sh x)(a:ByteArray):OdS w cs v (a,sh.2) (x.setCell ⟨w.heap.size+2,1,none⟩ (.string a)):=by
 have hg:x.grownBy (x.setCell ⟨w.heap.size+2,1,none⟩ (.string a)) (some (w.heap.size+2)):=zA9 x ⟨w.heap.size+2,1,none⟩ _;exact⟨h.bel.grown hg h.bel.size fun r e=>by have:=sj e;omega,h.k0.grown hg fun e=>by have:=sj e;omega,h.k1.grown hg fun e=>by have:=sj e;omega,h.k2.set_ 1 (.string a)⟩
theorem OdS.put {w x:World}{cs:Array Value}{v:Value}{sh:ByteArray×ByteArray}(h:OdS w cs v sh x)(a b:ByteArray):OdS w cs v (a,b) ((x.setCell ⟨w.heap.size+2,1,none⟩ (.string a)).setCell ⟨w.heap.size+2,4,none⟩ (.string b)):=by
 have h1:=h.one a;have hg:(x.setCell ⟨w.heap.size+2,1,none⟩ (.string a)).grownBy ((x.setCell ⟨w.heap.size+2,1,none⟩ (.string a)).setCell ⟨w.heap.size+2,4,none⟩ (.string b)) (some (w.heap.size+2)):=zA9 _ ⟨w.heap.size+2,4,none⟩ _;exact⟨h1.bel.grown hg h1.bel.size fun r e=>by have:=sj e;omega,h1.k0.grown hg fun e=>by have:=sj e;omega,h1.k1.grown hg fun e=>by have:=sj e;omega,h1.k2.set_ 4 (.string b)⟩
set_option maxRecDepth 100000 in
set_option maxHeartbeats 8000000 in
theorem zW7 (ok:Nat→Prop)(n:Tre)(c:Array Value)(xs:List Trm)(A1:Option Addr)(cp:Nat)(w:World)(hN:zBd w n c)(hA:zCs ok w A1 xs)(hx:xs.length≤cp)(hcp:cp≤9223372036854775807)(hF:zB8 n=true)(hk1:n.kind≠1):
  Calls Tryz.prog 95 #[.agg c,.slice A1 xs.length cp] w (RTmP ok (opdT n xs) w):=by
 obtain⟨A2,cap2,rfl,hsz,hl,hc,hk⟩:=hN.form;have B1:=zA1 w (.cells #[.int .i64 n.kind,.string n.text,.int .i64 n.cols,.slice A2 n.kids.length cap2] 25);have s1:(w.alloc (.cells #[.int .i64 n.kind,.string n.text,.int .i64 n.cols,.slice A2 n.kids.length cap2] 25)).heap.size=w.heap.size+1:=by simp
 have B2:=zA1 (w.alloc (.cells #[.int .i64 n.kind,.string n.text,.int .i64 n.cols,.slice A2 n.kids.length cap2] 25)) (.cells zerC 31);have HB:=zh (B1.trans (B2.mono B1.size));have K0:=zh (keep B2 (Blk.new w 25 #[.int .i64 n.kind,.string n.text,.int .i64 n.cols,.slice A2 n.kids.length cap2]));have K1:=zh (Blk.new (w.alloc (.cells #[.int .i64 n.kind,.string n.text,.int .i64 n.cols,.slice A2 n.kids.length cap2] 25)) 31 zerC);rw[s1] at K1;have HS2:=zh (show((w.alloc (.cells #[.int .i64 n.kind,.string n.text,.int .i64 n.cols,.slice A2 n.kids.length cap2] 25)).alloc (.cells zerC 31)).heap.size=w.heap.size+2 by simp);have HA:=zh (hA.any (ok':=fun b=>ok b∧b<w.heap.size) fun b h1 h2=>⟨h2,h1⟩);have HFO:=zh hF;have HK1:=zh hk1;have HSZ:=zh hsz;have HTX:=zh (zCj hF);have HXC:=zh (And.intro hx hcp);clear hN hA hk hF hsz hcp hk1 hx B1 B2 s1;go_enter Tryz.func95,Tryz.ntmps95;go_upto_region 1 with(fail)
 generalize (w.alloc (.cells #[.int .i64 n.kind,.string n.text,.int .i64 n.cols,.slice A2 n.kids.length cap2] 25)).alloc (.cells zerC 31)=w1 at*;go_upto_region 2 with(fail)
 have B3:=zA1 w1 (.cells #[.int .i64 4,.string ⟨#[]⟩,.string ⟨#[]⟩,.slice A1 xs.length cp,.string ⟨#[]⟩] 31);have K2:=Blk.new w1 31 #[.int .i64 4,.string ⟨#[]⟩,.string ⟨#[]⟩,.slice A1 xs.length cp,.string ⟨#[]⟩];rw[HS2.out] at K2;have S:=zh (OdS.mk (sh:=(⟨#[]⟩,⟨#[]⟩)) (HB.out.trans (B3.mono HB.out.size)) (keep B3 K0.out) (keep B3 K1.out) K2);rw[HS2.out];clear B3 K2 HB K0 K1 HS2;generalize w1.alloc (.cells #[.int .i64 4,.string ⟨#[]⟩,.string ⟨#[]⟩,.slice A1 xs.length cp,.string ⟨#[]⟩] 31)=w2 at*;have k00:=S.out.k0.cell 0;have k01:=S.out.k0.cell 1;have k1c:=fun i=>S.out.k1.cell i
 have k1f:=fun i=>S.out.k1.frozen i
 go_upto_block 0 with(fail)
 go_cut [] (fun wc=>(n.kind≠2∧n.kind≠3∧n.kind≠4)∧Hid (OdS w #[.int .i64 n.kind,.string n.text,.int .i64 n.cols,.slice A2 n.kids.length cap2] (.slice A1 xs.length cp) (zBn n xs.length) wc))
 case first=>
  by_cases n2:n.kind=2
  ·have q2:(n.kind==2)=true:=beq_iff_eq.2 n2;have HO:=zh (show opdT n xs= .mk 2 n.text ⟨#[]⟩ ⟨#[]⟩ [] by unfold opdT;rw[if_pos n2]);have KK1:=zh S.out.k1;clear n2;go_wp2_with fail;obtain⟨w9,e9,KR,HB5,HG5⟩:=fin5 KK1.out S.out.bel (by omega) (.int .i64 2) (.string n.text) (.string ⟨#[]⟩) (.slice none 0 0) (.string ⟨#[]⟩);rw[e9];obtain⟨r0,r1,r2,r3,r4⟩:=jF KR;exact bodyPost_ret (v:=.agg #[.int .i64 2,.string n.text,.string ⟨#[]⟩,.slice none 0 0,.string ⟨#[]⟩]) (by simp[results,Tryz.results95,go_sem,r0,r1,r2,r3,r4]) rfl (show RTmP _ _ _ _ _ by rw[HO.out];exact⟨_,rfl,TmAt.zero _ _ 2 n.text HSZ.out,HB5.out⟩)
  have q2:(n.kind==2)=false:=bn n2
  by_cases n3:n.kind=3
  ·have q3:(n.kind==3)=true:=beq_iff_eq.2 n3;have HO:=zh (show opdT n xs= .mk 1 n.text ⟨#[]⟩ ⟨#[]⟩ [] by unfold opdT;rw[if_neg n2,if_pos n3]);have KK1:=zh S.out.k1;clear n2 n3;go_wp2_with fail;obtain⟨w9,e9,KR,HB5,HG5⟩:=fin5 KK1.out S.out.bel (by omega) (.int .i64 1) (.string n.text) (.string ⟨#[]⟩) (.slice none 0 0) (.string ⟨#[]⟩);rw[e9];obtain⟨r0,r1,r2,r3,r4⟩:=jF KR;exact bodyPost_ret (v:=.agg #[.int .i64 1,.string n.text,.string ⟨#[]⟩,.slice none 0 0,.string ⟨#[]⟩]) (by simp[results,Tryz.results95,go_sem,r0,r1,r2,r3,r4]) rfl (show RTmP _ _ _ _ _ by rw[HO.out];exact⟨_,rfl,TmAt.zero _ _ 1 n.text HSZ.out,HB5.out⟩)
  have q3:(n.kind==3)=false:=bn n3
  by_cases n4:n.kind=4
  ·have q4:(n.kind==4)=true:=beq_iff_eq.2 n4;have HO:=zh (show opdT n xs= .mk 3 n.text ⟨#[]⟩ ⟨#[]⟩ [] by unfold opdT;rw[if_neg n2,if_neg n3,if_pos n4]);have KK1:=zh S.out.k1;clear n2 n3 n4;go_wp2_with fail;obtain⟨w9,e9,KR,HB5,HG5⟩:=fin5 KK1.out S.out.bel (by omega) (.int .i64 3) (.string n.text) (.string ⟨#[]⟩) (.slice none 0 0) (.string ⟨#[]⟩);rw[e9];obtain⟨r0,r1,r2,r3,r4⟩:=jF KR;exact bodyPost_ret (v:=.agg #[.int .i64 3,.string n.text,.string ⟨#[]⟩,.slice none 0 0,.string ⟨#[]⟩]) (by simp[results,Tryz.results95,go_sem,r0,r1,r2,r3,r4]) rfl (show RTmP _ _ _ _ _ by rw[HO.out];exact⟨_,rfl,TmAt.zero _ _ 3 n.text HSZ.out,HB5.out⟩)
  have q4:(n.kind==4)=false:=bn n4;have HNE:=zh (show n.kind≠2∧n.kind≠3∧n.kind≠4 from⟨n2,n3,n4⟩);have HKD:=zh (show n.kind=5∨n.kind=6∨n.kind=7∨n.kind=8∨n.kind=9∨n.kind=10∨n.kind=11∨n.kind=12 by have h1:=zSj HFO.out;have h2:=HK1.out;omega);clear n2 n3 n4 k1c k1f;have k2c:=fun i=>S.out.k2.cell i
  have k2f:=fun i=>S.out.k2.frozen i
  by_cases n5:n.kind=5
  ·have q5:(n.kind==5)=true:=beq_iff_eq.2 n5;have HD:=zh (show zBn n xs.length=(divS,zQx) by unfold zBn;rw[if_pos n5]);clear n5;go_wp2_with fail;go_meet;rw[HD.out];exact⟨HNE.out,zh (S.out.put divS zQx)⟩
  have q5:(n.kind==5)=false:=bn n5
  by_cases n6:n.kind=6
  ·have q6:(n.kind==6)=true:=beq_iff_eq.2 n6;have HD:=zh (show zBn n xs.length=((if xs.length=1 then zJr else zE3),zE3) by unfold zBn;rw[if_neg n5,if_pos n6]);clear n5 n6
   by_cases hx1:xs.length=1
   ·have qx:((xs.length:Int)==1)=true:=by rw[hx1];rfl
    have HD2:=zh (show zBn n xs.length=(zJr,zE3) by rw[HD.out,if_pos hx1]);clear hx1;go_wp2_with fail;go_meet;rw[HD2.out];exact⟨HNE.out,zh ((S.out.put zE3 zE3).one zJr)⟩
   ·have qx:((xs.length:Int)==1)=false:=bn (by omega);have HD2:=zh (show zBn n xs.length=(zE3,zE3) by rw[HD.out,if_neg hx1]);clear hx1;go_wp2_with fail;go_meet;rw[HD2.out];exact⟨HNE.out,zh (S.out.put zE3 zE3)⟩
  have q6:(n.kind==6)=false:=bn n6
  by_cases n7:n.kind=7
  ·have q7:(n.kind==7)=true:=beq_iff_eq.2 n7;have HD:=zh (show zBn n xs.length=(indS,subS) by unfold zBn;rw[if_neg n5,if_neg n6,if_pos n7]);clear n5 n6 n7;go_wp2_with fail;go_meet;rw[HD.out];exact⟨HNE.out,zh (S.out.put indS subS)⟩
  have q7:(n.kind==7)=false:=bn n7
  by_cases n8:n.kind=8
  ·have q8:(n.kind==8)=true:=beq_iff_eq.2 n8;have HD:=zh (show zBn n xs.length=(powS,supS) by unfold zBn;rw[if_neg n5,if_neg n6,if_neg n7,if_pos n8]);clear n5 n6 n7 n8;go_wp2_with fail;go_meet;rw[HD.out];exact⟨HNE.out,zh (S.out.put powS supS)⟩
  have q8:(n.kind==8)=false:=bn n8
  by_cases n9:n.kind=9
  ·have q9:(n.kind==9)=true:=beq_iff_eq.2 n9;have HD:=zh (show zBn n xs.length=(zQc,zIf) by unfold zBn;rw[if_neg n5,if_neg n6,if_neg n7,if_neg n8,if_pos n9]);clear n5 n6 n7 n8 n9;go_wp2_with fail;go_meet;rw[HD.out];exact⟨HNE.out,zh (S.out.put zQc zIf)⟩
  have q9:(n.kind==9)=false:=bn n9
  by_cases n10:n.kind=10
  ·have q10:(n.kind==10)=true:=beq_iff_eq.2 n10;have HD:=zh (show zBn n xs.length=(n.text,accS) by unfold zBn;rw[if_neg n5,if_neg n6,if_neg n7,if_neg n8,if_neg n9,if_pos n10]);clear n5 n6 n7 n8 n9 n10;go_wp2_with fail;go_meet;rw[HD.out];exact⟨HNE.out,zh (S.out.put n.text accS)⟩
  have q10:(n.kind==10)=false:=bn n10
  by_cases n12:n.kind=12
  ·have q12:(n.kind==12)=true:=beq_iff_eq.2 n12;have q11:(n.kind==11)=false:=bn (by omega);have HCO:=zh (zGd HFO.out n12);have HD:=zh (show zBn n xs.length=(matS,matS++bys (Lib.decDigits n.cols.toNat)) by unfold zBn;rw[if_neg n5,if_neg n6,if_neg n7,if_neg n8,if_neg n9,if_neg n10,if_pos n12]);clear n5 n6 n7 n8 n9 n10 n12;obtain⟨m,hm⟩:∃m:Nat,n.cols=(m:Int):=⟨n.cols.toNat,(Int.toNat_of_nonneg HCO.out.1).symm⟩
   have hm2:n.cols.toNat=m:=by omega
   have hm3:m≤100:=by have:=HCO.out;omega
   have k02:w2.cell? ⟨w.heap.size,2,none⟩=some (.int .i64 (m:Int)):=by rw[←hm];exact S.out.k0.cell 2
   rw[hm2] at HD;have HM3:=zh hm3;clear hm hm2 hm3;go_wp2_with fail;refine(zVt m w2 (by have:=HM3.out;omega)).mono ?_;rintro e w3 ⟨rfl,hb⟩;have hds:(bys (Lib.decDigits m)).size≤1000:=by
    have h1:(Lib.decDigits m).length≤20:=by rw[Lib.decDigits_length];exact Lib.nDigits_le20 _ (by have:=HM3.out;omega)
    rw[zSk];omega
   replace S:=zh (S.out.keep hb);clear hb k00 k01 k02 k2c k2f;have k2c:=fun i=>S.out.k2.cell i
   have k2f:=fun i=>S.out.k2.frozen i
   go_wp2_with fail;go_meet;rw[HD.out];exact⟨HNE.out,zh (S.out.put matS (matS++bys (Lib.decDigits m)))⟩
  have q11:(n.kind==11)=true:=beq_iff_eq.2 (by have:=HKD.out;omega);have HD:=zh (show zBn n xs.length=((if n.text.data.toList=[124,124] then absS else grpS),fenS++n.text) by unfold zBn;rw[if_neg n5,if_neg n6,if_neg n7,if_neg n8,if_neg n9,if_neg n10,if_neg n12]);clear n5 n6 n7 n8 n9 n10 n12;have hts:=HTX.out;go_upto_region 24 with(fail)
  go_region;have S1:Hid (OdS w #[.int .i64 n.kind,.string n.text,.int .i64 n.cols,.slice A2 n.kids.length cap2] (.slice A1 xs.length cp) (grpS,fenS++n.text) (((w2.setCell ⟨w.heap.size+2,1,none⟩ (.string ⟨#[103,114,111,117,112]⟩)).setCell ⟨w.heap.size+2,4,none⟩ (.string ((⟨#[102,101,110,99,101]⟩:ByteArray)++n.text))).drew)):=zh ((S.out.put grpS (fenS++n.text)).keep (zA2 (Below.refl _ _)));clear S k00 k01 k2c k2f;generalize ((w2.setCell ⟨w.heap.size+2,1,none⟩ (.string ⟨#[103,114,111,117,112]⟩)).setCell ⟨w.heap.size+2,4,none⟩ (.string ((⟨#[102,101,110,99,101]⟩:ByteArray)++n.text))).drew=w5 at*;have k01:=S1.out.k0.cell 1;have k2c:=fun i=>S1.out.k2.cell i
  have k2f:=fun i=>S1.out.k2.frozen i
  by_cases hb:n.text.data.toList=[124,124]
  ·have qb:(n.text.toList==[124,124])=true:=by rw[ByteArray.toList_eq,hb];rfl
   have HD2:=zh (show zBn n xs.length=(absS,fenS++n.text) by rw[HD.out,if_pos hb]);clear hb;go_wp2_with fail;go_meet;rw[HD2.out];exact⟨HNE.out,zh (S1.out.one absS)⟩
  ·have qb:(n.text.toList==[124,124])=false:=by rw[ByteArray.toList_eq];exact bn hb
   have HD2:=zh (show zBn n xs.length=(grpS,fenS++n.text) by rw[HD.out,if_neg hb]);clear hb;go_wp2_with fail;go_meet;rw[HD2.out];exact⟨HNE.out,S1⟩
 have HSHP:=zh (show(zBn n xs.length).1.size≤9223372036854775807∧(zBn n xs.length).2.size≤9223372036854775807 by have:=zR1 (m:=xs.length) HTX.out (fun e=>(zGd HFO.out e).2);omega);clear S k00 k01 k1c k1f;obtain⟨⟨n2,n3,n4⟩,S⟩:=hcut;have HOT:=zh (show opdT n xs= .mk 4 (zBn n xs.length).1 ⟨#[]⟩ (zBn n xs.length).2 xs by unfold opdT;rw[if_neg n2,if_neg n3,if_neg n4]);clear n2 n3 n4;obtain⟨sh,hsh⟩:∃sh,sh=zBn n xs.length:=⟨_,rfl⟩
 rw[←hsh] at HOT HSHP S;clear hsh;obtain⟨nam,frm⟩:=sh;dsimp only at HOT HSHP;have HAC:=zh (HA.out.keep S.out.bel);have k2c:=fun i=>S.out.k2.cell i
 have k1c:=fun i=>S.out.k1.cell i
 have k1f:=fun i=>S.out.k1.frozen i
 have KK1:=zh S.out.k1;go_wp2_with fail;obtain⟨w9,e9,KR,HB5,HG5⟩:=fin5 KK1.out S.out.bel (by omega) (.int .i64 4) (.string nam) (.string ⟨#[]⟩) (.slice A1 xs.length cp) (.string frm);rw[e9];obtain⟨r0,r1,r2,r3,r4⟩:=jF KR;exact bodyPost_ret (v:=.agg #[.int .i64 4,.string nam,.string ⟨#[]⟩,.slice A1 xs.length cp,.string frm]) (by simp[results,Tryz.results95,go_sem,r0,r1,r2,r3,r4]) rfl (show RTmP _ _ _ _ _ by rw[HOT.out];exact⟨_,rfl,TmAt.of HSHP.out.1 (by decide) HSHP.out.2 HXC.out.1 HXC.out.2 (HAC.out.map HG5.out.size (fun b _ hb=>.inl hb.1) fun p _ hb=>World.cell?_of_block (HG5.out.block _ ‹_› fun e=>by have:=sj e;have:=hb.2;omega)),HB5.out⟩)
end Go.Proofs.YtchllommcolijaaGreatDoor.El
