/- The name and the form of an operand with slots. -/
import Derived.Test.YtchllommcolijaaGreatDoorHbcc69e96
namespace Go.Proofs.YtchllommcolijaaGreatDoor.El
open At Ch Sp Sy Go.RowKit
set_option maxRecDepth 100000 in
set_option maxHeartbeats 4000000 in
theorem zTs (n:Tre)(c:Array Value)(w:World)(hN:zBd w n c)(h6:n.kind=6→n.kids≠[])(h12:n.kind=12→0≤n.cols∧n.cols<100)(hts:n.text.size≤1000000):
  Calls Tryz.prog 56 #[.agg c] w fun e w'=>e= .returned (.tuple #[.string (zAz n).1,.string (zAz n).2])∧Below w.heap.size w w':=by
 obtain⟨A2,cap2,rfl,hsz,hl,hc,hk⟩:=hN.form;have hb0:=zA1 w (.cells #[.int .i64 n.kind,.string n.text,.int .i64 n.cols,.slice A2 n.kids.length cap2] 25);have HB:=zh hb0;have K1:=zh (Blk.new w 25 #[.int .i64 n.kind,.string n.text,.int .i64 n.cols,.slice A2 n.kids.length cap2]);have HK:=zh (hk.keep hb0);have H6:=zh h6;have H12:=zh h12;clear hN hk hb0 h6 h12;go_enter Tryz.func56,Tryz.ntmps56;go_upto_region 1 with(fail)
 generalize w.alloc (.cells #[.int .i64 n.kind,.string n.text,.int .i64 n.cols,.slice A2 n.kids.length cap2] 25)=w1 at*;have k0:=K1.out.cell 0;have k1:=K1.out.cell 1;have k2:=K1.out.cell 2;have k3:=K1.out.cell 3
 by_cases n5:n.kind=5
 ·have q5:(n.kind==5)=true:=beq_iff_eq.2 n5;have HS:=zh (show zAz n=(divS,zQx) by unfold zAz;rw[if_pos n5]);clear n5;go_wp2_with fail;exact bodyPost_ret (v:=.tuple #[.string ⟨#[100,105,118,105,100,101]⟩,.string ⟨#[102,114,97,99]⟩]) (by simp[results,Tryz.results56,go_sem]) rfl ⟨by rw[HS.out];rfl,HB.out⟩
 have q5:(n.kind==5)=false:=bn n5
 by_cases n6:n.kind=6
 ·have q6:(n.kind==6)=true:=beq_iff_eq.2 n6;obtain⟨d,ks,hdk⟩:∃d ks,n.kids=d::ks:=List.exists_cons_of_ne_nil (H6.out n6);obtain⟨ad,A3,cap3,rfl,hadl,hsz3,hl3,hc3,hk3,hn3,d0,d1,d2,d3⟩:=HK.out.at_ (i:=0) (t:=d) (by rw[hdk];rfl);have HS:=zh (show zAz n=((if d.kids.isEmpty then zJr else zE3),zE3) by unfold zAz;rw[if_neg n5,if_pos n6,hdk]);rw[add_zero'] at d0 d1 d2 d3;have hpos:(0:Int)<(n.kids.length:Int):=by rw[hdk,List.length_cons];omega
  clear n5 n6 hdk hn3 hk3
  by_cases he:d.kids.length=0
  ·have qe:((d.kids.length:Int)==0)=true:=by rw[he];rfl
   have HE:=zh (show d.kids.isEmpty=true from List.isEmpty_iff.2 (List.length_eq_zero_iff.1 he));replace he:=zh he;go_wp2_with fail;exact bodyPost_ret (v:=.tuple #[.string ⟨#[115,113,114,116]⟩,.string ⟨#[114,111,111,116]⟩]) (by simp[results,Tryz.results56,go_sem]) rfl ⟨by rw[HS.out,HE.out];rfl,HB.out⟩
  ·have qe:((d.kids.length:Int)==0)=false:=by rw[beq_eq_false_iff_ne];omega
   have HE:=zh (show d.kids.isEmpty=false from List.isEmpty_eq_false_iff.2 fun e=>he (by rw[e];rfl));replace he:=zh he;go_wp2_with fail;exact bodyPost_ret (v:=.tuple #[.string ⟨#[114,111,111,116]⟩,.string ⟨#[114,111,111,116]⟩]) (by simp[results,Tryz.results56,go_sem]) rfl ⟨by rw[HS.out,HE.out];rfl,HB.out⟩
 have q6:(n.kind==6)=false:=bn n6
 by_cases n7:n.kind=7
 ·have q7:(n.kind==7)=true:=beq_iff_eq.2 n7;have HS:=zh (show zAz n=(indS,subS) by unfold zAz;rw[if_neg n5,if_neg n6,if_pos n7]);clear n5 n6 n7;go_wp2_with fail;exact bodyPost_ret (v:=.tuple #[.string ⟨#[105,110,100,101,120]⟩,.string ⟨#[115,117,98]⟩]) (by simp[results,Tryz.results56,go_sem]) rfl ⟨by rw[HS.out];rfl,HB.out⟩
 have q7:(n.kind==7)=false:=bn n7
 by_cases n8:n.kind=8
 ·have q8:(n.kind==8)=true:=beq_iff_eq.2 n8;have HS:=zh (show zAz n=(powS,supS) by unfold zAz;rw[if_neg n5,if_neg n6,if_neg n7,if_pos n8]);clear n5 n6 n7 n8;go_wp2_with fail;exact bodyPost_ret (v:=.tuple #[.string ⟨#[112,111,119,101,114]⟩,.string ⟨#[115,117,112]⟩]) (by simp[results,Tryz.results56,go_sem]) rfl ⟨by rw[HS.out];rfl,HB.out⟩
 have q8:(n.kind==8)=false:=bn n8
 by_cases n9:n.kind=9
 ·have q9:(n.kind==9)=true:=beq_iff_eq.2 n9;have HS:=zh (show zAz n=(zQc,zIf) by unfold zAz;rw[if_neg n5,if_neg n6,if_neg n7,if_neg n8,if_pos n9]);clear n5 n6 n7 n8 n9;go_wp2_with fail;exact bodyPost_ret (v:=.tuple #[.string ⟨#[105,110,100,101,120,112,111,119,101,114]⟩,.string ⟨#[98,111,116,104]⟩]) (by simp[results,Tryz.results56,go_sem]) rfl ⟨by rw[HS.out];rfl,HB.out⟩
 have q9:(n.kind==9)=false:=bn n9
 by_cases n10:n.kind=10
 ·have q10:(n.kind==10)=true:=beq_iff_eq.2 n10;have HS:=zh (show zAz n=(n.text,accS) by unfold zAz;rw[if_neg n5,if_neg n6,if_neg n7,if_neg n8,if_neg n9,if_pos n10]);clear n5 n6 n7 n8 n9 n10;go_wp2_with fail;exact bodyPost_ret (v:=.tuple #[.string n.text,.string ⟨#[97,99,99,101,110,116]⟩]) (by simp[results,Tryz.results56,go_sem]) rfl ⟨by rw[HS.out];rfl,HB.out⟩
 have q10:(n.kind==10)=false:=bn n10
 by_cases n12:n.kind=12
 ·have q12:(n.kind==12)=true:=beq_iff_eq.2 n12;obtain⟨cn,hcn⟩:∃cn:Nat,n.cols=(cn:Int):=⟨n.cols.toNat,by have:=(H12.out n12).1;omega⟩
  have HC:=zh (show cn<100 by have:=(H12.out n12).2;omega);have HS:=zh (show zAz n=(matS,matS++bys (Lib.decDigits cn)) by unfold zAz;rw[if_neg n5,if_neg n6,if_neg n7,if_neg n8,if_neg n9,if_neg n10,if_pos n12,hcn,Int.toNat_natCast]);have HSZ:=zh (Tryz.strconv_Itoa_small cn HC.out w1);rw[hcn] at k2;clear n5 n6 n7 n8 n9 n10 n12 hcn;go_wp2_with fail;refine HSZ.out.mono ?_;rintro e w2 ⟨rfl,rfl⟩;have hdg:(Lib.decDigits cn).length≤20:=by rw[Lib.decDigits_length];exact Lib.nDigits_le20 cn (by have:=HC.out;omega)
  go_wp2_with fail;exact bodyPost_ret (v:=.tuple #[.string ⟨#[109,97,116,114,105,120]⟩,.string ((⟨#[109,97,116,114,105,120]⟩:ByteArray)++(⟨(Lib.decDigits cn).toArray⟩:ByteArray))]) (by simp[results,Tryz.results56,go_sem]) rfl ⟨by rw[HS.out];rfl,HB.out⟩
 have q12:(n.kind==12)=false:=bn n12;have HS:=zh (show zAz n=((if n.text.data.toList=[124,124] then absS else grpS),fenS++n.text) by unfold zAz;rw[if_neg n5,if_neg n6,if_neg n7,if_neg n8,if_neg n9,if_neg n10,if_neg n12]);clear n5 n6 n7 n8 n9 n10 n12
 by_cases hb:n.text.data.toList=[124,124]
 ·have HF:=zh hb;have qb:(n.text.toList==[124,124])=true:=by rw[ByteArray.toList_eq,hb];rfl
  clear hb;go_upto_region 19 with(fail)
  go_quiet (fail)
  go_wp2_with fail;exact bodyPost_ret (v:=.tuple #[.string ⟨#[97,98,115]⟩,.string ((⟨#[102,101,110,99,101]⟩:ByteArray)++n.text)]) (by simp[results,Tryz.results56,go_sem]) rfl ⟨by rw[HS.out,if_pos HF.out];rfl,below_drewN HB.out _⟩
 ·have HF:=zh hb;have qb:(n.text.toList==[124,124])=false:=by rw[beq_eq_false_iff_ne,ByteArray.toList_eq];exact hb
  clear hb;go_upto_region 20 with(fail)
  go_quiet (fail)
  go_wp2_with fail;exact bodyPost_ret (v:=.tuple #[.string ⟨#[103,114,111,117,112]⟩,.string ((⟨#[102,101,110,99,101]⟩:ByteArray)++n.text)]) (by simp[results,Tryz.results56,go_sem]) rfl ⟨by rw[HS.out,if_neg HF.out];rfl,below_drewN HB.out _⟩
end Go.Proofs.YtchllommcolijaaGreatDoor.El
