/- binds: the variable that the subscript of an operator binds. -/
import Derived.Test.YtchllommcolijaaGreatDoorHbcc69e96
namespace Go.Proofs.YtchllommcolijaaGreatDoor.El
open At Ch Sp Sy Go.RowKit
def zCt (rs:List Rul)(a:Tre):Bool:=decide (a.kind=2)&&(idB a.text.data.toList&& !zB9 rs a.text.data.toList)
def zLk (rs:List Rul)(sub:Tre):ByteArray:=match sub.kids with
 |a::_::_::_=>if zCt rs a=true then a.text else⟨#[]⟩
 |_=>⟨#[]⟩
def zLn (rs:List Rul)(sub:Tre):Bool:=match sub.kids with
 |a::b::_::_=>zCt rs a&&(decide (b.kind=2)&&decide (b.text.data.toList=[61]))
 |_=>false
theorem zW3 (rs:List Rul)(sub:Tre):zG1 rs sub=if zLn rs sub=true then some (zLk rs sub) else none:=by
 unfold zG1 zLn zLk zCt
 match sub.kids with
 |[]=>rfl
 |[_]=>rfl
 |[_,_]=>rfl
 |a::b::_::_=>
  dsimp only
  by_cases h1:a.kind=2<;>by_cases h2:idB a.text.data.toList=true<;>by_cases h3:zB9 rs a.text.data.toList=true<;>simp_all
theorem zFf {w:World}{A:Option Addr}{a:Tre}{ts:List Tre}(h:zB0 w A (a::ts)):∃ad A2 cap2,A=some ad∧ad.block<w.heap.size∧zBd w a #[.int .i64 a.kind,.string a.text,.int .i64 a.cols,.slice A2 a.kids.length cap2]∧a.text.size≤9223372036854775807∧w.cell? ad=some (.int .i64 a.kind)∧w.cell? ⟨ad.block,ad.off+1,none⟩=some (.string a.text)∧w.cell? ⟨ad.block,ad.off+2,none⟩=some (.int .i64 a.cols)∧w.cell? ⟨ad.block,ad.off+3,none⟩=some (.slice A2 a.kids.length cap2):=by
 obtain⟨ad,A2,cap2,hA,hlt,hsz,_,_,_,hn,c0,c1,c2,c3⟩:=h.at_ (i:=0) (t:=a) rfl;rw[add_zero'] at c0 c1 c2 c3;exact⟨ad,A2,cap2,hA,hlt,hn,hsz,c0,c1,c2,c3⟩
theorem zHj {w:World}{ad:Addr}{a b:Tre}{ts:List Tre}(h:zB0 w (some ad) (a::b::ts)):∃A2 cap2,zBd w b #[.int .i64 b.kind,.string b.text,.int .i64 b.cols,.slice A2 b.kids.length cap2]∧b.text.size≤9223372036854775807∧w.cell? ⟨ad.block,ad.off+4,none⟩=some (.int .i64 b.kind)∧w.cell? ⟨ad.block,ad.off+4+1,none⟩=some (.string b.text)∧w.cell? ⟨ad.block,ad.off+4+2,none⟩=some (.int .i64 b.cols)∧w.cell? ⟨ad.block,ad.off+4+3,none⟩=some (.slice A2 b.kids.length cap2):=by
 obtain⟨ad',A2,cap2,hA,hlt,hsz,_,_,_,hn,c0,c1,c2,c3⟩:=h.at_ (i:=1) (t:=b) rfl;obtain rfl:=sj hA;have e:ad.add (1*4)=⟨ad.block,ad.off+4,none⟩:=by unfold Addr.add;simp
 rw[e] at c0 c1 c2 c3;exact⟨A2,cap2,hn,hsz,c0,c1,c2,c3⟩
set_option maxRecDepth 100000 in
set_option maxHeartbeats 4000000 in
theorem zSw (g:Nat)(A:Option Addr)(cap:Nat)(rs:List Rul)(sub:Tre)(c:Array Value)(w:World)(hR:zG4 w g A cap rs)(hN:zBd w sub c):
  Calls Tryz.prog 57 #[.pointer (some ⟨g,0,none⟩),.agg c] w fun e w'=>e= .returned (.tuple #[.string (zLk rs sub),.bool (zLn rs sub)])∧Below w.heap.size w w':=by
 obtain⟨A2,cap2,rfl,hsz,hl,hc,hk⟩:=hN.form;have hb0:=zA1 w (.cells #[.int .i64 sub.kind,.string sub.text,.int .i64 sub.cols,.slice A2 sub.kids.length cap2] 25);have HB:=zh hb0;have K1:=zh (Blk.new w 25 #[.int .i64 sub.kind,.string sub.text,.int .i64 sub.cols,.slice A2 sub.kids.length cap2]);have HR:=zh (hR.keep hb0);have HK:=zh (hk.keep hb0);clear hR hN hk hb0;go_enter Tryz.func57,Tryz.ntmps57;go_upto_region 1 with(fail)
 generalize w.alloc (.cells #[.int .i64 sub.kind,.string sub.text,.int .i64 sub.cols,.slice A2 sub.kids.length cap2] 25)=w1 at*;have k3:=K1.out.cell 3
 match hks:sub.kids with
 |[]|[_]|[_,_]=>
  all_goals
   have HS:=zh (show zLk rs sub=⟨#[]⟩∧zLn rs sub=false by unfold zLk zLn;rw[hks];exact⟨rfl,rfl⟩);rw[hks] at k3;clear hks;go_wp2_with fail;exact bodyPost_ret (v:=.tuple #[.string ⟨#[]⟩,.bool false]) (by simp[results,Tryz.results57,go_sem]) rfl ⟨by rw[HS.out.1,HS.out.2],HB.out⟩
 |a::b::d::r=>
  have HS:=zh (show zLk rs sub=(if zCt rs a=true then a.text else⟨#[]⟩)∧zLn rs sub=(zCt rs a&&(decide (b.kind=2)&&decide (b.text.data.toList=[61]))) by unfold zLk zLn;rw[hks];exact⟨rfl,rfl⟩);rw[hks] at HK;obtain⟨ad,A3,cap3,rfl,hadl,hna,hsza,a0,a1,a2,a3⟩:=zFf HK.out;obtain⟨A4,cap4,hnb,hszb,b0,b1,b2,b3⟩:=zHj HK.out;have hlen:3≤sub.kids.length:=by rw[hks,List.length_cons,List.length_cons,List.length_cons];omega
  have hp0:(0:Int)<(sub.kids.length:Int):=by omega
  have hp1:(1:Int)<(sub.kids.length:Int):=by omega
  have hp3:¬((sub.kids.length:Int)<3):=by omega
  have hlt1:=K1.out.lt;have HNB:=zh (And.intro hnb hszb);have HNA:=zh (And.intro hna hsza);clear hks hna hnb;go_upto_region 3 with(fail)
  go_cut [6,7] (fun p6 p7 wc=>∃g6 g7,p6= .pointer (some ⟨g6,0,none⟩)∧p7= .pointer (some ⟨g7,0,none⟩)∧Hid (Blk wc g6 25 #[.int .i64 a.kind,.string a.text,.int .i64 a.cols,.slice A3 a.kids.length cap3])∧Hid (Blk wc g7 25 #[.int .i64 b.kind,.string b.text,.int .i64 b.cols,.slice A4 b.kids.length cap4])∧Hid (Below w1.heap.size w1 wc))
  case first=>
   go_region
   all_goals
    first
     |(
      have B1:=zA1 w1 (.cells #[.int .i64 a.kind,.string a.text,.int .i64 a.cols,.slice A3 a.kids.length cap3] 25);have B2:=zA1 (w1.alloc (.cells #[.int .i64 a.kind,.string a.text,.int .i64 a.cols,.slice A3 a.kids.length cap3] 25)) (.cells #[.int .i64 b.kind,.string b.text,.int .i64 b.cols,.slice A4 b.kids.length cap4] 25);have s1:(w1.alloc (.cells #[.int .i64 a.kind,.string a.text,.int .i64 a.cols,.slice A3 a.kids.length cap3] 25)).heap.size=w1.heap.size+1:=by simp
      have KX:=keep (zA2 B2) (Blk.new w1 25 #[.int .i64 a.kind,.string a.text,.int .i64 a.cols,.slice A3 a.kids.length cap3]);have KY:=(Blk.new (w1.alloc (.cells #[.int .i64 a.kind,.string a.text,.int .i64 a.cols,.slice A3 a.kids.length cap3] 25)) 25 #[.int .i64 b.kind,.string b.text,.int .i64 b.cols,.slice A4 b.kids.length cap4]).drew;rw[s1] at KY;go_wp2_with fail;go_meet;exact⟨w1.heap.size,w1.heap.size+1,rfl,rfl,zh KX,zh KY,zh (zA2 (B1.trans (B2.mono B1.size)))⟩)
     |(
      have B1:=zA1 w1 (.cells #[.int .i64 b.kind,.string b.text,.int .i64 b.cols,.slice A4 b.kids.length cap4] 25);have B2:=zA1 (w1.alloc (.cells #[.int .i64 b.kind,.string b.text,.int .i64 b.cols,.slice A4 b.kids.length cap4] 25)) (.cells #[.int .i64 a.kind,.string a.text,.int .i64 a.cols,.slice A3 a.kids.length cap3] 25);have s1:(w1.alloc (.cells #[.int .i64 b.kind,.string b.text,.int .i64 b.cols,.slice A4 b.kids.length cap4] 25)).heap.size=w1.heap.size+1:=by simp
      have KX:=keep (zA2 B2) (Blk.new w1 25 #[.int .i64 b.kind,.string b.text,.int .i64 b.cols,.slice A4 b.kids.length cap4]);have KY:=(Blk.new (w1.alloc (.cells #[.int .i64 b.kind,.string b.text,.int .i64 b.cols,.slice A4 b.kids.length cap4] 25)) 25 #[.int .i64 a.kind,.string a.text,.int .i64 a.cols,.slice A3 a.kids.length cap3]).drew;rw[s1] at KY;go_wp2_with fail;go_meet;exact⟨w1.heap.size+1,w1.heap.size,rfl,rfl,zh KY,zh KX,zh (zA2 (B1.trans (B2.mono B1.size)))⟩)
  obtain⟨g6,g7,rfl,rfl,K6,K7,HB12⟩:=hcut;replace HB:=zh (HB.out.trans (HB12.out.mono HB.out.size));replace HR:=zh (HR.out.keep HB12.out);clear k3 a0 a1 a2 a3 b0 b1 b2 b3 hlt1 hadl HNA HNB HK K1 HB12;obtain⟨w2,hw2⟩:∃w2,w2=wc:=⟨_,rfl⟩
  subst hw2
  by_cases h2:a.kind=2
  case neg=>
   have HO:=zh (show zCt rs a=false by unfold zCt;rw[decide_eq_false h2];rfl);have q:(a.kind==2)=false:=bn h2;have q':(a.kind !=2)=true:=by rw[bne,q];rfl
   clear h2;go_upto_region 4 with(fail)
   refine zCa (by kernel_rfl) (by kernel_rfl) ?_;have C6:=fun(e:Ext w2) (i:Nat)=>(keep e.bel K6.out).cell i
   have C7:=fun(e:Ext w2) (i:Nat)=>(keep e.bel K7.out).cell i
   repeat (go_big_quiet_step (fail))
   refine wpQuiet_nil ?_;intro wy hwy;obtain⟨⟨wz,hb⟩,e9⟩:=hwy;dsimp only at e9;subst e9;replace HB:=jt HB hb;clear C6 C7;go_wp2_with fail;exact bodyPost_ret (v:=.tuple #[.string ⟨#[]⟩,.bool false]) (by simp[results,Tryz.results57,go_sem]) rfl ⟨by rw[HS.out.1,HS.out.2,HO.out];rfl,HB.out⟩
  have q:(a.kind==2)=true:=beq_iff_eq.2 h2;have q':(a.kind !=2)=false:=by rw[bne,q];rfl
  have HIC:=zh (fun e:Ext w2=>Calls.ext (e:=e) (zGg a.text e.val hsza));obtain⟨bm,nb,D,hbx,hmp,hse⟩:=HR.out.box;have HBX:=zh hbx;have HMP:=zh hmp;have HSE:=zh hse;clear hbx hmp hse;have HLK:=zh (fun e:Ext w2=>zKv (zLa HMP.out e.bel) HSE.out (s:=a.text) hsza);cases hid:idB a.text.data.toList
  case false=>
   have HO:=zh (show zCt rs a=false by unfold zCt;rw[hid];simp);have hid':idB a.text.toList=false:=by rw[ByteArray.toList_eq];exact hid
   clear h2 hid;go_upto_region 4 with(fail)
   refine zCa (by kernel_rfl) (by kernel_rfl) ?_;have C6:=fun(e:Ext w2) (i:Nat)=>(keep e.bel K6.out).cell i
   have C7:=fun(e:Ext w2) (i:Nat)=>(keep e.bel K7.out).cell i
   repeat (go_big_quiet_step (fail))
   go_big_quiet_step ((rename_i e;exact HIC.out e))
   repeat (go_big_quiet_step (fail))
   refine wpQuiet_nil ?_;intro wy hwy;obtain⟨⟨wz,hb⟩,e9⟩:=hwy;dsimp only at e9;subst e9;replace HB:=jt HB hb;clear C6 C7;go_wp2_with fail;exact bodyPost_ret (v:=.tuple #[.string ⟨#[]⟩,.bool false]) (by simp[results,Tryz.results57,go_sem]) rfl ⟨by rw[HS.out.1,HS.out.2,HO.out];rfl,HB.out⟩
  have hid':idB a.text.toList=true:=by rw[ByteArray.toList_eq];exact hid
  cases hsy:zB9 rs a.text.data.toList
  case true=>
   have HO:=zh (show zCt rs a=false by unfold zCt;rw[hid,hsy];simp);rw[hsy] at HLK;clear h2 hid hsy;go_upto_region 4 with(fail)
   refine zCa (by kernel_rfl) (by kernel_rfl) ?_;have C6:=fun(e:Ext w2) (i:Nat)=>(keep e.bel K6.out).cell i
   have C7:=fun(e:Ext w2) (i:Nat)=>(keep e.bel K7.out).cell i
   have CG:=fun(e:Ext w2) (i:Nat)=>(keep e.bel HBX.out).cell i
   have CL:=HLK.out
   repeat (go_big_quiet_step (fail))
   go_big_quiet_step ((rename_i e;exact HIC.out e))
   repeat (go_big_quiet_step (fail))
   refine wpQuiet_nil ?_;intro wy hwy;obtain⟨⟨wz,hb⟩,e9⟩:=hwy;dsimp only at e9;subst e9;replace HB:=jt HB hb;clear C6 C7;clear CG CL;go_wp2_with fail;exact bodyPost_ret (v:=.tuple #[.string ⟨#[]⟩,.bool false]) (by simp[results,Tryz.results57,go_sem]) rfl ⟨by rw[HS.out.1,HS.out.2,HO.out];rfl,HB.out⟩
  have HO:=zh (show zCt rs a=true by unfold zCt;rw[hid,hsy,decide_eq_true h2];rfl);rw[hsy] at HLK;clear h2 hid hsy;go_upto_region 4 with(fail)
  refine zCa (by kernel_rfl) (by kernel_rfl) ?_;have C6:=fun(e:Ext w2) (i:Nat)=>(keep e.bel K6.out).cell i
  have C7:=fun(e:Ext w2) (i:Nat)=>(keep e.bel K7.out).cell i
  have CG:=fun(e:Ext w2) (i:Nat)=>(keep e.bel HBX.out).cell i
  have CL:=HLK.out
  repeat (go_big_quiet_step (fail))
  go_big_quiet_step ((rename_i e;exact HIC.out e))
  repeat (go_big_quiet_step (fail))
  refine wpQuiet_nil ?_;intro wy hwy;obtain⟨⟨wz,hb⟩,e9⟩:=hwy;dsimp only at e9;subst e9;replace HB:=jt HB hb;replace K6:=kp hb K6;replace K7:=kp hb K7;clear hb C6 C7;clear CG CL HLK HIC hid' q q';have k6:=K6.out.cell 1;have k70:=K7.out.cell 0;have k71:=K7.out.cell 1
  by_cases h3:b.kind=2
  case neg=>
   have HD:=zh (decide_eq_false h3);have q:(b.kind==2)=false:=bn h3;clear h3;go_upto_region 6 with(fail)
   go_quiet (fail)
   go_wp2_with fail;exact bodyPost_ret (v:=.tuple #[.string a.text,.bool false]) (by simp[results,Tryz.results57,go_sem]) rfl ⟨by rw[HS.out.1,HS.out.2,HO.out,HD.out];rfl,below_drewN HB.out _⟩
  have HD:=zh (decide_eq_true h3);have q:(b.kind==2)=true:=beq_iff_eq.2 h3;clear h3
  by_cases h4:b.text.data.toList=[61]
  ·have HE:=zh (decide_eq_true h4);have q4:(b.text.toList==[61])=true:=by rw[ByteArray.toList_eq,h4];rfl
   clear h4;go_upto_region 6 with(fail)
   go_quiet (fail)
   go_wp2_with fail;exact bodyPost_ret (v:=.tuple #[.string a.text,.bool true]) (by simp[results,Tryz.results57,go_sem]) rfl ⟨by rw[HS.out.1,HS.out.2,HO.out,HD.out,HE.out];rfl,below_drewN HB.out _⟩
  ·have HE:=zh (decide_eq_false h4);have q4:(b.text.toList==[61])=false:=by rw[beq_eq_false_iff_ne,ByteArray.toList_eq];exact h4
   clear h4;go_upto_region 6 with(fail)
   go_quiet (fail)
   go_wp2_with fail;exact bodyPost_ret (v:=.tuple #[.string a.text,.bool false]) (by simp[results,Tryz.results57,go_sem]) rfl ⟨by rw[HS.out.1,HS.out.2,HO.out,HD.out,HE.out];rfl,below_drewN HB.out _⟩
end Go.Proofs.YtchllommcolijaaGreatDoor.El
