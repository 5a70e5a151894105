/- awake of the laws of render. -/
import Derived.Test.YtadcldfbmkfkaaaGreatDoorH042f7cfd
namespace Go.Proofs.YtadcldfbmkfkaaaGreatDoor.Rn
open At Ch Sp Sy El Go.RowKit
theorem zY1 {ts:List Trm}{j:Nat}{y:Trm}(h:ts[j]?=some y):szL (ts.take (j+1))=szL (ts.take j)+szM y:=by
 rw[zF1 h];unfold szL;rw[List.map_append,List.sum_append];simp
theorem zYo:∀{ts:List Trm},smML ts=false→cntL ts+1000000≤szL ts
 |[],h=>by cases h
 |t::ts,h=>by
  have h0:=zSo ts;unfold szL at h0⊢;rw[List.map_cons,List.sum_cons,cntL];rw[smML,Bool.and_eq_false_iff] at h;rcases h with h|h
  ·have h1:szM t=cntM t+1000000:=by unfold szM;rw[h];rfl
   omega
  ·have h1:=zYo h;unfold szL at h1;have h2:cntM t≤szM t:=Nat.le_add_right _ _;omega
theorem yBl {k:Int}{a v f:ByteArray}{ts:List Trm}(ha:a.size≤300)(hv:v.size≤300)(hf:f.size≤300):szM (.mk k a v f ts)≤szL ts+1:=by
 unfold szM;rw[cntM,smM];rw[show smS a=true from decide_eq_true ha,show smS v=true from decide_eq_true hv,show smS f=true from decide_eq_true hf];cases h:smML ts with
 |true=>
  have:=zMf h;rw[if_pos (show(true&&true&&true&&true)=true from rfl)];omega
 |false=>
  have:=zYo h;rw[if_neg (show ¬(true&&true&&true&&false)=true from Bool.false_ne_true)];omega
def yBj (t:Trm)(m:Int)(w:World)(e:Ending)(w':World):Prop:=∃r:Int,e= .returned (.int .i64 r)∧-1≤r∧r≤1000000∧(0≤r→(szM t:Int)+r≤m)∧Below w.heap.size w w'
set_option maxRecDepth 100000 in
set_option maxHeartbeats 1600000 in
theorem zPx:∀(z:Nat) (t:Trm) (c:Array Value) (m:Int) (w:World),cntM t≤z→MAt w t c→0≤m→m≤1000000→Calls Tryz.prog 64 #[.agg c,.int .i64 m] w (yBj t m w):=by
 intro z
 induction z with
 |zero=>intro t c m w h;have:=zEj t;omega
 |succ z ih=>
  intro t c m w hz hM h0 hm;have IH:=zh ih;clear ih;obtain⟨A,cap,rfl,ha,hv,hf,hl,hc,hk⟩:=hM.form;obtain⟨k,a,v,f,ts⟩:=t;dsimp only[Trm.kind,Trm.nam,Trm.vr,Trm.form,Trm.args] at ha hv hf hl hk⊢;have HZ:=zh (show cntL ts≤z by rw[cntM] at hz;omega);have HK:=zh (hk.keep (zA0 w (.cells (trmC k a v A ts.length cap f) 31)));have HB:=zh (zA0 w (.cells (trmC k a v A ts.length cap f) 31));have K1:=zh (Blk.new w 31 (trmC k a v A ts.length cap f));have HL:ts.length≤9223372036854775807:=by omega
  clear hz hM hk;dsimp only[trmC] at HK HB K1
  by_cases g1:300<(a.size:Int)
  ·have c1:=K1.out.cell 1;go_enter Tryz.func64,Tryz.ntmps64;go_wp2_with fail;go_ret;exact⟨-1,rfl,by omega,by omega,fun h=>absurd h (by omega),HB.out⟩
  by_cases g2:300<(v.size:Int)
  ·have c1:=K1.out.cell 1;have c2:=K1.out.cell 2;go_enter Tryz.func64,Tryz.ntmps64;go_wp2_with fail;go_ret;exact⟨-1,rfl,by omega,by omega,fun h=>absurd h (by omega),HB.out⟩
  by_cases g3:300<(f.size:Int)
  ·have c1:=K1.out.cell 1;have c2:=K1.out.cell 2;have c4:=K1.out.cell 4;go_enter Tryz.func64,Tryz.ntmps64;go_wp2_with fail;go_ret;exact⟨-1,rfl,by omega,by omega,fun h=>absurd h (by omega),HB.out⟩
  have HT:=zh (show szM (.mk k a v f ts)≤szL ts+1 from yBl (by omega) (by omega) (by omega));have c1:=K1.out.cell 1;have c2:=K1.out.cell 2;have c4:=K1.out.cell 4;go_enter Tryz.func64,Tryz.ntmps64;go_wp2_with fail;clear c1 c2 c4
  go_loopw [1,5] (fun v0 i wr=>∃(j:Nat) (x:Int),j≤ts.length∧i= .int .i64 j∧v0= .int .i64 x∧-1≤x∧x≤1000000∧Hid (0≤x→((szL (ts.take j)+1:Nat):Int)+x≤m)∧Hid (Blk wr w.heap.size 31 (trmC k a v A ts.length cap f))∧Hid (zDk wr A ts)∧Hid (Below w.heap.size w wr)) (fun _ i _=>ts.length -(intOf i).toNat)
  case atStart=>exact⟨0,m -1,by omega,rfl,rfl,by omega,by omega,(fun _=>by rw[List.take_zero,show szL []=0 from rfl];omega),K1,HK,HB⟩
  case round=>
   clear K1 HK HB;obtain⟨j,x,hj,rfl,rfl,hx1,hx2,HX,K1,HK,HB⟩:=hrel;have c3:=K1.out.cell 3;dsimp only[trmC] at c3
   by_cases hlt:j<ts.length
   ·by_cases hpos:0≤x
    ·obtain⟨y,hy⟩:∃y,ts[j]?=some y:=⟨_,gE hlt⟩
     obtain⟨ad,A',cap',rfl,hadl,hp⟩:=HK.out.at_ hy;have HY:=zh hp.whole;obtain⟨-,d0,d1,d2,d3,d4,-⟩:=hp;have HS:=zh (show cntM y≤z by have:=zFb hy;have:=HZ.out;omega);have HSN:=zh (zY1 hy);clear hy;go_wp2_with fail;refine(IH.out y _ _ _ HS.out HY.out hpos hx2).mono ?_;rintro e w2 ⟨r,rfl,hr1,hr2,hr3,hb⟩;replace HK:=zh (HK.out.keep hb);replace K1:=kp hb K1;replace HB:=jt HB hb;have HR:=zh (show 0≤r→((szL (ts.take (j+1))+1:Nat):Int)+r≤m from fun h=>by
      have h1:=hr3 h;have h2:=HX.out hpos;rw[HSN.out];omega)
     clear hb HY d0 d1 d2 d3 d4 c3 hr3;go_wp2_with fail;go_roundw
     case rel=>exact⟨j+1,r,by omega,by go_num,rfl,hr1,hr2,HR,K1,HK,HB⟩
     case measure=>simp[intOf];omega
    ·go_wp2_with fail;go_ret;exact⟨x,rfl,hx1,hx2,fun h=>absurd h (by omega),HB.out⟩
   ·obtain rfl:j=ts.length:=by omega
    rw[List.take_length] at HX;go_wp2_with fail;go_ret;exact⟨x,rfl,hx1,hx2,fun h=>by have h1:=HX.out h;have h2:=HT.out;omega,HB.out⟩
def FewP (t:Trm)(w:World)(e:Ending)(w':World):Prop:=∃b:Bool,e= .returned (.bool b)∧(b=true→szM t≤200)∧Below w.heap.size w w'
set_option maxRecDepth 100000 in
set_option maxHeartbeats 800000 in
theorem zZk (t:Trm)(c:Array Value)(w:World)(hM:MAt w t c):Calls Tryz.prog 31 #[.agg c] w (FewP t w):=by
 obtain⟨A,cap,rfl,ha,hv,hf,hl,hc,hk⟩:=hM.form;have HM:=zh (hM.keep (zA0 w (.cells (trmC t.kind t.nam t.vr A t.args.length cap t.form) 31)));have HB:=zh (zA0 w (.cells (trmC t.kind t.nam t.vr A t.args.length cap t.form) 31));have K1:=zh (Blk.new w 31 (trmC t.kind t.nam t.vr A t.args.length cap t.form));clear hM hk;dsimp only[trmC] at HM HB K1;go_enter Tryz.func31,Tryz.ntmps31;go_wp2_with fail;refine(zPx (cntM t) t _ 200 _ (Nat.le_refl _) HM.out (by omega) (by omega)).mono ?_;rintro e w2 ⟨r,rfl,hr1,hr2,hr3,hb⟩;replace HB:=jt HB hb;have HR:=zh (show decide (0≤r)=true→szM t≤200 from fun h=>by
  have h0:=of_decide_eq_true h;have:=hr3 h0;omega)
 clear hb hr3;go_wp2_with fail;go_ret;exact⟨_,rfl,HR.out,HB.out⟩
set_option maxRecDepth 100000 in
set_option maxHeartbeats 1600000 in
theorem zNr (A:Option Addr)(cap:Nat)(rs:List Rul)(w:World)(hR:zAi w A rs)(hn:rs.length≤9223372036854775807):Calls Tryz.prog 24 #[.slice A rs.length cap] w fun e w'=>e= .returned (.bool (zF5 rs))∧w=w':=by
 have HR:=zh hR;have HA:=zh (@zO3 rs);clear hR;go_enter Tryz.func24,Tryz.ntmps24;go_wp2_with fail
 go_loop [3] (fun i=>∃k:Nat,k≤rs.length∧i= .int .i64 k∧Hid (∀(j:Nat) x,rs[j]?=some x→j<k→zEg x=true)) (fun i=>rs.length -(intOf i).toNat)
 case atStart=>exact⟨0,by omega,rfl,(fun j _ _ h=>by omega)⟩
 case round=>
  obtain⟨k,hk,rfl,HJ⟩:=hrel
  by_cases hlt:k<rs.length
  ·obtain⟨x,hx⟩:∃x,rs[k]?=some x:=⟨_,gE hlt⟩
   obtain⟨hf,ad,rfl,hadl,c0,c1,c2,c3,c4,c5⟩:=HR.out.at_ hx;have HX:=zh hx;clear hx hf
   by_cases h1:50<x.sym.size
   ·have HQ:=zh (zI1 HX.out (show zEg x=false by unfold zEg;rw[decide_eq_false (by omega)];rfl));go_wp2_with fail;go_ret;exact⟨zA1 HQ.out.symm,rfl⟩
   ·by_cases h2:50<x.nam.size
    ·have HQ:=zh (zI1 HX.out (show zEg x=false by unfold zEg;rw[decide_eq_false (p:=x.nam.size≤50) (by omega),Bool.and_false]));go_wp2_with fail;go_ret;exact⟨zA1 HQ.out.symm,rfl⟩
    ·have HQ:Hid (zEg x=true):=by
      show zEg x=true;unfold zEg;rw[decide_eq_true (by omega),decide_eq_true (by omega)];rfl
     go_wp2_with fail;go_round
     case rel=>exact⟨k+1,by omega,by go_num,(fun j y hj h=>by
      rcases Nat.lt_or_ge j k with h'|h'
      ·exact HJ.out j y hj h'
      ·obtain rfl:j=k:=by omega
       rw[HX.out] at hj;obtain rfl:=sj hj;exact HQ.out)⟩
     case measure=>simp[intOf];omega
  ·obtain rfl:k=rs.length:=by omega
   have HA:=zh (HA.out HJ.out);go_wp2_with fail;go_ret;exact⟨zA1 (by rw[HA.out];exact decide_eq_decide.2 (by omega)),rfl⟩
set_option maxRecDepth 100000 in
set_option maxHeartbeats 1600000 in
theorem zTf (w:World):Calls Tryz.prog 53 #[] w fun e w'=>e= .returned (.slice (some ⟨w.heap.size,0,none⟩) 1 1)∧w'=w.alloc (.cells zX3 64):=by
 go_enter Tryz.func53,Tryz.ntmps53;go_wp2_with fail;exact bodyPost_ret (v:=.slice (some ⟨w.heap.size,0,none⟩) 1 1) (by simp[results,Tryz.results53,go_sem]) rfl ⟨rfl,rfl⟩
end Go.Proofs.YtadcldfbmkfkaaaGreatDoor.Rn
namespace Go.Proofs.YtadcldfbmkfkaaaGreatDoor.El
open At Ch Sp Sy Go.RowKit
def rowT (l:List Tre):Tre:=.mk 1 ⟨#[]⟩ 0 l
theorem zTr {w:World}{g:Nat}(h:Blk w g 64 zX3):zAi w (some ⟨g,0,none⟩) [zP1]:=fun k r hk=>by
 cases k with
 |succ k=>simp at hk
 |zero=>
  obtain rfl:zP1=r:=by simpa using hk
  refine⟨⟨by decide,by decide⟩,_,rfl,h.lt,fun j v hj=>?_⟩;have hc:=h.cell j
  match j,hj with
  |0,hj|1,hj|2,hj|3,hj|4,hj|5,hj=>exact hc.trans hj
  |j+6,hj=>simp[zP1] at hj
end Go.Proofs.YtadcldfbmkfkaaaGreatDoor.El
namespace Go.Proofs.YtadcldfbmkfkaaaGreatDoor.Rn
open At Ch Sp Sy El Go.RowKit
def awX:Trm:=.mk 2 ⟨#[120]⟩ ⟨#[]⟩ ⟨#[]⟩ []
def awM:Trm:=.mk 4 ⟨#[112,108,117,115]⟩ ⟨#[]⟩ ⟨#[105,110,102,105,120]⟩ [awX,awX]
def awR:Tre:=rowT [symT ⟨#[120]⟩,symT ⟨#[43]⟩,symT ⟨#[120]⟩]
set_option maxRecDepth 100000 in
theorem zJj:(zAg [zP1]&&zAx awM)=true∧zD6 [zP1] 80 awM=some awR∧szM awM=3:=⟨by kernel_rfl,by kernel_rfl,by kernel_rfl⟩
theorem yAr {w:World}{g:Nat}(h:Blk w g 31 #[.int .i64 2,.string ⟨#[120]⟩,.string ⟨#[]⟩,.slice none 0 0,.string ⟨#[]⟩,.int .i64 2,.string ⟨#[120]⟩,.string ⟨#[]⟩,.slice none 0 0,.string ⟨#[]⟩]):MAt w awM (trmC 4 ⟨#[112,108,117,115]⟩ ⟨#[]⟩ (some ⟨g,0,none⟩) 2 2 ⟨#[105,110,102,105,120]⟩):=by
 have leaf:MAt w awX #[.int .i64 2,.string ⟨#[120]⟩,.string ⟨#[]⟩,.slice none 0 0,.string ⟨#[]⟩]:=MAt.of (ts:=[]) (A:=none) (cap:=0) (by decide) (by decide) (by decide) (Nat.le_refl _) (by omega) fun i t hi=>by simp at hi
 refine MAt.of (ts:=[awX,awX]) (by decide) (by decide) (by decide) (Nat.le_refl _) (by omega) fun i t hi=>?_
 match i,hi with
 |0,hi=>
  obtain rfl:=sj hi;exact⟨_,rfl,h.lt,_,leaf,fun j hj=>by
   rw[addg,h.cell]
   match j,hj with
   |0,_|1,_|2,_|3,_|4,_=>rfl
   |j+5,hj=>omega⟩
 |1,hi=>
  obtain rfl:=sj hi;exact⟨_,rfl,h.lt,_,leaf,fun j hj=>by
   rw[addg,h.cell]
   match j,hj with
   |0,_|1,_|2,_|3,_|4,_=>rfl
   |j+5,hj=>omega⟩
 |i+2,hi=>simp at hi
theorem yAu {w:World}{e:Ending}{w':World}(h:RenP [zP1] 80 awM w e w'):∃nA ncp,e= .returned (.tuple #[.agg #[.int .i64 1,.string ⟨#[]⟩,.int .i64 0,.slice nA 3 ncp],.slice none 0 0,.int .i64 0])∧NdAt (fun b=>w.heap.size≤b∧b<w'.heap.size) w' awR #[.int .i64 1,.string ⟨#[]⟩,.int .i64 0,.slice nA 3 ncp]∧Below w.heap.size w w':=by
 obtain⟨h,hb⟩:=h;rw[if_pos zJj.1,zJj.2.1] at h;obtain⟨A,cp,rfl,hn⟩:=h;exact⟨A,cp,rfl,hn.any fun b hb h=>⟨h,hb⟩,hb⟩
set_option maxRecDepth 100000 in
set_option maxHeartbeats 8000000 in
theorem zO6 (w:World)(hsy:VarE w 0)(hrg:VarE w 1):Calls Tryz.prog 23 #[] w fun e w'=>e= .returned (.bool true)∧Below w.heap.size w w':=by
 have hba:=zA0 w (.cells #[.int .i64 2,.string ⟨#[120]⟩,.string ⟨#[]⟩,.slice none 0 0,.string ⟨#[]⟩] 31);have HB:=zh hba;have K0:=zh (Blk.new w 31 #[.int .i64 2,.string ⟨#[120]⟩,.string ⟨#[]⟩,.slice none 0 0,.string ⟨#[]⟩]);have HSY:=zh (hsy.keep hba);have HRG:=zh (hrg.keep hba);clear hba hsy hrg;go_enter Tryz.func23,Tryz.ntmps23;go_upto_region 2 with(fail)
 generalize w.alloc (.cells #[.int .i64 2,.string ⟨#[120]⟩,.string ⟨#[]⟩,.slice none 0 0,.string ⟨#[]⟩] 31)=w1 at*;refine zAh (X:=Gh) (by kernel_rfl) [1,1,1,1,2,1,2,2,2,2,1,3,2,2] [false,false,false,false,false,false,false,false,false,false,false,false,false,false] _ (fun gx=>[.slice (some ⟨gx.n 7,0,none⟩) 1 1,.agg #[.int .i64 2,.string ⟨#[120]⟩,.string ⟨#[]⟩,.slice none 0 0,.string ⟨#[]⟩],.agg #[.int .i64 2,.string ⟨#[120]⟩,.string ⟨#[]⟩,.slice none 0 0,.string ⟨#[]⟩],.slice (some ⟨gx.n 10,0,none⟩) 2 2,.agg #[.int .i64 4,.string ⟨#[112,108,117,115]⟩,.string ⟨#[]⟩,.slice (some ⟨gx.n 10,0,none⟩) 2 2,.string ⟨#[105,110,102,105,120]⟩],.tuple #[gx.v 13,.slice none 0 0,.int .i64 0],.tuple #[gx.v 13,.slice none 0 0,.int .i64 0],gx.v 13,.slice none 0 0,.int .i64 0,.pointer (some ⟨gx.n 2,0,none⟩),undef,.slice none 0 0,.int .i64 0]) [(0,fun gx wx=>Blk wx (gx.n 7) 64 zX3),(3,fun gx wx=>Blk wx (gx.n 10) 31 #[.int .i64 2,.string ⟨#[120]⟩,.string ⟨#[]⟩,.slice none 0 0,.string ⟨#[]⟩,.int .i64 2,.string ⟨#[120]⟩,.string ⟨#[]⟩,.slice none 0 0,.string ⟨#[]⟩]),(5,fun gx wx=>(∃nA ncp,gx.v 13= .agg #[.int .i64 1,.string ⟨#[]⟩,.int .i64 0,.slice nA 3 ncp]∧NdAt (fun b=>gx.n 29≤b∧b<gx.n 30) wx awR #[.int .i64 1,.string ⟨#[]⟩,.int .i64 0,.slice nA 3 ncp])∧w1.heap.size≤gx.n 29∧gx.n 29≤gx.n 30),(10,fun gx wx=>Blk wx (gx.n 2) 25 zerD∧w1.heap.size≤gx.n 2)] (fun gx wx=>(gx.n 2=0∨gx.n 2<wx.heap.size)∧gx.n 30≤wx.heap.size∧(gx.n 2=0∨gx.n 30=0∨gx.n 2<gx.n 29∨gx.n 30≤gx.n 2)) Gh.zero (by kernel_rfl) (fun gx=>by simp[fin,zAm,zAb,List.range,List.range.loop,Act.put];rfl) (fun _=>by kernel_rfl) (zA8.cons (fun gx wx w2 h hb=>keep hb h) (zA8.cons (fun gx wx w2 h hb=>keep hb h) (zA8.cons (fun gx wx w2 ⟨⟨nA,ncp,h1,h2⟩,h3⟩ hb=>⟨⟨nA,ncp,h1,h2.keep hb⟩,h3⟩) (zA8.cons (fun gx wx w2 h hb=>⟨keep hb h.1,h.2⟩) zA8.nil)))) (⟨.inl rfl,Nat.zero_le _,.inl rfl⟩) ?_ (by kernel_rfl) ?_
 ·refine⟨fun gx wq hB hJ hf=>?_,fun gx wq hB hJ hf=>?_,fun gx wq hB hJ hf=>?_,fun gx wq hB hJ hf=>?_,fun gx wq=>jp (.agg #[.int .i64 4,.string ⟨#[112,108,117,115]⟩,.string ⟨#[]⟩,.slice (some ⟨gx.n 10,0,none⟩) 2 2,.string ⟨#[105,110,102,105,120]⟩]) (by simp[go_sem,evAct]) rfl,fun gx wq hB hJ hf=>?_,fun gx wq=>jp (.tuple #[gx.v 13,.slice none 0 0,.int .i64 0]) (by kernel_rfl) rfl,fun gx wq=>jp (gx.v 13) (by kernel_rfl) rfl,fun gx wq=>jp (.slice none 0 0) (by kernel_rfl) rfl,fun gx wq=>jp (.int .i64 0) (by kernel_rfl) rfl,fun gx wq hB hJ hf=>?_,fun gx wq=>jp (.slice none 0 0) (by kernel_rfl) rfl,fun gx wq=>jp (.int .i64 0) (by kernel_rfl) rfl,trivial⟩
  ·refine jc 53 (#[]) wq (by kernel_rfl) ((zTf wq).mono ?_);rintro e wz ⟨rfl,rfl⟩;have hb:=zA0 wq (.cells zX3 64);exact⟨_,rfl,gx.setN 7 wq.heap.size,rfl,(by refine zA5.of_same ⟨?_,?_,?_,?_,?_,?_,?_,?_,?_,?_,?_,?_,?_,?_,trivial⟩<;>first|exact jK|exact .inl rfl|exact .inr (.inl (by kernel_rfl))),hb,⟨Blk.new wq _ _,.inr fun h=>h,.inl (by kernel_rfl),.inr fun h=>h,trivial⟩,(by obtain⟨j1,j2,j3⟩:=hJ;have hs:=hb.size;exact⟨j1.imp id (fun h=>ll h hs),Nat.le_trans j2 hs,j3⟩)⟩
  ·have c0:=(keep hB K0.out).cell 0;have c1:=(keep hB K0.out).cell 1;have c2:=(keep hB K0.out).cell 2;have c3:=(keep hB K0.out).cell 3;have c4:=(keep hB K0.out).cell 4;exact gs (.agg #[.int .i64 2,.string ⟨#[120]⟩,.string ⟨#[]⟩,.slice none 0 0,.string ⟨#[]⟩]) hJ (by kernel_rfl) (by simp[go_sem,evAct,c0,c1,c2,c3,c4]) rfl
  ·have c0:=(keep hB K0.out).cell 0;have c1:=(keep hB K0.out).cell 1;have c2:=(keep hB K0.out).cell 2;have c3:=(keep hB K0.out).cell 3;have c4:=(keep hB K0.out).cell 4;exact gs (.agg #[.int .i64 2,.string ⟨#[120]⟩,.string ⟨#[]⟩,.slice none 0 0,.string ⟨#[]⟩]) hJ (by kernel_rfl) (by simp[go_sem,evAct,c0,c1,c2,c3,c4]) rfl
  ·exact jv (.slice (some ⟨wq.heap.size,0,none⟩) 2 2) (wq.alloc (.cells #[.int .i64 2,.string ⟨#[120]⟩,.string ⟨#[]⟩,.slice none 0 0,.string ⟨#[]⟩,.int .i64 2,.string ⟨#[120]⟩,.string ⟨#[]⟩,.slice none 0 0,.string ⟨#[]⟩] 31)) (by simp[go_sem,evAct]) ⟨gx.setN 10 wq.heap.size,rfl,(by refine zA5.of_same ⟨?_,?_,?_,?_,?_,?_,?_,?_,?_,?_,?_,?_,?_,?_,trivial⟩<;>first|exact jK|exact .inl rfl|exact .inr (.inl (by kernel_rfl))),zA0 wq _,⟨.inr fun h=>h,Blk.new wq _ _,.inl (by kernel_rfl),.inr fun h=>h,trivial⟩,(by obtain⟨j1,j2,j3⟩:=hJ;have hs:=(zA0 wq (.cells #[.int .i64 2,.string ⟨#[120]⟩,.string ⟨#[]⟩,.slice none 0 0,.string ⟨#[]⟩,.int .i64 2,.string ⟨#[120]⟩,.string ⟨#[]⟩,.slice none 0 0,.string ⟨#[]⟩] 31)).size;exact⟨j1.imp id (fun h=>ll h hs),Nat.le_trans j2 hs,j3⟩)⟩
  ·have f7:=hf.1 (by kernel_rfl);have f10:=hf.2.1 (by kernel_rfl);refine jc 26 (#[.slice (some ⟨gx.n 7,0,none⟩) 1 1,.agg #[.int .i64 4,.string ⟨#[112,108,117,115]⟩,.string ⟨#[]⟩,.slice (some ⟨gx.n 10,0,none⟩) 2 2,.string ⟨#[105,110,102,105,120]⟩]]) wq (by kernel_rfl) ((zLj (some ⟨gx.n 7,0,none⟩) 1 [zP1] 80 10 (by decide) (Nat.le_refl _) (by decide) (by decide) (by decide) awM _ wq (by rw[zJj.2.2];decide) (zTr f7) (yAr f10) (HSY.out.keep hB) (HRG.out.keep hB)).mono ?_);rintro e wz hm;obtain⟨nA,ncp,rfl,hnd,hb⟩:=yAu hm;exact⟨_,rfl,((gx.setV 13 (.agg #[.int .i64 1,.string ⟨#[]⟩,.int .i64 0,.slice nA 3 ncp])).setN 29 wq.heap.size).setN 30 wz.heap.size,rfl,(by refine zA5.of_same ⟨?_,?_,?_,?_,?_,?_,?_,?_,?_,?_,?_,?_,?_,?_,trivial⟩<;>first|exact jK|exact .inl rfl|exact .inr (.inl (by kernel_rfl))),hb,⟨.inr fun h=>h,.inr fun h=>h,⟨⟨nA,ncp,rfl,hnd⟩,hB.size,hb.size⟩,.inr fun h=>h,trivial⟩,(by obtain⟨j1,j2,j3⟩:=hJ;have hs:=hb.size;exact⟨j1.imp id (fun h=>ll h hs),Nat.le_refl _,j1.imp id (fun h=>.inr (.inl h))⟩)⟩
  ·exact jv (.pointer (some ⟨wq.heap.size,0,none⟩)) (wq.alloc (.cells zerD 25)) (by simp[go_sem]) ⟨gx.setN 2 wq.heap.size,rfl,(by refine zA5.of_same ⟨?_,?_,?_,?_,?_,?_,?_,?_,?_,?_,?_,?_,?_,?_,trivial⟩<;>first|exact jK|exact .inl rfl|exact .inr (.inl (by kernel_rfl))),zA0 wq _,⟨.inr fun h=>h,.inr fun h=>h,.inr fun h=>h,⟨Blk.new wq _ _,hB.size⟩,trivial⟩,(by obtain⟨j1,j2,j3⟩:=hJ;exact⟨.inr (by show wq.heap.size<_;simp),Nat.le_trans j2 (zA0 wq (.cells zerD 25)).size,.inr (.inr (.inr j2))⟩)⟩
 ·refine fun gx wq hB hJ hf=>?_
  dsimp only[zAu] at hf;change wpOps _ _ _ [11] _ _;obtain⟨-,-,⟨⟨nA,ncp,e30,hnd⟩,hlo,hhi⟩,⟨hk9,hg9⟩,-⟩:=hf;rw[e30];have HK9:=zh hk9;have HG9:=zh hg9;have HND:=zh hnd;have HB4:=jt HB hB;have HOUT:=zh (show gx.n 2<gx.n 29∨gx.n 30≤gx.n 2∨w1.heap.size=0 by
   obtain⟨j1,j2,j3⟩:=hJ;rcases j3 with h|h|h
   ·omega
   ·omega
   ·omega)
  have HS1:=zh (show 0<w1.heap.size from Nat.lt_of_le_of_lt (Nat.zero_le _) K0.out.lt);clear e30 hnd hlo hhi hk9 hg9 hB hJ;generalize gx.n 2=g9 at*;generalize gx.n 29=lo at*;generalize gx.n 30=hi at*;generalize gx.n 7=g7 at*;generalize gx.n 10=g10 at*;clear gx;generalize wq=w4 at*;have kc:=fun i=>HK9.out.cell i
  have kf:=fun i=>HK9.out.frozen i
  obtain⟨w9,e9,KZ,HBZ,HGZ⟩:=fin4 HK9.out HB4.out (Nat.le_trans HB.out.size HG9.out) (.int .i64 1) (.string ⟨#[]⟩) (.int .i64 0) (.slice nA 3 ncp);refine zAw (o:=_) rfl rfl (w':=(((w4.setCell ⟨g9,0,none⟩ (.int .i64 1)).setCell ⟨g9,1,none⟩ (.string ⟨#[]⟩)).setCell ⟨g9,2,none⟩ (.int .i64 0)).setCell ⟨g9,3,none⟩ (.slice nA 3 ncp)) (by simp[go_sem,kc,kf,zerD]) ?_;rw[e9];refine zAe ?_;have HNZ:=zh (HND.out.grown (ok':=fun _=>True) HGZ.out (fun b _ hb e=>by have h9:b=g9:=sj e;have:=HOUT.out;have:=HS1.out;omega) fun _ _ _=>trivial);clear kc kf e9 HK9 HND HB4 HGZ HOUT HSY HRG K0 HB HG9 HS1;obtain⟨A,cap,hc,-,hcp,hcq,hks⟩:=HNZ.out.form;obtain⟨-,h1,-⟩:True∧(Value.slice nA 3 ncp= .slice A 3 cap)∧True:=⟨trivial,by have:=congrArg (fun c=>c[3]?) hc;exact sj this,trivial⟩
  injection h1 with h1 _ h2;subst h1 h2;obtain⟨ad,hA,hlt,-,cc,hcc,hcl⟩:=hks 1 (symT ⟨#[43]⟩) rfl;subst hA;obtain⟨A9,cap9,rfl,-⟩:=hcc.form;have c0:=hcl 0 (by omega);have c1:=hcl 1 (by omega);have c2:=hcl 2 (by omega);have c3:=hcl 3 (by omega);clear hc hks hcl hcc HNZ;dsimp only[symT,Tre.kind,Tre.text,Tre.cols,Tre.kids,Addr.add] at c0 c1 c2 c3;have c1:w9.cell? ⟨ad.block,ad.off+4+1,none⟩=some (.string ⟨#[43]⟩):=c1;have z0:=KZ.out.cell 0;have z1:=KZ.out.cell 1;have z2:=KZ.out.cell 2;have z3:=KZ.out.cell 3;go_wp2_with fail;exact bodyPost_ret (v:=.bool true) (by simp[results,Tryz.results23,go_sem]) rfl ⟨rfl,HBZ.out⟩
def AtP (B:World)(s:Trm)(w:World)(e:Ending)(w':World):Prop:=(∃c,e= .returned (.tuple #[.agg c,.int .i64 0])∧MAt B s c)∧Below w.heap.size w w'
theorem fin5 {B:Nat}{w x:World}{g:Nat}{t:TypeId}{d0 d1 d2 d3 d4:Value}(h:Blk x g t #[d0,d1,d2,d3,d4])(hb:Below B w x)(hg:B≤g)(c0 c1 c2 c3 c4:Value):∃w9,((((x.setCell ⟨g,0,none⟩ c0).setCell ⟨g,1,none⟩ c1).setCell ⟨g,2,none⟩ c2).setCell ⟨g,3,none⟩ c3).setCell ⟨g,4,none⟩ c4=w9∧Hid (Blk w9 g t #[c0,c1,c2,c3,c4])∧Hid (Below B w w9)∧Hid (x.grownBy w9 (some g)):=
 ⟨_,rfl,zh (set5 h c0 c1 c2 c3 c4),zh (hb.grown (zDw x g c0 c1 c2 c3 c4) (Nat.le_trans hg (Nat.le_of_lt h.lt)) fun r e=>by have:=sj e;omega),zh (zDw x g c0 c1 c2 c3 c4)⟩
theorem zVw {u:Trm}{p:List Int}{k:Nat}{x:Int}{s:Trm}(h:atM u (p.drop k)=some s)(hx:p[k]?=some x):0≤x∧∃t,u.args[x.toNat]?=some t∧atM t (p.drop (k+1))=some s:=by
 obtain⟨hl,rfl⟩:=List.getElem?_eq_some_iff.1 hx;rw[List.drop_eq_getElem_cons hl,atM] at h
 by_cases h0:0≤p[k]
 ·rw[if_pos h0] at h;cases hu:u.args[p[k].toNat]? with
  |none=>rw[hu] at h;cases h
  |some t=>rw[hu] at h;exact⟨h0,t,rfl,h⟩
 ·rw[if_neg h0] at h;cases h
set_option maxRecDepth 100000 in
set_option maxHeartbeats 1600000 in
theorem yAo (m:Trm)(c:Array Value)(A:Option Addr)(cap:Nat)(p:List Int)(s:Trm)(w:World)(hv:zAx m=true)(hn:cntM m≤1000000)(hM:MAt w m c)(hp:zBb w A p)(hpl:p.length≤1000000)(hs:atM m p=some s):Calls Tryz.prog 32 #[.agg c,.slice A p.length cap] w (AtP w s w):=by
 obtain⟨A2,cap2,rfl,-⟩:=hM.form;dsimp only[trmC] at hM⊢;have B1:=zA0 w (.cells #[.int .i64 m.kind,.string m.nam,.string m.vr,.slice A2 m.args.length cap2,.string m.form] 31);have s1:(w.alloc (.cells #[.int .i64 m.kind,.string m.nam,.string m.vr,.slice A2 m.args.length cap2,.string m.form] 31)).heap.size=w.heap.size+1:=by simp
 have B2:=zA0 (w.alloc (.cells #[.int .i64 m.kind,.string m.nam,.string m.vr,.slice A2 m.args.length cap2,.string m.form] 31)) (.cells zerC 31);have HB:=zh (B1.trans (B2.mono B1.size));have K0:=zh (keep B2 (Blk.new w 31 #[.int .i64 m.kind,.string m.nam,.string m.vr,.slice A2 m.args.length cap2,.string m.form]));have K1:=zh (show Blk _ (w.heap.size+1) _ _ by have h:=Blk.new (w.alloc (.cells #[.int .i64 m.kind,.string m.nam,.string m.vr,.slice A2 m.args.length cap2,.string m.form] 31)) 31 zerC;rw[s1] at h;exact h);have HMB:=zh ((hM.keep B1).keep B2);have HM:=zh hM;have HP:=zh hp;have HS:=zh hs;have HV:=zh hv;have c0:=(Blk.new w 31 #[.int .i64 m.kind,.string m.nam,.string m.vr,.slice A2 m.args.length cap2,.string m.form]).cell 0;clear B1 B2 hM hp hs hv c0;go_enter Tryz.func32,Tryz.ntmps32;go_upto_region 1 with(fail)
 dsimp only[zerC] at K0 K1 HB HMB;generalize (w.alloc (.cells #[.int .i64 m.kind,.string m.nam,.string m.vr,.slice A2 m.args.length cap2,.string m.form] 31)).alloc (.cells #[.int .i64 0,.string ⟨#[]⟩,.string ⟨#[]⟩,.slice none 0 0,.string ⟨#[]⟩] 31)=w1 at*;clear s1;have c0:=K0.out.cell 0;have c1:=K0.out.cell 1;have c2:=K0.out.cell 2;have c3:=K0.out.cell 3;have c4:=K0.out.cell 4;go_wp2_with fail;refine(Sp.zHr m _ _ hn HMB.out).mono ?_;rintro e w2 ⟨rfl,hb⟩;rw[HV.out];replace HB:=jt HB hb;replace K0:=kp hb K0;replace K1:=kp hb K1;clear hb c0 c1 c2 c3 c4 HMB;go_wp2_with fail
 go_loopw [6] (fun i wr=>∃(k:Nat) (u:Trm) (A2:Option Addr) (cap2:Nat),k≤p.length∧i= .int .i64 k∧Hid (atM u (p.drop k)=some s)∧Hid (Blk wr w.heap.size 31 (trmC u.kind u.nam u.vr A2 u.args.length cap2 u.form))∧Hid (Blk wr (w.heap.size+1) 31 #[.int .i64 0,.string ⟨#[]⟩,.string ⟨#[]⟩,.slice none 0 0,.string ⟨#[]⟩])∧Hid (MAt w u (trmC u.kind u.nam u.vr A2 u.args.length cap2 u.form))∧Hid (Below w.heap.size w wr)) (fun i _=>p.length -(intOf i).toNat)
 case atStart=>exact⟨0,m,A2,cap2,by omega,rfl,HS,K0,K1,HM,HB⟩
 case round=>
  clear K0 K1 HB HM HS;obtain⟨k,u,A3,cap3,hk,rfl,HS,K0,K1,HM,HB⟩:=hrel;dsimp only[trmC] at K0;have c0:=K0.out.cell 0;have c1:=K0.out.cell 1;have c2:=K0.out.cell 2;have c3:=K0.out.cell 3;have c4:=K0.out.cell 4
  by_cases hlt:k<p.length
  ·obtain⟨x,hx⟩:∃x,p[k]?=some x:=⟨_,gE hlt⟩
   obtain⟨h0,t,ht,hst⟩:=zVw HS.out hx;obtain⟨ad,rfl,_,e0⟩:=(HP.out.keep HB.out).at_ hx;obtain⟨n,rfl⟩:∃n:Nat,x=(n:Int):=⟨x.toNat,by omega⟩
   rw[Int.toNat_natCast] at ht;obtain⟨hnl,-⟩:=List.getElem?_eq_some_iff.1 ht;obtain⟨A4,cap4,hce,-,-,-,hal,hac,hka⟩:=HM.out.form;obtain⟨-,h1,-⟩:True∧(Value.slice A3 u.args.length cap3= .slice A4 u.args.length cap4)∧True:=⟨trivial,by have:=congrArg (fun c=>c[3]?) hce;exact sj this,trivial⟩
   injection h1 with h1 _ h2;subst h1 h2;obtain⟨bd,A5,cap5,rfl,hbl,hp⟩:=hka.at_ ht;have HTM:=zh hp.whole;have HPT:=zh hp;have HX:=zh hx;have HST:=zh hst;have HT:=zh ht;have i1:(0:Int)≤(n:Int):=by omega
   have i2:(n:Int)<(u.args.length:Int):=by omega
   have i3:(k:Int)<(p.length:Int):=by omega
   have kc:=fun i=>K0.out.cell i
   have kf:=fun i=>K0.out.frozen i
   clear hx hst ht hce h0 hp;go_wp2_with fail
   go_quiet (fail)
   have hdb:=below_drewN (Below.refl wr.heap.size wr) nq;have j1:decide ((n:Int)<0)=false:=decide_eq_false (by omega);have j2:decide (u.args.length≤n)=false:=decide_eq_false (by omega);rw[j1,j2,Bool.or_self];replace K0:=kp hdb K0;replace K1:=kp hdb K1;replace HB:=jt HB hdb;clear hdb kc kf c0 c1 c2 c3 c4 j1 j2 e0;generalize wr.drewN nq=wy at*;obtain⟨ad',ha,_,e0⟩:=(HP.out.keep HB.out).at_ HX.out;obtain rfl:=sj ha;obtain⟨-,d0,d1,d2,d3,d4,-⟩:=HPT.out.keep HB.out;have c3:=K0.out.cell 3;go_upto_region 8 with(fail)
   go_still_tail 8,(by kernel_rfl)
   change wpList _ _ _ _ _ wy.drew;have hdb:=zA2 (Below.refl wy.heap.size wy);replace K0:=kp hdb K0;replace K1:=kp hdb K1;replace HB:=jt HB hdb;clear hdb c3 e0 d0 d1 d2 d3 d4;generalize wy.drew=wz at*;have kc:=fun i=>K0.out.cell i
   have kf:=fun i=>K0.out.frozen i
   go_wp2_with fail;obtain⟨w9,e9,KZ,HBZ,HGZ⟩:=fin5 K0.out HB.out (Nat.le_refl _) (.int .i64 t.kind) (.string t.nam) (.string t.vr) (.slice A5 t.args.length cap5) (.string t.form);rw[e9];have K19:=zh (K1.out.grown HGZ.out fun e=>by have h9:w.heap.size+1=w.heap.size:=sj e;omega);clear e9 kc kf HGZ K0 K1 HB;go_wp2_with fail;go_roundw
   case rel=>exact⟨k+1,t,A5,cap5,by omega,by go_num,HST,KZ,K19,HTM,HBZ⟩
   case measure=>simp[intOf];omega
  ·obtain rfl:k=p.length:=by omega
   have HE:=zh (show u=s by have h:=HS.out;rw[List.drop_length,atM] at h;exact sj h);have kc:=fun i=>K1.out.cell i
   have kf:=fun i=>K1.out.frozen i
   go_wp2_with fail;obtain⟨w9,e9,KZ,HBZ,-⟩:=fin5 K1.out HB.out (Nat.le_succ _) (.int .i64 u.kind) (.string u.nam) (.string u.vr) (.slice A3 u.args.length cap3) (.string u.form);rw[e9];clear e9 kc kf;have r0:=KZ.out.cell 0;have r1:=KZ.out.cell 1;have r2:=KZ.out.cell 2;have r3:=KZ.out.cell 3;have r4:=KZ.out.cell 4;obtain rfl:=HE.out;exact bodyPost_ret (v:=.tuple #[.agg (trmC u.kind u.nam u.vr A3 u.args.length cap3 u.form),.int .i64 0]) (by simp[results,trmC,Tryz.results32,go_sem,r0,r1,r2,r3,r4]) rfl ⟨⟨_,rfl,HM.out⟩,HBZ.out⟩
def fenT (n:Tre):Tre:=.mk 11 brkS 0 [n]
theorem tok_fen (rs:List Rul)(n:Tre):zBm rs [fenT n]= .inl [zJ7]:=by
 have hu:unsc (fenT n)=fenT n:=by unfold unsc;rw[if_neg (by show ¬((11:Int)=7∨(11:Int)=8∨(11:Int)=9);omega)]
 have ho:zD4 rs (fenT n)=false:=by
  unfold zD4;rw[hu,show(fenT n).kind=11 from rfl];rfl
 rw[zBm,tokN,ho,if_neg (by decide),if_neg (by show ¬((11:Int)=2∧_);omega),zBm]
theorem grp_list {rs:List Rul}(hv:zAg rs=true){f f':Nat}{n:Tre}{m:Trm}(h:zAf rs f n.kids [] 0= .ok m)(hf:zA3 n.kids<f)(hf':zA3 n.kids<f'):zAf rs (f'+1) [fenT n] [] 0= .ok (grpT m):=by
 rw[yB8 hv (tok_fen rs n)];have hs:zAp (zAf rs f') [0] [n] 0 0= .ok [m]:=by
  rw[zAp,zAp];have:=zQu rs [0,0] f' n.kids [] 0;rw[List.append_nil,zSn rs f' f _ _ _ hf' hf,zSn rs f' f _ _ _ hf' hf,h] at this;rw[show([0]:List Int)++[((0:Nat):Int)]=[0,0] from rfl,zSn rs f' f _ _ _ hf' hf,this];rfl
 have ho:zBu (zAf rs f') (fenT n) ([]++[0])= .ok ⟨grpT m,[],⟨#[]⟩,⟨#[]⟩⟩:=by
  unfold zBu;rw[show(fenT n).kind=11 from rfl,if_neg (by decide),if_neg (by decide),if_neg (by decide)];show((if(11:Int)=6∧n.kids.isEmpty=true then zAp (zAf rs f') [0] [] 1 0 else zAp (zAf rs f') [0] [n] 0 0).then_ _)=_;rw[if_neg (fun h=>absurd h.1 (by decide)),hs,show zB3 (fenT n)=(grpS,fenS++brkS) by
   unfold zB3;rw[show(fenT n).kind=11 from rfl,if_neg (by decide),if_neg (by decide),if_neg (by decide),if_neg (by decide),if_neg (by decide),if_neg (by decide),if_neg (by decide)];rw[show(fenT n).text=brkS from rfl,if_neg (by decide)]]
  rfl
 rw[ho];rfl
theorem grp_valid {m:Trm}(h:zAx m=true)(hc:cntM m≤999):zAx (grpT m)=true:=by
 unfold zAx at h⊢;rw[Bool.and_eq_true] at h;have h1:zE4 (grpT m)=true:=by
  unfold grpT;rw[zE4,zBw,zBw,h.1,show ownM 4 grpS.data.toList (⟨#[]⟩:ByteArray).data.toList (fenS++brkS).data.toList [m].length=true by rw[zFo];exact(by decide:ownM 4 grpS.data.toList (⟨#[]⟩:ByteArray).data.toList (fenS.data.toList++brkS.data.toList) 1=true)];rfl
 have h2:cntM (grpT m)=cntM m+1:=by
  unfold grpT;rw[cntM,cntL,cntL]
 rw[h1,h2,decide_eq_true (by omega)];rfl
theorem grp_tree {rs:List Rul}{f f':Nat}{n:Tre}{m:Trm}(h:zDv rs f n= .ok m)(hf:zA3 n.kids<f)(hf':zA3 n.kids+2<f')(hw:zFc (rowT [fenT n])=true)(hc:cntM m≤999):zDv rs f' (rowT [fenT n])= .ok (grpT m):=by
 unfold zDv at h
 split at h
 ·next hcc=>
  rw[Bool.and_eq_true] at hcc;cases hl:zAf rs f n.kids [] 0 with
  |bad e p=>rw[hl] at h;cases h
  |ok t2=>
   rw[hl] at h;dsimp only at h
   split at h
   ·next hm=>
    injection h with h;subst h;obtain⟨f2,rfl⟩:∃f2,f'=f2+1:=⟨f' -1,by omega⟩
    unfold zDv;rw[hcc.1,hw,if_pos (by rfl),show(rowT [fenT n]).kids=[fenT n] from rfl,grp_list hcc.1 hl hf (by omega)];dsimp only;rw[if_pos (grp_valid hm hc)]
   ·cases h
 ·cases h
theorem grp_items {rs:List Rul}{m:Trm}{l:List Tre}(h:zAk rs m=some l):zAk rs (grpT m)=some [fenT (rowT l)]:=by
 unfold grpT;rw[itm rs _ _ _ _ _ 4 (.inl rfl) (zLf h),zNx (by rw[zFo];exact yAa _),zFo];unfold opnW;rw[if_pos (List.prefix_append _ _)];rfl
theorem treeW_ok {rs:List Rul}{f:Nat}{m:Trm}{n:Tre}(h:zD6 rs f m=some n):∃l,n=rowT l∧zAk rs m=some l∧zDv rs f n= .ok m:=by
 unfold zD6 at h
 split at h
 ·cases h
 ·next l hl=>
  split at h
  ·next t ht=>
   split at h
   ·next he=>
    injection h with h;subst h;obtain rfl:=(zUd t m).1 he;exact⟨l,rfl,hl,ht⟩
   ·cases h
  ·cases h
theorem brk_law {rs:List Rul}{f:Nat}{m:Trm}{n:Tre}(h:zD6 rs f m=some n)(hc:cntM m≤200)(hf:1602<f)(hw:zFc (rowT [fenT n])=true):zD6 rs f (grpT m)=some (rowT [fenT n]):=by
 obtain⟨l,rfl,hl,ht⟩:=treeW_ok h;have hs:=zKn m l hl;have h1:=grp_tree ht (f':=f) (by show zA3 l<f;omega) (by show zA3 l+2<f;omega) hw (by omega);unfold zD6;rw[grp_items hl];dsimp only;rw[h1];dsimp only;rw[if_pos ((zUd _ _).2 rfl)]
theorem tree_fuel {rs:List Rul}{f f':Nat}{n:Tre}(h:zA3 n.kids<f)(h':zA3 n.kids<f'):zDv rs f n=zDv rs f' n:=by
 unfold zDv;rw[zSn rs f f' _ _ _ h h']
theorem tree_err2 (rs:List Rul)(f:Nat)(t:Tre)(hf:zA3 t.kids<f)(e:Int)(p:List Int)(h:zDv rs f t= .bad e p):e≠0:=by
 unfold zDv at h
 split at h
 ·cases hl:zAf rs f t.kids [] 0 with
  |ok u=>
   rw[hl] at h;dsimp only at h
   split at h
   ·cases h
   ·injection h with h1 _;omega
  |bad e' p'=>
   rw[hl] at h;dsimp only at h;injection h with h1 _;have:=zQ3 rs f t.kids [] 0 hf e' p' hl;omega
 ·injection h with h1 _;omega
theorem inv_law {rs:List Rul}{f f':Nat}{n:Tre}{m:Trm}(h:zDv rs f n= .ok m)(hf:zA3 n.kids<f)(hf':zA3 n.kids<f'):zD6 rs f' m=some n∧zAg rs=true∧zAx m=true:=by
 obtain⟨h1,h2,h3,h4⟩:=yBa h;have h5:=zG8 h3;have h6:=zJ2 h5.2.1 h5.1;refine⟨?_,h4,h2⟩;unfold zD6;rw[h1];dsimp only;rw[←h6,tree_fuel hf' hf,h];dsimp only;rw[if_pos ((zUd _ _).2 rfl)]
theorem size_list (x:ByteArray):x.size=x.data.toList.length:=by
 rw[Array.length_toList];rfl
theorem own_small {k:Int}{a v f:ByteArray}{n:Nat}(h:ownM k a.data.toList v.data.toList f.data.toList n=true):smS a=true∧smS v=true∧smS f=true:=by
 unfold smS;rw[size_list a,size_list v,size_list f];generalize a.data.toList=a at*;generalize v.data.toList=v at*;generalize f.data.toList=f at*;have hn:∀l:List UInt8,zAl l=true→l.length≤16:=fun l h=>by
  unfold zAl at h;simp only[Bool.and_eq_true,decide_eq_true_eq] at h;exact h.2.2
 have hi:∀l:List UInt8,idB l=true→l.length≤16:=fun l h=>by
  unfold idB at h;rw[Bool.and_eq_true] at h;exact hn l h.1
 have hp:∀l:List UInt8,numP l=true→l.length≤20:=fun l h=>by
  unfold numP at h;rw[Bool.and_eq_true,decide_eq_true_eq] at h;exact h.1
 have he:∀l:List UInt8,l.isEmpty=true→l.length=0:=fun l h=>by rw[List.isEmpty_iff] at h;rw[h];rfl
 simp only[decide_eq_true_eq];unfold ownM at h
 split at h
 ·simp only[Bool.and_eq_true,decide_eq_true_eq] at h;have h1:=he _ h.1.1;have h2:=he _ h.1.2.1;have h3:=hp _ h.2;omega
 split at h
 ·simp only[Bool.and_eq_true,decide_eq_true_eq] at h;have h1:=he _ h.1.1;have h2:=he _ h.1.2.1;have h3:=hi _ h.2;omega
 split at h
 ·simp only[Bool.and_eq_true,decide_eq_true_eq] at h;have h1:=he _ h.1.1;have h2:=he _ h.1.2.1;have h3:=h.2.2;omega
 split at h
 ·simp only[Bool.and_eq_true,decide_eq_true_eq] at h;have h1:=h.1.2;have h2:=hn _ h.2.1;have h3:=he _ h.2.2;omega
 split at h
 ·simp only[Bool.and_eq_true,decide_eq_true_eq] at h;have h1:=h.1.2;have h2:=hn _ h.2.1;have h3:=hi _ h.2.2.1;omega
 ·cases h
mutual
theorem form_small:∀m:Trm,zE4 m=true→smM m=true
 | .mk k a v f ts,h=>by
  rw[zE4,Bool.and_eq_true] at h;obtain⟨h1,h2,h3⟩:=own_small h.1;rw[smM,h1,h2,h3,form_smallL ts h.2];rfl
theorem form_smallL:∀ts:List Trm,zBw ts=true→smML ts=true
 |[],_=>by rw[smML]
 |t::ts,h=>by
  rw[zBw,Bool.and_eq_true] at h;rw[smML,form_small t h.1,form_smallL ts h.2];rfl
end
theorem zO8 {m:Trm}(h:zAx m=true):szM m≤1000:=by
 unfold zAx at h;rw[Bool.and_eq_true,decide_eq_true_eq] at h;unfold szM;rw[form_small m h.1,if_pos rfl];omega
theorem grp_small {m:Trm}{z:Nat}(h:szM m≤z)(hz:z≤100000):szM (grpT m)≤z+1:=by
 have hs:=yAk h hz;unfold szM at h⊢;rw[hs,if_pos rfl] at h;have h1:smM (grpT m)=true:=by
  unfold grpT;rw[smM,smML,smML,hs];decide
 rw[h1,if_pos rfl];unfold grpT;rw[cntM,cntL,cntL];omega
theorem ren_ok {rs:List Rul}{f:Nat}{m:Trm}{n:Tre}{w:World}{e:Ending}{w':World}(h:RenP rs f m w e w')(hv:(zAg rs&&zAx m)=true)(ht:zD6 rs f m=some n):(∃A cp,e= .returned (.tuple #[.agg #[.int .i64 n.kind,.string n.text,.int .i64 n.cols,.slice A n.kids.length cp],.slice none 0 0,.int .i64 0])∧zBc w' n #[.int .i64 n.kind,.string n.text,.int .i64 n.cols,.slice A n.kids.length cp])∧Below w.heap.size w w':=by
 obtain⟨h,hb⟩:=h;rw[if_pos hv,ht] at h;obtain⟨A,cp,h1,h2⟩:=h;exact⟨⟨A,cp,h1,h2.nod⟩,hb⟩
theorem ren_split {rs:List Rul}{f:Nat}{m:Trm}{w:World}{e:Ending}{w':World}(h:RenP rs f m w e w'):((∃n A cp,(zAg rs&&zAx m)=true∧zD6 rs f m=some n∧e= .returned (.tuple #[.agg #[.int .i64 n.kind,.string n.text,.int .i64 n.cols,.slice A n.kids.length cp],.slice none 0 0,.int .i64 0])∧zBc w' n #[.int .i64 n.kind,.string n.text,.int .i64 n.cols,.slice A n.kids.length cp])∨(∃A k cp r,e= .returned (.tuple #[.agg zerD,.slice A k cp,.int .i64 r])∧(r !=0)=true))∧Below w.heap.size w w':=by
 obtain⟨h,hb⟩:=h;refine⟨?_,hb⟩
 split at h
 ·next hv=>
  split at h
  ·next n hn=>
   obtain⟨A,cp,h1,h2⟩:=h;exact .inl ⟨n,A,cp,hv,hn,h1,h2.nod⟩
  ·obtain⟨p,A,cp,-,h1,-⟩:=h;exact .inr ⟨A,_,cp,19,h1,rfl⟩
 ·exact .inr ⟨none,0,0,1,h,rfl⟩
def EqC (z:Nat):Prop:=∀(t:Tre) (c d:Array Value) (w:World),zA7 t≤z→zBc w t c→zBc w t d→Calls Tryz.prog 29 #[.agg c,.agg d] w fun e w'=>e= .returned (.bool true)∧Below w.heap.size w w'
theorem count_nth:∀{ks:List Tre} {j:Nat} {x:Tre},ks[j]?=some x→zA7 x≤zA3 ks
 |[],j,x,h=>by simp at h
 |y::ks,0,x,h=>by
  obtain rfl:=sj h;rw[zA3];omega
 |y::ks,j+1,x,h=>by
  have:=count_nth (ks:=ks) (j:=j) h;rw[zA3];omega
theorem count_own (t:Tre):zA3 t.kids<zA7 t:=by
 obtain⟨k,s,c,ks⟩:=t;rw[zA7];show zA3 ks<_;omega
set_option maxRecDepth 100000 in
set_option maxHeartbeats 4000000 in
theorem sameItems_any (z:Nat)(ih:EqC z)(A B:Option Addr)(ca cb:Nat)(ks:List Tre)(w:World)(hz:zA3 ks≤z)(hA:zB7 w A ks)(hB:zB7 w B ks)(hn:ks.length≤9223372036854775807):Calls Tryz.prog 62 #[.slice A ks.length ca,.slice B ks.length cb] w fun e w'=>e= .returned (.bool true)∧Below w.heap.size w w':=by
 have IH:=zh ih;have HA:=zh hA;have HK:=zh hB;have HZ:=zh hz;have HB:=zh (Below.refl w.heap.size w);clear ih hA hB hz;have n3:((ks.length:Int) !=(ks.length:Int))=false:=by rw[bne_eq_false_iff_eq]
 go_enter Tryz.func62,Tryz.ntmps62;go_wp2_with fail
 go_loopw [5] (fun i wr=>∃j:Nat,j≤ks.length∧i= .int .i64 j∧Hid (zB7 wr A ks)∧Hid (zB7 wr B ks)∧Hid (Below w.heap.size w wr)) (fun i _=>ks.length -(intOf i).toNat)
 case atStart=>exact⟨0,by omega,rfl,HA,HK,HB⟩
 case round=>
  clear HA HK HB;obtain⟨j,hj,rfl,HA,HK,HB⟩:=hrel
  by_cases hlt:j<ks.length
  ·obtain⟨x,hx⟩:∃x,ks[j]?=some x:=⟨_,gE hlt⟩
   obtain⟨ad,A2,cap2,rfl,hadl,-,-,-,-,hN,d0,d1,d2,d3⟩:=HA.out.at_ hx;obtain⟨ad',A3,cap3,rfl,hadl',-,-,-,-,hN',g0,g1,g2,g3⟩:=HK.out.at_ hx;have HX:=zh hN;have HY:=zh hN';have HS:=zh (show zA7 x≤z from Nat.le_trans (count_nth hx) HZ.out);have hb1:(ad.add (j*4)).block<wr.heap.size:=by rw[zA6];exact hadl
   have hb2:(ad'.add (j*4)).block<wr.heap.size:=by rw[zA6];exact hadl'
   clear hx hN hN';go_wp2_with fail;go_upto_region 6 with(fail)
   refine zBh (by kernel_rfl) (by kernel_rfl) ?_;have D0:=fun e:Ext wr=>e.cell hb1 d0
   have D1:=fun e:Ext wr=>e.cell (p:=⟨(ad.add (j*4)).block,(ad.add (j*4)).off+1,none⟩) hb1 d1
   have D2:=fun e:Ext wr=>e.cell (p:=⟨(ad.add (j*4)).block,(ad.add (j*4)).off+2,none⟩) hb1 d2
   have D3:=fun e:Ext wr=>e.cell (p:=⟨(ad.add (j*4)).block,(ad.add (j*4)).off+3,none⟩) hb1 d3
   have G0:=fun e:Ext wr=>e.cell hb2 g0
   have G1:=fun e:Ext wr=>e.cell (p:=⟨(ad'.add (j*4)).block,(ad'.add (j*4)).off+1,none⟩) hb2 g1
   have G2:=fun e:Ext wr=>e.cell (p:=⟨(ad'.add (j*4)).block,(ad'.add (j*4)).off+2,none⟩) hb2 g2
   have G3:=fun e:Ext wr=>e.cell (p:=⟨(ad'.add (j*4)).block,(ad'.add (j*4)).off+3,none⟩) hb2 g3
   have HC:=zh (fun e:Ext wr=>Calls.ext (IH.out x _ _ e.val HS.out (HX.out.keep e.bel) (HY.out.keep e.bel)));clear d0 d1 d2 d3 g0 g1 g2 g3
   repeat (go_big_quiet_step (fail))
   go_big_quiet_step ((rename_i e;exact HC.out e))
   repeat (go_big_quiet_step (fail))
   refine wpQuiet_nil ?_;intro wq hwq;obtain⟨⟨w9,hb⟩,e9⟩:=hwq;dsimp only at e9;subst e9;replace HA:=zh (HA.out.keep hb);replace HK:=zh (HK.out.keep hb);replace HB:=jt HB hb;clear D0 D1 D2 D3 G0 G1 G2 G3 HC hb hb1 hb2 HX HY;go_wp2_with fail;go_roundw
   case rel=>exact⟨j+1,by omega,by go_num,HA,HK,HB⟩
   case measure=>simp[intOf];omega
  ·obtain rfl:j=ks.length:=by omega
   go_wp2_with fail;go_ret;exact⟨rfl,HB.out⟩
set_option maxRecDepth 100000 in
set_option maxHeartbeats 4000000 in
theorem nequal_same:∀z:Nat,EqC z:=by
 intro z
 induction z with
 |zero=>intro t c d w h;have:=count_own t;omega
 |succ z ih=>
  intro t c d w hz hN hM;obtain⟨A,cap,rfl,hs,hl,hc,hk⟩:=hN.form;obtain⟨B,cap',rfl,-,-,hc',hk'⟩:=hM.form;obtain⟨k,s,co,ks⟩:=t;dsimp only[Tre.kind,Tre.text,Tre.cols,Tre.kids] at hs hl hc hk hk'⊢;have HZ:=zh (show zA3 ks≤z by rw[zA7] at hz;omega);have HW:=zh (show(w.alloc (.cells #[.int .i64 k,.string s,.int .i64 co,.slice A ks.length cap] 25)).heap.size=w.heap.size+1 by simp);have B1:=zA0 w (.cells #[.int .i64 k,.string s,.int .i64 co,.slice A ks.length cap] 25);have B2:=zA0 (w.alloc (.cells #[.int .i64 k,.string s,.int .i64 co,.slice A ks.length cap] 25)) (.cells #[.int .i64 k,.string s,.int .i64 co,.slice B ks.length cap'] 25);have HB:=zh (B1.trans (B2.mono B1.size));have HK:=zh (hk.keep HB.out);have HK':=zh (hk'.keep HB.out);have K0:=zh (keep B2 (Blk.new w 25 #[.int .i64 k,.string s,.int .i64 co,.slice A ks.length cap]));have K1:Hid (Blk ((w.alloc (.cells #[.int .i64 k,.string s,.int .i64 co,.slice A ks.length cap] 25)).alloc (.cells #[.int .i64 k,.string s,.int .i64 co,.slice B ks.length cap'] 25)) (w.heap.size+1) 25 #[.int .i64 k,.string s,.int .i64 co,.slice B ks.length cap']):=by
   show Blk _ _ _ _;rw[←HW.out];exact Blk.new _ _ _
  have IH:=zh ih;clear hN hM hk hk' B1 B2 HW hz ih;go_enter Tryz.func29,Tryz.ntmps29;go_upto_region 1 with(fail)
  generalize (w.alloc (.cells #[.int .i64 k,.string s,.int .i64 co,.slice A ks.length cap] 25)).alloc (.cells #[.int .i64 k,.string s,.int .i64 co,.slice B ks.length cap'] 25)=w1 at*;have q0:(k==k)=true:=beq_self_eq_true k;have q1:(s.toList==s.toList)=true:=beq_self_eq_true _;have q2:(co==co)=true:=beq_self_eq_true co;have c0:=K0.out.cell 0;have c1:=K0.out.cell 1;have c2:=K0.out.cell 2;have c3:=K0.out.cell 3;have e0:=K1.out.cell 0;have e1:=K1.out.cell 1;have e2:=K1.out.cell 2;have e3:=K1.out.cell 3;go_wp2_with fail;refine(sameItems_any z IH.out A B cap cap' ks w1 HZ.out HK.out HK'.out (by omega)).mono ?_;rintro e w9 ⟨rfl,hb⟩;replace HB:=jt HB hb;clear c0 c1 c2 c3 e0 e1 e2 e3 hb;go_wp2_with fail;go_ret;exact⟨rfl,HB.out⟩
theorem nequal_any (t:Tre)(c d:Array Value)(w:World)(hN:zBc w t c)(hM:zBc w t d):Calls Tryz.prog 29 #[.agg c,.agg d] w fun e w'=>e= .returned (.bool true)∧Below w.heap.size w w':=nequal_same _ t c d w (Nat.le_refl _) hN hM
theorem kids_one {w:World}{g:Nat}{x:Tre}{c:Array Value}(h:Blk w g 25 c)(hn:zBc w x c):zB7 w (some ⟨g,0,none⟩) [x]:=fun i t hi=>by
 match i,hi with
 |0,hi=>
  obtain rfl:=sj hi;exact⟨_,rfl,h.lt,c,hn,fun j hj=>by rw[addg,h.cell,Nat.zero_mul,Nat.zero_add]⟩
 |i+1,hi=>simp at hi
theorem args_one {w:World}{g:Nat}{x:Trm}{c:Array Value}(h:Blk w g 31 c)(hn:MAt w x c):zDk w (some ⟨g,0,none⟩) [x]:=fun i t hi=>by
 match i,hi with
 |0,hi=>
  obtain rfl:=sj hi;exact⟨_,rfl,h.lt,c,hn,fun j hj=>by rw[addg,h.cell,Nat.zero_mul,Nat.zero_add]⟩
 |i+1,hi=>simp at hi
theorem fence_at {w:World}{n:Tre}{c:Array Value}(h:zBc w n c):zBc ((w.alloc (.cells c 25)).alloc (.cells #[.int .i64 11,.string ⟨#[40,41]⟩,.int .i64 0,.slice (some ⟨w.heap.size,0,none⟩) 1 1] 25)) (rowT [fenT n]) #[.int .i64 1,.string ⟨#[]⟩,.int .i64 0,.slice (some ⟨w.heap.size+1,0,none⟩) 1 1]:=by
 have B1:=zA0 w (.cells c 25);have s1:(w.alloc (.cells c 25)).heap.size=w.heap.size+1:=by simp
 have k1:=kids_one (Blk.new w 25 c) (h.keep B1);have h2:zBc _ (fenT n) #[.int .i64 11,.string ⟨#[40,41]⟩,.int .i64 0,.slice (some ⟨w.heap.size,0,none⟩) 1 1]:=zBc.of (ks:=[n]) (s:=brkS) (cap:=1) (by decide) (Nat.le_refl _) (by omega) k1;have k2:=kids_one (Blk.new (w.alloc (.cells c 25)) 25 #[.int .i64 11,.string ⟨#[40,41]⟩,.int .i64 0,.slice (some ⟨w.heap.size,0,none⟩) 1 1]) (h2.keep (zA0 _ _));rw[s1] at k2;exact zBc.of (ks:=[fenT n]) (cap:=1) (by decide) (Nat.le_refl _) (by omega) k2
theorem grp_at {w:World}{m:Trm}{c:Array Value}(h:MAt w m c):MAt (w.alloc (.cells c 31)) (grpT m) #[.int .i64 4,.string ⟨#[103,114,111,117,112]⟩,.string ⟨#[]⟩,.slice (some ⟨w.heap.size,0,none⟩) 1 1,.string ⟨#[102,101,110,99,101,40,41]⟩]:=by
 have B1:=zA0 w (.cells c 31);have k1:=args_one (Blk.new w 31 c) (h.keep B1);unfold grpT;rw[show fenS++brkS=(⟨#[102,101,110,99,101,40,41]⟩:ByteArray) by decide];exact MAt.of (ts:=[m]) (a:=grpS) (cap:=1) (by decide) (by decide) (by decide) (Nat.le_refl _) (by omega) k1
set_option maxRecDepth 100000 in
set_option maxHeartbeats 8000000 in
theorem brackets_walk (A:Option Addr)(cap:Nat)(rs:List Rul)(m:Trm)(c:Array Value)(w:World)(hR:zAi w A rs)(hrc:rs.length≤cap)(hcc:cap≤9223372036854775807)(hM:MAt w m c)(hsy:VarE w 0)(hrg:VarE w 1):Calls Tryz.prog 9 #[.slice A rs.length cap,.agg c] w fun e w'=>e= .returned (.bool true)∧Below w.heap.size w w':=by
 obtain⟨A2,cap2,rfl,-⟩:=hM.form;dsimp only[trmC] at hM⊢;have hba:=zA0 w (.cells #[.int .i64 m.kind,.string m.nam,.string m.vr,.slice A2 m.args.length cap2,.string m.form] 31);have HB:=zh hba;have K0:=zh (Blk.new w 31 #[.int .i64 m.kind,.string m.nam,.string m.vr,.slice A2 m.args.length cap2,.string m.form]);have HR:=zh hR;have HM:=zh hM;have HSY:=zh hsy;have HRG:=zh hrg;clear hR hM hsy hrg hba;go_enter Tryz.func9,Tryz.ntmps9;go_wp2_with fail;refine(zO6 _ (HSY.out.keep HB.out) (HRG.out.keep HB.out)).mono ?_;rintro e w1 ⟨rfl,hb⟩;replace HB:=jt HB hb;replace K0:=kp hb K0;clear hb;go_wp2_with fail;refine(zNr A cap rs w1 (HR.out.keep HB.out) (by omega)).mono ?_;rintro e w2 ⟨rfl,rfl⟩;cases hs:zF5 rs with
 |false=>
  clear hs;go_wp2_with fail;exact bodyPost_ret (v:=.bool true) (by simp[results,Tryz.results9,go_sem]) rfl ⟨rfl,HB.out⟩
 |true=>
  have HN:=zh (zS6 hs);clear hs;have c0:=K0.out.cell 0;have c1:=K0.out.cell 1;have c2:=K0.out.cell 2;have c3:=K0.out.cell 3;have c4:=K0.out.cell 4;go_wp2_with fail;refine(zZk m _ w1 (HM.out.keep HB.out)).mono ?_;rintro e w2 ⟨b,rfl,hz,hb⟩;replace HB:=jt HB hb;replace K0:=kp hb K0;have HZ:=zh hz;clear hb hz c0 c1 c2 c3 c4;cases b with
  |false=>
   go_wp2_with fail;exact bodyPost_ret (v:=.bool true) (by simp[results,Tryz.results9,go_sem]) rfl ⟨rfl,HB.out⟩
  |true=>
   replace HZ:=zh (HZ.out rfl);have c0:=K0.out.cell 0;have c1:=K0.out.cell 1;have c2:=K0.out.cell 2;have c3:=K0.out.cell 3;have c4:=K0.out.cell 4;go_wp2_with fail;refine(zLj A cap rs 1616 202 (by decide) hrc hcc (by have:=HN.out;omega) (by decide) m _ w2 (by have:=HZ.out;omega) (HR.out.keep HB.out) (HM.out.keep HB.out) (HSY.out.keep HB.out) (HRG.out.keep HB.out)).mono ?_;intro e w3 hm;obtain⟨hm,hb⟩:=ren_split hm;replace HB:=jt HB hb;replace K0:=kp hb K0;clear hb c0 c1 c2 c3 c4;rcases hm with⟨n,A3,cp3,hv,ht,rfl,hn⟩|⟨A3,k3,cp3,r,rfl,hr⟩
   ·have hba:=zA0 w3 (.cells #[.int .i64 n.kind,.string n.text,.int .i64 n.cols,.slice A3 n.kids.length cp3] 25);have K5:=zh (Blk.new w3 25 #[.int .i64 n.kind,.string n.text,.int .i64 n.cols,.slice A3 n.kids.length cp3]);have HN5:=zh (hn.keep hba);replace HB:=jt HB hba;replace K0:=kp hba K0;have HV:=zh hv;have HT:=zh ht;have HCT:=zh (show zA7 (rowT [fenT n])≤900000 by
     obtain⟨l,hnl,hl,-⟩:=treeW_ok ht;have h1:=zKn m l hl;have h2:cntM m≤szM m:=Nat.le_add_right _ _;have h3:=HZ.out;rw[hnl,zBf,count_one,fenT,zA7,count_one,zBf];omega)
    clear hv ht hn hba;go_upto_region 6 with(fail)
    generalize w3.heap.size=g5 at*;generalize w3.alloc (.cells #[.int .i64 n.kind,.string n.text,.int .i64 n.cols,.slice A3 n.kids.length cp3] 25)=w5 at*;have c0:=K5.out.cell 0;have c1:=K5.out.cell 1;have c2:=K5.out.cell 2;have c3:=K5.out.cell 3;have hF:=fence_at HN5.out;have hb1:=(zA0 w5 (.cells #[.int .i64 n.kind,.string n.text,.int .i64 n.cols,.slice A3 n.kids.length cp3] 25)).trans ((zA0 (w5.alloc (.cells #[.int .i64 n.kind,.string n.text,.int .i64 n.cols,.slice A3 n.kids.length cp3] 25)) (.cells #[.int .i64 11,.string ⟨#[40,41]⟩,.int .i64 0,.slice (some ⟨w5.heap.size,0,none⟩) 1 1] 25)).mono (zA0 w5 (.cells #[.int .i64 n.kind,.string n.text,.int .i64 n.cols,.slice A3 n.kids.length cp3] 25)).size);have HF:=zh hF;have HB1:=zh hb1;clear hF hb1;go_wp2_with fail;refine(yAh _ 1 1 _).mono ?_;rintro e w6 ⟨rfl,hb⟩;replace HB:=zh (HB.out.trans (HB1.out.mono HB.out.size));replace K0:=zh (keep HB1.out K0.out);replace HB:=jt HB hb;replace K0:=kp hb K0;replace HF:=zh (HF.out.keep hb);clear c0 c1 c2 c3 hb HB1 K5 HN5;generalize w5.heap.size=g6 at*;dsimp only[nodC];have hba:=zA0 w6 (.cells #[.int .i64 1,.string ⟨#[]⟩,.int .i64 0,.slice (some ⟨g6+1,0,none⟩) 1 1] 25);have K9:=zh (Blk.new w6 25 #[.int .i64 1,.string ⟨#[]⟩,.int .i64 0,.slice (some ⟨g6+1,0,none⟩) 1 1]);replace HF:=zh (HF.out.keep hba);replace HB:=jt HB hba;replace K0:=kp hba K0;clear hba;go_upto_region 9 with(fail)
    generalize w6.heap.size=g9 at*;generalize w6.alloc (.cells #[.int .i64 1,.string ⟨#[]⟩,.int .i64 0,.slice (some ⟨g6+1,0,none⟩) 1 1] 25)=w7 at*;have c0:=K9.out.cell 0;have c1:=K9.out.cell 1;have c2:=K9.out.cell 2;have c3:=K9.out.cell 3;go_wp2_with fail;refine(At.zHr (rowT [fenT n]) _ w7 HCT.out HF.out).mono ?_;rintro e w8 ⟨rfl,hb⟩;replace HF:=zh (HF.out.keep hb);replace HB:=jt HB hb;replace K0:=kp hb K0;replace K9:=kp hb K9;clear c0 c1 c2 c3 hb;cases hw:zFc (rowT [fenT n]) with
    |false=>
     clear hw;go_wp2_with fail;exact bodyPost_ret (v:=.bool true) (by simp[results,Tryz.results9,go_sem]) rfl ⟨rfl,HB.out⟩
    |true=>
     have hvm:zAg rs=true∧zAx m=true:=by have h:=HV.out;rw[Bool.and_eq_true] at h;exact h
     have hcm:cntM m≤200:=by have h2:cntM m≤szM m:=Nat.le_add_right _ _;have:=HZ.out;omega
     have HL:=zh (brk_law HT.out hcm (by omega) hw);have HVG:=zh (show(zAg rs&&zAx (grpT m))=true by rw[hvm.1,grp_valid hvm.2 (by omega)];rfl);have HZG:=zh (show szM (grpT m)<202 by have:=grp_small HZ.out (by omega);omega);obtain⟨x,hx⟩:∃x,x=rowT [fenT n]:=⟨_,rfl⟩
     rw[←hx] at HL HF;clear hw hvm hcm hx HT HV HCT;have c0:=K0.out.cell 0;have c1:=K0.out.cell 1;have c2:=K0.out.cell 2;have c3:=K0.out.cell 3;have c4:=K0.out.cell 4;have hba:=zA0 w8 (.cells #[.int .i64 m.kind,.string m.nam,.string m.vr,.slice A2 m.args.length cap2,.string m.form] 31);have HG:=zh (grp_at (HM.out.keep HB.out));have HBA:=zh hba;clear hba;go_wp2_with fail;have HB9:=zh (HB.out.trans (HBA.out.mono HB.out.size));refine(zLj A cap rs 1616 202 (by decide) hrc hcc (by have:=HN.out;omega) (by decide) (grpT m) _ _ HZG.out (HR.out.keep HB9.out) HG.out (HSY.out.keep HB9.out) (HRG.out.keep HB9.out)).mono ?_;intro e w10 hm;obtain⟨⟨A10,cp10,rfl,hg⟩,hb⟩:=ren_ok hm HVG.out HL.out;replace HF:=zh ((HF.out.keep HBA.out).keep hb);replace HB:=jt HB9 hb;replace K9:=zh (keep hb (keep HBA.out K9.out));clear c0 c1 c2 c3 c4 hm hb HB9 HBA HG K0;have hba:=zA0 w10 (.cells #[.int .i64 x.kind,.string x.text,.int .i64 x.cols,.slice A10 x.kids.length cp10] 25);have K11:=zh (Blk.new w10 25 #[.int .i64 x.kind,.string x.text,.int .i64 x.cols,.slice A10 x.kids.length cp10]);have HG:=zh (hg.keep hba);replace HF:=zh (HF.out.keep hba);replace HB:=jt HB hba;replace K9:=kp hba K9;clear hba hg;go_upto_region 12 with(fail)
     generalize w10.heap.size=g11 at*;generalize w10.alloc (.cells #[.int .i64 x.kind,.string x.text,.int .i64 x.cols,.slice A10 x.kids.length cp10] 25)=w11 at*;have D0:=K11.out.cell 0;have D1:=K11.out.cell 1;have D2:=K11.out.cell 2;have D3:=K11.out.cell 3;have G0:=K9.out.cell 0;have G1:=K9.out.cell 1;have G2:=K9.out.cell 2;have G3:=K9.out.cell 3;go_wp2_with fail;refine(nequal_any x _ _ w11 HG.out HF.out).mono ?_;rintro e w9 ⟨rfl,hb⟩;replace HB:=jt HB hb;clear D0 D1 D2 D3 G0 G1 G2 G3 hb;go_wp2_with fail;exact bodyPost_ret (v:=.bool true) (by simp[results,Tryz.results9,go_sem]) rfl ⟨rfl,HB.out⟩
   ·have hba:=zA0 w3 (.cells #[.int .i64 0,.string ⟨#[]⟩,.int .i64 0,.slice none 0 0] 25);replace HB:=jt HB hba;clear hba;dsimp only[zerD];go_wp2_with fail;exact bodyPost_ret (v:=.bool true) (by simp[results,Tryz.results9,go_sem]) rfl ⟨rfl,HB.out⟩
end Go.Proofs.YtadcldfbmkfkaaaGreatDoor.Rn
