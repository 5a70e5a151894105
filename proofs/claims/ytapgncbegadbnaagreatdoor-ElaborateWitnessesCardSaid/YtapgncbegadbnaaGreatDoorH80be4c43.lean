/- scripts: the part of an operator. -/
import Derived.Test.YtapgncbegadbnaaGreatDoorH6790e2e0
import Derived.Deep.CutBlock
set_option maxRecDepth 100000
set_option maxHeartbeats 8000000
namespace Go.Proofs.YtapgncbegadbnaaGreatDoor.El
open At Ch Sp Sy Go.RowKit
variable{x w:World}{g:Nat}{n b0:Tre}{r:List Tre}
abbrev prtC (v:Value)(fin vr:ByteArray):Array Value:= #[qI 0,qE,qE,qN,qE,v,.string fin,.string vr]
abbrev zDt:Array Value:=prtC qN ⟨#[]⟩ ⟨#[]⟩
def zN2 (x:World)(g:Nat)(c0 c1 c2 c3 c4 c5 c6 c7:Value):World:=(((((((x.setCell ⟨g,0,none⟩ c0).setCell ⟨g,1,none⟩ c1).setCell ⟨g,2,none⟩ c2).setCell ⟨g,3,none⟩ c3).setCell ⟨g,4,none⟩ c4).setCell ⟨g,5,none⟩ c5).setCell ⟨g,6,none⟩ c6).setCell ⟨g,7,none⟩ c7
theorem zR6 (x:World)(g:Nat)(c0 c1 c2 c3 c4 c5 c6 c7:Value):x.grownBy (zN2 x g c0 c1 c2 c3 c4 c5 c6 c7) (some g):=
 zB6 (zB6 (zB6 (zEs x g c0 c1 c2 c3 c4) (zA8 _ ⟨g,5,none⟩ c5)) (zA8 _ ⟨g,6,none⟩ c6)) (zA8 _ ⟨g,7,none⟩ c7)
theorem set8 {t:TypeId}{d0 d1 d2 d3 d4 d5 d6 d7:Value}(h:Blk x g t #[d0,d1,d2,d3,d4,d5,d6,d7])(c0 c1 c2 c3 c4 c5 c6 c7:Value):Blk (zN2 x g c0 c1 c2 c3 c4 c5 c6 c7) g t #[c0,c1,c2,c3,c4,c5,c6,c7]:=by
 have h0:Blk (x.setCell ⟨g,0,none⟩ c0) g t #[c0,d1,d2,d3,d4,d5,d6,d7]:=h.set_ 0 c0;have h1:Blk ((x.setCell ⟨g,0,none⟩ c0).setCell ⟨g,1,none⟩ c1) g t #[c0,c1,d2,d3,d4,d5,d6,d7]:=h0.set_ 1 c1;have h2:Blk (((x.setCell ⟨g,0,none⟩ c0).setCell ⟨g,1,none⟩ c1).setCell ⟨g,2,none⟩ c2) g t #[c0,c1,c2,d3,d4,d5,d6,d7]:=h1.set_ 2 c2;have h3:Blk ((((x.setCell ⟨g,0,none⟩ c0).setCell ⟨g,1,none⟩ c1).setCell ⟨g,2,none⟩ c2).setCell ⟨g,3,none⟩ c3) g t #[c0,c1,c2,c3,d4,d5,d6,d7]:=h2.set_ 3 c3;have h4:Blk (((((x.setCell ⟨g,0,none⟩ c0).setCell ⟨g,1,none⟩ c1).setCell ⟨g,2,none⟩ c2).setCell ⟨g,3,none⟩ c3).setCell ⟨g,4,none⟩ c4) g t #[c0,c1,c2,c3,c4,d5,d6,d7]:=h3.set_ 4 c4;have h5:Blk ((((((x.setCell ⟨g,0,none⟩ c0).setCell ⟨g,1,none⟩ c1).setCell ⟨g,2,none⟩ c2).setCell ⟨g,3,none⟩ c3).setCell ⟨g,4,none⟩ c4).setCell ⟨g,5,none⟩ c5) g t #[c0,c1,c2,c3,c4,c5,d6,d7]:=h4.set_ 5 c5;have h6:Blk (((((((x.setCell ⟨g,0,none⟩ c0).setCell ⟨g,1,none⟩ c1).setCell ⟨g,2,none⟩ c2).setCell ⟨g,3,none⟩ c3).setCell ⟨g,4,none⟩ c4).setCell ⟨g,5,none⟩ c5).setCell ⟨g,6,none⟩ c6) g t #[c0,c1,c2,c3,c4,c5,c6,d7]:=h5.set_ 6 c6;have h7:Blk ((((((((x.setCell ⟨g,0,none⟩ c0).setCell ⟨g,1,none⟩ c1).setCell ⟨g,2,none⟩ c2).setCell ⟨g,3,none⟩ c3).setCell ⟨g,4,none⟩ c4).setCell ⟨g,5,none⟩ c5).setCell ⟨g,6,none⟩ c6).setCell ⟨g,7,none⟩ c7) g t #[c0,c1,c2,c3,c4,c5,c6,c7]:=h6.set_ 7 c7;exact h7
theorem zUv {B:Nat}(h:Below B w x)(hB:B<=x.heap.size)(hg:B<=g)(c0 c1 c2 c3 c4 c5 c6 c7:Value):Below B w (zN2 x g c0 c1 c2 c3 c4 c5 c6 c7):=
 h.grown (zR6 x g c0 c1 c2 c3 c4 c5 c6 c7) hB fun r e=>by have:=sj e;omega
def zEh (ok:Nat->Prop)(w:World)(p:Prt)(c:Array Value):Prop:=∃k a v f A0 n0 c0 A cap,c= #[qI k,.string a,.string v,.slice A0 n0 c0,.string f,.slice A p.scr.length cap,.string p.fin,.string p.vr]/\TmAt ok w p.opnd #[qI k,.string a,.string v,.slice A0 n0 c0,.string f]/\p.scr.length<=cap/\cap<=9223372036854775807/\zD2 ok w A p.scr/\p.fin.size<=1000/\p.vr.size<=1000/\p.scr.length<=1000
def PrtP (m:Mea Prt)(w:World)(e:Ending)(w':World):Prop:=(match m with
 | .ok p=>∃c,e= .returned (.tuple #[.agg c,.pointer none])/\zEh (fun b=>w.heap.size<=b) w' p c
 | .bad er q=>∃g,e= .returned (.tuple #[.agg zDt,qP g])/\zE6 (fun b=>w.heap.size<=b) w' g er q)/\Below w.heap.size w w'
structure ScS (w:World)(cs:Array Value)(fin vr:ByteArray)(v:Value)(xs:List Trm)(x:World):Prop where
 bel:Below w.heap.size w x
 k0:Blk x w.heap.size 25 cs
 k1:Blk x (w.heap.size+1) 101 zDt
 k2:Blk x (w.heap.size+2) 101 (prtC v fin vr)
 app:AppT (fun b=>w.heap.size+2<b) x (w.heap.size+3) v xs
theorem ScS.keep {w x x':World}{cs:Array Value}{fin vr:ByteArray}{v:Value}{xs:List Trm}(h:ScS w cs fin vr v xs x)(hb:Below x.heap.size x x'):ScS w cs fin vr v xs x':=
 ⟨h.bel.trans (hb.mono h.bel.size),jL hb h.k0,jL hb h.k1,jL hb h.k2,h.app.keep hb⟩
theorem ScS.grow {x':World}{cs:Array Value}{fin vr:ByteArray}{v:Value}{xs:List Trm}(h:ScS w cs fin vr v xs x)(hg:x.grownBy x' (some g))(h1:w.heap.size+2<g)(h2:∀b,v.ownBlock=some b->b<g)(h3:AppT (fun b=>w.heap.size+2<b/\b<g) x (w.heap.size+3) v xs):ScS w cs fin vr v xs x':=
 ⟨h.bel.grown hg h.bel.size fun r e=>by have:=sj e;omega,h.k0.grown hg fun e=>by have:=sj e;omega,h.k1.grown hg fun e=>by have:=sj e;omega,h.k2.grown hg fun e=>by have:=sj e;omega,
  (h3.zS3 hg (fun b hb e=>by have:=h2 b hb;have:=sj e;omega) (fun b hb e=>by have:=sj e;omega)).weak fun b _ hb=>hb.1⟩
theorem ScS.set_ {w x:World}{cs:Array Value}{fin vr fin' vr':ByteArray}{v v':Value}{xs:List Trm}(h:ScS w cs fin vr v xs x)(o:Nat)(u:Value)(hc:Blk (x.setCell ⟨w.heap.size+2,o,none⟩ u) (w.heap.size+2) 101 (prtC v' fin' vr'))(hv:v'=v):ScS w cs fin' vr' v' xs (x.setCell ⟨w.heap.size+2,o,none⟩ u):=by
 subst hv;have hg:=zA8 x ⟨w.heap.size+2,o,none⟩ u;exact⟨h.bel.grown hg h.bel.size fun r e=>by have h9:w.heap.size+2=r:=sj e;omega,h.k0.grown hg fun e=>by have h9:w.heap.size=w.heap.size+2:=sj e;omega,h.k1.grown hg fun e=>by have h9:w.heap.size+1=w.heap.size+2:=sj e;omega,hc,h.app.set_ (p:=⟨w.heap.size+2,o,none⟩) (by show ¬(w.heap.size+2<w.heap.size+2);omega) (by show w.heap.size+2<w.heap.size+3;omega) u⟩
theorem zW4 {rs:List Rul}{sub:Tre}(hF:zAt sub=true){v:ByteArray}(h:zGp rs sub=some v):v.size<=1000:=by
 unfold zGp at h
 split at h
 ·next a b d r hk=>
  split at h
  ·have hv:a.text=v:=by simpa using h
   have ha:=(zDa (s:=0) (d:=a) hF (by rw[hk];rfl)).1;rw[<-hv];exact zCp ha
  ·cases h
 ·cases h
theorem zY2 (rs:List Rul)(kd:Int){sub:Tre}(hF:zAt n=true)(hk:n.kids=b0::sub::r)(_hs:scrB n.kind=true):((varN rs n (decide (kd=2))).getD ⟨#[]⟩).size<=1000:=by
 cases hv:varN rs n (decide (kd=2)) with
 |none=>decide
 |some v=>
  rw[Option.getD_some];unfold varN at hv
  split at hv
  ·rw[hk] at hv;exact zW4 (zDa (s:=1) (d:=sub) hF (by rw[hk];rfl)).1 hv
  ·cases hv
theorem zIz (h:zAt n=true)(hs:scrB n.kind=true):∃b0 sub r,n.kids=b0::sub::r:=by
 have h2:=(zEb h).2;unfold scrB at hs;have hk:=of_decide_eq_true hs;unfold zBu at h2;rw[if_neg (by omega),Bool.and_eq_true,if_neg (by omega),if_neg (by omega)] at h2;have hl:2<=n.kids.length:=by
  rcases hk with e|e|e
  ·rw[if_pos (by omega)] at h2;have:=of_decide_eq_true h2.2;omega
  ·rw[if_pos (by omega)] at h2;have:=of_decide_eq_true h2.2;omega
  ·rw[if_neg (by omega),if_pos e] at h2;have:=of_decide_eq_true h2.2;omega
 match hn:n.kids with
 |[]=>rw[hn] at hl;simp at hl
 |[_]=>rw[hn] at hl;simp at hl
 |a::b::r=>exact⟨a,b,r,rfl⟩
theorem yCu (rs:List Rul)(kd:Int){sub:Tre}(hk:n.kids=b0::sub::r)(hs:scrB n.kind=true):varN rs n (decide (kd=2))=if(decide (kd=2)&& !decide (n.kind=8))=true then zGp rs sub else none:=by
 unfold scrB at hs;have hk2:=of_decide_eq_true hs;unfold varN
 by_cases h:decide (kd=2)=true/\(n.kind=7\/n.kind=9)
 ·rw[if_pos h,hk,if_pos (by rw[h.1,decide_eq_false (by omega)];rfl)]
 ·rw[if_neg h,if_neg];intro e;simp only[Bool.and_eq_true,Bool.not_eq_true',decide_eq_false_iff_not] at e;exact h ⟨e.1,by omega⟩
theorem zPa (g:Nat)(A:Option Addr)(cap:Nat)(rs:List Rul)(f:Nat)(HL:zV7 g A cap rs f)(n:Tre)(c:Array Value)(path:List Int)(Ap:Option Addr)(cp:Nat)(kd:Int)(w:World)(hR:zGv w g A cap rs)(hN:zAv w n c)(hP:zAr w Ap path)(hF:zAt n=true)(hop:n.kind=2\/scrB n.kind=true)(hcnt:zA7 n<=f)(hpl:path.length+zA7 n<=900000):
  Calls Tryz.prog 43 #[qP g,.agg c,.slice Ap path.length cp,qI kd] w (PrtP (scrF rs (zAb rs f) n path (decide (kd=2))) w):=by
 obtain⟨i0,hi,hz0,hz1,hz2⟩:=Sp.info_parts zEd;obtain⟨A2,cap2,rfl,hsz,hl,hc,hk⟩:=hN.form;have B1:=zA0 w (qO n A2 cap2);have s1:(w.alloc (qO n A2 cap2)).heap.size=w.heap.size+1:=by simp
 have B2:=zA0 (w.alloc (qO n A2 cap2)) (.cells zDt 101);have s2:((w.alloc (qO n A2 cap2)).alloc (.cells zDt 101)).heap.size=w.heap.size+2:=by simp
 have B3:=zA0 ((w.alloc (qO n A2 cap2)).alloc (.cells zDt 101)) (.cells zDt 101);have HB:=((B1.trans (B2.mono B1.size)).trans (B3.mono (B1.trans (B2.mono B1.size)).size))
 have K0:=keep B3 (keep B2 (Blk.new w 25 (qC n A2 cap2)));have K1:=keep B3 (Blk.new (w.alloc (qO n A2 cap2)) 101 zDt);rw[s1] at K1;have K2:=Blk.new ((w.alloc (qO n A2 cap2)).alloc (.cells zDt 101)) 101 zDt;rw[s2] at K2;have S0:=zh (ScS.mk (xs:=[]) (v:=qN) HB K0 K1 K2 (AppT.nil _ _ _));have HR:=zh hR;have HN:=zh hN;have HK:=zh hk;have HP:=zh hP;have HFO:=zh hF;have HCN:=zh hcnt;have HPL:=zh hpl;have HOP:=zh hop;have HLL:=zh HL;clear hR hN hk hP hF hcnt hpl hop hsz HL B1 B2 B3 s1 s2 HB K0 K1 K2;go_enter Tryz.func43,Tryz.ntmps43;go_upto_region 2 with(fail)
 generalize ((w.alloc (qO n A2 cap2)).alloc (.cells zDt 101)).alloc (.cells zDt 101)=w1 at*;have k00:=S0.out.k0.cell 0
 by_cases n2:n.kind=2
 ·have q2:(n.kind==2)=true:=beq_iff_eq.2 n2;have HO:=zh (show scrF rs (zAb rs f) n path (decide (kd=2))= .ok zerP by unfold scrF;rw[if_pos n2]);have k2c:=fun i=>S0.out.k2.cell i
  have k1c:=fun i=>S0.out.k1.cell i
  have k1f:=fun i=>S0.out.k1.frozen i
  have KK1:=zh S0.out.k1;clear n2;go_wp2_with fail;have KR:=zh (set8 KK1.out (qI 0) qE qE qN qE qN qE qE);have HB8:=zh (zUv (g:=w.heap.size+1) S0.out.bel S0.out.bel.size (by omega) (qI 0) qE qE qN qE qN qE qE);have HG8:=zh (zR6 w1 (w.heap.size+1) (qI 0) qE qE qN qE qN qE qE);change bodyPost _ _ _ _ _ (zN2 w1 (w.heap.size+1) (qI 0) qE qE qN qE qN qE qE);generalize zN2 w1 (w.heap.size+1) (qI 0) qE qE qN qE qN qE qE=w9 at*;have r0:=KR.out.cell;exact bodyPost_ret (v:=.tuple #[.agg #[qI 0,qE,qE,qN,qE,qN,qE,qE],.pointer none]) (by simp[results,Tryz.results43,go_sem,r0]) rfl (show PrtP _ _ _ _ by rw[HO.out];exact⟨⟨_,rfl,_,_,_,_,_,_,_,_,_,rfl,zTv _ _,Nat.le_refl _,by decide,(fun i x h=>by simp[zerP] at h),by decide,by decide,by decide⟩,HB8.out⟩)
 have q2:(n.kind==2)=false:=bn n2;have HSB:=zh (HOP.out.resolve_left n2);have HKS:=zh (zIz HFO.out HSB.out);obtain⟨b0,sub,rr,hks⟩:=HKS.out;have HKS:=zh hks;clear hks;have HVN:=zh (yCu rs kd HKS.out HSB.out);have HSCR:=zh (show scrF rs (zAb rs f) n path (decide (kd=2))=(zAn (zAb rs f) path (n.kids.drop 1) 1 (if(varN rs n (decide (kd=2))).isSome then 2 else 0)).then_ fun ts=>.ok ⟨zerT,ts,endS n.kind,(varN rs n (decide (kd=2))).getD ⟨#[]⟩⟩ by unfold scrF;rw[if_neg n2,List.drop_one]);clear n2;go_upto_region 5 with(fail)
 go_cut [27] (fun b wc=>b= .bool (decide (kd=2)&& !decide (n.kind=8))/\wc=w1)
 case first=>
  by_cases h2:kd=2
  case neg=>
   have q1:(kd==2)=false:=bn h2;have HD:=zh (decide_eq_false h2);clear h2;go_wp2;go_meet;exact⟨by rw[HD.out];rfl,rfl⟩
  have q1:(kd==2)=true:=beq_iff_eq.2 h2;have HD:=zh (decide_eq_true h2);clear h2
  by_cases h8:n.kind=8
  ·have q8:(n.kind==8)=true:=beq_iff_eq.2 h8;have q8':(n.kind !=8)=false:=by rw[bne,q8];rfl
   have HE:=zh (decide_eq_true h8);clear h8;go_wp2;go_meet;exact⟨by rw[HD.out,HE.out];rfl,rfl⟩
  ·have q8:(n.kind==8)=false:=bn h8;have q8':(n.kind !=8)=true:=by rw[bne,q8];rfl
   have HE:=zh (decide_eq_false h8);clear h8;go_wp2;go_meet;exact⟨by rw[HD.out,HE.out];rfl,rfl⟩
 obtain⟨rfl,rfl⟩:=hcut;go_upto_if 27 with(fail)
 go_cut [11] (fun bg wc=>bg=qI ((if(varN rs n (decide (kd=2))).isSome=true then 2 else 0:Nat):Int)/\Hid (ScS w (qC n A2 cap2) ⟨#[]⟩ ((varN rs n (decide (kd=2))).getD ⟨#[]⟩) qN [] wc))
 case first=>
  cases hcb:(decide (kd=2)&& !decide (n.kind=8))
  ·have HV:=zh (show varN rs n (decide (kd=2))=none by rw[HVN.out,hcb];rfl);clear hcb;go_wp2;go_meet;exact⟨by rw[HV.out];rfl,by rw[HV.out];exact S0⟩
  ·have HKW:=zh (show zAo wc A2 (b0::sub::rr) by rw[<-HKS.out];exact HK.out.keep S0.out.bel);obtain⟨ad,A3,cap3,rfl,hadl,hna,hsza,a0,a1,a2,a3⟩:=zGa HKW.out;obtain⟨A4,cap4,hnb,hszb,e0,e1,e2,e3⟩:=zHz HKW.out;have HNB:=zh hnb;have HRW:=zh (HR.out.keep S0.out.bel);have hp1:(1:Int)<(n.kids.length:Int):=by rw[HKS.out,List.length_cons,List.length_cons];omega
   have k03:=S0.out.k0.cell 3;have HV:=zh (show varN rs n (decide (kd=2))=if zMn rs sub=true then some (zM3 rs sub) else none by rw[HVN.out,hcb,if_pos rfl,zY1]);clear hcb hna hnb a0 a1 a2 a3;go_wp2_with fail;refine(zXa g A cap rs sub _ wc HRW.out HNB.out).mono ?_;rintro e w3 ⟨rfl,hb⟩;have S3:=zh (S0.out.keep hb);clear hb k03 e0 e1 e2 e3 hp1;have k2c:=fun i=>S3.out.k2.cell i
   have k2f:=fun i=>S3.out.k2.frozen i
   generalize zM3 rs sub=bt at*;cases hbb:zMn rs sub
   ·have HV2:=zh (show varN rs n (decide (kd=2))=none by rw[HV.out,hbb];rfl);clear hbb;go_wp2;go_meet;exact⟨by rw[HV2.out];rfl,by rw[HV2.out];exact S3⟩
   ·have HV2:=zh (show varN rs n (decide (kd=2))=some bt by rw[HV.out,hbb];rfl);clear hbb;go_wp2;go_meet;refine⟨by rw[HV2.out];rfl,?_⟩;rw[HV2.out];exact zh (S3.out.set_ 7 _ (S3.out.k2.set_ 7 (.string bt)) rfl)
 obtain⟨rfl,HS1⟩:=hcut;clear S0;have HVZ:=zh (show((varN rs n (decide (kd=2))).getD ⟨#[]⟩).size<=1000 from zY2 rs kd HFO.out HKS.out HSB.out);clear HVN;generalize (varN rs n (decide (kd=2))).getD ⟨#[]⟩=vr at*;have HBN:=zh (show(if(varN rs n (decide (kd=2))).isSome=true then 2 else 0:Nat)<=2 by split<;>omega);generalize (if(varN rs n (decide (kd=2))).isSome=true then 2 else 0:Nat)=bN at*;have k00:=HS1.out.k0.cell 0
 go_upto_block 0 with(fail)
 clear k00
 go_cut [] (fun wd=>Hid (ScS w (qC n A2 cap2) (endS n.kind) vr qN [] wd))
 case first=>
  have k00:=HS1.out.k0.cell 0;have k2c:=fun i=>HS1.out.k2.cell i
  have k2f:=fun i=>HS1.out.k2.frozen i
  by_cases h7:n.kind=7
  ·have q7:(n.kind==7)=true:=beq_iff_eq.2 h7;have HE:=zh (show endS n.kind=subS by unfold endS;rw[if_pos h7]);clear h7;go_wp2;go_meet;rw[HE.out];exact zh (HS1.out.set_ 6 _ (HS1.out.k2.set_ 6 (.string subS)) rfl)
  have q7:(n.kind==7)=false:=bn h7
  by_cases h8:n.kind=8
  ·have q8:(n.kind==8)=true:=beq_iff_eq.2 h8;have HE:=zh (show endS n.kind=supS by unfold endS;rw[if_neg h7,if_pos h8]);clear h7 h8;go_wp2;go_meet;rw[HE.out];exact zh (HS1.out.set_ 6 _ (HS1.out.k2.set_ 6 (.string supS)) rfl)
  have q8:(n.kind==8)=false:=bn h8;have HE:=zh (show endS n.kind=zK6 by unfold endS;rw[if_neg h7,if_neg h8]);clear h7 h8;go_wp2;go_meet;rw[HE.out];exact zh (HS1.out.set_ 6 _ (HS1.out.k2.set_ 6 (.string zK6)) rfl)
 have HS2:=hcut;clear hcut HS1;have HEZ:=zh (show(endS n.kind).size<=1000 by unfold endS;split<;>(try split)<;>decide);generalize endS n.kind=fe at*;have HLN:=zh (show 2<=n.kids.length by rw[HKS.out,List.length_cons,List.length_cons];omega);go_wp2_with fail
 go_loopw [11,14] (fun bg i wr=>∃(s b:Nat) (xs:List Trm) (v:Value),1<=s/\s<=n.kids.length/\b<=2/\i=qI s/\bg=qI b/\xs.length<=s/\Hid (zDs (zAn (zAb rs f) path (n.kids.drop 1) 1 bN) xs (zAn (zAb rs f) path (n.kids.drop s) s b))/\Hid (ScS w (qC n A2 cap2) fe vr v xs wr)) (fun _ i _=>n.kids.length -(intOf i).toNat)
 case atStart=>exact⟨1,bN,[],_,by omega,by have:=HLN.out;omega,HBN.out,rfl,rfl,by simp,zh (zDs.start _),HS2⟩
 case round=>
  clear HS2;obtain⟨s,b,xs,v,hs1,hs,hb2,rfl,rfl,hxs,HSF,HS⟩:=hrel;have k03:=HS.out.k0.cell 3
  by_cases hlt:s<n.kids.length
  ·obtain⟨d,hd⟩:∃d,n.kids[s]?=some d:=⟨_,gE hlt⟩
   obtain⟨ad,A3,cap3,rfl,hadl,hsz3,hl3,hc3,hk3,hn3,d0,d1,d2,d3⟩:=HK.out.at_ hd;have hadb:(⟨(ad.add (s*4)).block,(ad.add (s*4)).off+3,none⟩:Addr).block<w.heap.size:=by show(ad.add (s*4)).block<_;rw[zA2];exact hadl
   have HD3:=zh ((HS.out.bel.cell hadb).trans d3);have HAD:=zh (show(⟨(ad.add (s*4)).block,(ad.add (s*4)).off+3,none⟩:Addr).block<wr.heap.size from ll hadb HS.out.bel.size);have HKD:=zh hk3;have HCD:=zh (zI7 hd);have HFD:=zh (zJj HFO.out (fun e=>by have h:=HSB.out;unfold scrB at h;have:=of_decide_eq_true h;omega) hd);have HSF2:=zh (show zDs (zAn (zAb rs f) path (n.kids.drop 1) 1 bN) xs ((zAb rs f d.kids (path++[(s:Int)]) b).then_ fun t=>(zAn (zAb rs f) path (n.kids.drop (s+1)) (s+1) 0).then_ fun ts=>.ok (t::ts)) by rw[<-zHx hd];exact HSF.out);obtain⟨pq,hpq⟩:∃pq,pq=path++[(s:Int)]:=⟨_,rfl⟩
   have HPQ:=zh hpq;have HPS:=zh (show pq.length=path.length+1 by rw[hpq,List.length_append];rfl);rw[<-hpq] at HSF2;clear hpq hd hk3 hn3 d0 d1 d2 d3 hadb HSF;have HPW:=zh (HP.out.keep HS.out.bel);have HRW:=zh (HR.out.keep HS.out.bel);have HDW:=zh (HKD.out.keep HS.out.bel);have HWR:=zh (show w.heap.size+2<wr.heap.size from HS.out.k2.lt);go_upto_region 18 with(fail)
   clear k03;refine qm [2,2,1,2,2,2,1,2,2,1,1,1,2,1,2,2,2,1,3,2] (List.replicate 20 false) (fun gx=>[qP g,.pointer (some ⟨w.heap.size,3,none⟩),.slice (some ad) n.kids.length cap2,qI (↑s),.pointer (some (ad.add (s*4))),.pointer (some ⟨(ad.add (s*4)).block,(ad.add (s*4)).off+3,none⟩),.slice A3 d.kids.length cap3,.slice Ap path.length cp,qI (↑s),.slice (some ⟨gx.n 66,0,none⟩) 1 1,.slice (some ⟨gx.n 67,0,none⟩) 2 2,gx.v 68,qI (b:Int),.tuple #[gx.v 70,gx.v 71],.tuple #[gx.v 70,gx.v 71],gx.v 70,gx.v 71,qP (gx.n 15),undef,gx.v 71]) [(9,fun gx wx=>Blk wx (gx.n 66) 3 #[qI (s:Int)]),(10,fun gx wx=>Blk wx (gx.n 67) 30 #[.slice Ap path.length cp,.slice (some ⟨gx.n 66,0,none⟩) 1 1]),(11,fun gx wx=>∃A8 c8,gx.v 68= .slice A8 pq.length c8/\pq.length<=c8/\c8<=9223372036854775807/\zAr wx A8 pq),(13,fun gx wx=>LRes (gx.n 70) (gx.n 71) (zAb rs f d.kids pq b) wx (gx.v 70) (gx.v 71)/\wr.heap.size<=gx.n 70/\gx.n 70<=gx.n 71),(17,fun gx wx=>Blk wx (gx.n 15) 47 zerC/\wr.heap.size<=gx.n 15)] (fun gx wx=>(gx.n 15=0\/gx.n 15<wx.heap.size)/\gx.n 71<=wx.heap.size/\(gx.n 15=0\/gx.n 71=0\/gx.n 15<gx.n 70\/gx.n 71<=gx.n 15)) (zA6.cons (fun gx wx w2 h hb=>keep hb h) (zA6.cons (fun gx wx w2 h hb=>keep hb h) (zA6.cons (fun gx wx w2 ⟨A8,c8,h1,h2,h3,h4⟩ hb=>⟨A8,c8,h1,h2,h3,h4.keep hb⟩) (zA6.cons (fun gx wx w2 h hb=>⟨h.1.keep hb,h.2⟩) (zA6.cons (fun gx wx w2 h hb=>⟨keep hb h.1,h.2⟩) zA6.nil))))) (⟨.inl rfl,Nat.zero_le _,.inl rfl⟩) ?_ ?_
   ·refine⟨jC,jI,jR fun gx wq hB=>(keep hB HS.out.k0).cell 3,jC,fun gx wq=>?_,jI,jR fun gx wq hB=>(hB.cell HAD.out).trans HD3.out,jC,jC,fun gx wq hB hJ hf=>?_,fun gx wq hB hJ hf=>?_,fun gx wq hB hJ hf=>?_,jC,fun gx wq hB hJ hf=>?_,jC,jC,jC,fun gx wq hB hJ hf=>?_,jC,trivial⟩
    ·exact jp (.pointer (some (ad.add (s*4)))) (by simp[go_sem,evAct,hlt];try omega) rfl
    ·exact jv (.slice (some ⟨wq.heap.size,0,none⟩) 1 1) (wq.alloc (.cells #[qI (s:Int)] 3)) (by simp[go_sem,evAct]) ⟨gx.setN 66 wq.heap.size,rfl,jD,zA0 wq _,⟨Blk.new wq _ _,jG,jG,jG,jH,trivial⟩,(by obtain⟨j1,j2,j3⟩:=hJ;have hs:=(zA0 wq (.cells #[qI (s:Int)] 3)).size;exact⟨j1.imp id (fun h=>ll h hs),Nat.le_trans j2 hs,j3⟩)⟩
    ·have f66:=jE hf.1;exact jv (.slice (some ⟨wq.heap.size,0,none⟩) 2 2) (wq.alloc (.cells #[.slice Ap path.length cp,.slice (some ⟨gx.n 66,0,none⟩) 1 1] 30)) (by simp[go_sem,evAct]) ⟨gx.setN 67 wq.heap.size,rfl,jD,zA0 wq _,⟨jH,Blk.new wq _ _,jG,jG,jH,trivial⟩,(by obtain⟨j1,j2,j3⟩:=hJ;have hs:=(zA0 wq (.cells #[.slice Ap path.length cp,.slice (some ⟨gx.n 66,0,none⟩) 1 1] 30)).size;exact⟨j1.imp id (fun h=>ll h hs),Nat.le_trans j2 hs,j3⟩)⟩
    ·have f66:=jE hf.1;have f67:=jE hf.2.1;refine jc 41 (#[.slice (some ⟨gx.n 67,0,none⟩) 2 2]) wq (by kernel_rfl) ((zJ1 (gx.n 67) (gx.n 66) Ap path cp (s:Int) wq f67 f66 (HPW.out.keep hB) (by have:=HPL.out;omega)).mono ?_);rintro e wz ⟨⟨q8,A8,c8,hq8,rfl,hc1,hc2,hpa,_⟩,hb⟩;rw[<-HPQ.out] at hq8;subst hq8;exact⟨_,rfl,gx.setV 68 (.slice A8 q8.length c8),rfl,jD,hb,⟨jH,jH,⟨A8,c8,rfl,hc1,hc2,hpa⟩,jG,jH,trivial⟩,(by obtain⟨j1,j2,j3⟩:=hJ;have hs:=hb.size;exact⟨j1.imp id (fun h=>ll h hs),Nat.le_trans j2 hs,j3⟩)⟩
    ·have f66:=jE hf.1;have f67:=jE hf.2.1;have f68:=jE hf.2.2.1;obtain⟨A8,c8,e8,hc1,hc2,hpa⟩:=f68;refine jc 21 (#[qP g,.slice A3 d.kids.length cap3,.slice A8 pq.length c8,qI b]) wq (by simp[go_sem,evAct,e8]) ((HLL.out d.kids pq b A3 A8 cap3 c8 wq (HRW.out.keep hB) (HDW.out.keep hB) hl3 hc3 hpa (by have:=HPS.out;have:=HPL.out;have:=HCD.out;omega) (by have:=HCN.out;have:=HCD.out;omega) HFD.out hb2).mono ?_);rintro e wz hm;obtain⟨c9,f9,rfl,hres,hb⟩:=hm.res;exact⟨_,rfl,(((gx.setV 70 c9).setV 71 f9).setN 70 wq.heap.size).setN 71 wz.heap.size,rfl,jD,hb,⟨jH,jH,jH,⟨hres,hB.size,hb.size⟩,jH,trivial⟩,(by obtain⟨j1,j2,j3⟩:=hJ;exact⟨j1.imp id (fun h=>ll h hb.size),Nat.le_refl _,j1.elim .inl (fun h=>.inr (.inr (.inl h)))⟩)⟩
    ·exact jv (qP wq.heap.size) (wq.alloc (.cells zerC 47)) (by simp[go_sem]) ⟨gx.setN 15 wq.heap.size,rfl,jD,zA0 wq _,⟨jH,jH,jH,jH,⟨Blk.new wq _ _,hB.size⟩,trivial⟩,(by obtain⟨j1,j2,j3⟩:=hJ;exact⟨.inr (by show wq.heap.size<_;simp),Nat.le_trans j2 (zA0 wq (.cells zerC 47)).size,.inr (.inr (.inr j2))⟩)⟩
   ·refine fun gx wq hB hJ hf=>?_
    dsimp only[zAh] at hf;change wpOps _ _ _ [18] _ _;obtain⟨-,-,-,⟨hres,hlo,hhi⟩,⟨hk11,hl11⟩,-⟩:=hf;obtain⟨-,-,j3⟩:=hJ;have HSB2:=zh (HS.out.keep hB);have HAP:=zh ((HS.out.app.weak (P':=fun b=>w.heap.size+2<b/\b<wr.heap.size) fun b hb h=>⟨h,hb⟩).keep hB);have HVB:=zh (fun b hb=>(HS.out.app.ltT b hb).2);have HK11:=zh hk11;have HN9:=zh (show gx.n 15<gx.n 70\/gx.n 71<=gx.n 15 by have:=HWR.out;omega);have HL:=zh (And.intro hlo (And.intro hhi hl11));have HRES:=zh hres;clear hres hlo hhi hk11 hl11 j3 hB HS HPW HRW HDW HD3 HAD;generalize gx.n 15=g11 at*;generalize gx.n 70=n68 at*;generalize gx.n 71=n69 at*;generalize gx.v 70=c68 at*;generalize gx.v 71=c69 at*;generalize gx.n 66=n65 at*;generalize gx.n 67=n66 at*;generalize gx.v 68=v67 at*;clear gx;generalize wq=w6 at*;have kc:=HK11.out.cell;have kf:=HK11.out.frozen;cases hM:zAb rs f d.kids pq b with
    |bad er p=>
     have HR2:=HRES.out;rw[hM] at HR2;obtain⟨rfl,gf,rfl,hff⟩:=HR2;have HFF:=zh hff;have HO2:=zh (show scrF rs (zAb rs f) n path (decide (kd=2))= .bad er p by rw[HSCR.out,HSF2.out.bad hM];rfl);clear hff HRES hM;have HG7:=zh (zEs w6 g11 (qI 0) qE qE qN qE);refine zAu (o:=_) rfl rfl (w':=((((w6.setCell ⟨g11,0,none⟩ (qI 0)).setCell ⟨g11,1,none⟩ qE).setCell ⟨g11,2,none⟩ qE).setCell ⟨g11,3,none⟩ qN).setCell ⟨g11,4,none⟩ qE) (by simp[go_sem,kc,kf]) ?_;refine zAa ?_;clear kc kf;generalize ((((w6.setCell ⟨g11,0,none⟩ (qI 0)).setCell ⟨g11,1,none⟩ qE).setCell ⟨g11,2,none⟩ qE).setCell ⟨g11,3,none⟩ qN).setCell ⟨g11,4,none⟩ qE=w7 at*;have HS7:=zh (HSB2.out.grow HG7.out (by have:=HL.out.2.2;have:=HWR.out;omega) (fun b hb=>by have:=HVB.out b hb;have:=HL.out.2.2;omega) (HAP.out.weak fun b _ hb=>⟨hb.1,by have:=HL.out.2.2;omega⟩));have HF7:=zh ((HFF.out.grown HG7.out fun hb=>by have:=HN9.out;omega).any (ok':=fun b=>w.heap.size+2<b) fun b _ hb=>by have:=HL.out.1;have:=HWR.out;omega);clear HG7 HFF HSB2 HAP HK11 HVB;have k1c:=fun i=>HS7.out.k1.cell i
     have k1f:=fun i=>HS7.out.k1.frozen i
     have KK1:=zh HS7.out.k1;go_wp2_with fail;have KR:=zh (set8 KK1.out (qI 0) qE qE qN qE qN qE qE);have HB8:=zh (zUv (g:=w.heap.size+1) HS7.out.bel HS7.out.bel.size (by omega) (qI 0) qE qE qN qE qN qE qE);have HG8:=zh (zR6 w7 (w.heap.size+1) (qI 0) qE qE qN qE qN qE qE);change bodyPost _ _ _ _ _ (zN2 w7 (w.heap.size+1) (qI 0) qE qE qN qE qN qE qE);generalize zN2 w7 (w.heap.size+1) (qI 0) qE qE qN qE qN qE qE=w9 at*;have r0:=KR.out.cell;exact bodyPost_ret (v:=.tuple #[.agg #[qI 0,qE,qE,qN,qE,qN,qE,qE],qP gf]) (by simp[results,Tryz.results43,go_sem,r0]) rfl (show PrtP _ _ _ _ by rw[HO2.out];exact⟨⟨gf,rfl,(HF7.out.grown HG8.out fun hb=>by omega).any fun b _ hb=>by omega⟩,HB8.out⟩)
    |ok t=>
     have HR2:=HRES.out;rw[hM] at HR2;obtain⟨cc,rfl,rfl,htt⟩:=HR2;obtain⟨tk,ta,tv,tA,tn,tcp,tf,rfl⟩:=htt.ext;have HTT:=zh htt;have HSF3:=zh (HSF2.out.next hM);clear htt HRES hM;have HG7:=zh (zEs w6 g11 (qI tk) (.string ta) (.string tv) (.slice tA tn tcp) (.string tf));have HK7:=zh (set5 HK11.out (qI tk) (.string ta) (.string tv) (.slice tA tn tcp) (.string tf));refine zAu (o:=_) rfl rfl (w':=((((w6.setCell ⟨g11,0,none⟩ (qI tk)).setCell ⟨g11,1,none⟩ (.string ta)).setCell ⟨g11,2,none⟩ (.string tv)).setCell ⟨g11,3,none⟩ (.slice tA tn tcp)).setCell ⟨g11,4,none⟩ (.string tf)) (by simp[go_sem,kc,kf]) ?_;refine zAa ?_;clear kc kf;generalize ((((w6.setCell ⟨g11,0,none⟩ (qI tk)).setCell ⟨g11,1,none⟩ (.string ta)).setCell ⟨g11,2,none⟩ (.string tv)).setCell ⟨g11,3,none⟩ (.slice tA tn tcp)).setCell ⟨g11,4,none⟩ (.string tf)=w7 at*;have HS7:=zh (HSB2.out.grow HG7.out (by have:=HL.out.2.2;have:=HWR.out;omega) (fun b hb=>by have:=HVB.out b hb;have:=HL.out.2.2;omega) (HAP.out.weak fun b _ hb=>⟨hb.1,by have:=HL.out.2.2;omega⟩));have HT7:=zh (HTT.out.grown (ok':=fun b=>v.ownBlock≠some b/\w.heap.size+2<b) HG7.out (fun b _ hb e=>by have:=sj e;have:=HN9.out;omega) fun b _ hb=>⟨fun e=>by have:=HVB.out b e;have:=HL.out.1;omega,by have:=HL.out.1;have:=HWR.out;omega⟩);clear HG7 HTT HSB2 HAP HK11;go_upto_region 21 with(fail)
     obtain⟨a0,a1,a2,a3,a4⟩:=qc HK7;have k23:=HS7.out.k2.cell 5;have hba:=zA0 w7 (.cells #[qI tk,.string ta,.string tv,.slice tA tn tcp,.string tf] 47);have HS8:=zh (HS7.out.keep hba);have HT8:=zh (HT7.out.keep hba);have HN8:=zh (Blk.new w7 47 #[qI tk,.string ta,.string tv,.slice tA tn tcp,.string tf]);have HMW:=zh (show w.heap.size+2<w7.heap.size from HS7.out.k2.lt);clear hba;obtain⟨css,ho,hl5,hr5⟩:=HS8.out.app;have hxl:xs.length<=1001:=by have:=zEz HFO.out;omega
     have HRA:=Sp.zBb HN8.out rfl (n:=5);have HTO:=zFe HT8.out;go_wp2_with (at_builtin;refine zA9 _ rfl (.tmp 78) (.tmp 80) 45 rfl (w.heap.size+3) 47 i0 (.agg qT) 5 80 Tryz.underlying45 hi hz0 hz1 hz2 rfl (by decide) _ _ _ rfl ho _ (some ⟨w7.heap.size,0,none⟩) 1 1 (#[qI tk,.string ta,.string tv,.slice tA tn tcp,.string tf]:Array Value).toList rfl HRA HTO (by unfold maxLen;omega) (by omega) (by have:=HMW.out;simp;omega) ?_)
     intro v' w8 q2 q3 q4;have HAP:=AppT.push hl5 hr5 HT8.out q2 q3 (by rw[World.size_alloc];exact q4);have hrow:∀b,v.ownBlock=some b->w.heap.size+3<=b:=fun b hb=>(HS8.out.app.ltT b hb).1
     have HB9:=zh (HS8.out.bel.grown q3 HS8.out.bel.size fun r e=>by have:=hrow r e;omega);have K90:=zh (HS8.out.k0.grown q3 fun e=>by have:=hrow _ e.symm;omega);have K91:=zh (HS8.out.k1.grown q3 fun e=>by have:=hrow _ e.symm;omega);have K92:=zh (HS8.out.k2.grown q3 fun e=>by have:=hrow _ e.symm;omega);have HAP9:=zh HAP;clear HAP ho hl5 hr5 q2 q3 q4 hrow HS8 HT8 HN8 a0 a1 a2 a3 a4 k23 HS7 HT7 HRA HTO;obtain⟨A5,c5,e9,_⟩:=HAP9.out.form (fun b hb=>by omega);rw[List.length_append,List.length_singleton] at e9;subst e9;have k3:=K92.out.cell 5;have f3:=K92.out.frozen 5;have HG9:=zh (zA8 w8 ⟨w.heap.size+2,5,none⟩ (.slice A5 (xs.length+1) c5));have S9:=zh (ScS.mk (HB9.out.grown HG9.out HB9.out.size fun r e=>by have h9:w.heap.size+2=r:=sj e;omega) (K90.out.grown HG9.out fun e=>by have h9:w.heap.size=w.heap.size+2:=sj e;omega) (K91.out.grown HG9.out fun e=>by have h9:w.heap.size+1=w.heap.size+2:=sj e;omega) (show Blk _ _ _ (prtC (.slice A5 (xs.length+1) c5) fe vr) from K92.out.set_ 5 (.slice A5 (xs.length+1) c5)) (HAP9.out.set_ (p:=⟨w.heap.size+2,5,none⟩) (by show ¬(w.heap.size+2<w.heap.size+2);omega) (by show w.heap.size+2<w.heap.size+3;omega) (.slice A5 (xs.length+1) c5)));clear HB9 K90 K91 K92 HAP9 HG9;go_wp2;go_roundw
     case rel=>exact⟨s+1,0,xs++[t],_,by omega,by omega,by omega,by go_num,rfl,by rw[List.length_append,List.length_singleton];omega,HSF3,S9⟩
     case measure=>simp[intOf];omega
  ·obtain rfl:s=n.kids.length:=by omega
   rw[List.drop_length,zAn] at HSF;have HT:=zh HSF.out.end;have HO2:=zh (show scrF rs (zAb rs f) n path (decide (kd=2))= .ok ⟨zerT,xs,fe,vr⟩ by rw[HSCR.out,HT.out];rfl);obtain⟨Af,cf,rfl,hcf,hcg,hts⟩:=HS.out.app.form fun b hb=>by omega
   have HTS:=zh hts;have k2c:=fun i=>HS.out.k2.cell i
   have k1c:=fun i=>HS.out.k1.cell i
   have k1f:=fun i=>HS.out.k1.frozen i
   have KK1:=zh HS.out.k1;clear hts;go_wp2_with fail;have KR:=zh (set8 KK1.out (qI 0) qE qE qN qE (.slice Af xs.length cf) (.string fe) (.string vr));have HB8:=zh (zUv (g:=w.heap.size+1) HS.out.bel HS.out.bel.size (by omega) (qI 0) qE qE qN qE (.slice Af xs.length cf) (.string fe) (.string vr));have HG8:=zh (zR6 wr (w.heap.size+1) (qI 0) qE qE qN qE (.slice Af xs.length cf) (.string fe) (.string vr));change bodyPost _ _ _ _ _ (zN2 wr (w.heap.size+1) (qI 0) qE qE qN qE (.slice Af xs.length cf) (.string fe) (.string vr));generalize zN2 wr (w.heap.size+1) (qI 0) qE qE qN qE (.slice Af xs.length cf) (.string fe) (.string vr)=w9 at*;have r0:=KR.out.cell;exact bodyPost_ret (v:=.tuple #[.agg #[qI 0,qE,qE,qN,qE,.slice Af xs.length cf,.string fe,.string vr],.pointer none]) (by simp[results,Tryz.results43,go_sem,r0]) rfl (show PrtP _ _ _ _ by rw[HO2.out];exact⟨⟨_,rfl,_,_,_,_,_,_,_,_,_,rfl,zTv _ _,hcf,hcg,HTS.out.map HG8.out.size (fun b _ hb=>by omega) (fun p _ ho=>World.cell?_of_block (HG8.out.block _ ‹_› fun e=>by have:=sj e;omega)),HEZ.out,HVZ.out,by have:=zEz HFO.out;show xs.length<=1000;omega⟩,HB8.out⟩)
end Go.Proofs.YtapgncbegadbnaaGreatDoor.El
