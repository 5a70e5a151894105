/- prefixes of the reference: which tokens are operators of prefix rules. -/
import Derived.Test.YtapgncbegadbnaaGreatDoorHc3921a4e
import Derived.Test.YtapgncbegadbnaaGreatDoorHed55b3bb
import Derived.Test.YtapgncbegadbnaaGreatDoorH4565a56c
set_option maxRecDepth 100000
set_option maxHeartbeats 400000000
namespace Go.Proofs.YtapgncbegadbnaaGreatDoor.El
open At Ch Sp Sy Go.RowKit
theorem yBo:zEv.d:=by
 intro okr ok g cap rs Ai ci its Apt cpt xs vp vk hrn hfs hys hkr hnm m x i j w A2 cap2 hl hc HKS HP HOK HM HK HJ HFS HYS HGG r HX u HLR HU HKK hneg hneg2 hrl HKD HNM w1 adr ih IH HR HG w2 w3 w4 oi HOI wq w5 po HPO _ _ _ _ _ _ _ _ kk vr fm sc HTR w8 HSZ HSC Af cf S hcf hcm _ HRW HGW HKW HPW ku0 _ _ wc _ _ _ _ _ _ _ _ _ _ _ _ _ _ _ _ _ _ _ _ _ _ _ _ _ _ _ _ _ _ _ _ _ _ _ _ _ _ _ _ _ _ _ _ _ _ _ _ _ _ _ _ _ _ _ _ _ _ _ _ _ _ _ _ _ _ _ _ _ _ _ _ _ _ _ _ _ _ _ _ _ _ _ _ _ _ _ _ _ _ _ _ _ _ _ _ _ _ _ _ _ _ _ _ _ _ _ _ _ _ _ _ _ _ _ _ _ _ _ _ _ _ _ _ _ _ _ _ _ _ _ _ _ _ _ _ _ _ _ _ _ _ _ _ _ _ _ _ _ _ _ _ _ _ _ _ _ _ _ _ _ _ _ _ _ _ _ _ A6 c6 zs h61 h62 S9 HTQ;obtain⟨i0,hi,hz0,hz1,hz2⟩:=Sp.info_parts zEd
 skip
 clear S HRW HGW HKW HPW ku0 HTR HKK HPO HOI IH HX HKS HK HG HR HP hfs hys hkr hnm HFS HYS;generalize wc=w9 at*;obtain⟨A6',c6',e9,_,_,hts⟩:=S9.out.app.form (fun b hb=>.inr (by omega));have e10:A6'=A6:=by injection e9 with e9 _ _;exact e9.symm
 rw[e10] at hts;clear e9 e10;have HTS:=zh hts;have KK1:=zh S9.out.k1;clear hts;have k1c:=KK1.out.cell;have k1f:=KK1.out.frozen;have kmc:=fun i=>S9.out.km.cell i
 go_wp2_with fail;have KR:=zh (set5 KK1.out (qI kk) (.string u.nam) (.string vr) (.slice A6 zs.length c6) (.string fm));have HB5:=zh (zNp (g:=w.heap.size+1) S9.out.bel S9.out.bel.size (by omega) (qI kk) (.string u.nam) (.string vr) (.slice A6 zs.length c6) (.string fm));have HG5:=zh (zEs w9 (w.heap.size+1) (qI kk) (.string u.nam) (.string vr) (.slice A6 zs.length c6) (.string fm));generalize (((((w9).setCell ⟨w.heap.size+1,0,none⟩ (qI kk)).setCell ⟨w.heap.size+1,1,none⟩ (.string u.nam)).setCell ⟨w.heap.size+1,2,none⟩ (.string vr)).setCell ⟨w.heap.size+1,3,none⟩ (.slice A6 zs.length c6)).setCell ⟨w.heap.size+1,4,none⟩ (.string fm)=w10 at*;obtain⟨r0,r1,r2,r3,r4⟩:=qc KR;exact bodyPost_ret (v:=.agg #[qI kk,.string u.nam,.string vr,.slice A6 zs.length c6,.string fm]) (by simp[results,Tryz.results89,go_sem,r0,r1,r2,r3,r4]) rfl (show RTmP _ _ _ _ _ by rw[HTQ.out];exact⟨_,rfl,TmAt.of HSZ.out.1 HSZ.out.2.1 HSZ.out.2.2 h61 h62 (HTS.out.map HG5.out.size (fun b _ hb=>hb.imp id fun h=>by omega) fun p _ hb=>World.cell?_of_block (HG5.out.block _ ‹_› fun e=>by have:=sj e;rcases hb with hb|hb<;>(try have:=HOK.out _ hb)<;>omega)),HB5.out⟩)
theorem zNr (okr ok:Nat->Prop)(g:Nat)(A:Option Addr)(cap:Nat)(rs:List Rul)(Ai:Option Addr)(ci:Nat)(its:List Tre)(Apt:Option Addr)(cpt:Nat)(xs:List (List Trm))(vp vk:Value)(hrn:rs.length<=1000000)(hfs:∀n∈its,zAt n=true/\n.kind≠1)(hys:∀y∈xs,y.length<=1000)(hkr:∀u∈rs,u.kind=1\/u.kind=2\/u.kind=3\/u.kind=4)(hnm:∀u∈rs,u.nam.size<=9223372036854775807):∀m:Nat,BuC okr ok g A cap rs Ai ci its Apt cpt xs vp vk m
 |0=>fun x _ _ _ _ hm=>absurd (zJ5 x) (by omega)
 |m+1=>zEv.out (fun _=>yB6) (fun _=>yBq) (fun _=>yB0) (fun _=>yBo) okr ok g A cap rs Ai ci its Apt cpt xs vp vk hrn hfs hys hkr hnm m (zNr okr ok g A cap rs Ai ci its Apt cpt xs vp vk hrn hfs hys hkr hnm m)
def setB (L:List Bool)(qs:List Int):List Bool:=qs.foldl (fun l q=>l.set q.toNat true) L
theorem zRq (L:List Bool)(a b:List Int):setB L (a++b)=setB (setB L a) b:=by unfold setB;rw[List.foldl_append]
theorem zRp (L:List Bool):∀ws:List Int,(setB L ws).length=L.length:=by
 intro ws
 induction ws generalizing L with
 |nil=>rfl
 |cons p ws ih=>
  show(setB (L.set p.toNat true) ws).length=_;rw[ih,List.length_set]
theorem zNn {rs:List Rul}:∀{ks:List Rd} {t:Nat} {y:Rd},ks[t]?=some y->pfxL rs (ks.take (t+1))=pfxL rs (ks.take t)++pfxR rs y
 |[],_,_,h=>by simp at h
 |k::ks,0,y,h=>by
  simp only[List.getElem?_cons_zero,Option.some.injEq] at h;subst h;simp[pfxL]
 |k::ks,t+1,y,h=>by
  simp only[List.getElem?_cons_succ] at h;rw[List.take_succ_cons,List.take_succ_cons,pfxL,pfxL,zNn h,List.append_assoc]
abbrev zLq (w:World)(gr:Nat)(L:List Bool):Prop:=Blk w gr 4 (L.map Value.bool).toArray
theorem zVq (L:List Bool)(q:Nat):(L.map Value.bool).toArray.setIfInBounds q (.bool true)=((L.set q true).map Value.bool).toArray:=by
 rw[List.setIfInBounds_toArray,List.map_set]
theorem ok_i {rs:List Rul}{x:Rd}{i j:Nat}(h:OkR rs x i j):x.at_=(i:Int):=by cases h<;>rfl
theorem yCq (rs:List Rul)(x:Rd):pfxR rs x=(if 0<=x.rule/\kndR rs x.rule=2 then[x.at_] else[])++pfxL rs x.kids:=by
 obtain⟨r,a,ks⟩:=x;rw[pfxR];rfl
def PfxP (rs:List Rul)(x:Rd)(gr:Nat)(L:List Bool)(w:World)(e:Ending)(w':World):Prop:=e= .returned (.tuple #[])/\zLq w' gr (setB L (pfxR rs x))/\Gr gr w w'
theorem zIq (ok:Nat->Prop)(A:Option Addr)(cap:Nat)(rs:List Rul)(gr n:Nat)(hn:n<=1000000)(hrn:rs.length<=1000000):∀(m:Nat) (x:Rd) (i j:Nat) (c:Array Value) (L:List Bool) (w0 w:World),zB4 x<=m->OkR rs x i j->zAc w0 A rs->RdAt ok w0 x c->Below w0.heap.size w0 w->w0.heap.size<=gr->zLq w gr L->L.length=n->j<=n->
  Calls Tryz.prog 87 #[.slice A rs.length cap,.agg c,.slice (some ⟨gr,0,none⟩) n n] w (PfxP rs x gr L w)
 |0,x,i,j,c,L,w0,w,hm,_,_,_,_,_,_,_,_=>absurd (zJ5 x) (by omega)
 |m+1,x,i,j,c,L,w0,w,hm,hok,hR,hX,hbw,hgr,hL,hln,hj=>by
  have IH:=zh (zIq ok A cap rs gr n hn hrn m);obtain⟨A2,cap2,rfl,hl,hc,hks⟩:=hX.form;have hb0:=zA0 w (.cells (rdC x.rule x.at_ A2 x.kids.length cap2) 42);have HB:=zh hb0;have K1:=zh (Blk.new w 42 (rdC x.rule x.at_ A2 x.kids.length cap2));have HL0:=zh (keep hb0 hL);have HR0:=zh hR;have HKS:=zh hks;have HBW:=zh hbw;have HGR:=zh hgr;have HGL:=zh (hL.lt);have HM:=zh hm;have HLN:=zh hln;have HAT:=zh (show x.at_=(i:Int)/\i<n from⟨ok_i hok,by have:=zSu hok;omega⟩);have HPE:=zh (yCq rs x);have HKID:=zh (show ∀(t:Nat) y,x.kids[t]?=some y->∃i' j',OkR rs y i' j'/\j'<=n by
   rcases zJ9 hok (by omega) with⟨_,h2,_,_⟩|⟨r,u,_,_,_,_,_,hkid⟩
   ·intro t y h;rw[h2] at h;simp at h
   ·intro t y h;obtain⟨i',j',_,h3,h4,_⟩:=hkid t y h;exact⟨i',j',h3,by omega⟩)
  have HRU:=zh (show(x.rule<0/\¬(0<=x.rule/\kndR rs x.rule=2))\/∃(r:Nat) (u:Rul),x.rule=(r:Int)/\rs[r]?=some u/\kndR rs x.rule=u.kind by
   rcases zJ9 hok (by omega) with⟨h1,_,_,_⟩|⟨r,u,hr,hu,_⟩
   ·exact .inl ⟨by omega,by omega⟩
   ·exact .inr ⟨r,u,hr,hu,by unfold kndR;rw[hr,Int.toNat_natCast,hu]⟩)
  clear hok hR hX hbw hL hln hks hb0 hm hgr;go_enter Tryz.func87,Tryz.ntmps87;go_upto_region 1 with(fail)
  have HG1:=zh ((Gr.refl gr w).below HB.out);have HS1:=zh (show w.heap.size<(w.alloc (.cells (rdC x.rule x.at_ A2 x.kids.length cap2) 42)).heap.size by simp);have HBB:=zh (HBW.out.trans (HB.out.mono HBW.out.size));clear HB;generalize w.alloc (.cells (rdC x.rule x.at_ A2 x.kids.length cap2) 42)=w1 at*;have k0:=K1.out.cell
  go_cut [18] (fun b wc=>b= .bool (decide (0<=x.rule/\kndR rs x.rule=2))/\wc=w1)
  case first=>
   rcases HRU.out with⟨h1,h2⟩|⟨r,u,hr,hu,hk⟩
   ·have HD:=zh (decide_eq_false h2);have hge:¬(0<=x.rule):=by omega
    clear h2;go_wp2;go_meet;exact⟨by rw[HD.out],rfl⟩
   ·obtain⟨hfit,ad,rfl,hadl,c0,c1,c2,c3,c4,c5⟩:=HR0.out.at_ hu;have hrl:r<rs.length:=(List.getElem?_eq_some_iff.1 hu).1;have hcell:=HBB.out.cell (p:=ad.add (r*6)) (by rw[zA2];exact hadl);rw[c0] at hcell;have HD:=zh (show decide (0<=x.rule/\kndR rs x.rule=2)=(u.kind==2) by
     rw[hk,Bool.eq_iff_iff,decide_eq_true_iff,beq_iff_eq];exact⟨fun h=>h.2,fun h=>⟨by omega,h⟩⟩)
    have k00:w1.cell? ⟨w.heap.size,0,none⟩=some (qI (r:Int)):=by rw[k0 0,<-hr];rfl
    clear hfit c0 c1 c2 c3 c4 c5 hk hu k0;go_wp2;go_meet;exact⟨by rw[HD.out],rfl⟩
  obtain⟨h18,rfl⟩:=hcut;subst h18;clear k0;go_upto_if 18 with(fail)
  go_cut [] (fun wd=>Hid (zLq wd gr (setB L (if 0<=x.rule/\kndR rs x.rule=2 then[x.at_] else[])))/\Hid (Gr gr wc wd))
  case first=>
   by_cases hP:0<=x.rule/\kndR rs x.rule=2
   ·rw[decide_eq_true hP];have HPP:=zh hP;clear hP;obtain⟨v0,hv0⟩:∃v0,L[i]?=some v0:=⟨_,gE (by rw[HLN.out];exact HAT.out.2)⟩
    have cq:wc.cell? ⟨gr,i,none⟩=some (.bool v0):=by
     have h1:wc.cell? ⟨gr,i,none⟩=(L.map Value.bool).toArray[i]?:=HL0.out.cell i;rw[h1];simp[hv0]
    have fq:=HL0.out.frozen i;have k01:wc.cell? ⟨w.heap.size,1,none⟩=some (qI (i:Int)):=by rw[K1.out.cell 1,<-HAT.out.1];rfl
    have hq2:(i:Int)<(n:Int):=by have:=HAT.out.2;omega
    clear hv0;go_wp2;go_meet;refine⟨zh ?_,zh ((Gr.refl gr wc).set (p:=⟨gr,i,none⟩) (.inr rfl) _)⟩;have h1:=Blk.set_ HL0.out i (.bool true);rw[zVq] at h1;rw[if_pos HPP.out,HAT.out.1];exact h1
   ·rw[decide_eq_false hP];have HPP:=zh hP;clear hP;go_wp2;go_meet;exact⟨by rw[if_neg HPP.out];exact HL0,zh (Gr.refl _ _)⟩
  obtain⟨HL1,HG2⟩:=hcut;replace K1:=zh (HG2.out.blk K1.out (by have:=HGL.out;omega));replace HG1:=zh (HG1.out.trans HG2.out);have HK1:=zh (show Below w0.heap.size w0 wc from HBW.out.trans (HG1.out.down HBW.out.size HGR.out));go_wp2_with fail
  go_loopw [6] (fun i wr=>∃t:Nat,t<=x.kids.length/\i=qI t/\Hid (zLq wr gr (setB (setB L (if 0<=x.rule/\kndR rs x.rule=2 then[x.at_] else[])) (pfxL rs (x.kids.take t))))/\Hid (Gr gr wc wr)) (fun i _=>x.kids.length -(intOf i).toNat)
  case atStart=>exact⟨0,by omega,rfl,by rw[List.take_zero,pfxL];exact HL1,zh (Gr.refl _ _)⟩
  case round=>
   obtain⟨t,ht,rfl,HLT,HGT⟩:=hrel;have KR:=zh (HGT.out.blk K1.out (by have:=HGL.out;omega));have k2:=KR.out.cell 2;dsimp only[rdC] at k2
   by_cases hlt:t<x.kids.length
   ·obtain⟨y,hy⟩:∃y,x.kids[t]?=some y:=⟨_,gE hlt⟩
    obtain⟨i',j',hoky,hjn⟩:=HKID.out t y hy;have hbk:=HK1.out.trans (HGT.out.down HK1.out.size HGR.out);obtain⟨ad,A3,cap3,rfl,hadl,hX3,hl3,hc3,hk3,d0,d1,d2⟩:=zAp.at_ HKS.out hy;have hadb:∀o,(⟨(ad.add (t*3)).block,o,none⟩:Addr).block<w0.heap.size:=fun o=>by show(ad.add (t*3)).block<_;rw[zA2];exact hadl
    have e0:=(hbk.cell (p:=ad.add (t*3)) (by rw[zA2];exact hadl)).trans d0;have e1:=(hbk.cell (hadb ((ad.add (t*3)).off+1))).trans d1;have e2:=(hbk.cell (hadb ((ad.add (t*3)).off+2))).trans d2;have HX3:=zh hX3;have HPL:=zh (zNn (rs:=rs) hy);have HOKY:=zh (And.intro hoky hjn);have HSY:=zh (show zB4 y<=m by
     have h1:=zC6 hy;have:=HM.out;omega)
    have HBK:=zh hbk;have HL9:=zh (show(setB (setB L (if 0<=x.rule/\kndR rs x.rule=2 then[x.at_] else[])) (pfxL rs (x.kids.take t))).length=n by rw[zRp,zRp];exact HLN.out);clear hbk d0 d1 d2 hX3 hk3 hoky hjn hadb hy;go_wp2_with fail;refine(IH.out y i' j' (rdC y.rule y.at_ A3 y.kids.length cap3) _ w0 wr HSY.out HOKY.out.1 HR0.out HX3.out HBK.out HGR.out HLT.out HL9.out HOKY.out.2).mono ?_;rintro e w7 ⟨rfl,hl7,hg7⟩;have HL7:=zh hl7;replace HGT:=zh (HGT.out.trans hg7);clear hl7 hg7 e0 e1 e2 k2;rw[<-zRq,<-HPL.out] at HL7;go_wp2;go_roundw
    case rel=>exact⟨t+1,by omega,by go_num,HL7,HGT⟩
    case measure=>simp[intOf];omega
   ·obtain rfl:t=x.kids.length:=by omega
    rw[List.take_length,<-zRq,<-HPE.out] at HLT;go_wp2;exact bodyPost_ret (v:=.tuple #[]) (by simp[results,Tryz.results87,go_sem]) rfl ⟨rfl,HLT.out,HG1.out.trans HGT.out⟩
end Go.Proofs.YtapgncbegadbnaaGreatDoor.El
