/- assign: the rule of each operator of a reading. -/
import Derived.Test.YtchllommcolijaaGreatDoorHbcc69e96
import Derived.StillTailTactics
namespace Go.Proofs.YtchllommcolijaaGreatDoor.El
open At Ch Sp Sy Go.RowKit
def zH5 (L:List Int)(ws:List (Int×Int)):List Int:=ws.foldl (fun l p=>l.set p.1.toNat p.2) L
theorem zN6 (L:List Int)(a b:List (Int×Int)):zH5 L (a++b)=zH5 (zH5 L a) b:=by
 unfold zH5;rw[List.foldl_append]
theorem zJg (L:List Int):∀ws:List (Int×Int),(zH5 L ws).length=L.length:=by
 intro ws
 induction ws generalizing L with
 |nil=>rfl
 |cons p ws ih=>
  show(zH5 (L.set p.1.toNat p.2) ws).length=_;rw[ih,List.length_set]
theorem zMb {rs:List Rul}:∀{ks:List Rd} {es:List Int} {t:Nat} {y:Rd} {e:Int},ks[t]?=some y→es[t]?=some e→asgL rs (ks.take (t+1)) (es.take (t+1))=asgL rs (ks.take t) (es.take t)++asgR rs y e
 |[],_,_,_,_,h,_=>by simp at h
 |_::_,[],_,_,_,_,h=>by simp at h
 |k::ks,e0::es,0,y,e,h,h'=>by
  simp only[List.getElem?_cons_zero,Option.some.injEq] at h h';subst h h';simp[asgL]
 |k::ks,e0::es,t+1,y,e,h,h'=>by
  simp only[List.getElem?_cons_succ] at h h';rw[List.take_succ_cons,List.take_succ_cons,List.take_succ_cons,List.take_succ_cons,asgL,asgL,zMb h h',List.append_assoc]
theorem zI1 {rs:List Rul}{x:Rd}{i j:Nat}(h:OkR rs x i j)(hj:j≤1000000):(x.rule= -1∧x.kids=[]∧x.at_=i∧j=i+1)∨∃(n:Nat) (u:Rul),x.rule=(n:Int)∧rs[n]?=some u∧((u.kind≠2∧u.kind≠3)→∃a b ks,x.kids=a::b::ks∧1≤b.at_∧b.at_≤1000000)∧(opI rs x j= -1∨∃q:Nat,opI rs x j=q∧q<j)∧(zAw rs x j).length=x.kids.length∧(∀(t:Nat) (y:Rd),x.kids[t]?=some y→∃i' j':Nat,(zAw rs x j)[t]?=some (j':Int)∧OkR rs y i' j'∧j'≤j∧1≤j'):=by
 cases h with
 |leaf i=>exact .inl ⟨rfl,rfl,rfl,rfl⟩
 |inf n u i k j y z hu hk h1 h2 hz a b=>
  have ho:opI rs (.mk n i [y,z]) (j:Int)=(k:Int):=by
   unfold opI zGn;rw[show Rd.rule (.mk n i [y,z])=(n:Int) from rfl,zBg hu,if_pos hk];show z.at_ -1=_;rw[hz];omega
  have he:zAw rs (.mk n i [y,z]) (j:Int)=[(k:Int),(j:Int)]:=by
   unfold zAw zGn;rw[show Rd.rule (.mk n i [y,z])=(n:Int) from rfl,zBg hu,if_pos hk];show[z.at_ -1,_]=_;rw[hz,show(((k+1:Nat):Int) -1)=(k:Int) by omega]
  refine .inr ⟨n,u,rfl,hu,fun _=>⟨y,z,[],rfl,by omega,by omega⟩,.inr ⟨k,ho,by omega⟩,by rw[he];rfl,fun t x ht=>?_⟩;rw[he];change[y,z][t]?=some x at ht
  match t,ht with
  |0,ht=>
        obtain rfl:y=x:=by simpa using ht
        exact⟨i,k,rfl,a,by omega,by omega⟩
  |1,ht=>
        obtain rfl:z=x:=by simpa using ht
        exact⟨k+1,j,rfl,b,by omega,by omega⟩
  |t+2,ht=>simp at ht
 |pre n u i j y hu hk h1 a=>
  have h1':¬u.kind=1:=by omega
  have ho:opI rs (.mk n i [y]) (j:Int)=(i:Int):=by
   unfold opI;rw[show Rd.rule (.mk n i [y])=(n:Int) from rfl,zBg hu,if_neg h1',if_pos hk];rfl
  have he:zAw rs (.mk n i [y]) (j:Int)=[(j:Int)]:=by
   unfold zAw;rw[show Rd.rule (.mk n i [y])=(n:Int) from rfl,zBg hu,if_neg h1',if_pos hk]
  refine .inr ⟨n,u,rfl,hu,fun h=>absurd hk h.1,.inr ⟨i,ho,by omega⟩,by rw[he];rfl,fun t x ht=>?_⟩;rw[he];change[y][t]?=some x at ht
  match t,ht with
  |0,ht=>
        obtain rfl:y=x:=by simpa using ht
        exact⟨i+1,j,rfl,a,by omega,by omega⟩
  |t+1,ht=>simp at ht
 |pos n u i j y hu hk h1 a=>
  have h1':¬u.kind=1:=by omega
  have h2':¬u.kind=2:=by omega
  have hj1:(j:Int) -1=((j -1:Nat):Int):=by omega
  have ho:opI rs (.mk n i [y]) (j:Int)=((j -1:Nat):Int):=by
   unfold opI;rw[show Rd.rule (.mk n i [y])=(n:Int) from rfl,zBg hu,if_neg h1',if_neg h2',if_pos hk,hj1]
  have he:zAw rs (.mk n i [y]) (j:Int)=[((j -1:Nat):Int)]:=by
   unfold zAw;rw[show Rd.rule (.mk n i [y])=(n:Int) from rfl,zBg hu,if_neg h1',if_neg h2',if_pos hk,hj1]
  refine .inr ⟨n,u,rfl,hu,fun h=>absurd hk h.2,.inr ⟨j -1,ho,by omega⟩,by rw[he];rfl,fun t x ht=>?_⟩;rw[he];change[y][t]?=some x at ht
  match t,ht with
  |0,ht=>
        obtain rfl:y=x:=by simpa using ht
        exact⟨i,j -1,rfl,a,by omega,by omega⟩
  |t+1,ht=>simp at ht
 |jux n u i k j y z hu hk h1 h2 hz a b=>
  have h1':¬u.kind=1:=by omega
  have h2':¬u.kind=2:=by omega
  have h3':¬u.kind=3:=by omega
  have ho:opI rs (.mk n i [y,z]) (j:Int)= -1:=by
   unfold opI;rw[show Rd.rule (.mk n i [y,z])=(n:Int) from rfl,zBg hu,if_neg h1',if_neg h2',if_neg h3']
  have he:zAw rs (.mk n i [y,z]) (j:Int)=[(k:Int),(j:Int)]:=by
   unfold zAw zGn;rw[show Rd.rule (.mk n i [y,z])=(n:Int) from rfl,zBg hu,if_neg h1',if_neg h2',if_neg h3'];show[z.at_,_]=_;rw[hz]
  refine .inr ⟨n,u,rfl,hu,fun _=>⟨y,z,[],rfl,by omega,by omega⟩,.inl ho,by rw[he];rfl,fun t x ht=>?_⟩;rw[he];change[y,z][t]?=some x at ht
  match t,ht with
  |0,ht=>
        obtain rfl:y=x:=by simpa using ht
        exact⟨i,k,rfl,a,by omega,by omega⟩
  |1,ht=>
        obtain rfl:z=x:=by simpa using ht
        exact⟨k,j,rfl,b,by omega,by omega⟩
  |t+2,ht=>simp at ht
theorem zI3 (x:Rd):1≤zC9 x:=by obtain⟨r,a,ks⟩:=x;rw[zC9];omega
theorem zCe {x y:Rd}{t:Nat}(h:x.kids[t]?=some y):zC9 y+1≤zC9 x:=by
 obtain⟨r,a,ks⟩:=x;rw[zC9];change ks[t]?=some y at h;have key:∀(ks:List Rd) (t:Nat),ks[t]?=some y→zC9 y≤zRo ks:=by
  intro ks
  induction ks with
  |nil=>intro t h;simp at h
  |cons k ks ih=>
   intro t h;rw[zRo];cases t with
   |zero=>
        obtain rfl:k=y:=by simpa using h
        omega
   |succ t=>have:=ih t (by simpa using h);omega
 have:=key ks t h;omega
theorem zPk {w:World}{B:Nat}{v:Value}{p:List Int}(h:zEl w B v p)(hp:0<p.length):∃ge cap cur,v= .slice (some ⟨ge,0,none⟩) p.length cap∧B≤ge∧Blk w ge 3 cur∧p.length≤cap∧cap≤9223372036854775807∧∀(t:Nat) e,p[t]?=some e→cur[t]?=some (.int .i64 e):=by
 obtain⟨h1,h2⟩:=h;rcases h2 with⟨_,h0⟩|⟨ge,cap,cur,rfl,hg,hb,hn,hc,hs,ht⟩
 ·omega
 ·refine⟨ge,cap,cur,rfl,hg,hb,hn,by unfold maxLen at hc;omega,fun t e he=>?_⟩;have h3:(ints p)[t]?=some (.int .i64 e):=by unfold ints;rw[List.getElem?_map,he];rfl
  rw[←ht,List.getElem?_take] at h3
  split at h3
  ·rw[←Array.getElem?_toList];exact h3
  ·cases h3
theorem ints_set (L:List Int)(q:Nat)(r:Int):(ints L).toArray.setIfInBounds q (.int .i64 r)=(ints (L.set q r)).toArray:=by
 unfold ints;rw[List.setIfInBounds_toArray,List.map_set]
abbrev zEu (w:World)(gr:Nat)(L:List Int):Prop:=Blk w gr 3 (ints L).toArray
def AsgP (rs:List Rul)(x:Rd)(j gr:Nat)(L:List Int)(w:World)(e:Ending)(w':World):Prop:=e= .returned (.tuple #[])∧zEu w' gr (zH5 L (asgR rs x j))∧Gr gr w w'
set_option maxRecDepth 100000 in
set_option maxHeartbeats 4000000 in
theorem zKe (ok:Nat→Prop)(g:Nat)(A:Option Addr)(cap:Nat)(rs:List Rul)(gr n:Nat)(hn:n≤1000000):∀(m:Nat) (x:Rd) (i j:Nat) (c:Array Value) (L:List Int) (w0 w:World),zC9 x≤m→OkR rs x i j→zG4 w0 g A cap rs→RdAt ok w0 x c→Below w0.heap.size w0 w→w0.heap.size≤gr→zEu w gr L→L.length=n→j≤n→
  Calls Tryz.prog 28 #[.pointer (some ⟨g,0,none⟩),.agg c,.int .i64 (j:Int),.slice (some ⟨gr,0,none⟩) n n] w (AsgP rs x j gr L w)
 |0,x,i,j,c,L,w0,w,hm,_,_,_,_,_,_,_,_=>absurd (zI3 x) (by omega)
 |m+1,x,i,j,c,L,w0,w,hm,hok,hR,hX,hbw,hgr,hL,hln,hj=>by
  have IH:=zh (zKe ok g A cap rs gr n hn m);obtain⟨A2,cap2,rfl,hl,hc,hks⟩:=hX.form;have hR1:=hR.keep hbw;have hb0:=zA1 w (.cells (rdC x.rule x.at_ A2 x.kids.length cap2) 83);have HB:=zh hb0;have K1:=zh (Blk.new w 83 (rdC x.rule x.at_ A2 x.kids.length cap2));have HL0:=zh (keep hb0 hL);have HX:=zh (hX.keep (hbw.trans (hb0.mono hbw.size)));have HRR:=zh (hR1.keep hb0);have HR0:=zh hR;have HKS:=zh hks;have HBW:=zh hbw;have HGR:=zh hgr;have HGL:=zh (hL.lt);have HM:=zh hm;have HLN:=zh hln;rcases zI1 hok (by omega) with⟨h1,h2,h3,h4⟩|⟨r,u,hr,hu,hk2,hop,hel,hkid⟩
  ·have HQ:=zh (show asgR rs x j=[] by
    cases x with
    |mk r a ks=>
     rw[zJ6,if_pos (show r<0 by rw[show r= -1 from h1];omega)])
   have hneg:x.rule<0:=by omega
   clear h1 h2 h3 h4 hok hR hX hbw hL hln hks hR1 hb0 hm hgr IH;go_enter Tryz.func28,Tryz.ntmps28;go_wp2_with fail;exact bodyPost_ret (v:=.tuple #[]) (by simp[results,Tryz.results28,go_sem]) rfl ⟨rfl,by rw[HQ.out];exact HL0.out,(Gr.refl gr w).below HB.out⟩
  ·have HOP:=zh hop;have HEL:=zh hel;have HKID:=zh hkid;have HR9:=zh hr;have HU:=zh hu;have HK2:=zh hk2;have hneg:0≤x.rule:=by omega
   have HJ1:=zh (show 1≤(j:Int)∧(j:Int)≤1000000 from by have:=zQj hok;omega);have HAQ:=zh (show asgR rs x j=(if 0≤opI rs x j then[(opI rs x j,x.rule)] else[])++asgL rs x.kids (zAw rs x j) by
    cases x with
    |mk r a ks=>
     rw[zJ6,if_neg (show ¬r<0 by have:r=_:=hr;omega)];rfl)
   clear hok hR hX hbw hL hln hks hR1 hb0 hm hgr hr hu hk2 hop hel hkid;go_enter Tryz.func28,Tryz.ntmps28;go_upto_region 2 with(fail)
   have HG1:=zh ((Gr.refl gr w).below HB.out);have HS1:=zh (show w.heap.size<(w.alloc (.cells (rdC x.rule x.at_ A2 x.kids.length cap2) 83)).heap.size by simp);clear HB;generalize w.alloc (.cells (rdC x.rule x.at_ A2 x.kids.length cap2) 83)=w1 at*;have k0:=fun i=>K1.out.cell i
   go_wp2_with fail;refine(zUk ok g A cap rs x _ (j:Int) r u w1 HRR.out HX.out HR9.out HU.out HK2.out HJ1.out.1 HJ1.out.2).mono ?_;rintro e w2 ⟨v,rfl,ho,hb⟩;have HE:=zh ho;replace HL0:=kp hb HL0;replace HG1:=zh (HG1.out.below hb);have HW12:=zh hb.size;replace K1:=kp hb K1;clear ho hb k0;generalize opI rs x (j:Int)=oi at*;go_upto_if 23 with(fail)
   go_cut [] (fun wc=>Hid (zEu wc gr (zH5 L (if 0≤oi then[(oi,x.rule)] else[])))∧Hid (Gr gr w2 wc))
   case first=>
    rcases HOP.out with rfl|⟨q,rfl,hq⟩
    ·clear HOP;go_wp2_with fail;go_meet;exact⟨HL0,zh (Gr.refl _ _)⟩
    ·have HQN:=zh (show q<n from by omega);have hq1:(0:Int)≤(q:Int):=by omega
     have hq2:(q:Int)<(n:Int):=by omega
     obtain⟨v0,hv0⟩:∃v0,L[q]?=some v0:=⟨_,gE (by rw[HLN.out];omega)⟩
     have cq:w2.cell? ⟨gr,q,none⟩=some (.int .i64 v0):=by
      have h1:w2.cell? ⟨gr,q,none⟩=(ints L).toArray[q]?:=HL0.out.cell q;rw[h1];unfold ints;simp[hv0]
     have fq:=HL0.out.frozen q;have k0:=K1.out.cell 0;clear HOP hv0 hq;go_wp2_with fail;go_meet;refine⟨zh ?_,zh ((Gr.refl gr w2).set (p:=⟨gr,q,none⟩) (.inr rfl) _)⟩;have h1:=Blk.set_ HL0.out q (.int .i64 x.rule);rw[ints_set] at h1;rw[if_pos hq1];exact h1
   case rest=>
    obtain⟨HL1,HG2⟩:=hcut;have HOP2:=zh HOP.out;clear HOP;replace K1:=zh (HG2.out.blk K1.out (by have:=HGL.out;omega));replace HG1:=zh (HG1.out.trans HG2.out)
    by_cases h0:x.kids.length=0
    ·have hk0:x.kids=[]:=List.length_eq_zero_iff.1 h0;have HAQ2:=zh (show asgR rs x j=if 0≤oi then[(oi,x.rule)] else[] by rw[HAQ.out,hk0];simp[asgL]);have hk2:(x.kids.length:Int)=0:=by omega
     have k2:=K1.out.cell 2;dsimp only[rdC] at k2;replace h0:=zh h0;replace hk2:=zh hk2;clear hk0;go_wp2_with fail
     go_loopw [32] (fun i wr=>i= .int .i64 0∧wr=wc) (fun i _=>0)
     case atStart=>exact⟨rfl,rfl⟩
     case round=>
      obtain⟨rfl,rfl⟩:=hrel;have hpos:¬((0:Int)<(x.kids.length:Int)):=by have:=hk2.out;omega
      go_wp2_with fail;exact bodyPost_ret (v:=.tuple #[]) (by simp[results,Tryz.results28,go_sem]) rfl ⟨rfl,by rw[HAQ2.out];exact HL1.out,HG1.out⟩
    ·obtain⟨ge,capE,cur,rfl,hge,hbe,hne,hce,hev⟩:=zPk HE.out (by rw[HEL.out];omega);have HGE:=zh (show ge≠gr by have:=HGL.out;have:=HS1.out;omega);have HBE:=zh (HG2.out.blk hbe HGE.out);have HEV:=zh hev;have k2:=K1.out.cell 2;dsimp only[rdC] at k2;replace h0:=zh h0;clear hbe hev hge;rw[HEL.out] at hne⊢;have HK1:=zh (show Below w0.heap.size w0 wc from HBW.out.trans (HG1.out.down HBW.out.size HGR.out));go_wp2_with fail
     go_loopw [32] (fun i wr=>∃t:Nat,t≤x.kids.length∧i= .int .i64 t∧Hid (zEu wr gr (zH5 (zH5 L (if 0≤oi then[(oi,x.rule)] else[])) (asgL rs (x.kids.take t) ((zAw rs x j).take t))))∧Hid (Gr gr wc wr)) (fun i _=>x.kids.length -(intOf i).toNat)
     case atStart=>exact⟨0,by omega,rfl,by rw[List.take_zero,List.take_zero];exact HL1,zh (Gr.refl _ _)⟩
     case round=>
      obtain⟨t,ht,rfl,HLT,HGT⟩:=hrel
      by_cases hlt:t<x.kids.length
      ·obtain⟨y,hy⟩:∃y,x.kids[t]?=some y:=⟨_,gE hlt⟩
       obtain⟨i',j',he,hoky,hjj,hj1⟩:=HKID.out t y hy;have hbk:=HK1.out.trans (HGT.out.down HK1.out.size HGR.out);obtain⟨ad,A3,cap3,rfl,hadl,hX3,hl3,hc3,hk3,d0,d1,d2⟩:=zAp.at_ HKS.out hy;have hadb:∀o,(⟨(ad.add (t*3)).block,o,none⟩:Addr).block<w0.heap.size:=fun o=>by show(ad.add (t*3)).block<_;rw[zA3];exact hadl
       have e0:=(hbk.cell (p:=ad.add (t*3)) (by rw[zA3];exact hadl)).trans d0;have e1:=(hbk.cell (hadb ((ad.add (t*3)).off+1))).trans d1;have e2:=(hbk.cell (hadb ((ad.add (t*3)).off+2))).trans d2;have HX3:=zh hX3;have HASL:=zh (zMb (rs:=rs) hy he);have HCE:=zh (HEV.out t _ he);have HOKY:=zh hoky;have HJY:=zh (And.intro hjj hj1);have HSY:=zh (show zC9 y≤m by
        have h1:=zCe hy;have:=HM.out;omega)
       have HBE2:=zh (HGT.out.blk HBE.out HGE.out);have HGRW:=zh (show gr<wr.heap.size from HLT.out.lt);clear hbk d0 d1 d2 hX3 hk3 hoky hjj hj1 he hadb hy;go_upto_region 8 with(fail)
       have hba:=zA1 wr (.cells (rdC y.rule y.at_ A3 y.kids.length cap3) 83);have K3:=zh (Blk.new wr 83 (rdC y.rule y.at_ A3 y.kids.length cap3));replace HGT:=zh (HGT.out.below hba);replace HLT:=kp hba HLT;replace HBE2:=kp hba HBE2;clear hba e0 e1 e2;generalize wr.alloc (.cells (rdC y.rule y.at_ A3 y.kids.length cap3) 83)=w5 at*;have k0:=K3.out.cell 0;have k1:=K3.out.cell 1;have k2:=K3.out.cell 2;have ke:=(HBE2.out.cell t).trans HCE.out;have he1:(t:Int)<((x.kids.length:Nat):Int):=by omega
       go_still_tail 7,(by kernel_rfl)
       change wpList _ _ _ _ _ w5.drew;replace HGT:=zh (HGT.out.below (zA2 (Below.refl _ _)));replace HLT:=zh (show zEu w5.drew gr _ from HLT.out);generalize w5.drew=w6 at*;clear k0 k1 k2 ke K3 HBE2;have HL9:=zh (show(zH5 (zH5 L (if 0≤oi then[(oi,x.rule)] else[])) (asgL rs (x.kids.take t) ((zAw rs x j).take t))).length=n by rw[zJg,zJg];exact HLN.out);go_wp2_with fail;refine(IH.out y i' j' (rdC y.rule y.at_ A3 y.kids.length cap3) _ w0 w6 HSY.out HOKY.out HR0.out HX3.out (HK1.out.trans (HGT.out.down HK1.out.size HGR.out)) HGR.out HLT.out HL9.out (by have:=HJY.out.1;omega)).mono ?_;rintro e w7 ⟨rfl,hl7,hg7⟩;have HL7:=zh hl7;replace HGT:=zh (HGT.out.trans hg7);clear hl7 hg7;rw[←zN6,←HASL.out] at HL7;go_wp2_with fail;go_roundw
       case rel=>exact⟨t+1,by omega,by go_num,HL7,HGT⟩
       case measure=>simp[intOf];omega
      ·obtain rfl:t=x.kids.length:=by omega
       rw[List.take_length,List.take_of_length_le (by rw[HEL.out];exact Nat.le_refl _),←zN6,←HAQ.out] at HLT;go_wp2_with fail;exact bodyPost_ret (v:=.tuple #[]) (by simp[results,Tryz.results28,go_sem]) rfl ⟨rfl,HLT.out,HG1.out.trans HGT.out⟩
end Go.Proofs.YtchllommcolijaaGreatDoor.El
