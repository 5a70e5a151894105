/- assign: the rule of each operator of a reading. -/
import Derived.Test.YtapgncbegadbnaaGreatDoorH302f5ee1
import Derived.StillTailTactics
set_option maxRecDepth 100000
set_option maxHeartbeats 4000000
namespace Go.Proofs.YtapgncbegadbnaaGreatDoor
namespace El
open At Ch Sp Sy Go.RowKit
variable{x:Rd}{w:World}{a:Tre}{ts:List Tre}
def zI0 (L:List Int)(ws:List (Int×Int)):List Int:=ws.foldl (fun l p=>l.set p.1.toNat p.2) L
theorem zOy (L:List Int)(a b:List (Int×Int)):zI0 L (a++b)=zI0 (zI0 L a) b:=by
 unfold zI0;rw[List.foldl_append]
theorem zKl (L:List Int):∀ws:List (Int×Int),(zI0 L ws).length=L.length:=by
 intro ws
 induction ws generalizing L with
 |nil=>rfl
 |cons p ws ih=>
  show(zI0 (L.set p.1.toNat p.2) ws).length=_;rw[ih,List.length_set]
theorem zNg {rs:List Rul}:∀{ks:List Rd} {es:List Int} {t:Nat} {y:Rd} {e:Int},ks[t]?=some y->es[t]?=some e->asgL rs (ks.take (t+1)) (es.take (t+1))=asgL rs (ks.take t) (es.take t)++asgR rs y e
 |[],_,_,_,_,h,_=>by simp at h
 |_::_,[],_,_,_,_,h=>by simp at h
 |k::ks,e0::es,0,y,e,h,h'=>by
  simp only[List.getElem?_cons_zero,Option.some.injEq] at h h';subst h h';simp[asgL]
 |k::ks,e0::es,t+1,y,e,h,h'=>by
  simp only[List.getElem?_cons_succ] at h h';rw[List.take_succ_cons,List.take_succ_cons,List.take_succ_cons,List.take_succ_cons,asgL,asgL,zNg h h',List.append_assoc]
theorem zJ9 {rs:List Rul}{i j:Nat}(h:OkR rs x i j)(hj:j<=1000000):(x.rule= -1/\x.kids=[]/\x.at_=i/\j=i+1)\/∃(n:Nat) (u:Rul),x.rule=(n:Int)/\rs[n]?=some u/\((u.kind≠2/\u.kind≠3)->∃a b ks,x.kids=a::b::ks/\1<=b.at_/\b.at_<=1000000)/\(opI rs x j= -1\/∃q:Nat,opI rs x j=q/\q<j)/\(zAy rs x j).length=x.kids.length/\(∀(t:Nat) (y:Rd),x.kids[t]?=some y->∃i' j':Nat,(zAy rs x j)[t]?=some (j':Int)/\OkR rs y i' j'/\j'<=j/\1<=j'):=by
 cases h with
 |leaf i=>exact .inl ⟨rfl,rfl,rfl,rfl⟩
 |inf n u i k j y z hu hk h1 h2 hz a b=>
  have ho:opI rs (.mk n i [y,z]) (j:Int)=(k:Int):=by
   unfold opI zHi;rw[show Rd.rule (.mk n i [y,z])=(n:Int) from rfl,zBl hu,if_pos hk];show z.at_ -1=_;rw[hz];omega
  have he:zAy rs (.mk n i [y,z]) (j:Int)=[(k:Int),(j:Int)]:=by
   unfold zAy zHi;rw[show Rd.rule (.mk n i [y,z])=(n:Int) from rfl,zBl hu,if_pos hk];show[z.at_ -1,_]=_;rw[hz,show(((k+1:Nat):Int) -1)=(k:Int) by omega]
  refine .inr ⟨n,u,rfl,hu,fun _=>⟨y,z,[],rfl,by omega,by omega⟩,.inr ⟨k,ho,by omega⟩,by rw[he];rfl,fun t x ht=>?_⟩;rw[he];change[y,z][t]?=some x at ht
  match t,ht with
  |0,ht=>
        obtain rfl:y=x:=by simpa using ht
        exact⟨i,k,rfl,a,by omega,by omega⟩
  |1,ht=>
        obtain rfl:z=x:=by simpa using ht
        exact⟨k+1,j,rfl,b,by omega,by omega⟩
  |t+2,ht=>simp at ht
 |pre n u i j y hu hk h1 a=>
  have h1':¬u.kind=1:=by omega
  have ho:opI rs (.mk n i [y]) (j:Int)=(i:Int):=by
   unfold opI;rw[show Rd.rule (.mk n i [y])=(n:Int) from rfl,zBl hu,if_neg h1',if_pos hk];rfl
  have he:zAy rs (.mk n i [y]) (j:Int)=[(j:Int)]:=by
   unfold zAy;rw[show Rd.rule (.mk n i [y])=(n:Int) from rfl,zBl hu,if_neg h1',if_pos hk]
  refine .inr ⟨n,u,rfl,hu,fun h=>absurd hk h.1,.inr ⟨i,ho,by omega⟩,by rw[he];rfl,fun t x ht=>?_⟩;rw[he];change[y][t]?=some x at ht
  match t,ht with
  |0,ht=>
        obtain rfl:y=x:=by simpa using ht
        exact⟨i+1,j,rfl,a,by omega,by omega⟩
  |t+1,ht=>simp at ht
 |pos n u i j y hu hk h1 a=>
  have h1':¬u.kind=1:=by omega
  have h2':¬u.kind=2:=by omega
  have hj1:(j:Int) -1=((j -1:Nat):Int):=by omega
  have ho:opI rs (.mk n i [y]) (j:Int)=((j -1:Nat):Int):=by
   unfold opI;rw[show Rd.rule (.mk n i [y])=(n:Int) from rfl,zBl hu,if_neg h1',if_neg h2',if_pos hk,hj1]
  have he:zAy rs (.mk n i [y]) (j:Int)=[((j -1:Nat):Int)]:=by
   unfold zAy;rw[show Rd.rule (.mk n i [y])=(n:Int) from rfl,zBl hu,if_neg h1',if_neg h2',if_pos hk,hj1]
  refine .inr ⟨n,u,rfl,hu,fun h=>absurd hk h.2,.inr ⟨j -1,ho,by omega⟩,by rw[he];rfl,fun t x ht=>?_⟩;rw[he];change[y][t]?=some x at ht
  match t,ht with
  |0,ht=>
        obtain rfl:y=x:=by simpa using ht
        exact⟨i,j -1,rfl,a,by omega,by omega⟩
  |t+1,ht=>simp at ht
 |jux n u i k j y z hu hk h1 h2 hz a b=>
  have h1':¬u.kind=1:=by omega
  have h2':¬u.kind=2:=by omega
  have h3':¬u.kind=3:=by omega
  have ho:opI rs (.mk n i [y,z]) (j:Int)= -1:=by
   unfold opI;rw[show Rd.rule (.mk n i [y,z])=(n:Int) from rfl,zBl hu,if_neg h1',if_neg h2',if_neg h3']
  have he:zAy rs (.mk n i [y,z]) (j:Int)=[(k:Int),(j:Int)]:=by
   unfold zAy zHi;rw[show Rd.rule (.mk n i [y,z])=(n:Int) from rfl,zBl hu,if_neg h1',if_neg h2',if_neg h3'];show[z.at_,_]=_;rw[hz]
  refine .inr ⟨n,u,rfl,hu,fun _=>⟨y,z,[],rfl,by omega,by omega⟩,.inl ho,by rw[he];rfl,fun t x ht=>?_⟩;rw[he];change[y,z][t]?=some x at ht
  match t,ht with
  |0,ht=>
        obtain rfl:y=x:=by simpa using ht
        exact⟨i,k,rfl,a,by omega,by omega⟩
  |1,ht=>
        obtain rfl:z=x:=by simpa using ht
        exact⟨k,j,rfl,b,by omega,by omega⟩
  |t+2,ht=>simp at ht
theorem zJ5 (x:Rd):1<=zB4 x:=by obtain⟨r,a,ks⟩:=x;rw[zB4];omega
theorem zC6 {y:Rd}{t:Nat}(h:x.kids[t]?=some y):zB4 y+1<=zB4 x:=by
 obtain⟨r,a,ks⟩:=x;rw[zB4];change ks[t]?=some y at h;have key:∀(ks:List Rd) (t:Nat),ks[t]?=some y->zB4 y<=zIy ks:=by
  intro ks
  induction ks with
  |nil=>intro t h;simp at h
  |cons k ks ih=>
   intro t h;rw[zIy];cases t with
   |zero=>
        obtain rfl:k=y:=by simpa using h
        omega
   |succ t=>have:=ih t (by simpa using h);omega
 have:=key ks t h;omega
theorem zRx {B:Nat}{v:Value}{p:List Int}(h:zF7 w B v p)(hp:0<p.length):∃ge cap cur,v= .slice (some ⟨ge,0,none⟩) p.length cap/\B<=ge/\Blk w ge 3 cur/\p.length<=cap/\cap<=9223372036854775807/\∀(t:Nat) e,p[t]?=some e->cur[t]?=some (qI e):=by
 obtain⟨h1,h2⟩:=h;rcases h2 with⟨_,h0⟩|⟨ge,cap,cur,rfl,hg,hb,hn,hc,hs,ht⟩
 ·omega
 ·refine⟨ge,cap,cur,rfl,hg,hb,hn,by unfold maxLen at hc;omega,fun t e he=>?_⟩;have h3:(ints p)[t]?=some (qI e):=by unfold ints;rw[List.getElem?_map,he];rfl
  rw[<-ht,List.getElem?_take] at h3
  split at h3
  ·rw[<-Array.getElem?_toList];exact h3
  ·cases h3
theorem ints_set (L:List Int)(q:Nat)(r:Int):(ints L).toArray.setIfInBounds q (qI r)=(ints (L.set q r)).toArray:=by
 unfold ints;rw[List.setIfInBounds_toArray,List.map_set]
abbrev zFd (w:World)(gr:Nat)(L:List Int):Prop:=Blk w gr 3 (ints L).toArray
def AsgP (rs:List Rul)(x:Rd)(j gr:Nat)(L:List Int)(w:World)(e:Ending)(w':World):Prop:=e= .returned (.tuple #[])/\zFd w' gr (zI0 L (asgR rs x j))/\Gr gr w w'
theorem zLm (ok:Nat->Prop)(g:Nat)(A:Option Addr)(cap:Nat)(rs:List Rul)(gr n:Nat)(hn:n<=1000000):∀(m:Nat) (x:Rd) (i j:Nat) (c:Array Value) (L:List Int) (w0 w:World),zB4 x<=m->OkR rs x i j->zGv w0 g A cap rs->RdAt ok w0 x c->Below w0.heap.size w0 w->w0.heap.size<=gr->zFd w gr L->L.length=n->j<=n->
  Calls Tryz.prog 40 #[qP g,.agg c,qI (j:Int),.slice (some ⟨gr,0,none⟩) n n] w (AsgP rs x j gr L w)
 |0,x,i,j,c,L,w0,w,hm,_,_,_,_,_,_,_,_=>absurd (zJ5 x) (by omega)
 |m+1,x,i,j,c,L,w0,w,hm,hok,hR,hX,hbw,hgr,hL,hln,hj=>by
  have IH:=zh (zLm ok g A cap rs gr n hn m);obtain⟨A2,cap2,rfl,hl,hc,hks⟩:=hX.form;have hR1:=hR.keep hbw;have hb0:=zA0 w (.cells (rdC x.rule x.at_ A2 x.kids.length cap2) 42);have HB:=zh hb0;have K1:=zh (Blk.new w 42 (rdC x.rule x.at_ A2 x.kids.length cap2));have HL0:=zh (keep hb0 hL);have HX:=zh (hX.keep (hbw.trans (hb0.mono hbw.size)));have HRR:=zh (hR1.keep hb0);have HR0:=zh hR;have HKS:=zh hks;have HBW:=zh hbw;have HGR:=zh hgr;have HGL:=zh (hL.lt);have HM:=zh hm;have HLN:=zh hln;rcases zJ9 hok (by omega) with⟨h1,h2,h3,h4⟩|⟨r,u,hr,hu,hk2,hop,hel,hkid⟩
  ·have HQ:=zh (show asgR rs x j=[] by
    cases x with
    |mk r a ks=>
     rw[zK7,if_pos (show r<0 by rw[show r= -1 from h1];omega)])
   have hneg:x.rule<0:=by omega
   clear h1 h2 h3 h4 hok hR hX hbw hL hln hks hR1 hb0 hm hgr IH;go_enter Tryz.func40,Tryz.ntmps40;go_wp2;exact bodyPost_ret (v:=.tuple #[]) (by simp[results,Tryz.results40,go_sem]) rfl ⟨rfl,by rw[HQ.out];exact HL0.out,(Gr.refl gr w).below HB.out⟩
  ·have HOP:=zh hop;have HEL:=zh hel;have HKID:=zh hkid;have HR9:=zh hr;have HU:=zh hu;have HK2:=zh hk2;have hneg:0<=x.rule:=by omega
   have HJ1:=zh (show 1<=(j:Int)/\(j:Int)<=1000000 from by have:=zSu hok;omega);have HAQ:=zh (show asgR rs x j=(if 0<=opI rs x j then[(opI rs x j,x.rule)] else[])++asgL rs x.kids (zAy rs x j) by
    cases x with
    |mk r a ks=>
     rw[zK7,if_neg (show ¬r<0 by have:r=_:=hr;omega)];rfl)
   clear hok hR hX hbw hL hln hks hR1 hb0 hm hgr hr hu hk2 hop hel hkid;go_enter Tryz.func40,Tryz.ntmps40;go_upto_region 2 with(fail)
   have HG1:=zh ((Gr.refl gr w).below HB.out);have HS1:=zh (show w.heap.size<(w.alloc (.cells (rdC x.rule x.at_ A2 x.kids.length cap2) 42)).heap.size by simp);clear HB;generalize w.alloc (.cells (rdC x.rule x.at_ A2 x.kids.length cap2) 42)=w1 at*;have k0:=K1.out.cell;go_wp2_with fail;refine(zX7 ok g A cap rs x _ (j:Int) r u w1 HRR.out HX.out HR9.out HU.out HK2.out HJ1.out.1 HJ1.out.2).mono ?_;rintro e w2 ⟨v,rfl,ho,hb⟩;have HE:=zh ho;replace HL0:=kp hb HL0;replace HG1:=zh (HG1.out.below hb);have HW12:=zh hb.size;replace K1:=kp hb K1;clear ho hb k0;generalize opI rs x (j:Int)=oi at*;go_upto_if 23 with(fail)
   go_cut [] (fun wc=>Hid (zFd wc gr (zI0 L (if 0<=oi then[(oi,x.rule)] else[])))/\Hid (Gr gr w2 wc))
   case first=>
    rcases HOP.out with rfl|⟨q,rfl,hq⟩
    ·clear HOP;go_wp2;go_meet;exact⟨HL0,zh (Gr.refl _ _)⟩
    ·have HQN:=zh (show q<n from by omega);have hq1:(0:Int)<=(q:Int):=by omega
     have hq2:(q:Int)<(n:Int):=by omega
     obtain⟨v0,hv0⟩:∃v0,L[q]?=some v0:=⟨_,gE (by rw[HLN.out];omega)⟩
     have cq:w2.cell? ⟨gr,q,none⟩=some (qI v0):=by
      have h1:w2.cell? ⟨gr,q,none⟩=(ints L).toArray[q]?:=HL0.out.cell q;rw[h1];unfold ints;simp[hv0]
     have fq:=HL0.out.frozen q;have k0:=K1.out.cell 0;clear HOP hv0 hq;go_wp2;go_meet;refine⟨zh ?_,zh ((Gr.refl gr w2).set (p:=⟨gr,q,none⟩) (.inr rfl) _)⟩;have h1:=Blk.set_ HL0.out q (qI x.rule);rw[ints_set] at h1;rw[if_pos hq1];exact h1
   case rest=>
    obtain⟨HL1,HG2⟩:=hcut;have HOP2:=zh HOP.out;clear HOP;replace K1:=zh (HG2.out.blk K1.out (by have:=HGL.out;omega));replace HG1:=zh (HG1.out.trans HG2.out)
    by_cases h0:x.kids.length=0
    ·have hk0:x.kids=[]:=List.length_eq_zero_iff.1 h0;have HAQ2:=zh (show asgR rs x j=if 0<=oi then[(oi,x.rule)] else[] by rw[HAQ.out,hk0];simp[asgL]);have hk2:(x.kids.length:Int)=0:=by omega
     have k2:=K1.out.cell 2;dsimp only[rdC] at k2;replace h0:=zh h0;replace hk2:=zh hk2;clear hk0;go_wp2_with fail
     go_loopw [32] (fun i wr=>i=qI 0/\wr=wc) (fun i _=>0)
     case atStart=>exact⟨rfl,rfl⟩
     case round=>
      obtain⟨rfl,rfl⟩:=hrel;have hpos:¬((0:Int)<(x.kids.length:Int)):=by have:=hk2.out;omega
      go_wp2;exact bodyPost_ret (v:=.tuple #[]) (by simp[results,Tryz.results40,go_sem]) rfl ⟨rfl,by rw[HAQ2.out];exact HL1.out,HG1.out⟩
    ·obtain⟨ge,capE,cur,rfl,hge,hbe,hne,hce,hev⟩:=zRx HE.out (by rw[HEL.out];omega);have HGE:=zh (show ge≠gr by have:=HGL.out;have:=HS1.out;omega);have HBE:=zh (HG2.out.blk hbe HGE.out);have HEV:=zh hev;have k2:=K1.out.cell 2;dsimp only[rdC] at k2;replace h0:=zh h0;clear hbe hev hge;rw[HEL.out] at hne⊢;have HK1:=zh (show Below w0.heap.size w0 wc from HBW.out.trans (HG1.out.down HBW.out.size HGR.out));go_wp2_with fail
     go_loopw [32] (fun i wr=>∃t:Nat,t<=x.kids.length/\i=qI t/\Hid (zFd wr gr (zI0 (zI0 L (if 0<=oi then[(oi,x.rule)] else[])) (asgL rs (x.kids.take t) ((zAy rs x j).take t))))/\Hid (Gr gr wc wr)) (fun i _=>x.kids.length -(intOf i).toNat)
     case atStart=>exact⟨0,by omega,rfl,by rw[List.take_zero,List.take_zero];exact HL1,zh (Gr.refl _ _)⟩
     case round=>
      obtain⟨t,ht,rfl,HLT,HGT⟩:=hrel
      by_cases hlt:t<x.kids.length
      ·obtain⟨y,hy⟩:∃y,x.kids[t]?=some y:=⟨_,gE hlt⟩
       obtain⟨i',j',he,hoky,hjj,hj1⟩:=HKID.out t y hy;have hbk:=HK1.out.trans (HGT.out.down HK1.out.size HGR.out);obtain⟨ad,A3,cap3,rfl,hadl,hX3,hl3,hc3,hk3,d0,d1,d2⟩:=zAp.at_ HKS.out hy;have hadb:∀o,(⟨(ad.add (t*3)).block,o,none⟩:Addr).block<w0.heap.size:=fun o=>by show(ad.add (t*3)).block<_;rw[zA2];exact hadl
       have e0:=(hbk.cell (p:=ad.add (t*3)) (by rw[zA2];exact hadl)).trans d0;have e1:=(hbk.cell (hadb ((ad.add (t*3)).off+1))).trans d1;have e2:=(hbk.cell (hadb ((ad.add (t*3)).off+2))).trans d2;have HX3:=zh hX3;have HASL:=zh (zNg (rs:=rs) hy he);have HCE:=zh (HEV.out t _ he);have HOKY:=zh hoky;have HJY:=zh (And.intro hjj hj1);have HSY:=zh (show zB4 y<=m by
        have h1:=zC6 hy;have:=HM.out;omega)
       have HBE2:=zh (HGT.out.blk HBE.out HGE.out);have HGRW:=zh (show gr<wr.heap.size from HLT.out.lt);clear hbk d0 d1 d2 hX3 hk3 hoky hjj hj1 he hadb hy;go_upto_region 8 with(fail)
       have hba:=zA0 wr (.cells (rdC y.rule y.at_ A3 y.kids.length cap3) 42);have K3:=zh (Blk.new wr 42 (rdC y.rule y.at_ A3 y.kids.length cap3));replace HGT:=zh (HGT.out.below hba);replace HLT:=kp hba HLT;replace HBE2:=kp hba HBE2;clear hba e0 e1 e2;generalize wr.alloc (.cells (rdC y.rule y.at_ A3 y.kids.length cap3) 42)=w5 at*;obtain⟨k0,k1,k2⟩:=qa K3;have ke:=(HBE2.out.cell t).trans HCE.out;have he1:(t:Int)<((x.kids.length:Nat):Int):=by omega
       go_still_tail 7,(by kernel_rfl)
       change wpList _ _ _ _ _ w5.drew;replace HGT:=zh (HGT.out.below (zA3 (Below.refl _ _)));replace HLT:=zh (show zFd w5.drew gr _ from HLT.out);generalize w5.drew=w6 at*;clear k0 k1 k2 ke K3 HBE2;have HL9:=zh (show(zI0 (zI0 L (if 0<=oi then[(oi,x.rule)] else[])) (asgL rs (x.kids.take t) ((zAy rs x j).take t))).length=n by rw[zKl,zKl];exact HLN.out);go_wp2_with fail;refine(IH.out y i' j' (rdC y.rule y.at_ A3 y.kids.length cap3) _ w0 w6 HSY.out HOKY.out HR0.out HX3.out (HK1.out.trans (HGT.out.down HK1.out.size HGR.out)) HGR.out HLT.out HL9.out (by have:=HJY.out.1;omega)).mono ?_;rintro e w7 ⟨rfl,hl7,hg7⟩;have HL7:=zh hl7;replace HGT:=zh (HGT.out.trans hg7);clear hl7 hg7;rw[<-zOy,<-HASL.out] at HL7;go_wp2;go_roundw
       case rel=>exact⟨t+1,by omega,by go_num,HL7,HGT⟩
       case measure=>simp[intOf];omega
      ·obtain rfl:t=x.kids.length:=by omega
       rw[List.take_length,List.take_of_length_le (by rw[HEL.out];exact Nat.le_refl _),<-zOy,<-HAQ.out] at HLT;go_wp2;exact bodyPost_ret (v:=.tuple #[]) (by simp[results,Tryz.results40,go_sem]) rfl ⟨rfl,HLT.out,HG1.out.trans HGT.out⟩
theorem zVh (n:Tre)(c:Array Value)(w:World)(hN:zAv w n c)(h6:n.kind=6->n.kids≠[])(h12:n.kind=12->0<=n.cols/\n.cols<100)(hts:n.text.size<=1000000):
  Calls Tryz.prog 78 #[.agg c] w fun e w'=>e= .returned (.tuple #[.string (zB1 n).1,.string (zB1 n).2])/\Below w.heap.size w w':=by
 obtain⟨A2,cap2,rfl,hsz,hl,hc,hk⟩:=hN.form;have hb0:=zA0 w (.cells #[qI n.kind,.string n.text,qI n.cols,.slice A2 n.kids.length cap2] 25);have HB:=zh hb0;have K1:=zh (Blk.new w 25 #[qI n.kind,.string n.text,qI n.cols,.slice A2 n.kids.length cap2]);have HK:=zh (hk.keep hb0);have H6:=zh h6;have H12:=zh h12;clear hN hk hb0 h6 h12;go_enter Tryz.func78,Tryz.ntmps78;go_upto_region 1 with(fail)
 generalize w.alloc (.cells #[qI n.kind,.string n.text,qI n.cols,.slice A2 n.kids.length cap2] 25)=w1 at*;obtain⟨k0,k1,k2,k3⟩:=qb K1
 by_cases n5:n.kind=5
 ·have q5:(n.kind==5)=true:=beq_iff_eq.2 n5;have HS:=zh (show zB1 n=(divS,zSl) by unfold zB1;rw[if_pos n5]);clear n5;go_wp2;exact bodyPost_ret (v:=.tuple #[.string ⟨#[100,105,118,105,100,101]⟩,.string ⟨#[102,114,97,99]⟩]) (by simp[results,Tryz.results78,go_sem]) rfl ⟨by rw[HS.out];rfl,HB.out⟩
 have q5:(n.kind==5)=false:=bn n5
 by_cases n6:n.kind=6
 ·have q6:(n.kind==6)=true:=beq_iff_eq.2 n6;obtain⟨d,ks,hdk⟩:∃d ks,n.kids=d::ks:=List.exists_cons_of_ne_nil (H6.out n6);obtain⟨ad,A3,cap3,rfl,hadl,hsz3,hl3,hc3,hk3,hn3,d0,d1,d2,d3⟩:=HK.out.at_ (i:=0) (t:=d) (by rw[hdk];rfl);have HS:=zh (show zB1 n=((if d.kids.isEmpty then zKw else zEf),zEf) by unfold zB1;rw[if_neg n5,if_pos n6,hdk]);rw[add_zero'] at d0 d1 d2 d3;have hpos:(0:Int)<(n.kids.length:Int):=by rw[hdk,List.length_cons];omega
  clear n5 n6 hdk hn3 hk3
  by_cases he:d.kids.length=0
  ·have qe:((d.kids.length:Int)==0)=true:=by rw[he];rfl
   have HE:=zh (show d.kids.isEmpty=true from List.isEmpty_iff.2 (List.length_eq_zero_iff.1 he));replace he:=zh he;go_wp2;exact bodyPost_ret (v:=.tuple #[.string ⟨#[115,113,114,116]⟩,.string ⟨#[114,111,111,116]⟩]) (by simp[results,Tryz.results78,go_sem]) rfl ⟨by rw[HS.out,HE.out];rfl,HB.out⟩
  ·have qe:((d.kids.length:Int)==0)=false:=by rw[beq_eq_false_iff_ne];omega
   have HE:=zh (show d.kids.isEmpty=false from List.isEmpty_eq_false_iff.2 fun e=>he (by rw[e];rfl));replace he:=zh he;go_wp2;exact bodyPost_ret (v:=.tuple #[.string ⟨#[114,111,111,116]⟩,.string ⟨#[114,111,111,116]⟩]) (by simp[results,Tryz.results78,go_sem]) rfl ⟨by rw[HS.out,HE.out];rfl,HB.out⟩
 have q6:(n.kind==6)=false:=bn n6
 by_cases n7:n.kind=7
 ·have q7:(n.kind==7)=true:=beq_iff_eq.2 n7;have HS:=zh (show zB1 n=(indS,subS) by unfold zB1;rw[if_neg n5,if_neg n6,if_pos n7]);clear n5 n6 n7;go_wp2;exact bodyPost_ret (v:=.tuple #[.string ⟨#[105,110,100,101,120]⟩,.string ⟨#[115,117,98]⟩]) (by simp[results,Tryz.results78,go_sem]) rfl ⟨by rw[HS.out];rfl,HB.out⟩
 have q7:(n.kind==7)=false:=bn n7
 by_cases n8:n.kind=8
 ·have q8:(n.kind==8)=true:=beq_iff_eq.2 n8;have HS:=zh (show zB1 n=(powS,supS) by unfold zB1;rw[if_neg n5,if_neg n6,if_neg n7,if_pos n8]);clear n5 n6 n7 n8;go_wp2;exact bodyPost_ret (v:=.tuple #[.string ⟨#[112,111,119,101,114]⟩,.string ⟨#[115,117,112]⟩]) (by simp[results,Tryz.results78,go_sem]) rfl ⟨by rw[HS.out];rfl,HB.out⟩
 have q8:(n.kind==8)=false:=bn n8
 by_cases n9:n.kind=9
 ·have q9:(n.kind==9)=true:=beq_iff_eq.2 n9;have HS:=zh (show zB1 n=(zTr,zK6) by unfold zB1;rw[if_neg n5,if_neg n6,if_neg n7,if_neg n8,if_pos n9]);clear n5 n6 n7 n8 n9;go_wp2;exact bodyPost_ret (v:=.tuple #[.string ⟨#[105,110,100,101,120,112,111,119,101,114]⟩,.string ⟨#[98,111,116,104]⟩]) (by simp[results,Tryz.results78,go_sem]) rfl ⟨by rw[HS.out];rfl,HB.out⟩
 have q9:(n.kind==9)=false:=bn n9
 by_cases n10:n.kind=10
 ·have q10:(n.kind==10)=true:=beq_iff_eq.2 n10;have HS:=zh (show zB1 n=(n.text,accS) by unfold zB1;rw[if_neg n5,if_neg n6,if_neg n7,if_neg n8,if_neg n9,if_pos n10]);clear n5 n6 n7 n8 n9 n10;go_wp2;exact bodyPost_ret (v:=.tuple #[.string n.text,.string ⟨#[97,99,99,101,110,116]⟩]) (by simp[results,Tryz.results78,go_sem]) rfl ⟨by rw[HS.out];rfl,HB.out⟩
 have q10:(n.kind==10)=false:=bn n10
 by_cases n12:n.kind=12
 ·have q12:(n.kind==12)=true:=beq_iff_eq.2 n12;obtain⟨cn,hcn⟩:∃cn:Nat,n.cols=(cn:Int):=⟨n.cols.toNat,by have:=(H12.out n12).1;omega⟩
  have HC:=zh (show cn<100 by have:=(H12.out n12).2;omega);have HS:=zh (show zB1 n=(matS,matS++bys (Lib.decDigits cn)) by unfold zB1;rw[if_neg n5,if_neg n6,if_neg n7,if_neg n8,if_neg n9,if_neg n10,if_pos n12,hcn,Int.toNat_natCast]);have HSZ:=zh (Tryz.strconv_Itoa_small cn HC.out w1);rw[hcn] at k2;clear n5 n6 n7 n8 n9 n10 n12 hcn;go_wp2_with fail;refine HSZ.out.mono ?_;rintro e w2 ⟨rfl,rfl⟩;have hdg:(Lib.decDigits cn).length<=20:=by rw[Lib.decDigits_length];exact Lib.nDigits_le20 cn (by have:=HC.out;omega)
  go_wp2;exact bodyPost_ret (v:=.tuple #[.string ⟨#[109,97,116,114,105,120]⟩,.string ((⟨#[109,97,116,114,105,120]⟩:ByteArray)++(⟨(Lib.decDigits cn).toArray⟩:ByteArray))]) (by simp[results,Tryz.results78,go_sem]) rfl ⟨by rw[HS.out];rfl,HB.out⟩
 have q12:(n.kind==12)=false:=bn n12;have HS:=zh (show zB1 n=((if n.text.data.toList=[124,124] then absS else grpS),fenS++n.text) by unfold zB1;rw[if_neg n5,if_neg n6,if_neg n7,if_neg n8,if_neg n9,if_neg n10,if_neg n12]);clear n5 n6 n7 n8 n9 n10 n12
 by_cases hb:n.text.data.toList=[124,124]
 ·have HF:=zh hb;have qb:(n.text.toList==[124,124])=true:=by rw[ByteArray.toList_eq,hb];rfl
  clear hb;go_upto_region 19 with(fail)
  go_quiet (fail)
  go_wp2;exact bodyPost_ret (v:=.tuple #[.string ⟨#[97,98,115]⟩,.string ((⟨#[102,101,110,99,101]⟩:ByteArray)++n.text)]) (by simp[results,Tryz.results78,go_sem]) rfl ⟨by rw[HS.out,if_pos HF.out];rfl,below_drewN HB.out _⟩
 ·have HF:=zh hb;have qb:(n.text.toList==[124,124])=false:=by rw[beq_eq_false_iff_ne,ByteArray.toList_eq];exact hb
  clear hb;go_upto_region 20 with(fail)
  go_quiet (fail)
  go_wp2;exact bodyPost_ret (v:=.tuple #[.string ⟨#[103,114,111,117,112]⟩,.string ((⟨#[102,101,110,99,101]⟩:ByteArray)++n.text)]) (by simp[results,Tryz.results78,go_sem]) rfl ⟨by rw[HS.out,if_neg HF.out];rfl,below_drewN HB.out _⟩
def zD1 (rs:List Rul)(a:Tre):Bool:=decide (a.kind=2)&&(idB a.text.data.toList&& !zBx rs a.text.data.toList)
def zM3 (rs:List Rul)(sub:Tre):ByteArray:=match sub.kids with
 |a::_::_::_=>if zD1 rs a=true then a.text else⟨#[]⟩
 |_=>⟨#[]⟩
def zMn (rs:List Rul)(sub:Tre):Bool:=match sub.kids with
 |a::b::_::_=>zD1 rs a&&(decide (b.kind=2)&&decide (b.text.data.toList=[61]))
 |_=>false
theorem zY1 (rs:List Rul)(sub:Tre):zGp rs sub=if zMn rs sub=true then some (zM3 rs sub) else none:=by
 unfold zGp zMn zM3 zD1
 match sub.kids with
 |[]=>rfl
 |[_]=>rfl
 |[_,_]=>rfl
 |a::b::_::_=>
  dsimp only
  by_cases h1:a.kind=2<;>by_cases h2:idB a.text.data.toList=true<;>by_cases h3:zBx rs a.text.data.toList=true<;>simp_all
theorem zGa {A:Option Addr}(h:zAo w A (a::ts)):∃ad A2 cap2,A=some ad/\ad.block<w.heap.size/\zAv w a #[qI a.kind,.string a.text,qI a.cols,.slice A2 a.kids.length cap2]/\a.text.size<=9223372036854775807/\w.cell? ad=some (qI a.kind)/\w.cell? ⟨ad.block,ad.off+1,none⟩=some (.string a.text)/\w.cell? ⟨ad.block,ad.off+2,none⟩=some (qI a.cols)/\w.cell? ⟨ad.block,ad.off+3,none⟩=some (.slice A2 a.kids.length cap2):=by
 obtain⟨ad,A2,cap2,hA,hlt,hsz,_,_,_,hn,c0,c1,c2,c3⟩:=h.at_ (i:=0) (t:=a) rfl;rw[add_zero'] at c0 c1 c2 c3;exact⟨ad,A2,cap2,hA,hlt,hn,hsz,c0,c1,c2,c3⟩
theorem zHz {ad:Addr}{b:Tre}(h:zAo w (some ad) (a::b::ts)):∃A2 cap2,zAv w b #[qI b.kind,.string b.text,qI b.cols,.slice A2 b.kids.length cap2]/\b.text.size<=9223372036854775807/\w.cell? ⟨ad.block,ad.off+4,none⟩=some (qI b.kind)/\w.cell? ⟨ad.block,ad.off+4+1,none⟩=some (.string b.text)/\w.cell? ⟨ad.block,ad.off+4+2,none⟩=some (qI b.cols)/\w.cell? ⟨ad.block,ad.off+4+3,none⟩=some (.slice A2 b.kids.length cap2):=by
 obtain⟨ad',A2,cap2,hA,hlt,hsz,_,_,_,hn,c0,c1,c2,c3⟩:=h.at_ (i:=1) (t:=b) rfl;obtain rfl:=sj hA;have e:ad.add (1*4)=⟨ad.block,ad.off+4,none⟩:=by unfold Addr.add;simp
 rw[e] at c0 c1 c2 c3;exact⟨A2,cap2,hn,hsz,c0,c1,c2,c3⟩
theorem zXa (g:Nat)(A:Option Addr)(cap:Nat)(rs:List Rul)(sub:Tre)(c:Array Value)(w:World)(hR:zGv w g A cap rs)(hN:zAv w sub c):
  Calls Tryz.prog 79 #[qP g,.agg c] w fun e w'=>e= .returned (.tuple #[.string (zM3 rs sub),.bool (zMn rs sub)])/\Below w.heap.size w w':=by
 obtain⟨A2,cap2,rfl,hsz,hl,hc,hk⟩:=hN.form;have hb0:=zA0 w (.cells #[qI sub.kind,.string sub.text,qI sub.cols,.slice A2 sub.kids.length cap2] 25);have HB:=zh hb0;have K1:=zh (Blk.new w 25 #[qI sub.kind,.string sub.text,qI sub.cols,.slice A2 sub.kids.length cap2]);have HR:=zh (hR.keep hb0);have HK:=zh (hk.keep hb0);clear hR hN hk hb0;go_enter Tryz.func79,Tryz.ntmps79;go_upto_region 1 with(fail)
 generalize w.alloc (.cells #[qI sub.kind,.string sub.text,qI sub.cols,.slice A2 sub.kids.length cap2] 25)=w1 at*;have k3:=K1.out.cell 3
 match hks:sub.kids with
 |[]|[_]|[_,_]=>
  all_goals
   have HS:=zh (show zM3 rs sub=⟨#[]⟩/\zMn rs sub=false by unfold zM3 zMn;rw[hks];exact⟨rfl,rfl⟩);rw[hks] at k3;clear hks;go_wp2;exact bodyPost_ret (v:=.tuple #[qE,.bool false]) (by simp[results,Tryz.results79,go_sem]) rfl ⟨by rw[HS.out.1,HS.out.2],HB.out⟩
 |a::b::d::r=>
  have HS:=zh (show zM3 rs sub=(if zD1 rs a=true then a.text else⟨#[]⟩)/\zMn rs sub=(zD1 rs a&&(decide (b.kind=2)&&decide (b.text.data.toList=[61]))) by unfold zM3 zMn;rw[hks];exact⟨rfl,rfl⟩);rw[hks] at HK;obtain⟨ad,A3,cap3,rfl,hadl,hna,hsza,a0,a1,a2,a3⟩:=zGa HK.out;obtain⟨A4,cap4,hnb,hszb,b0,b1,b2,b3⟩:=zHz HK.out;have hlen:3<=sub.kids.length:=by rw[hks,List.length_cons,List.length_cons,List.length_cons];omega
  have hp0:(0:Int)<(sub.kids.length:Int):=by omega
  have hp1:(1:Int)<(sub.kids.length:Int):=by omega
  have hp3:¬((sub.kids.length:Int)<3):=by omega
  have hlt1:=K1.out.lt;have HNB:=zh (And.intro hnb hszb);have HNA:=zh (And.intro hna hsza);clear hks hna hnb;go_upto_region 3 with(fail)
  go_cut [6,7] (fun p6 p7 wc=>∃g6 g7,p6=qP g6/\p7=qP g7/\Hid (Blk wc g6 25 #[qI a.kind,.string a.text,qI a.cols,.slice A3 a.kids.length cap3])/\Hid (Blk wc g7 25 #[qI b.kind,.string b.text,qI b.cols,.slice A4 b.kids.length cap4])/\Hid (Below w1.heap.size w1 wc))
  case first=>
   go_region
   all_goals
    first
     |(
      have B1:=zA0 w1 (.cells #[qI a.kind,.string a.text,qI a.cols,.slice A3 a.kids.length cap3] 25);have B2:=zA0 (w1.alloc (.cells #[qI a.kind,.string a.text,qI a.cols,.slice A3 a.kids.length cap3] 25)) (.cells #[qI b.kind,.string b.text,qI b.cols,.slice A4 b.kids.length cap4] 25);have s1:(w1.alloc (.cells #[qI a.kind,.string a.text,qI a.cols,.slice A3 a.kids.length cap3] 25)).heap.size=w1.heap.size+1:=by simp
      have KX:=keep (zA3 B2) (Blk.new w1 25 #[qI a.kind,.string a.text,qI a.cols,.slice A3 a.kids.length cap3]);have KY:=(Blk.new (w1.alloc (.cells #[qI a.kind,.string a.text,qI a.cols,.slice A3 a.kids.length cap3] 25)) 25 #[qI b.kind,.string b.text,qI b.cols,.slice A4 b.kids.length cap4]).drew;rw[s1] at KY;go_wp2;go_meet;exact⟨w1.heap.size,w1.heap.size+1,rfl,rfl,zh KX,zh KY,zh (zA3 (B1.trans (B2.mono B1.size)))⟩)
     |(
      have B1:=zA0 w1 (.cells #[qI b.kind,.string b.text,qI b.cols,.slice A4 b.kids.length cap4] 25);have B2:=zA0 (w1.alloc (.cells #[qI b.kind,.string b.text,qI b.cols,.slice A4 b.kids.length cap4] 25)) (.cells #[qI a.kind,.string a.text,qI a.cols,.slice A3 a.kids.length cap3] 25);have s1:(w1.alloc (.cells #[qI b.kind,.string b.text,qI b.cols,.slice A4 b.kids.length cap4] 25)).heap.size=w1.heap.size+1:=by simp
      have KX:=keep (zA3 B2) (Blk.new w1 25 #[qI b.kind,.string b.text,qI b.cols,.slice A4 b.kids.length cap4]);have KY:=(Blk.new (w1.alloc (.cells #[qI b.kind,.string b.text,qI b.cols,.slice A4 b.kids.length cap4] 25)) 25 #[qI a.kind,.string a.text,qI a.cols,.slice A3 a.kids.length cap3]).drew;rw[s1] at KY;go_wp2;go_meet;exact⟨w1.heap.size+1,w1.heap.size,rfl,rfl,zh KY,zh KX,zh (zA3 (B1.trans (B2.mono B1.size)))⟩)
  obtain⟨g6,g7,rfl,rfl,K6,K7,HB12⟩:=hcut;replace HB:=zh (HB.out.trans (HB12.out.mono HB.out.size));replace HR:=zh (HR.out.keep HB12.out);clear k3 a0 a1 a2 a3 b0 b1 b2 b3 hlt1 hadl HNA HNB HK K1 HB12;obtain⟨w2,hw2⟩:∃w2,w2=wc:=⟨_,rfl⟩
  subst hw2
  by_cases h2:a.kind=2
  case neg=>
   have HO:=zh (show zD1 rs a=false by unfold zD1;rw[decide_eq_false h2];rfl);have q:(a.kind==2)=false:=bn h2;have q':(a.kind !=2)=true:=by rw[bne,q];rfl
   clear h2;go_upto_region 4 with(fail)
   refine zBj (by kernel_rfl) (by kernel_rfl) ?_;have C6:=fun(e:Ext w2) (i:Nat)=>(keep e.bel K6.out).cell i
   have C7:=fun(e:Ext w2) (i:Nat)=>(keep e.bel K7.out).cell i
   repeat (go_big_quiet_step (fail))
   refine wpQuiet_nil ?_;intro wy hwy;obtain⟨⟨wz,hb⟩,e9⟩:=hwy;dsimp only at e9;subst e9;replace HB:=jt HB hb;clear C6 C7;go_wp2;exact bodyPost_ret (v:=.tuple #[qE,.bool false]) (by simp[results,Tryz.results79,go_sem]) rfl ⟨by rw[HS.out.1,HS.out.2,HO.out];rfl,HB.out⟩
  have q:(a.kind==2)=true:=beq_iff_eq.2 h2;have q':(a.kind !=2)=false:=by rw[bne,q];rfl
  have HIC:=zh (fun e:Ext w2=>Calls.ext (e:=e) (zH2 a.text e.val hsza));obtain⟨bm,nb,D,hbx,hmp,hse⟩:=HR.out.box;have HBX:=zh hbx;have HMP:=zh hmp;have HSE:=zh hse;clear hbx hmp hse;have HLK:=zh (fun e:Ext w2=>zMq (zMk HMP.out e.bel) HSE.out (s:=a.text) hsza);cases hid:idB a.text.data.toList
  case false=>
   have HO:=zh (show zD1 rs a=false by unfold zD1;rw[hid];simp);have hid':idB a.text.toList=false:=by rw[ByteArray.toList_eq];exact hid
   clear h2 hid;go_upto_region 4 with(fail)
   refine zBj (by kernel_rfl) (by kernel_rfl) ?_;have C6:=fun(e:Ext w2) (i:Nat)=>(keep e.bel K6.out).cell i
   have C7:=fun(e:Ext w2) (i:Nat)=>(keep e.bel K7.out).cell i
   repeat (go_big_quiet_step (fail))
   go_big_quiet_step ((rename_i e;exact HIC.out e))
   repeat (go_big_quiet_step (fail))
   refine wpQuiet_nil ?_;intro wy hwy;obtain⟨⟨wz,hb⟩,e9⟩:=hwy;dsimp only at e9;subst e9;replace HB:=jt HB hb;clear C6 C7;go_wp2;exact bodyPost_ret (v:=.tuple #[qE,.bool false]) (by simp[results,Tryz.results79,go_sem]) rfl ⟨by rw[HS.out.1,HS.out.2,HO.out];rfl,HB.out⟩
  have hid':idB a.text.toList=true:=by rw[ByteArray.toList_eq];exact hid
  cases hsy:zBx rs a.text.data.toList
  case true=>
   have HO:=zh (show zD1 rs a=false by unfold zD1;rw[hid,hsy];simp);rw[hsy] at HLK;clear h2 hid hsy;go_upto_region 4 with(fail)
   refine zBj (by kernel_rfl) (by kernel_rfl) ?_;have C6:=fun(e:Ext w2) (i:Nat)=>(keep e.bel K6.out).cell i
   have C7:=fun(e:Ext w2) (i:Nat)=>(keep e.bel K7.out).cell i
   have CG:=fun(e:Ext w2) (i:Nat)=>(keep e.bel HBX.out).cell i
   have CL:=HLK.out
   repeat (go_big_quiet_step (fail))
   go_big_quiet_step ((rename_i e;exact HIC.out e))
   repeat (go_big_quiet_step (fail))
   refine wpQuiet_nil ?_;intro wy hwy;obtain⟨⟨wz,hb⟩,e9⟩:=hwy;dsimp only at e9;subst e9;replace HB:=jt HB hb;clear C6 C7;clear CG CL;go_wp2;exact bodyPost_ret (v:=.tuple #[qE,.bool false]) (by simp[results,Tryz.results79,go_sem]) rfl ⟨by rw[HS.out.1,HS.out.2,HO.out];rfl,HB.out⟩
  have HO:=zh (show zD1 rs a=true by unfold zD1;rw[hid,hsy,decide_eq_true h2];rfl);rw[hsy] at HLK;clear h2 hid hsy;go_upto_region 4 with(fail)
  refine zBj (by kernel_rfl) (by kernel_rfl) ?_;have C6:=fun(e:Ext w2) (i:Nat)=>(keep e.bel K6.out).cell i
  have C7:=fun(e:Ext w2) (i:Nat)=>(keep e.bel K7.out).cell i
  have CG:=fun(e:Ext w2) (i:Nat)=>(keep e.bel HBX.out).cell i
  have CL:=HLK.out
  repeat (go_big_quiet_step (fail))
  go_big_quiet_step ((rename_i e;exact HIC.out e))
  repeat (go_big_quiet_step (fail))
  refine wpQuiet_nil ?_;intro wy hwy;obtain⟨⟨wz,hb⟩,e9⟩:=hwy;dsimp only at e9;subst e9;replace HB:=jt HB hb;replace K6:=kp hb K6;replace K7:=kp hb K7;clear hb C6 C7;clear CG CL HLK HIC hid' q q';have k6:=K6.out.cell 1;have k70:=K7.out.cell 0;have k71:=K7.out.cell 1
  by_cases h3:b.kind=2
  case neg=>
   have HD:=zh (decide_eq_false h3);have q:(b.kind==2)=false:=bn h3;clear h3;go_upto_region 6 with(fail)
   go_quiet (fail)
   go_wp2;exact bodyPost_ret (v:=.tuple #[.string a.text,.bool false]) (by simp[results,Tryz.results79,go_sem]) rfl ⟨by rw[HS.out.1,HS.out.2,HO.out,HD.out];rfl,below_drewN HB.out _⟩
  have HD:=zh (decide_eq_true h3);have q:(b.kind==2)=true:=beq_iff_eq.2 h3;clear h3
  by_cases h4:b.text.data.toList=[61]
  ·have HE:=zh (decide_eq_true h4);have q4:(b.text.toList==[61])=true:=by rw[ByteArray.toList_eq,h4];rfl
   clear h4;go_upto_region 6 with(fail)
   go_quiet (fail)
   go_wp2;exact bodyPost_ret (v:=.tuple #[.string a.text,.bool true]) (by simp[results,Tryz.results79,go_sem]) rfl ⟨by rw[HS.out.1,HS.out.2,HO.out,HD.out,HE.out];rfl,below_drewN HB.out _⟩
  ·have HE:=zh (decide_eq_false h4);have q4:(b.text.toList==[61])=false:=by rw[beq_eq_false_iff_ne,ByteArray.toList_eq];exact h4
   clear h4;go_upto_region 6 with(fail)
   go_quiet (fail)
   go_wp2;exact bodyPost_ret (v:=.tuple #[.string a.text,.bool false]) (by simp[results,Tryz.results79,go_sem]) rfl ⟨by rw[HS.out.1,HS.out.2,HO.out,HD.out,HE.out];rfl,below_drewN HB.out _⟩
end El
section
section
variable {P : Program} {ops : Array Oper} {Q : Exit -> Act -> World -> Prop} {X : Type}
@[reducible] def evAct (es:List Bool) (a0 F:Act) (i:Nat):Act:=if es.getD i false=true then a0 else F
def zMw (ops:Array Oper)(i:Nat)(o:Oper):Bool:=
 o.guard.isNone&&
 (o.op.operands.all fun| .tmp t=>(List.range ops.size).all fun j=>zAk ops j !=some t||((ops[j]?).map fun oj=>bound oj i).getD true |_=>true)
def opE (ops:Array Oper)(es:List Bool)(i:Nat)(o:Oper):Bool:=if es.getD i false=true then zMw ops i o else zEa ops o
def zSr (ops:Array Oper)(es:List Bool):Bool:=Region.noSelect ops&&zFm ops&&((List.range ops.size).all fun i=>match ops[i]? with
 |some o=>opE ops es i o
 |none=>true)&&(List.range ops.size).all fun i=>match ops[i]? with
 |some o=>o.after.all fun e=> !Region.binds .any e||decide (e.on<i)
 |none=>true
theorem zE0.early {vals:Nat->Value}{a0 F:Act}{L:Nat->Bool}{a:Act}(h:zE0 ops vals a0 L a){i:Nat}{o:Oper}(ho:zMw ops i o=true)(hL:∀j oj,ops[j]?=some oj->bound oj i=true->L j=false):
  (∀x∈o.op.operands,a.eval x=a0.eval x)/\Region.wanted o (yielded ops a.tmps)=Region.wanted o (yielded ops F.tmps):=by
 unfold zMw at ho;rw[Bool.and_eq_true] at ho;obtain⟨h1,h2⟩:=ho;refine⟨fun x hx=>?_,?_⟩
 ·cases x with
  |tmp t=>
   have hx':=Array.all_eq_true'.1 h2 _ hx;have e:a.tmps[t]?=a0.tmps[t]?:=h.rest t fun j hj hd=>by
    have:=List.all_eq_true.1 hx' j (List.mem_range.2 (zBi hd));rw[hd,Array.getElem?_eq_getElem (zBi hd)] at this;have hb:bound (ops[j]'(zBi hd)) i=true:=by simpa using this
    have:=hL j _ (Array.getElem?_eq_getElem (zBi hd)) hb;rw[hj] at this;cases this
   simp only[Act.eval,Array.getD_eq_getD_getElem?,e]
  |_=>rfl
 ·unfold Region.wanted;cases hg:o.guard with
  |none=>rfl
  |some gw=>rw[hg] at h1;cases h1
theorem zOj {es:List Bool}{vals:X->Nat->Value}{a0:Act}{Inv:(Nat->Bool)->X->World->Prop}(hok:zSr ops es=true)(hcl0:∀L x w,Inv L x w->Closed ops L)
  (hstep:∀(i:Nat) (o:Oper) (L:Nat->Bool) (x:X) (w:World),ops[i]?=some o->L i=false->(∀e∈o.after,Region.binds .any e=true->L e.on=true)->Inv L x w->
   if Region.wanted o (yielded ops (fin ops (vals x) a0).tmps)=true then Gives P (execOp (evAct es a0 (fin ops (vals x) a0) i).eval o) w (fun v w'=>∃x',v=vals x' i/\(∀j,L j=true->vals x' j=vals x j)/\Inv (fun j=>L j||j==i) x' w') else vals x i=undef/\Inv (fun j=>L j||j==i) x w)
  (hend:∀(L:Nat->Bool) (x:X) (w:World),(∀i,i<ops.size->L i=true)->Inv L x w->Q .normal (fin ops (vals x) a0) w):
  ∀(fuel:Nat) (listed:Array Bool) (x:X) (a:Act) (w:World),listed.size=ops.size->(listed.toList.countP (·==false))<=fuel->zE0 ops (vals x) a0 (fun j=>listed.getD j false) a->Inv (fun j=>listed.getD j false) x w->wpAny P .any ops Q fuel listed a w:=by
 simp only[zSr,Bool.and_eq_true] at hok;obtain⟨⟨⟨hsel,hd⟩,hall⟩,hedge⟩:=hok;have fini:∀(listed:Array Bool) (x:X) (a:Act) (w:World),listed.size=ops.size->zE0 ops (vals x) a0 (fun j=>listed.getD j false) a->Inv (fun j=>listed.getD j false) x w->Region.ready .any ops listed=[]->Q .normal a w:=by
  intro listed x a w hs ho hI hr;have hL:∀i,i<ops.size->listed.getD i false=true:=by
   intro i
   induction i using Nat.strongRecOn with
   |_ i ih=>
    intro hi;refine Classical.byContradiction fun hn=>?_
    have hm:i∈Region.ready .any ops listed:=by
     rw[mem_ready];refine⟨?_,ops[i],Array.getElem?_eq_getElem hi,fun e he hb=>?_⟩
     ·have hil:i<listed.size:=by omega
      simp only[Array.getD_eq_getD_getElem?,Array.getElem?_eq_getElem hil,Option.getD_some] at hn⊢
      simpa using hn
     ·have h1:=List.all_eq_true.1 hedge i (List.mem_range.2 hi);rw[Array.getElem?_eq_getElem hi] at h1;have h2:=Array.all_eq_true'.1 h1 e he;rw[hb] at h2;have h3:e.on<i:=by simpa using h2
      exact ih e.on h3 (by omega)
    rw[hr] at hm;cases hm
  rw[ho.end hL];exact hend _ x w hL hI
 intro fuel
 induction fuel with
 |zero=>
  intro listed x a w hs hc ho hI;have hr:Region.ready .any ops listed=[]:=by
   rw[List.eq_nil_iff_forall_not_mem];intro j hj;rw[mem_ready] at hj;obtain⟨h0,o,hoj,_⟩:=hj;have hjl:j<listed.size:=by rw[hs];exact(Array.getElem?_eq_some_iff.1 hoj).1
   have hf:listed[j]=false:=by simpa [Array.getD_eq_getD_getElem?,Array.getElem?_eq_getElem hjl] using h0
   have:0<listed.toList.countP (·==false):=List.countP_pos_iff.2 ⟨false,by rw[<-hf];simp,rfl⟩;omega
  exact⟨hr,fini listed x a w hs ho hI hr⟩
 |succ fuel ih=>
  intro listed x a w hs hc ho hI;refine⟨fini listed x a w hs ho hI,fun i hi=>?_⟩;rw[mem_ready] at hi;obtain⟨h0,o,hoi,hb⟩:=hi;have hil:i<ops.size:=(Array.getElem?_eq_some_iff.1 hoi).1;have hil':i<listed.size:=by omega
  have hf:listed[i]=false:=by simpa [Array.getD_eq_getD_getElem?,Array.getElem?_eq_getElem hil'] using h0
  have hLi:listed.getD i false=false:=by simp[Array.getD_eq_getD_getElem?,Array.getElem?_eq_getElem hil',hf]
  have hL':(fun j=>(listed.setIfInBounds i true).getD j false)=fun j=>listed.getD j false||j==i:=by
   funext j
   by_cases hij:j=i
   ·subst hij;simp[Array.getD_eq_getD_getElem?,hil']
   ·rw[getD_set_ne false (Ne.symm hij)];simp[hij]
  have hcount:(listed.setIfInBounds i true).toList.countP (·==false)<=fuel:=by
   rw[Array.toList_setIfInBounds];have hl:i<listed.toList.length:=by simpa using hil'
   have hs1:listed.toList.countP (·==false)=(listed.toList.set i true).countP (·==false)+1:=by
    exact zEk _ _ (by rw[List.getElem?_eq_getElem hl];simpa using hf)
   omega
  have hcl:=hcl0 _ x w hI;have hu:opE ops es i o=true:=by
   have h1:=List.all_eq_true.1 hall i (List.mem_range.2 hil);rw[hoi] at h1;exact h1
  obtain⟨hev,hwant⟩:(∀y∈o.op.operands,a.eval y=(evAct es a0 (fin ops (vals x) a0) i).eval y)/\Region.wanted o (yielded ops a.tmps)=Region.wanted o (yielded ops (fin ops (vals x) a0).tmps):=by
   unfold opE at hu;unfold evAct
   by_cases hes:es.getD i false=true
   ·rw[if_pos hes] at hu⊢;exact ho.early hu fun j oj hoj hbj=>by
     cases hLj:listed.getD j false with
     |false=>rfl
     |true=>
      unfold bound at hbj;obtain⟨e,he,hh⟩:=Array.any_eq_true'.1 hbj;rw[Bool.and_eq_true,beq_iff_eq] at hh;have:=hcl j oj hoj hLj e he hh.2;rw[hh.1] at this;have h9:listed.getD i false=true:=this;rw[hLi] at h9;cases h9
   ·rw[if_neg hes] at hu⊢;exact ho.eval hu hb
  have hexec:execOp a.eval o=execOp (evAct es a0 (fin ops (vals x) a0) i).eval o:=execOp_congr o (fun cs b=>Region.noSelect_spec hsel i o cs b hoi) hev;have hst:=hstep i o _ x w hoi hLi hb hI;have hdst:o.dst=zAk ops i:=by unfold zAk;rw[hoi];rfl
  have next:∀x' w',(∀j,listed.getD j false=true->vals x' j=vals x j)->Inv (fun j=>listed.getD j false||j==i) x' w'->wpAny P .any ops Q fuel (listed.setIfInBounds i true) (a.put o.dst (vals x' i)) w':=by
   intro x' w' hv hI';refine ih _ x' _ w' (by simpa using hs) hcount ?_ (by rw[hL'];exact hI');rw[hL',hdst];exact(ho.swap hd hv).put hd i hil hLi
  unfold wpOp;simp only[hoi];rw[hwant]
  by_cases hw:Region.wanted o (yielded ops (fin ops (vals x) a0).tmps)=true
  ·rw[if_pos hw] at hst⊢;refine .inl (Gives.wp (R:=fun v w'=>∃x',v=vals x' i/\(∀j,listed.getD j false=true->vals x' j=vals x j)/\Inv (fun j=>listed.getD j false||j==i) x' w') (by rw[hexec];exact hst) ?_);rintro v w' ⟨x',rfl,hv,hI'⟩;exact next x' w' hv hI'
  ·rw[if_neg hw] at hst⊢;rw[<-hst.1];exact next x w (fun _ _=>rfl) hst.2
def zQ9 (P:Program)(F:Nat->X->Act)(ops:Array Oper)(tr:List Nat)(vs:X->List Value)(Inv:List Bool->X->World->Prop):Nat->List Oper->List Bool->Prop
 |i,o::os,true::bs=>(∀(L:Nat->Bool) (x:X) (w:World),L i=false->(∀j,reach ops j ops.size i=true->L j=true)->(∀j,reach ops i ops.size j=true->L j=false)->Inv (tr.map L) x w->Gives P (execOp (F i x).eval o) w fun u w'=>∃x',u=(vs x').getD i undef/\zAg ops i (vs x) (vs x')/\Inv (tr.map fun j=>j==i||L j) x' w')/\zQ9 P F ops tr vs Inv (i+1) os bs
 |i,_::os,false::bs=>((∀x,(vs x).getD i undef=undef)/\∀(L:Nat->Bool) (x:X) (w:World),Inv (tr.map L) x w->Inv (tr.map fun j=>j==i||L j) x w)/\zQ9 P F ops tr vs Inv (i+1) os bs
 |_,[],[]=>True
 |_,_,_=>False
theorem zQ9.at_ {F:Nat->X->Act}{tr:List Nat}{vs:X->List Value}{Inv:List Bool->X->World->Prop}:∀{n:Nat} {os:List Oper} {bs:List Bool},zQ9 P F ops tr vs Inv n os bs->∀{i:Nat} {o:Oper},os[i]?=some o->∃b,bs[i]?=some b/\
  if b=true then(∀(L:Nat->Bool) (x:X) (w:World),L (n+i)=false->(∀j,reach ops j ops.size (n+i)=true->L j=true)->(∀j,reach ops (n+i) ops.size j=true->L j=false)->Inv (tr.map L) x w->Gives P (execOp (F (n+i) x).eval o) w fun u w'=>∃x',u=(vs x').getD (n+i) undef/\zAg ops (n+i) (vs x) (vs x')/\Inv (tr.map fun j=>j==(n+i)||L j) x' w')
  else(∀x,(vs x).getD (n+i) undef=undef)/\∀(L:Nat->Bool) (x:X) (w:World),Inv (tr.map L) x w->Inv (tr.map fun j=>j==(n+i)||L j) x w
 |n,[],[],_,i,o,h=>by simp at h
 |n,o::os,true::bs,⟨h1,h2⟩,0,o',h=>by
  obtain rfl:o=o':=by simpa using h
  exact⟨true,rfl,by rw[if_pos rfl];exact h1⟩
 |n,o::os,false::bs,⟨h1,h2⟩,0,o',h=>⟨false,rfl,by rw[if_neg (by simp)];exact h1⟩
 |n,o::os,true::bs,⟨h1,h2⟩,i+1,o',h=>by
  obtain⟨b,hb,hh⟩:=zQ9.at_ h2 (i:=i) (o:=o') (by simpa using h);rw[show n+1+i=n+(i+1) by omega] at hh;exact⟨b,by simpa using hb,hh⟩
 |n,o::os,false::bs,⟨h1,h2⟩,i+1,o',h=>by
  obtain⟨b,hb,hh⟩:=zQ9.at_ h2 (i:=i) (o:=o') (by simpa using h);rw[show n+1+i=n+(i+1) by omega] at hh;exact⟨b,by simpa using hb,hh⟩
 |_,[],_::_,h,_,_,_=>h.elim
 |_,_::_,[],h,_,_,_=>h.elim
theorem zHw {id:Nat}{a0:Act}{w0:World}(hm:P.follows .mixedOrders=true)(es:List Bool)(F:X->Act)(vs:X->List Value)(bs:List Bool)(tr:List Nat)(Inv:List Bool->X->World->Prop)(x0:X)(hok:zSr ops es=true)(hF:∀x,fin ops (fun i=>(vs x).getD i undef) a0=F x)
  (hw:∀x,((List.range ops.size).map fun i=>((ops[i]?).map fun o=>Region.wanted o (yielded ops (F x).tmps)).getD true)=bs) (htr:(tr.all fun i=>decide (i<ops.size))=true) (h0:Inv (tr.map fun _=>false) x0 w0.drew) (hE:zQ9 P (fun i x=>evAct es a0 (F x) i) ops tr vs Inv 0 ops.toList bs) (hend:∀(x:X) (w:World),Inv (tr.map fun _=>true) x w->Q .normal (F x) w):(Code.region id ops true).wp P Q a0 w0:=by
 refine wp_region_any hm ?_;refine zOj (es:=es) (vals:=fun x i=>(vs x).getD i undef) (a0:=a0) (Inv:=fun L x w=>Closed ops L/\Inv (tr.map L) x w) hok (fun L x w h=>h.1) (fun i o L x w ho hLi hb hI=>?_) (fun L x w hL hI=>?_) ops.size (Array.replicate ops.size false) x0 a0 _ (by simp) (by
  refine Nat.le_trans (List.countP_le_length) ?_;simp) ⟨rfl,rfl,fun i t _ h=>?_,fun _ _=>rfl⟩ ⟨fun i o _ h=>?_,?_⟩
 ·obtain⟨hc,hI⟩:=hI;have hi:i<ops.size:=(Array.getElem?_eq_some_iff.1 ho).1;obtain⟨b,hb2,hh⟩:=hE.at_ (i:=i) (o:=o) (by rw[Array.getElem?_toList];exact ho);rw[Nat.zero_add] at hh;rw[<-hw x,List.getElem?_map,List.getElem?_range hi] at hb2;simp only[Option.map_some,ho,Option.getD_some,Option.some.injEq] at hb2;have hca:=zD3 hc ho hb;have hFx:fin ops (fun i=>(vs x).getD i undef) a0=F x:=hF x;rw[hFx,hb2];have hno:∀j,reach ops i ops.size j=true->L j=false:=fun j hj=>by
   cases hLj:L j with
   |false=>rfl
   |true=>
    obtain⟨oj,hoj⟩:=zG8 hj;have:=zAz hc hoj (hc j oj hoj hLj) hj;rw[hLi] at this;cases this
  split
  ·rename_i hbt
   rw[if_pos hbt] at hh;have hg:Gives P (execOp (evAct es a0 (F x) i).eval o) w _:=hh L x w hLi (fun j hj=>zAz hc ho hb hj) hno hI;unfold Gives at hg⊢;revert hg;have key:∀u w',(∃x',u=(vs x').getD i undef/\zAg ops i (vs x) (vs x')/\Inv (tr.map fun j=>j==i||L j) x' w')->∃x',u=(vs x').getD i undef/\(∀j,L j=true->(vs x').getD j undef=(vs x).getD j undef)/\Closed ops (fun j=>L j||j==i)/\Inv (tr.map fun j=>L j||j==i) x' w':=by
    rintro u w' ⟨x',h1,h2,h3⟩;refine⟨x',h1,fun j hj=>h2 j (fun e=>by subst e;rw[hLi] at hj;cases hj) ?_,hca,by rw[zFi];exact h3⟩;cases hr:reach ops i ops.size j with
    |false=>rfl
    |true=>rw[hno j hr] at hj;cases hj
   generalize (execOp (evAct es a0 (F x) i).eval o).run P w=r;cases r with
   |halt e w'=>exact fun h=>h
   |ok n w'=>
    cases n with
    |value v=>exact fun h=>key _ _ h
    |skip=>exact fun h=>key _ _ h
    |enter f args=>exact fun h=>Calls.mono h fun e w'' ⟨v,h1,h2⟩=>⟨v,h1,key _ _ h2⟩
    |_=>exact fun h=>h
  ·rename_i hbt
   rw[if_neg hbt] at hh;exact⟨hh.1 x,hca,by rw[zFi];exact hh.2 L x w hI⟩
 ·have e:tr.map L=tr.map fun _=>true:=List.map_congr_left fun i hi=>by
   have:=List.all_eq_true.1 htr i hi;exact hL i (by simpa using this)
  rw[<-e] at hend;have hFx:fin ops (fun i=>(vs x).getD i undef) a0=F x:=hF x;show Q .normal (fin ops (fun i=>(vs x).getD i undef) a0) w;rw[hFx];exact hend x w hI.2
 ·rw[Array.getD_eq_getD_getElem?,Array.getElem?_replicate] at h
  split at h<;>simp at h
 ·dsimp only at h;rw[Array.getD_eq_getD_getElem?,Array.getElem?_replicate] at h
  split at h<;>simp at h
 ·have e:(fun j=>(Array.replicate ops.size false).getD j false)=fun _=>false:=by
   funext j
   rw[Array.getD_eq_getD_getElem?,Array.getElem?_replicate]
   split<;>rfl
  rw[e];exact h0
end
end
end Go.Proofs.YtapgncbegadbnaaGreatDoor
