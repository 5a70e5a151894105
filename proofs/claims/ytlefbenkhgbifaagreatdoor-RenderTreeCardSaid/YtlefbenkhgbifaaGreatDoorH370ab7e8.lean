/- operand of the reference: the meaning of an operand with the meanings of its slots. -/
import Derived.Test.YtlefbenkhgbifaaGreatDoorH1b1899a1
set_option linter.all false
set_option maxRecDepth 100000
set_option maxHeartbeats 8000000
namespace Go.Proofs.YtlefbenkhgbifaaGreatDoor.El
open At Ch Sp Sy Go.RowKit Tryz
variable{n:aG}{w x:World}{cs:Array Value}{sh:ByteArray×ByteArray}
def vP (ok:Nat->Prop)(t:aC)(w:World)(e:Ending)(w':World):Prop:=∃c,e= .returned (.agg c)/\bH (λb=>ok b\/w.heap.size<=b) w' t c/\Below w.heap.size w w'
def Kk (h:fJ n=true):1<=n.kind/\n.kind<=12:=by
 have h:=(wu h).2;unfold lJ at h
 split at h
 ·omega
 ·rw[aM] at h;have a:=h.2
  repeat' split at a
  all_goals (first|omega|cases a)
def Zk {m:Nat}(h:n.text.size<=1000)(b:n.kind=12->n.cols<100):(iQ n m).1.size<=2000/\(iQ n m).2.size<=2000:=by
 have c:=NF h b
 by_cases a:n.kind=6
 ·unfold iQ;rw[ai aa,ak a];constructor
  ·show(if m=1 then vG else jW).size<=2000
   split<;>decide
  ·show jW.size<=2000;decide
 ·have e:iQ n m=mo n:=by
   unfold mo iQ;rw[ai a,ai a]
  rw[e];exact c
structure yQ (w:World)(cs:Array Value)(v:Value)(sh:ByteArray×ByteArray)(x:World):Prop where
 bel:Below w.heap.size w x
 k0:au x w.heap.size 31 cs
 k1:au x (w.heap.size+1) 25 cK
 k2:au x (w.heap.size+2) 25 #[qI 4,af sh.1,qE,v,af sh.2]
def yQ.keep {b:World}{v:Value}(h:yQ w cs v sh x)(a:Below x.heap.size x b):yQ w cs v sh b:=
 ⟨h.bel.trans (a.mono h.bel.size),jL a h.k0,jL a h.k1,jL a h.k2⟩
def yQ.one {v:Value}(h:yQ w cs v sh x)(a:ByteArray):yQ w cs v (a,sh.2) (x.setCell ⟨w.heap.size+2,1,none⟩ (af a)):=by
 have b:x.grownBy (x.setCell ⟨w.heap.size+2,1,none⟩ (af a)) (some (w.heap.size+2)):=kJ x ⟨w.heap.size+2,1,none⟩ _;exact⟨h.bel.grown b h.bel.size λr e=>av (sj e),h.k0.grown b λe=>av (sj e),h.k1.grown b λe=>av (sj e),h.k2.set_ 1 (af a)⟩
def yQ.put {v:Value}(h:yQ w cs v sh x)(a b:ByteArray):yQ w cs v (a,b) ((x.setCell ⟨w.heap.size+2,1,none⟩ (af a)).setCell ⟨w.heap.size+2,4,none⟩ (af b)):=by
 have c:=h.one a;have d:(x.setCell ⟨w.heap.size+2,1,none⟩ (af a)).grownBy ((x.setCell ⟨w.heap.size+2,1,none⟩ (af a)).setCell ⟨w.heap.size+2,4,none⟩ (af b)) (some (w.heap.size+2)):=kJ _ ⟨w.heap.size+2,4,none⟩ _;exact⟨c.bel.grown d c.bel.size λr e=>av (sj e),c.k0.grown d λe=>av (sj e),c.k1.grown d λe=>av (sj e),c.k2.set_ 4 (af b)⟩
def Zl (ok:Nat->Prop)(n:aG)(c:Array Value)(xs:List aC)(r:Option Addr)(o:Nat)(w:World)(b1:lX w n c)(b2:qw ok w r xs)(b3:xs.length<=o)(b4:o<=9223372036854775807)(V:fJ n=true)(b5:n.kind≠1):
  Calls prog 170 #[.agg c,.slice r xs.length o] w (vP ok (lM n xs) w):=by
 obtain⟨s,t,rfl,b6,e5,e6,c8⟩:=b1.form;have W:=aN w (qO n s t);have s1:(w.alloc (qO n s t)).heap.size=w.heap.size+1:=aS
 have X:=aN (w.alloc (qO n s t)) (.cells cK 25);have Y:=zh (W.trans (X.mono W.size));have b7:=zh (ae X (au.new w 31 (qC n s t)));have Z:=zh (au.new (w.alloc (qO n s t)) 25 cK);rw[s1] at Z;have a0:=ah (((w.alloc (qO n s t)).alloc (.cells cK 25)).heap.size=w.heap.size+2) (by simp);have c9:=zh (b2.any (ok':=λb=>ok b/\b<w.heap.size) λb a1 b8=>⟨b8,a1⟩);have a2:=zh V;have d0:=zh b5;have a3:=zh b6;have b9:=zh (Au V);have c0:=zh (And.intro b3 b4);clear b1 b2 c8 V b6 b4 b5 b3 W X s1;go_enter func170,ntmps170;go_upto_region 1 with(fail)
 generalize (w.alloc (qO n s t)).alloc (.cells cK 25)=a4 at*;go_upto_region 2 with(fail)
 have P:=aN a4 (.cells #[qI 4,qE,qE,.slice r xs.length o,qE] 25);have a5:=au.new a4 25 #[qI 4,qE,qE,.slice r xs.length o,qE];rw[a0.o] at a5;have S:=zh (yQ.mk (sh:=(⟨#[]⟩,⟨#[]⟩)) (Y.o.trans (P.mono Y.o.size)) (ae P b7.o) (ae P Z.o) a5);rw[a0.o];clear P a5 Y b7 Z a0;generalize a4.alloc (.cells #[qI 4,qE,qE,.slice r xs.length o,qE] 25)=Q at*;have a6:=S.o.k0.cell 0;have R:=S.o.k0.cell 1;have a7:=λi=>S.o.k1.cell i
 have a8:=λi=>S.o.k1.frozen i
 go_upto_block 0 with(fail)
 go_cut [] (λwc=>(n.kind≠2/\n.kind≠3/\n.kind≠4)/\Hy (yQ w (qC n s t) (.slice r xs.length o) (iQ n xs.length) wc))
 case first=>
  by_cases h:n.kind=2
  ·have d1:(n.kind==2)=true:=aT.2 h;have K:=ah (lM n xs= .mk 2 n.text ⟨#[]⟩ ⟨#[]⟩ []) (by unfold lM;rw[ak h]);have z:=zh S.o.k1;clear h;go_wp2_with fail;obtain⟨a9,A,B,C,L⟩:=gQ z.o S.o.bel aa (qI 2) (af n.text) qE qN qE;rw[A];obtain⟨D,E,F,G,H⟩:=jF B;exact aB (v:=.agg #[qI 2,af n.text,qE,qN,qE]) (by simp[results,results170,go_sem,D,E,F,G,H]) rfl (show vP _ _ _ _ _ by rw[K.o];exact⟨_,rfl,bH.zero _ _ 2 n.text a3.o,C.o⟩)
  have d1:(n.kind==2)=false:=bn h
  by_cases l:n.kind=3
  ·have d2:(n.kind==3)=true:=aT.2 l;have K:=ah (lM n xs= .mk 1 n.text ⟨#[]⟩ ⟨#[]⟩ []) (by unfold lM;rw[ai h,ak l]);have z:=zh S.o.k1;clear h l;go_wp2_with fail;obtain⟨a9,A,B,C,L⟩:=gQ z.o S.o.bel aa (qI 1) (af n.text) qE qN qE;rw[A];obtain⟨D,E,F,G,H⟩:=jF B;exact aB (v:=.agg #[qI 1,af n.text,qE,qN,qE]) (by simp[results,results170,go_sem,D,E,F,G,H]) rfl (show vP _ _ _ _ _ by rw[K.o];exact⟨_,rfl,bH.zero _ _ 1 n.text a3.o,C.o⟩)
  have d2:(n.kind==3)=false:=bn l
  by_cases u:n.kind=4
  ·have d3:(n.kind==4)=true:=aT.2 u;have K:=ah (lM n xs= .mk 3 n.text ⟨#[]⟩ ⟨#[]⟩ []) (by unfold lM;rw[ai h,ai l,ak u]);have z:=zh S.o.k1;clear h l u;go_wp2_with fail;obtain⟨a9,A,B,C,L⟩:=gQ z.o S.o.bel aa (qI 3) (af n.text) qE qN qE;rw[A];obtain⟨D,E,F,G,H⟩:=jF B;exact aB (v:=.agg #[qI 3,af n.text,qE,qN,qE]) (by simp[results,results170,go_sem,D,E,F,G,H]) rfl (show vP _ _ _ _ _ by rw[K.o];exact⟨_,rfl,bH.zero _ _ 3 n.text a3.o,C.o⟩)
  have d3:(n.kind==4)=false:=bn u;have p:=ah (n.kind≠2/\n.kind≠3/\n.kind≠4) ⟨h,l,u⟩;have d4:=ah (n.kind=5\/n.kind=6\/n.kind=7\/n.kind=8\/n.kind=9\/n.kind=10\/n.kind=11\/n.kind=12) (by have a1:=Kk a2.o;have b8:=d0.o;omega);clear h l u a7 a8;have M:=λi=>S.o.k2.cell i
  have T:=λi=>S.o.k2.frozen i
  by_cases a:n.kind=5
  ·have d5:(n.kind==5)=true:=aT.2 a;have d:=ah (iQ n xs.length=(wU,mM)) (by unfold iQ;rw[ak a]);clear a;go_wp2;go_meet;rw[d.o];exact⟨p.o,zh (S.o.put wU mM)⟩
  have d5:(n.kind==5)=false:=bn a
  by_cases f:n.kind=6
  ·have d6:(n.kind==6)=true:=aT.2 f;have d:=ah (iQ n xs.length=((if xs.length=1 then vG else jW),jW)) (by unfold iQ;rw[ai a,ak f]);clear a f
   by_cases N:xs.length=1
   ·have d7:((xs.length:Int)==1)=true:=by rw[N];rfl
    have I:=ah (iQ n xs.length=(vG,jW)) (by rw[d.o,ak N]);clear N;go_wp2;go_meet;rw[I.o];exact⟨p.o,zh ((S.o.put jW jW).one vG)⟩
   ·have d7:((xs.length:Int)==1)=false:=bn aa;have I:=ah (iQ n xs.length=(jW,jW)) (by rw[d.o,ai N]);clear N;go_wp2;go_meet;rw[I.o];exact⟨p.o,zh (S.o.put jW jW)⟩
  have d6:(n.kind==6)=false:=bn f
  by_cases g:n.kind=7
  ·have d8:(n.kind==7)=true:=aT.2 g;have d:=ah (iQ n xs.length=(wV,dM)) (by unfold iQ;rw[ai a,ai f,ak g]);clear a f g;go_wp2;go_meet;rw[d.o];exact⟨p.o,zh (S.o.put wV dM)⟩
  have d8:(n.kind==7)=false:=bn g
  by_cases k:n.kind=8
  ·have d9:(n.kind==8)=true:=aT.2 k;have d:=ah (iQ n xs.length=(wW,dV)) (by unfold iQ;rw[ai a,ai f,ai g,ak k]);clear a f g k;go_wp2;go_meet;rw[d.o];exact⟨p.o,zh (S.o.put wW dV)⟩
  have d9:(n.kind==8)=false:=bn k
  by_cases q:n.kind=9
  ·have e0:(n.kind==9)=true:=aT.2 q;have d:=ah (iQ n xs.length=(BL,jU)) (by unfold iQ;rw[ai a,ai f,ai g,ai k,ak q]);clear a f g k q;go_wp2;go_meet;rw[d.o];exact⟨p.o,zh (S.o.put BL jU)⟩
  have e0:(n.kind==9)=false:=bn q
  by_cases y:n.kind=10
  ·have e1:(n.kind==10)=true:=aT.2 y;have d:=ah (iQ n xs.length=(n.text,jb)) (by unfold iQ;rw[ai a,ai f,ai g,ai k,ai q,ak y]);clear a f g k q y;go_wp2;go_meet;rw[d.o];exact⟨p.o,zh (S.o.put n.text jb)⟩
  have e1:(n.kind==10)=false:=bn y
  by_cases J:n.kind=12
  ·have e7:(n.kind==12)=true:=aT.2 J;have e2:(n.kind==11)=false:=bn aa;have c1:=zh (BS a2.o J);have d:=ah (iQ n xs.length=(eX,eX++jy (Lib.decDigits n.cols.toNat))) (by unfold iQ;rw[ai a,ai f,ai g,ai k,ai q,ai y,ak J]);clear a f g k q y J;obtain⟨x,c2⟩:∃x:Nat,n.cols=(x:Int):=⟨n.cols.toNat,(Int.toNat_of_nonneg c1.o.1).symm⟩
   have c3:n.cols.toNat=x:=aa
   have c4:x<=100:=av c1.o
   have e3:Q.cell? (ag w.heap.size (2))=some (qI (x:Int)):=by rw[<-c2];exact S.o.k0.cell 2
   rw[c3] at d;have c5:=zh c4;clear c2 c3 c4;go_wp2_with fail;refine(PL x Q (av c5.o)).mono ?_;rintro e e8 ⟨rfl,j⟩;have e9:(jy (Lib.decDigits x)).size<=1000:=by
    have a1:(Lib.decDigits x).length<=20:=by rw[Lib.decDigits_length];exact Lib.nDigits_le20 _ (av c5.o)
    rw[PH];omega
   replace S:=zh (S.o.keep j);clear j a6 R e3 M T;have M:=λi=>S.o.k2.cell i
   have T:=λi=>S.o.k2.frozen i
   go_wp2;go_meet;rw[d.o];exact⟨p.o,zh (S.o.put eX (eX++jy (Lib.decDigits x)))⟩
  have e2:(n.kind==11)=true:=aT.2 (av d4.o);have d:=ah (iQ n xs.length=((if n.text.data.toList=[124,124] then vH else uH),ik++n.text)) (by unfold iQ;rw[ai a,ai f,ai g,ai k,ai q,ai y,ai J]);clear a f g k q y J;have f0:=b9.o;go_upto_region 24 with(fail)
  go_region;have O:Hy (yQ w (qC n s t) (.slice r xs.length o) (uH,ik++n.text) (((Q.setCell ⟨w.heap.size+2,1,none⟩ (af ⟨#[103,114,111,117,112]⟩)).setCell ⟨w.heap.size+2,4,none⟩ (af ((⟨#[102,101,110,99,101]⟩:ByteArray)++n.text))).drew)):=zh ((S.o.put uH (ik++n.text)).keep (fC (aL _ _)));clear S a6 R M T;generalize ((Q.setCell ⟨w.heap.size+2,1,none⟩ (af ⟨#[103,114,111,117,112]⟩)).setCell ⟨w.heap.size+2,4,none⟩ (af ((⟨#[102,101,110,99,101]⟩:ByteArray)++n.text))).drew=f1 at*;have R:=O.o.k0.cell 1;have M:=λi=>O.o.k2.cell i
  have T:=λi=>O.o.k2.frozen i
  by_cases j:n.text.data.toList=[124,124]
  ·have qb:(n.text.toList==[124,124])=true:=by rw[bz,j];rfl
   have I:=ah (iQ n xs.length=(vH,ik++n.text)) (by rw[d.o,ak j]);clear j;go_wp2;go_meet;rw[I.o];exact⟨p.o,zh (O.o.one vH)⟩
  ·have qb:(n.text.toList==[124,124])=false:=by rw[bz];exact bn j
   have I:=ah (iQ n xs.length=(uH,ik++n.text)) (by rw[d.o,ai j]);clear j;go_wp2;go_meet;rw[I.o];exact⟨p.o,O⟩
 have U:=ah ((iQ n xs.length).1.size<=9223372036854775807/\(iQ n xs.length).2.size<=9223372036854775807) (by have:=Zk (m:=xs.length) b9.o (λe=>(BS a2.o e).2);omega);clear S a6 R a7 a8;obtain⟨⟨h,l,u⟩,S⟩:=hcut;have b0:=ah (lM n xs= .mk 4 (iQ n xs.length).1 ⟨#[]⟩ (iQ n xs.length).2 xs) (by unfold lM;rw[ai h,ai l,ai u]);clear h l u;obtain⟨sh,c6⟩:∃sh,sh=iQ n xs.length:=⟨_,rfl⟩
 rw[<-c6] at b0 U S;clear c6;obtain⟨nam,c7⟩:=sh;dsimp only at b0 U;have e4:=zh (c9.o.keep S.o.bel);have M:=λi=>S.o.k2.cell i
 have a7:=λi=>S.o.k1.cell i
 have a8:=λi=>S.o.k1.frozen i
 have z:=zh S.o.k1;go_wp2_with fail;obtain⟨a9,A,B,C,L⟩:=gQ z.o S.o.bel aa (qI 4) (af nam) qE (.slice r xs.length o) (af c7);rw[A];obtain⟨D,E,F,G,H⟩:=jF B;exact aB (v:=.agg #[qI 4,af nam,qE,.slice r xs.length o,af c7]) (by simp[results,results170,go_sem,D,E,F,G,H]) rfl (show vP _ _ _ _ _ by rw[b0.o];exact⟨_,rfl,bH.of U.o.1 aI U.o.2 c0.o.1 c0.o.2 (e4.o.map L.o.size (λb _ j=>.inl j.1) λf2 _ j=>dm (L.o.block _ ‹_› λe=>aV (sj e) j.2)),C.o⟩)
end Go.Proofs.YtlefbenkhgbifaaGreatDoor.El
