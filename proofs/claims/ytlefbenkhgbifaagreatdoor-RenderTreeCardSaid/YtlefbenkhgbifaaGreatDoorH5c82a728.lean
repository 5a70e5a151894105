/- build of the reference: part a. -/
import Derived.Test.YtlefbenkhgbifaaGreatDoorHc4d961df
set_option linter.all false
set_option maxRecDepth 100000
set_option maxHeartbeats 400000000
namespace Go.Proofs.YtlefbenkhgbifaaGreatDoor.El
open At Ch Sp Sy Go.RowKit
def ZB:EU.a:=by
 intro h2 ok l h3 h4 b6 h5 b7 D h6 b8 E h7 h8 h9 b9 i0 i1 i2 i3 i4 x i c0 w c1 c2 c3 c4 c5 c6 c7 c8 c9 d0 d1 d2 d3 d4 i5 i6 d5 d6 s1 d7 e F Y N i7 d8 i8 d9 e0 i9 e1 e2 G j0 j1 j2 H I;obtain⟨j3,j4,j5,j6,j7⟩:=Sp.info_parts zN;obtain⟨n,J⟩:∃n,D[i]?=some n:=⟨_,gE (av G.o)⟩
 obtain⟨y,O⟩:∃y,E[i]?=some y:=⟨_,gE (av G.o)⟩
 have e3:=zh (show dO b6 D E x c0=lM n y by
  cases x with
  |mk e4 a j8=>
   have Z:e4= -1:=H;have P:a=(i:Int):=I;rw[xg,ak aa,P,fU,J,O];rfl)
 have a0:=zh (b9 n (dQ J));obtain⟨h,Q,R,rfl,S,j9,k0,k1,e5,a1,a2,a3,a4,a5⟩:=e1.o.at_ J;obtain⟨A,rfl,a6,T,U,V,e6,e7,a7⟩:=d9.o i y O;have B:∀o,(⟨(h.add (i*4)).block,o,none⟩:Addr).block<w.heap.size:=λo=>by show(h.add (i*4)).block<_;rw[gX];exact S
 have k2:x.rule<0:=aa
 have e8:=zh I;have e9:(i:Int)<(D.length:Int):=av G.o
 have f0:(i:Int)<(E.length:Int):=av G.o
 rw[I] at F e d8 N Y;have f1:=(e.o.cell (p:=h.add (i*4)) (by rw[gX];exact S)).trans a2;have Z:=(e.o.cell (B ((h.add (i*4)).off+1))).trans a3;have f2:=(e.o.cell (B ((h.add (i*4)).off+2))).trans a4;have P:=(e.o.cell (B ((h.add (i*4)).off+3))).trans a5;replace V:=(e.o.cell (p:=A.add i) (by rw[gX];exact a6)).trans V;have f3:=zh (a1.keep e.o);have f4:=zh (a7.keep e.o);have a8:=zh (ae e.o e2.o);have K:=ah ((h.add (i*4)).block<_/\∀o,(⟨(h.add (i*4)).block,o,none⟩:Addr).block<_) ⟨ll (by rw[gX];exact S) e.o.size,λo=>ll (B o) e.o.size⟩;have f5:=ah ((A.add i).block<_) (ll (by rw[gX];exact a6) e.o.size);clear H I c2 c3 d4 c6 d5 c1 d1 d6 d7 s1 c4 c5 a2 a3 a4 a5 a1 a7 e5 B J O c7 c8 c9 d0
 skip
 go_enter Tryz.func152,Tryz.ntmps152;rw[e8.o];go_upto_region 1 with(fail)
 generalize (w.alloc (.cells (dw x.rule (i:Int) d2 x.kids.length d3) 139)).alloc (.cells cK 25)=f6 at*;have f7:=F.o.cell 0;go_upto_region 2 with(fail)
 clear f7;refine qm [2,2,2,1,2,1,2,1,2,2,2,1,2,1,2,1,1,3] (List.replicate 18 false) (λd=>[qP l,qP l,aR l (1),ay h D.length b7,aR w.heap.size (1),qI (i:Int),az (h.add (i*4)),.agg (qC n Q R),qP l,qP l,aR l (4),ay A E.length b8,aR w.heap.size (1),qI (i:Int),az (A.add i),.slice T y.length U,d.v 34,undef]) [(16,λd a9=>∃k,d.v 34= .agg k/\bH (λb=>ok b\/f6.heap.size<=b) a9 (lM n y) k)] (λ_ _=>True) (bV.cons (λd a9 k3 ⟨k,H,f8⟩ j=>⟨k,H,f8.keep j⟩) bV.nil) (trivial) ?_ ?_
 ·refine⟨jC,jI,jI,jR λd f c=>(ae c a8.o).cell 1,jI,jR λd f c=>(ae c F.o).cell 1,λd f=>?_,λd f c L M=>?_,jC,jI,jI,jR λd f c=>(ae c a8.o).cell 4,jI,jR λd f c=>(ae c F.o).cell 1,λd f=>?_,jR λd f c=>(c.cell f5.o).trans V,λd f c L M=>?_,trivial⟩
  ·exact jp (az (h.add (i*4))) (gY e9) rfl
  ·have f9:=(c.cell K.o.1).trans f1;have g0:=(c.cell (K.o.2 _)).trans Z;have g1:=(c.cell (K.o.2 _)).trans f2;have g2:=(c.cell (K.o.2 _)).trans P;exact gs (.agg (qC n Q R)) L aj (jZ f9 g0 g1 g2) rfl
  ·exact jp (az (A.add i)) (gY f0) rfl
  ·refine jc 170 (#[.agg (qC n Q R),.slice T y.length U]) f aj ((Zl ok n _ y T U f (f3.o.keep c) (f4.o.keep c) e6 e7 a0.o.1 a0.o.2).mono ?_);rintro b0 k4 ⟨k,rfl,C,j⟩;exact⟨_,rfl,d.setV 34 (.agg k),rfl,jD,j,⟨⟨k,rfl,C.any λb _ b1=>b1.imp id (ax c.size)⟩,trivial⟩,trivial⟩
 ·refine λd f c L M=>?_
  dsimp only[ji] at M;change wpOps _ _ _ [17] _ _;obtain⟨⟨k,b2,C⟩,-⟩:=M;obtain⟨m,q,r,s,t,u,z,rfl⟩:=C.ext;have g3:=zh C;have b3:=jt e c;have W:=kp c Y;rw[b2];clear C b2 L c;clear d;generalize f=X at*;have b4:=W.o.cell;have b5:=W.o.frozen;have g4:=zh (sK W.o (qI m) (af q) (af r) (.slice s t u) (af z));have g5:=zh (Da (g:=w.heap.size+1) b3.o b3.o.size aa (qI m) (af q) (af r) (.slice s t u) (af z));have g6:=zh (xP X (w.heap.size+1) (qI m) (af q) (af r) (.slice s t u) (af z));refine oL (o:=_) rfl rfl (w':=((((X.setCell ⟨w.heap.size+1,0,none⟩ (qI m)).setCell ⟨w.heap.size+1,1,none⟩ (af q)).setCell ⟨w.heap.size+1,2,none⟩ (af r)).setCell ⟨w.heap.size+1,3,none⟩ (.slice s t u)).setCell ⟨w.heap.size+1,4,none⟩ (af z)) (ek b4 b5) ?_;refine jo ?_;clear b4 b5;generalize ((((X.setCell ⟨w.heap.size+1,0,none⟩ (qI m)).setCell ⟨w.heap.size+1,1,none⟩ (af q)).setCell ⟨w.heap.size+1,2,none⟩ (af r)).setCell ⟨w.heap.size+1,3,none⟩ (.slice s t u)).setCell ⟨w.heap.size+1,4,none⟩ (af z)=k5 at*;go_wp2_with fail;obtain⟨g7,g8,g9,h0,h1⟩:=qc g4;exact aB (v:=.agg #[qI m,af q,af r,.slice s t u,af z]) (by simp[results,Tryz.results152,go_sem,g7,g8,g9,h0,h1]) rfl (show vP _ _ _ _ _ by rw[e3.o];exact⟨_,rfl,g3.o.grown g6.o (λb _ j b0=>by have:=sj b0;have:=N.o;rcases j with j|j<;>(try have:=e0.o _ j)<;>omega) (λb _ j=>j.imp id λb1=>av N.o),g5.o⟩)
end Go.Proofs.YtlefbenkhgbifaaGreatDoor.El
