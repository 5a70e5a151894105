/- The reference's list: memory of its boxes, what its functions give, plain laws of its rounds. -/
import Derived.Test.YtlefbenkhgbifaaGreatDoorHa47546c4
set_option linter.all false
set_option maxRecDepth 100000
set_option maxHeartbeats 8000000
namespace Go.Proofs.YtlefbenkhgbifaaGreatDoor
open Tryz
namespace Ch
open Go.RowKit
def YQ:ER.a:=by
 intro B U rs ts O f6 P f7 i e w a6 E b7 s V a7 f8 f9 g0 g1 g2 _ wc g3 g4 g5 g6 g7 g8 g9 h0 h1 h2 h3 h4 h5 h6 h7 h8 h9 i0 i1 i2 i3 i4 wr u9 i5 u12 i6 i7 i8 i9 j0 j1 j2 j3 j4 j5 j6 j7 j8 j9 k0 k1 k2 k3 k4 k5 k6 k7 k8 k9 l0 l1 l2 l3 l4 l5 l6 l7 l8 l9 m0 m1 m2 m3 m4 m5 m6 m7 m8 m9 n0 n1 n2 n3 n4 n5 n6 n7 n8 n9 o0 o1 o2 o3 o4 o5 o6 o7 o8 o9 p0 p1 p2 p3 p4 p5 p6 p7 p8 p9 q0 q1 q2 q3 q4 q5 q6 q7 q8 q9 r0 r1 r2 r3 r4 r5 r6 r7 r8 r9 s0 s1 s3 s4 s5 s6 s7 s8 s9 t0 t1 t2 t3 t4 t5 t6 t7 t8 t9 v0 v1 v2 v3 v4 v5 v6 v7 v8 v9 w0 w1 w2 w3 w4 w5 w6 w7 w8 w9 x0 x1 x2 x3 x4 x5 x6 x7 x8 x9 y0 y1 y2 y3 y4 y5 y6 y7 y8 y9 z0 z1 z2 z3 z4 z5 z6 z7 z8 z9 n A0 _ _ A1 u _ C a8 b8 d1 b9 A2 A3 K A4 c0 A5 y r M A6 c1 c2 A7 a9;obtain⟨A8,d2,d3,d4,d5⟩:=info_parts zJ;have c3:=zh (YI (ts:=ts) (i:=i) (j:=e) d1.o a9);have A9:(u.kind==1)=true:=aT.2 a9;have d6:=ah (dH rs ts i e n=dH rs ts i e n++(List.range' (i+1) 0).flatMap (uW rs ts i e n u)) aS;rw[d6.o] at y;clear a9;go_wp2_with fail
 go_loopw [9,12] (λv b0 wr=>∃d:Nat,d<=e -1 -(i+1)/\b0=qI ((i+1+d:Nat):Int)/\Hy (bM (λb=>w.heap.size<=b) wr w.heap.size v (dH rs ts i e n++(List.range' (i+1) d).flatMap (uW rs ts i e n u)))/\Hy (Below w.heap.size w wr)/\Hy (au wr M 41 u.c)/\Hy (v.ownBlock≠some M)) (λ_ b0 _=>e -(intOf b0).toNat)
 case atStart=>exact⟨0,aa,rfl,y,r,c2,c1⟩
 case round=>
  clear y r c2 c1;obtain⟨d,B0,rfl,y,r,F,W⟩:=hrel
  by_cases B1:d<e -1 -(i+1)
  ·obtain⟨s2,b1⟩:∃s2,ts[i+1+d]?=some s2:=⟨_,gE (av E.o)⟩
   obtain⟨d7,B2,c4,d8,d9⟩:=(a7.o.keep r.o) (i+1+d) s2 b1;obtain rfl:=sj c4;have D:=F.o.cell 1;have e0:((i+1+d:Nat):Int)<(e:Int) -1:=aa
   have e1:((i+1+d:Nat):Int)<(ts.length:Int):=av E.o
   have B3:(0:Int)<=((i+1+d:Nat):Int):=aa
   have Y:=ah (ed ts (i+1+d) u.sym.toList=(s2.toList==u.sym.toList)) (by unfold ed;rw[b1]);clear b1 c4 d7 d8;go_upto_region 15 with(fail)
   go_quiet (fail)
   have y:=zh (y.o.keep (below_drewN (aL _ _) nq));have r:=zh (below_drewN r.o nq);have F:=zh (au.drewN F.o nq);generalize wr.drewN nq=Z at*;clear d9 D e1;cases a0:(s2.toList==u.sym.toList)
   ·have b2:=ah (dH rs ts i e n++(List.range' (i+1) (d+1)).flatMap (uW rs ts i e n u)=dH rs ts i e n++(List.range' (i+1) d).flatMap (uW rs ts i e n u)) (by rw[DC];unfold uW;rw[Y.o,a0];simp);rw[<-b2.o] at y;go_wp2;go_roundw
    case rel=>exact⟨d+1,aa,bi,y,r,F,W⟩
    case measure=>simp[intOf];omega
   ·have b2:=ah (dH rs ts i e n++(List.range' (i+1) (d+1)).flatMap (uW rs ts i e n u)=(dH rs ts i e n++(List.range' (i+1) d).flatMap (uW rs ts i e n u))++(kM n i (dx rs (aX rs ts i (i+1+d)) u.left) (dx rs (aX rs ts ((i+1+d)+1) e) u.right))) (by rw[DC,<-cu,show uW rs ts i e n u (i+1+d)=(kM n i (dx rs (aX rs ts i (i+1+d)) u.left) (dx rs (aX rs ts ((i+1+d)+1) e) u.right)) from by unfold uW;rw[Y.o,a0,ak rfl]]);have e2:=zh (show(dH rs ts i e n++(List.range' (i+1) d).flatMap (uW rs ts i e n u)).length+(kM n i (dx rs (aX rs ts i (i+1+d)) u.left) (dx rs (aX rs ts ((i+1+d)+1) e) u.right)).length<=3000000000000 by
     have J:(List.range' (i+1) (d+1)).flatMap (uW rs ts i e n u)=(List.range' (i+1) d).flatMap (uW rs ts i e n u)++(kM n i (dx rs (aX rs ts i (i+1+d)) u.left) (dx rs (aX rs ts ((i+1+d)+1) e) u.right)):=by rw[DC,show uW rs ts i e n u (i+1+d)=(kM n i (dx rs (aX rs ts i (i+1+d)) u.left) (dx rs (aX rs ts ((i+1+d)+1) e) u.right)) from by unfold uW;rw[Y.o,a0,ak rfl]]
     have b3:=Qm (g:=uW rs ts i e n u) (a:=i+1) (t:=d+1) (N:=e -1 -(i+1)) aa;rw[J,aO] at b3;have e3:=Ho (rs:=rs) (ts:=ts) (n:=n+1) a6.o aa;rw[b9.o,c3.o,aO] at e3;have B4:=xV O.o P (i:=i) E.o;rw[aO];omega)
    have c5:=ah ((aX rs ts i (i+1+d)).length<=100000000) (ax (xV O.o P (i:=i) (j:=(i+1+d)) (av E.o)) aa);have e4:=ah ((aX rs ts ((i+1+d)+1) e).length<=100000000) (ax (xV O.o P (i:=(i+1+d)+1) E.o) aa);have e5:=ah ((dx rs (aX rs ts i (i+1+d)) u.left).length<=100000000) (ax AQ c5.o);have e6:=ah ((dx rs (aX rs ts i (i+1+d)) u.left).length*(dx rs (aX rs ts ((i+1+d)+1) e) u.right).length+(dx rs (aX rs ts ((i+1+d)+1) e) u.right).length<=3000000000000) (Ql (ax AQ (xV O.o P (av E.o))) (ax AQ (xV O.o P E.o)));have c6:=zh (λ(l:World) (o:Below w.heap.size w l)=>b8.o i (i+1+d) l (aV b7.o a6.o) (av E.o) (a8.o.keep o) (a7.o.keep o));have c7:=zh (λ(l:World) (o:Below w.heap.size w l)=>b8.o ((i+1+d)+1) e l (aV b7.o a6.o) E.o (a8.o.keep o) (a7.o.keep o));have c8:=zh (a8.o.keep r.o);clear a0 Y;go_upto_region 16 with(fail)
    refine Nu (X:=GA) bS [true,false,false,false,false,false,false,false,false,false,false,false,false,false,false,false,false,false,false,false,false,false,false,false,false] _ (λm=>[u9,qI (↑n),qI (↑i),ay C rs.length B,ay C rs.length B,ay V ts.length U,qI (↑i),qI (↑(i+1+d)),m.a,aR M (4),qI u.left,m.b,ay C rs.length B,ay C rs.length B,ay V ts.length U,qI (↑(i+1+d)),qI ((↑(i+1+d))+1),qI (↑e),m.c,aR M (5),qI u.right,m.d,m.e,m.f,m.f]) [true,true,true,true,true,true,true,true,true,true,true,true,true,true,true,true,true,true,true,true,true,true,true,true,true] [8,11,18,21,22,23] (dC w Z u9 (aX rs ts i (i+1+d)) (dx rs (aX rs ts i (i+1+d)) u.left) (aX rs ts ((i+1+d)+1) e) (dx rs (aX rs ts ((i+1+d)+1) e) u.right) (kM n i (dx rs (aX rs ts i (i+1+d)) u.left) (dx rs (aX rs ts ((i+1+d)+1) e) u.right)) (dH rs ts i e n++(List.range' (i+1) d).flatMap (uW rs ts i e n u))) ⟨.nilFunc,.nilFunc,.nilFunc,.nilFunc,.nilFunc,.nilFunc⟩ bS (λm=>by simp[fin,mX,fK,List.range,List.range.loop,Act.put];rfl) (λ_=>bS) bS dC.start ?_ ?_
    ·refine⟨jS,jS,jS,jS,jS,jS,jS,jS,λL m l A o q k=>?_,λL m l A o q k=>?_,λL m l A o q k=>?_,λL m l A o q k=>?_,jS,jS,jS,jS,λL m l A o q k=>?_,jS,λL m l A o q k=>?_,λL m l A o q k=>?_,λL m l A o q k=>?_,λL m l A o q k=>?_,λL m l A o q k=>?_,λL m l A o q k=>?_,jS,trivial⟩
     ·have p:L 23=false:=q 23 bS;have z:=k.below (congrArg some p);refine jc 168 (#[ay C rs.length B,ay V ts.length U,qI (↑i),qI ((i+1+d:Nat):Int)]) l bS ((c6.o l (r.o.trans (z.mono r.o.size))).mono ?_);rintro a1 a2 ⟨v,rfl,G,H⟩;exact⟨_,rfl,{m with a:=v},rfl,jD,dC.s0 p k H G⟩
     ·exact jq (aR M (4)) l iw rfl k
     ·have p:L 23=false:=q 23 bS;have z:=k.below (congrArg some p);have b4:=(ae z F.o).cell 4;exact jq (qI u.left) l (bT b4) rfl k
     ·have p:L 23=false:=q 23 bS;have z:=k.below (congrArg some p);have Q:L 8=true:=o 8 bS;obtain⟨R,a3,S,a4,a5,T⟩:=m;obtain⟨I,D,K,J⟩:=dC.list ((k.1 (congrArg some p)).2.1 (congrArg some Q)) (λb h=>h);obtain rfl:R=_:=K;refine jc 189 (#[ay C rs.length B,.slice I (aX rs ts i (i+1+d)).length D,qI u.left]) l bS ((Dz (λb=>Z.heap.size<=b) (some C) I B D rs (aX rs ts i (i+1+d)) u.left l (c8.o.keep z) J (λx b5=>(CQ b5).2) c5.o).mono ?_);rintro a1 a2 ⟨v,rfl,G,H⟩;exact⟨_,rfl,⟨_,v,S,a4,a5,T⟩,rfl,jD,dC.s1 p k H G⟩
     ·skip
      exact jq (qI ((↑(i+1+d))+1)) l (by simp[go_sem,evAct];exact lc _ aa) rfl k
     ·have p:L 23=false:=q 23 bS;have z:=k.below (congrArg some p);refine jc 168 (#[ay C rs.length B,ay V ts.length U,qI ((i+1+d+1:Nat):Int),qI (↑e)]) l bS ((c7.o l (r.o.trans (z.mono r.o.size))).mono ?_);rintro a1 a2 ⟨v,rfl,G,H⟩;exact⟨_,rfl,{m with c:=v},rfl,jD,dC.s2 p k H G⟩
     ·exact jq (aR M (5)) l iw rfl k
     ·have p:L 23=false:=q 23 bS;have z:=k.below (congrArg some p);have b4:=(ae z F.o).cell 5;exact jq (qI u.right) l (bT b4) rfl k
     ·have p:L 23=false:=q 23 bS;have z:=k.below (congrArg some p);have Q:L 18=true:=o 18 bS;obtain⟨R,a3,S,a4,a5,T⟩:=m;obtain⟨I,D,K,J⟩:=dC.list ((k.1 (congrArg some p)).2.2.2.1 (congrArg some Q)) (λb h=>h);obtain rfl:S=_:=K;refine jc 189 (#[ay C rs.length B,.slice I (aX rs ts ((i+1+d)+1) e).length D,qI u.right]) l bS ((Dz (λb=>Z.heap.size<=b) (some C) I B D rs (aX rs ts ((i+1+d)+1) e) u.right l (c8.o.keep z) J (λx b5=>(CQ b5).2) e4.o).mono ?_);rintro a1 a2 ⟨v,rfl,G,H⟩;exact⟨_,rfl,⟨R,a3,_,v,a5,T⟩,rfl,jD,dC.s3 p k H G⟩
     ·have p:L 23=false:=q 23 bS;have z:=k.below (congrArg some p);have Q:L 11=true:=o 11 bS;have e7:L 21=true:=o 21 bS;obtain⟨R,a3,S,a4,a5,T⟩:=m;obtain⟨I,D,K,J⟩:=dC.list ((k.1 (congrArg some p)).2.2.1 (congrArg some Q)) (λb h=>h);obtain⟨c9,d0,c0,b3⟩:=dC.list ((k.1 (congrArg some p)).2.2.2.2.1 (congrArg some e7)) (λb h=>h);obtain rfl:a3=_:=K;obtain rfl:a4=_:=c0;refine jc 188 (#[qI (↑n),qI (↑i),.slice I (dx rs (aX rs ts i (i+1+d)) u.left).length D,.slice c9 (dx rs (aX rs ts ((i+1+d)+1) e) u.right).length d0]) l bS ((Qj (λb=>Z.heap.size<=b) I c9 D d0 n i (dx rs (aX rs ts i (i+1+d)) u.left) (dx rs (aX rs ts ((i+1+d)+1) e) u.right) l J b3 e6.o e5.o).mono ?_);rintro a1 a2 ⟨v,rfl,G,H⟩;exact⟨_,rfl,⟨R,_,S,_,v,T⟩,rfl,jD,dC.s4 p k H G⟩
     ·have p:L 23=false:=A;have e8:L 8=true:=o 8 bS;have e9:L 11=true:=o 11 bS;have f0:L 18=true:=o 18 bS;have f1:L 21=true:=o 21 bS;have f2:L 22=true:=o 22 bS;simp only[List.map,p,e8,e9,f0,f1,f2] at k⊢;refine dC.append (.tmp 66) (.tmp 88) rfl d2 d3 d4 d5 bS bS k y.o r.o e2.o ?_;intro f3 w' f4;exact⟨{m with f:=f3},rfl,jD,f4⟩
    ·intro m l k;have k:=k.2 rfl;have y:=zh k.1;have r:=zh k.2.1;have b6:=zh (k.2.2 _ _ _ F.o W.o);have F:=zh b6.o.1;have W:=zh b6.o.2;clear k b6 c6 c7;rw[<-b2.o] at y;generalize m.f=B5 at*;go_wp2;go_roundw
     case rel=>exact⟨d+1,aa,bi,y,r,F,W⟩
     case measure=>simp[intOf];omega
  ·obtain rfl:d=e -1 -(i+1):=by omega
   have e0:¬((i+1+(e -1 -(i+1)):Nat):Int)<(e:Int) -1:=aa
   have f5:=ah (dH rs ts i e (n+1)=dH rs ts i e n++(List.range' (i+1) (e -1 -(i+1))).flatMap (uW rs ts i e n u)) (by rw[b9.o,c3.o]);rw[<-f5.o] at y;go_wp2;go_roundw
   case rel=>exact⟨n+1,aa,bi,y,r⟩
   case measure=>simp[intOf];omega
def YR:ER.b:=by
 intro E a2 rs ts a3 g1 a4 g2 i d w a5 O d4 s a6 a7 g3 g4 g5 g6 a8 _ wc g7 g8 g9 h0 h1 h2 h3 h4 h5 h6 h7 h8 h9 i0 i1 i2 i3 i4 i5 i6 i7 i8 wr u9 i9 j0 j1 u14 j2 j3 j4 j5 j6 j7 j8 j9 k0 k1 k2 k3 k4 k5 k6 k7 k8 k9 l0 l1 l2 l3 l4 l5 l6 l7 l8 l9 m0 m1 m2 m3 m4 m5 m6 m7 m8 m9 n0 n1 n2 n3 n4 n5 n6 n7 n8 n9 o0 o1 o2 o3 o4 o5 o6 o7 o8 o9 p0 p1 p2 p3 p4 p5 p6 p7 p8 p9 q0 q1 q2 q3 q4 q5 q6 q7 q8 q9 r0 r1 r2 r3 r4 r5 r6 r7 r8 r9 s0 s1 s2 s3 s4 s5 s6 s7 s8 s9 t0 t1 t2 t3 t4 t5 t6 t7 t8 t9 v0 v1 v2 v3 v4 v5 v6 v7 v8 v9 w0 w1 w2 w3 w4 w5 w6 w7 w8 w9 x0 x1 x2 x3 x4 x5 x6 x7 x8 x9 y0 y1 y2 y3 y4 y5 y6 y7 y8 y9 z0 z1 z2 z3 z4 z5 z6 z7 z8 z9 A0 A1 A2 n A3 _ _ A4 u _ F a9 d5 d6 b0 A5 A6 I A7 A8 d7 g f d8 A9 d9 G B0 b1 P;obtain⟨e0,e1,e2,e3,e4⟩:=info_parts zJ;have b2:=zh (YJ (ts:=ts) (i:=i) (j:=d) d6.o P);have B1:(u.kind==1)=false:=bn b1;have B2:(u.kind==2)=true:=aT.2 P;obtain⟨e5,B3,b3,e6,e7⟩:=(a7.o.keep f.o) i s a8.o;obtain rfl:=sj b3;have Q:=ah (ed ts i u.sym.toList=(s.toList==u.sym.toList)) (by unfold ed;rw[a8.o]);have J:=G.o.cell 1;clear b3 e5 e6 b1 P;go_upto_region 18 with(fail)
 go_quiet (fail)
 have g:=zh (g.o.keep (below_drewN (aL _ _) nq));have f:=zh (below_drewN f.o nq);have G:=zh (au.drewN G.o nq);generalize d7.drewN nq=R at*;clear e7 J;cases S:(s.toList==u.sym.toList)
 ·have T:=ah (dH rs ts i d (n+1)=dH rs ts i d n) (by rw[b0.o,b2.o,Q.o,S];simp);rw[<-T.o] at g;go_wp2;go_roundw
  case rel=>exact⟨n+1,aa,bi,g,f⟩
  case measure=>simp[intOf];omega
 ·have T:=ah (dH rs ts i d (n+1)=dH rs ts i d n++kI n i (dx rs (aX rs ts (i+1) d) u.right)) (by rw[b0.o,b2.o,Q.o,S,ak rfl]);have b4:=zh (λ(k:World) (p:Below w.heap.size w k)=>d5.o (i+1) d k (aV d4.o a5.o) (O.o) (a9.o.keep p) (a7.o.keep p));have b5:=zh (a9.o.keep f.o);have U:=ah ((aX rs ts (i+1) d).length<=100000000) (ax (xV a3.o a4 O.o) aa);clear S Q;go_upto_region 19 with(fail)
  refine xX (X:=GA) bS _ (λo=>[ay F rs.length E,ay F rs.length E,ay a6 ts.length a2,qI (↑i),qI ((↑i)+1),qI (↑d),o.a,aR d8 (5),qI u.right,o.b,o.b]) [true,true,true,true,true,true,true,true,true,true,true] [6,9] (λL e8 k=>dC w R u9 (aX rs ts (i+1) d) (dx rs (aX rs ts (i+1) d) u.right) [] [] [] [] (L++[false,false,false,false]) e8 k) ⟨.nilFunc,.nilFunc,.nilFunc,.nilFunc,.nilFunc,.nilFunc⟩ bS (λo=>by simp[fin,mX,fK,List.range,List.range.loop,Act.put];rfl) (λ_=>bS) bS dC.start ?_ ?_
  ·refine⟨jS,jS,jS,jS,λL o k V p W l=>?_,jS,λL o k V p W l=>?_,jT,λL o k V p W l=>?_,λL o k V p W l=>?_,jS,trivial⟩
   ·skip
    exact jq (qI ((↑i)+1)) k (by simp[go_sem];exact lc _ aa) rfl l
   ·have H:=l.below rfl;refine jc 168 (#[ay F rs.length E,ay a6 ts.length a2,qI ((i+1:Nat):Int),qI (↑d)]) k bS ((b4.o k (f.o.trans (H.mono f.o.size))).mono ?_);rintro e e9 ⟨v,rfl,B,Y⟩;exact⟨_,rfl,{o with a:=v},rfl,jD,dC.s0 rfl l Y B⟩
   ·have H:=l.below rfl;have f0:=(ae H G.o).cell 5;exact jq (qI u.right) k (bE f0) rfl l
   ·have H:=l.below rfl;have f1:L 6=true:=p 6 bS;obtain⟨b6,b7,b8,b9,c0,c1⟩:=o;obtain⟨c2,J,I,f2⟩:=dC.list ((l.1 rfl).2.1 (congrArg some f1)) (λb h=>h);obtain rfl:b6=_:=I;refine jc 189 (#[ay F rs.length E,.slice c2 (aX rs ts (i+1) d).length J,qI u.right]) k bS ((Dz (λb=>R.heap.size<=b) (some F) c2 E J rs (aX rs ts (i+1) d) u.right k (b5.o.keep H) f2 (λx C=>(CQ C).2) U.o).mono ?_);rintro e e9 ⟨v,rfl,B,Y⟩;exact⟨_,rfl,⟨_,v,b8,b9,c0,c1⟩,rfl,jD,dC.s1 rfl l Y B⟩
  ·intro o k l;have K:=l.1 rfl;obtain⟨b6,b7,b8,b9,c0,c1⟩:=o;obtain⟨f3,q,I,f4,B4,Z⟩:=(K.2.2.1 rfl).form (λb h=>h);obtain rfl:b7=_:=I;have c3:=ah (∀b,u9.ownBlock=some b->b<R.heap.size) (λb p=>(bM.lt g.o b p).2);have c4:=zh f.o.size;have g:=zh (g.o.keep K.1);have f:=zh (f.o.trans (K.1.mono f.o.size));have y:=zh (Z.any (ok':=λb=>u9.ownBlock≠some b/\w.heap.size<=b) λb _ h=>⟨λe=>av (c3.o b e),ax c4.o h⟩);have f5:=ah ((dx rs (aX rs ts (i+1) d) u.right).length<=100000000) (ax AQ U.o);clear l K Z b4 U c3 c4 b5 G d9;generalize (dx rs (aX rs ts (i+1) d) u.right)=m at*;dsimp only;have f6:=ah (dH rs ts i d n=dH rs ts i d n++kI n i (m.take 0)) (by simp[kI]);rw[f6.o] at g;have B5:m.length<=100000000:=f5.o;have B6:=f4;go_wp2_with fail
   go_loopw [9,14] (λv t wr=>∃c:Nat,c<=m.length/\t=qI c/\Hy (bM (λb=>w.heap.size<=b) wr w.heap.size v (dH rs ts i d n++kI n i (m.take c)))/\Hy (Below w.heap.size w wr)/\Hy (iE (λb=>v.ownBlock≠some b/\w.heap.size<=b) wr f3 m)) (λ_ t _=>m.length -(intOf t).toNat)
   case atStart=>exact⟨0,aa,rfl,g,f,y⟩
   case round=>
    clear g f y;obtain⟨c,B7,rfl,g,f,y⟩:=hrel
    by_cases f7:c<m.length
    ·obtain⟨x,C⟩:∃x,m[c]?=some x:=⟨_,gE f7⟩
     obtain⟨z,rfl,B8,f8,_⟩:=y.o c x C;have c5:=zh (Qk (r:=n) (a:=i) C);have f9:=ah (dH rs ts i d n++kI n i (m.take (c+1))=(dH rs ts i d n++kI n i (m.take c))++[.mk n i [x]]) (by rw[c5.o,cu]);have g0:=zh (show(dH rs ts i d n++kI n i (m.take c)).length<=3000000000000 by
      have Z:=Ho (rs:=rs) (ts:=ts) (n:=n) a5.o aa;have B9:=xV a3.o a4 (i:=i) O.o;rw[aO];unfold kI;rw[dI,eU];omega)
     have c6:=zh (y.o.one C);have C0:(0:Int)<=(c:Int):=aa
     have C1:(c:Int)<=(c:Int)+1:=aa
     have C2:(c:Int)+1<=(q:Int):=aa
     have C3:¬q=c:=aa
     clear C f8 c5;generalize dH rs ts i d n++kI n i (m.take c)=C4 at*;have C5:=g0.o;have D:=aN wr (.cells (dw n i (some (z.add (c*3))) 1 (q -c)) 139);have c7:=zh (au.new wr 139 (dw n i (some (z.add (c*3))) 1 (q -c)));have a0:=dS.of (ok:=λb=>u9.ownBlock≠some b/\w.heap.size<=b) (w:=wr.alloc (.cells (dw n i (some (z.add (c*3))) 1 (q -c)) 139)) (r:=n) (a:=i) (ks:=[x]) (A:=some (z.add (c*3))) (cap:=q -c) (by show 1<=_;omega) aa (c6.o.keep D);obtain⟨C6,B,c8,c9⟩:=g.o.keep D;have a1:w.heap.size<=(wr.alloc (.cells (dw n i (some (z.add (c*3))) 1 (q -c)) 139)).heap.size:=ax f.o.size D.size;have d0:=zh (y.o.keep D);have d1:=jt f D;have d2:∀b,u9.ownBlock=some b->w.heap.size<=b:=λb p=>(bM.lt g.o b p).1
     clear D g y c6 f;go_wp2_with (at_builtin;refine uG _ rfl (.tmp 115) (.tmp 124) 119 rfl w.heap.size 139 e0 (.agg #[qI 0,qI 0,qN]) 3 40 underlying119 e1 e2 e3 e4 rfl aI _ _ _ rfl B (wr.heap.size+1) (some (ag wr.heap.size (0))) 1 1 (dw n i (some (z.add (c*3))) 1 (q -c)).toList rfl (by have:=vF c7.o rfl;rw[dY] at this;exact this) (Aj a0) gy aa a1 ?_);intro C7 w' d3 M N;rw[<-dY wr (.cells (dw n i (some (z.add (c*3))) 1 (q -c)) 139)] at N;have g:=zh (bM.push c8 c9 a0 d3 M N);rw[<-f9.o] at g;have f:=zh (d1.o.grown M a1 d2);have y:=zh (iE.push d0.o M N);clear B c8 c9 d3 M N a0 a1 d2 d0 d1 c7;go_wp2;go_roundw
     case rel=>exact⟨c+1,aa,bi,g,f,y⟩
     case measure=>simp[intOf];omega
    ·obtain rfl:c=m.length:=by omega
     rw[fA (aH _),<-T.o] at g;go_wp2;go_roundw
     case rel=>exact⟨n+1,aa,bi,g,f⟩
     case measure=>simp[intOf];omega
def YS:ER.c:=by
 intro D a7 rs ts a8 g7 a9 g8 i g w P E d9 s b0 b1 g9 h0 h1 h2 Q _ wc h3 h4 h5 h6 h7 h8 h9 i0 i1 i2 i3 i4 i5 i6 i7 i8 i9 j0 j1 j2 j3 j4 wr u9 j5 j6 j7 j8 j9 u16 k0 k1 k2 k3 k4 k5 k6 k7 k8 k9 l0 l1 l2 l3 l4 l5 l6 l7 l8 l9 m0 m1 m2 m3 m4 m5 m6 m7 m8 m9 n0 n1 n2 n3 n4 n5 n6 n7 n8 n9 o0 o1 o2 o3 o4 o5 o6 o7 o8 o9 p0 p1 p2 p3 p4 p5 p6 p7 p8 p9 q0 q1 q2 q3 q4 q5 q6 q7 q8 q9 r0 r1 r2 r3 r4 r5 r6 r7 r8 r9 s0 s1 s3 s4 s5 s6 s7 s8 s9 t0 t1 t2 t3 t4 t5 t6 t7 t8 t9 v0 v1 v2 v3 v4 v5 v6 v7 v8 v9 w0 w1 w2 w3 w4 w5 w6 w7 w8 w9 x0 x1 x2 x3 x4 x5 x6 x7 x8 x9 y0 y1 y2 y3 y4 y5 y6 y7 y8 y9 z0 z1 z2 z3 z4 z5 z6 z7 z8 z9 A0 A1 A2 A3 A4 A5 A6 A7 A8 A9 n B0 _ _ B1 u _ F b2 e0 e1 b3 B2 B3 J B4 B5 e2 f e e3 B6 e4 G B7 b4 b5 R;obtain⟨e5,e6,e7,e8,e9⟩:=info_parts zJ;have H:=zh (YK (ts:=ts) (i:=i) (j:=g) e1.o R);have B8:(u.kind==1)=false:=bn b4;have B9:(u.kind==2)=false:=bn b5;have C0:(u.kind==3)=true:=aT.2 R;obtain⟨d,b6⟩:∃d:Nat,g=d+1:=⟨g -1,av P.o⟩
 have f0:(g:Int) -1=(d:Int):=aa
 have S:=zh b6;have H:=zh (H.o);rw[show g -1=d from aa] at H;obtain⟨s2,b7⟩:∃s2,ts[d]?=some s2:=⟨_,gE (av E.o)⟩
 have Q:=zh b7;have C1:(d:Int)<(ts.length:Int):=av E.o
 have C2:(0:Int)<=(d:Int):=aa
 clear b6 b7;obtain⟨f1,C3,b8,f2,f3⟩:=(b1.o.keep e.o) d s2 Q.o;obtain rfl:=sj b8;have T:=ah (ed ts d u.sym.toList=(s2.toList==u.sym.toList)) (by unfold ed;rw[Q.o]);have K:=G.o.cell 1;clear b8 f1 f2 b4 b5 R;go_upto_region 25 with(fail)
 go_quiet (fail)
 have f:=zh (f.o.keep (below_drewN (aL _ _) nq));have e:=zh (below_drewN e.o nq);have G:=zh (au.drewN G.o nq);generalize e2.drewN nq=U at*;clear f3 K;cases V:(s2.toList==u.sym.toList)
 ·have W:=ah (dH rs ts i g (n+1)=dH rs ts i g n) (by rw[b3.o,H.o,T.o,V];simp);rw[<-W.o] at f;go_wp2;go_roundw
  case rel=>exact⟨n+1,aa,bi,f,e⟩
  case measure=>simp[intOf];omega
 ·have W:=ah (dH rs ts i g (n+1)=dH rs ts i g n++kI n i (dx rs (aX rs ts i d) u.left)) (by rw[b3.o,H.o,T.o,V,ak rfl]);have b9:=zh (λ(k:World) (p:Below w.heap.size w k)=>e0.o i d k (fD d9.o P.o S.o) (aV E.o S.o) (b2.o.keep p) (b1.o.keep p));have c0:=zh (b2.o.keep e.o);have Y:=ah ((aX rs ts i d).length<=100000000) (ax (xV a8.o a9 (aV E.o S.o)) aa);clear V T;go_upto_region 26 with(fail)
  refine xX (X:=GA) bS _ (λo=>[ay F rs.length D,ay F rs.length D,ay b0 ts.length a7,qI (↑i),qI (↑g),qI (↑d),o.a,aR e3 (4),qI u.left,o.b,o.b]) [true,true,true,true,true,true,true,true,true,true,true] [6,9] (λL f4 k=>dC w U u9 (aX rs ts i d) (dx rs (aX rs ts i d) u.left) [] [] [] [] (L++[false,false,false,false]) f4 k) ⟨.nilFunc,.nilFunc,.nilFunc,.nilFunc,.nilFunc,.nilFunc⟩ bS (λo=>by simp[fin,mX,fK,List.range,List.range.loop,Act.put];rfl) (λ_=>bS) bS dC.start ?_ ?_
  ·refine⟨jS,jS,jS,jS,jS,λL o k Z p a0 l=>?_,λL o k Z p a0 l=>?_,jT,λL o k Z p a0 l=>?_,λL o k Z p a0 l=>?_,jS,trivial⟩
   ·skip
    exact jq (qI (↑d)) k (by simp[go_sem,f0];exact lc _ aa) rfl l
   ·have I:=l.below rfl;refine jc 168 (#[ay F rs.length D,ay b0 ts.length a7,qI (↑i),qI (↑d)]) k bS ((b9.o k (e.o.trans (I.mono e.o.size))).mono ?_);rintro a1 f5 ⟨v,rfl,z,a2⟩;exact⟨_,rfl,{o with a:=v},rfl,jD,dC.s0 rfl l a2 z⟩
   ·have I:=l.below rfl;have f6:=(ae I G.o).cell 4;exact jq (qI u.left) k (bE f6) rfl l
   ·have I:=l.below rfl;have f7:L 6=true:=p 6 bS;obtain⟨c1,c2,c3,c4,c5,c6⟩:=o;obtain⟨c7,K,J,f8⟩:=dC.list ((l.1 rfl).2.1 (congrArg some f7)) (λb h=>h);obtain rfl:c1=_:=J;refine jc 189 (#[ay F rs.length D,.slice c7 (aX rs ts i d).length K,qI u.left]) k bS ((Dz (λb=>U.heap.size<=b) (some F) c7 D K rs (aX rs ts i d) u.left k (c0.o.keep I) f8 (λx B=>(CQ B).2) Y.o).mono ?_);rintro a1 f5 ⟨v,rfl,z,a2⟩;exact⟨_,rfl,⟨_,v,c3,c4,c5,c6⟩,rfl,jD,dC.s1 rfl l a2 z⟩
  ·intro o k l;have M:=l.1 rfl;obtain⟨c1,c2,c3,c4,c5,c6⟩:=o;obtain⟨f9,q,J,g0,C4,a3⟩:=(M.2.2.1 rfl).form (λb h=>h);obtain rfl:c2=_:=J;have c8:=ah (∀b,u9.ownBlock=some b->b<U.heap.size) (λb p=>(bM.lt f.o b p).2);have c9:=zh e.o.size;have f:=zh (f.o.keep M.1);have e:=zh (e.o.trans (M.1.mono e.o.size));have t:=zh (a3.any (ok':=λb=>u9.ownBlock≠some b/\w.heap.size<=b) λb _ h=>⟨λa1=>av (c8.o b a1),ax c9.o h⟩);have g1:=ah ((dx rs (aX rs ts i d) u.left).length<=100000000) (ax AQ Y.o);clear l M a3 b9 Y c8 c9 c0 G e4;generalize (dx rs (aX rs ts i d) u.left)=m at*;dsimp only;have g2:=ah (dH rs ts i g n=dH rs ts i g n++kI n i (m.take 0)) (by simp[kI]);rw[g2.o] at f;have C5:m.length<=100000000:=g1.o;have C6:=g0;go_wp2_with fail
   go_loopw [9,16] (λv a4 wr=>∃c:Nat,c<=m.length/\a4=qI c/\Hy (bM (λb=>w.heap.size<=b) wr w.heap.size v (dH rs ts i g n++kI n i (m.take c)))/\Hy (Below w.heap.size w wr)/\Hy (iE (λb=>v.ownBlock≠some b/\w.heap.size<=b) wr f9 m)) (λ_ a4 _=>m.length -(intOf a4).toNat)
   case atStart=>exact⟨0,aa,rfl,f,e,t⟩
   case round=>
    clear f e t;obtain⟨c,C7,rfl,f,e,t⟩:=hrel
    by_cases g3:c<m.length
    ·obtain⟨x,B⟩:∃x,m[c]?=some x:=⟨_,gE g3⟩
     obtain⟨y,rfl,C8,g4,_⟩:=t.o c x B;have d0:=zh (Qk (r:=n) (a:=i) B);have g5:=ah (dH rs ts i g n++kI n i (m.take (c+1))=(dH rs ts i g n++kI n i (m.take c))++[.mk n i [x]]) (by rw[d0.o,cu]);have g6:=zh (show(dH rs ts i g n++kI n i (m.take c)).length<=3000000000000 by
      have a3:=Ho (rs:=rs) (ts:=ts) (n:=n) P.o aa;have C9:=xV a8.o a9 (i:=i) E.o;rw[aO];unfold kI;rw[dI,eU];omega)
     have d1:=zh (t.o.one B);have D0:(0:Int)<=(c:Int):=aa
     have D1:(c:Int)<=(c:Int)+1:=aa
     have D2:(c:Int)+1<=(q:Int):=aa
     have D3:¬q=c:=aa
     clear B g4 d0;generalize dH rs ts i g n++kI n i (m.take c)=D4 at*;have D5:=g6.o;have C:=aN wr (.cells (dw n i (some (y.add (c*3))) 1 (q -c)) 139);have d2:=zh (au.new wr 139 (dw n i (some (y.add (c*3))) 1 (q -c)));have a5:=dS.of (ok:=λb=>u9.ownBlock≠some b/\w.heap.size<=b) (w:=wr.alloc (.cells (dw n i (some (y.add (c*3))) 1 (q -c)) 139)) (r:=n) (a:=i) (ks:=[x]) (A:=some (y.add (c*3))) (cap:=q -c) (by show 1<=_;omega) aa (d1.o.keep C);obtain⟨D6,z,d3,d4⟩:=f.o.keep C;have a6:w.heap.size<=(wr.alloc (.cells (dw n i (some (y.add (c*3))) 1 (q -c)) 139)).heap.size:=ax e.o.size C.size;have d5:=zh (t.o.keep C);have d6:=jt e C;have d7:∀b,u9.ownBlock=some b->w.heap.size<=b:=λb p=>(bM.lt f.o b p).1
     clear C f t d1 e;go_wp2_with (at_builtin;refine uG _ rfl (.tmp 152) (.tmp 161) 119 rfl w.heap.size 139 e5 (.agg #[qI 0,qI 0,qN]) 3 40 underlying119 e6 e7 e8 e9 rfl aI _ _ _ rfl z (wr.heap.size+1) (some (ag wr.heap.size (0))) 1 1 (dw n i (some (y.add (c*3))) 1 (q -c)).toList rfl (by have:=vF d2.o rfl;rw[dY] at this;exact this) (Aj a5) gy aa a6 ?_);intro D7 w' d8 N O;rw[<-dY wr (.cells (dw n i (some (y.add (c*3))) 1 (q -c)) 139)] at O;have f:=zh (bM.push d3 d4 a5 d8 N O);rw[<-g5.o] at f;have e:=zh (d6.o.grown N a6 d7);have t:=zh (iE.push d5.o N O);clear z d3 d4 d8 N O a5 a6 d7 d5 d6 d2;go_wp2;go_roundw
     case rel=>exact⟨c+1,aa,bi,f,e,t⟩
     case measure=>simp[intOf];omega
    ·obtain rfl:c=m.length:=by omega
     rw[fA (aH _),<-W.o] at f;go_wp2;go_roundw
     case rel=>exact⟨n+1,aa,bi,f,e⟩
     case measure=>simp[intOf];omega
def YT:ER.d:=by
 intro A V rs ts O f0 P f1 i k w W I b1 s Y b2 f2 f3 f4 f5 f6 _ wc f7 f8 f9 g0 g1 g2 g3 g4 g5 g6 g7 g8 g9 h0 h1 h2 h3 h4 h5 h6 h7 h8 wr u9 h9 i0 i1 i2 i3 i4 u17 i5 i6 i7 i8 i9 j0 j1 j2 j3 j4 j5 j6 j7 j8 j9 k0 k1 k2 k3 k4 k5 k6 k7 k8 k9 l0 l1 l2 l3 l4 l5 l6 l7 l8 l9 m0 m1 m2 m3 m4 m5 m6 m7 m8 m9 n0 n1 n2 n3 n4 n5 n6 n7 n8 n9 o0 o1 o2 o3 o4 o5 o6 o7 o8 o9 p0 p1 p2 p3 p4 p5 p6 p7 p8 p9 q0 q1 q2 q3 q4 q5 q6 q7 q8 q9 r0 r1 r2 r3 r4 r5 r6 r7 r8 r9 s0 s1 s2 s3 s4 s5 s6 s7 s8 s9 t0 t1 t2 t3 t4 t5 t6 t7 t8 t9 v0 v1 v2 v3 v4 v5 v6 v7 v8 v9 w0 w1 w2 w3 w4 w5 w6 w7 w8 w9 x0 x1 x2 x3 x4 x5 x6 x7 x8 x9 y0 y1 y2 y3 y4 y5 y6 y7 y8 y9 z0 z1 z2 n z3 _ _ z4 u _ B a3 b3 c8 b4 z5 z6 K z7 b5 z8 C y M z9 b6 b7 A0 b8 b9 c0 a4;obtain⟨A1,c9,d0,d1,d2⟩:=info_parts zJ;have c1:=zh (YL (ts:=ts) (i:=i) (j:=k) c8.o a4);have A2:(u.kind==1)=false:=bn b8;have A3:(u.kind==2)=false:=bn b9;have A4:(u.kind==3)=false:=bn c0;have A5:(u.kind==4)=true:=aT.2 a4;have d3:=ah (dH rs ts i k n=dH rs ts i k n++(List.range' (i+1) 0).flatMap (sw rs ts i k n u)) aS;rw[d3.o] at C;clear b8 b9 c0 a4;go_wp2_with fail
 go_loopw [9,17] (λv a5 wr=>∃d:Nat,d<=k -(i+1)/\a5=qI ((i+1+d:Nat):Int)/\Hy (bM (λb=>w.heap.size<=b) wr w.heap.size v (dH rs ts i k n++(List.range' (i+1) d).flatMap (sw rs ts i k n u)))/\Hy (Below w.heap.size w wr)/\Hy (au wr M 41 u.c)/\Hy (v.ownBlock≠some M)) (λ_ a5 _=>k -(intOf a5).toNat)
 case atStart=>exact⟨0,aa,rfl,C,y,b7,b6⟩
 case round=>
  clear C y b7 b6;obtain⟨d,A6,rfl,C,y,Q,a6⟩:=hrel
  by_cases A7:d<k -(i+1)
  ·have d4:((i+1+d:Nat):Int)<(k:Int):=by omega
   have d5:=ah (dH rs ts i k n++(List.range' (i+1) (d+1)).flatMap (sw rs ts i k n u)=(dH rs ts i k n++(List.range' (i+1) d).flatMap (sw rs ts i k n u))++(kM n i (dx rs (aX rs ts i (i+1+d)) u.left) (dx rs (aX rs ts (i+1+d) k) u.right))) (by rw[DC,<-cu];rfl);have d6:=zh (show(dH rs ts i k n++(List.range' (i+1) d).flatMap (sw rs ts i k n u)).length+(kM n i (dx rs (aX rs ts i (i+1+d)) u.left) (dx rs (aX rs ts (i+1+d) k) u.right)).length<=3000000000000 by
    have J:(List.range' (i+1) (d+1)).flatMap (sw rs ts i k n u)=(List.range' (i+1) d).flatMap (sw rs ts i k n u)++(kM n i (dx rs (aX rs ts i (i+1+d)) u.left) (dx rs (aX rs ts (i+1+d) k) u.right)):=by rw[DC];rfl
    have a7:=Qm (g:=sw rs ts i k n u) (a:=i+1) (t:=d+1) (N:=k -(i+1)) aa;rw[J,aO] at a7;have d7:=Ho (rs:=rs) (ts:=ts) (n:=n+1) W.o aa;rw[b4.o,c1.o,aO] at d7;have A8:=xV O.o P (i:=i) I.o;rw[aO];omega)
   have c2:=ah ((aX rs ts i (i+1+d)).length<=100000000) (ax (xV O.o P (i:=i) (j:=(i+1+d)) (av I.o)) aa);have d8:=ah ((aX rs ts (i+1+d) k).length<=100000000) (ax (xV O.o P (i:=(i+1+d)) I.o) aa);have d9:=ah ((dx rs (aX rs ts i (i+1+d)) u.left).length<=100000000) (ax AQ c2.o);have e0:=ah ((dx rs (aX rs ts i (i+1+d)) u.left).length*(dx rs (aX rs ts (i+1+d) k) u.right).length+(dx rs (aX rs ts (i+1+d) k) u.right).length<=3000000000000) (Ql (ax AQ (xV O.o P (av I.o))) (ax AQ (xV O.o P I.o)));have c3:=zh (λ(m:World) (p:Below w.heap.size w m)=>b3.o i (i+1+d) m (aV b1.o W.o) (av I.o) (a3.o.keep p) (b2.o.keep p));have c4:=zh (λ(m:World) (p:Below w.heap.size w m)=>b3.o (i+1+d) k m (aV b1.o W.o) I.o (a3.o.keep p) (b2.o.keep p));have c5:=zh (a3.o.keep y.o);go_upto_region 35 with(fail)
   refine Nu (X:=GA) bS [true,false,false,false,false,false,false,false,false,false,false,false,false,false,false,false,false,false,false,false,false,false,false,false] _ (λo=>[u9,qI (↑n),qI (↑i),ay B rs.length A,ay B rs.length A,ay Y ts.length V,qI (↑i),qI (↑(i+1+d)),o.a,aR M (4),qI u.left,o.b,ay B rs.length A,ay B rs.length A,ay Y ts.length V,qI (↑(i+1+d)),qI (↑k),o.c,aR M (5),qI u.right,o.d,o.e,o.f,o.f]) [true,true,true,true,true,true,true,true,true,true,true,true,true,true,true,true,true,true,true,true,true,true,true,true] [8,11,17,20,21,22] (dC w wr u9 (aX rs ts i (i+1+d)) (dx rs (aX rs ts i (i+1+d)) u.left) (aX rs ts (i+1+d) k) (dx rs (aX rs ts (i+1+d) k) u.right) (kM n i (dx rs (aX rs ts i (i+1+d)) u.left) (dx rs (aX rs ts (i+1+d) k) u.right)) (dH rs ts i k n++(List.range' (i+1) d).flatMap (sw rs ts i k n u))) ⟨.nilFunc,.nilFunc,.nilFunc,.nilFunc,.nilFunc,.nilFunc⟩ bS (λo=>by simp[fin,mX,fK,List.range,List.range.loop,Act.put];rfl) (λ_=>bS) bS dC.start ?_ ?_
   ·refine⟨jS,jS,jS,jS,jS,jS,jS,jS,λL o m D p r l=>?_,λL o m D p r l=>?_,λL o m D p r l=>?_,λL o m D p r l=>?_,jS,jS,jS,jS,jS,λL o m D p r l=>?_,λL o m D p r l=>?_,λL o m D p r l=>?_,λL o m D p r l=>?_,λL o m D p r l=>?_,λL o m D p r l=>?_,jS,trivial⟩
    ·have q:L 22=false:=r 22 bS;have z:=l.below (congrArg some q);refine jc 168 (#[ay B rs.length A,ay Y ts.length V,qI (↑i),qI ((i+1+d:Nat):Int)]) m bS ((c3.o m (y.o.trans (z.mono y.o.size))).mono ?_);rintro e Z ⟨v,rfl,E,F⟩;exact⟨_,rfl,{o with a:=v},rfl,jD,dC.s0 q l F E⟩
    ·exact jq (aR M (4)) m iw rfl l
    ·have q:L 22=false:=r 22 bS;have z:=l.below (congrArg some q);have a8:=(ae z Q.o).cell 4;exact jq (qI u.left) m (bT a8) rfl l
    ·have q:L 22=false:=r 22 bS;have z:=l.below (congrArg some q);have R:L 8=true:=p 8 bS;obtain⟨S,a0,T,a1,a2,U⟩:=o;obtain⟨G,H,K,J⟩:=dC.list ((l.1 (congrArg some q)).2.1 (congrArg some R)) (λb h=>h);obtain rfl:S=_:=K;refine jc 189 (#[ay B rs.length A,.slice G (aX rs ts i (i+1+d)).length H,qI u.left]) m bS ((Dz (λb=>wr.heap.size<=b) (some B) G A H rs (aX rs ts i (i+1+d)) u.left m (c5.o.keep z) J (λx a9=>(CQ a9).2) c2.o).mono ?_);rintro e Z ⟨v,rfl,E,F⟩;exact⟨_,rfl,⟨_,v,T,a1,a2,U⟩,rfl,jD,dC.s1 q l F E⟩
    ·have q:L 22=false:=r 22 bS;have z:=l.below (congrArg some q);refine jc 168 (#[ay B rs.length A,ay Y ts.length V,qI ((i+1+d:Nat):Int),qI (↑k)]) m bS ((c4.o m (y.o.trans (z.mono y.o.size))).mono ?_);rintro e Z ⟨v,rfl,E,F⟩;exact⟨_,rfl,{o with c:=v},rfl,jD,dC.s2 q l F E⟩
    ·exact jq (aR M (5)) m iw rfl l
    ·have q:L 22=false:=r 22 bS;have z:=l.below (congrArg some q);have a8:=(ae z Q.o).cell 5;exact jq (qI u.right) m (bT a8) rfl l
    ·have q:L 22=false:=r 22 bS;have z:=l.below (congrArg some q);have R:L 17=true:=p 17 bS;obtain⟨S,a0,T,a1,a2,U⟩:=o;obtain⟨G,H,K,J⟩:=dC.list ((l.1 (congrArg some q)).2.2.2.1 (congrArg some R)) (λb h=>h);obtain rfl:T=_:=K;refine jc 189 (#[ay B rs.length A,.slice G (aX rs ts (i+1+d) k).length H,qI u.right]) m bS ((Dz (λb=>wr.heap.size<=b) (some B) G A H rs (aX rs ts (i+1+d) k) u.right m (c5.o.keep z) J (λx a9=>(CQ a9).2) d8.o).mono ?_);rintro e Z ⟨v,rfl,E,F⟩;exact⟨_,rfl,⟨S,a0,_,v,a2,U⟩,rfl,jD,dC.s3 q l F E⟩
    ·have q:L 22=false:=r 22 bS;have z:=l.below (congrArg some q);have R:L 11=true:=p 11 bS;have e1:L 20=true:=p 20 bS;obtain⟨S,a0,T,a1,a2,U⟩:=o;obtain⟨G,H,K,J⟩:=dC.list ((l.1 (congrArg some q)).2.2.1 (congrArg some R)) (λb h=>h);obtain⟨c6,c7,b5,a7⟩:=dC.list ((l.1 (congrArg some q)).2.2.2.2.1 (congrArg some e1)) (λb h=>h);obtain rfl:a0=_:=K;obtain rfl:a1=_:=b5;refine jc 188 (#[qI (↑n),qI (↑i),.slice G (dx rs (aX rs ts i (i+1+d)) u.left).length H,.slice c6 (dx rs (aX rs ts (i+1+d) k) u.right).length c7]) m bS ((Qj (λb=>wr.heap.size<=b) G c6 H c7 n i (dx rs (aX rs ts i (i+1+d)) u.left) (dx rs (aX rs ts (i+1+d) k) u.right) m J a7 e0.o d9.o).mono ?_);rintro e Z ⟨v,rfl,E,F⟩;exact⟨_,rfl,⟨S,_,T,_,v,U⟩,rfl,jD,dC.s4 q l F E⟩
    ·have q:L 22=false:=D;have e2:L 8=true:=p 8 bS;have e3:L 11=true:=p 11 bS;have e4:L 17=true:=p 17 bS;have e5:L 20=true:=p 20 bS;have e6:L 21=true:=p 21 bS;simp only[List.map,q,e2,e3,e4,e5,e6] at l⊢;refine dC.append (.tmp 172) (.tmp 193) rfl c9 d0 d1 d2 bS bS l C.o y.o d6.o ?_;intro e7 w' e8;exact⟨{o with f:=e7},rfl,jD,e8⟩
   ·intro o m l;have l:=l.2 rfl;have C:=zh l.1;have y:=zh l.2.1;have b0:=zh (l.2.2 _ _ _ Q.o a6.o);have Q:=zh b0.o.1;have a6:=zh b0.o.2;clear l b0 c3 c4;rw[<-d5.o] at C;generalize o.f=A9 at*;go_wp2;go_roundw
    case rel=>exact⟨d+1,aa,bi,C,y,Q,a6⟩
    case measure=>simp[intOf];omega
  ·obtain rfl:d=k -(i+1):=by omega
   have d4:¬((i+1+(k -(i+1)):Nat):Int)<(k:Int):=av W.o
   have e9:=ah (dH rs ts i k (n+1)=dH rs ts i k n++(List.range' (i+1) (k -(i+1))).flatMap (sw rs ts i k n u)) (by rw[b4.o,c1.o]);rw[<-e9.o] at C;go_wp2;go_roundw
   case rel=>exact⟨n+1,aa,bi,C,y⟩
   case measure=>simp[intOf];omega
def Qs (A T:Option Addr)(cap a:Nat)(rs:List aD)(ts:List ByteArray)(b:Hy (fZ rs=true))(c:rs.length<=64)(d:ts.length<=7):∀m:Nat,AR A T cap a rs ts m
 |0=>YP A T cap a rs ts
 |m+1=>Qr.o (λ_=>ER.o (λ_=>YQ) (λ_=>YR) (λ_=>YS) (λ_=>YT)) A T cap a rs ts b c d m (Qs A T cap a rs ts b c d m)
def YU (A T:Option Addr)(cap f:Nat)(rs:List aD)(ts:List ByteArray)(w:World)(g:fG w A rs)(h:uT w T ts)(i:rs.length<=1000000)(j:ts.length<=1000000):Calls prog 167 #[.slice A rs.length cap,.slice T ts.length f] w λe w'=>e= .returned (.bool (fZ rs&&qQ ts))/\Below w.heap.size w w':=by
 have k:=zh g;have c:=zh h;clear g h;go_enter func167,ntmps167;go_wp2_with fail;refine(xJ A cap rs _ k.o i).mono ?_;rintro e l ⟨rfl,a⟩;have b:=zh a;have c:=zh (c.o.keep a);clear a;cases q:fZ rs
 ·have d:=ah ((fZ rs&&qQ ts)=false) (by rw[q];rfl);clear q;go_wp2;go_ret;exact⟨by rw[d.o];rfl,b.o⟩
 ·have d:=ah ((fZ rs&&qQ ts)=qQ ts) (by rw[q];rfl);clear q;go_wp2_with fail;refine(Tn T f ts _ c.o j).mono ?_;rintro e m ⟨rfl,a⟩;have b:=jt b a;clear a;go_wp2;go_ret;exact⟨by rw[d.o];rfl,b.o⟩
def lD (rs:List aD)(ts:List ByteArray):List Rd:=if fZ rs&&qQ ts then aX rs ts 0 ts.length else[]
def YV (rs:List aD)(ts:List ByteArray)(w:World)(e:Ending)(w':World):Prop:=∃A cap,e= .returned (.tuple #[.slice A (lD rs ts).length cap,qI (wm rs ts)])/\(lD rs ts).length<=cap/\cap<=9223372036854775807/\iE (λb=>w.heap.size<=b) w' A (lD rs ts)/\Below w.heap.size w w'
def YW (A T:Option Addr)(cap g:Nat)(rs:List aD)(ts:List ByteArray)(w:World)(k:fG w A rs)(l:uT w T ts)(D:rs.length<=1000)(s:ts.length<=7):Calls prog 149 #[.slice A rs.length cap,.slice T ts.length g] w (YV rs ts w):=by
 have d:=zh k;have f:=zh l;clear k l;go_enter func149,ntmps149;go_wp2_with fail;refine(YU A T cap g rs ts _ d.o f.o aa aa).mono ?_;rintro e t ⟨rfl,a⟩;have i:=zh a;have f:=zh (f.o.keep a);have d:=zh (d.o.keep a);clear a;cases q:(fZ rs&&qQ ts)
 ·have c:=ah (lD rs ts=[]) (by unfold lD;rw[q];rfl);have j:=ah (wm rs ts=1) (by unfold wm;rw[q];rfl);clear q;go_wp2_with fail
  go_returns
  exact⟨none,0,by rw[c.o,j.o];rfl,by rw[c.o];exact aH _,aa,by rw[c.o];exact iE.nil _ _ _,i.o⟩
 ·have c:=ah (lD rs ts=aX rs ts 0 ts.length) (by unfold lD;rw[q];rfl);have j:=ah (wm rs ts=0) (by unfold wm;rw[q];rfl);have u:=zh (Qs A T cap g rs ts (zh (by rw[aM] at q;exact q.1)) (by rw[aM] at q;have:=q.1;unfold fZ at this;rw[aM] at this;exact bD this.1) s ts.length 0 ts.length t aa (aH _) d.o f.o);clear q;go_wp2_with fail;refine u.o.mono ?_;rintro e E ⟨v,rfl,m,a⟩;have x:=jt i a;have y:=zh i.o.size;obtain⟨z,B,rfl,n,o,p⟩:=bM.form m λb h=>h
  have C:=zh p;have r:=zh (And.intro n o);clear n o;clear m a p;go_wp2_with fail
  go_returns
  exact⟨z,B,by rw[c.o,j.o];rfl,by rw[c.o];exact r.o.1,r.o.2,by rw[c.o];exact C.o.any λb _ h=>ax y.o h,x.o⟩
end Ch
namespace El
open At Ch Sp Sy Go.RowKit
variable{rs:List aD}{f k i s B:Nat}{items its:List aG}{path:List Int}{ts:List ByteArray}{x:Rd}{n:aG}{op pre:Bool}{xs:List (List aC)}{pb:Nat->Bool}{w w':World}
def ES (rs:List aD)(n:aG):dN rs n true=qV rs n/\dN rs n false=none:=by
 constructor
 ·unfold dN qV
  by_cases h:n.kind=7\/n.kind=9
  ·rw[ak ⟨rfl,h⟩,ak h];cases n.kids with
   |nil=>rfl
   |cons a r=>cases r<;>rfl
  ·rw[ai (λe=>h e.2),ai h]
 ·unfold dN;rw[ai (λe=>by cases e.1)]
def YX (h:items.drop k=[]):dE rs (f+1) items path k= .bad 15 (path++[(k:Int)]):=by
 rw[dE];unfold xN;rw[ak (pF.1 h)]
def YY (a:items.drop k≠[])(h:jP rs (items.drop k)= .inr i):dE rs (f+1) items path k= .bad 15 (path++[((k+i:Nat):Int)]):=by
 rw[dE];unfold xN;rw[ai (λe=>a (pF.2 e)),h]
def YZ (a:items.drop k≠[])(h:jP rs (items.drop k)= .inl ts)(b:lD rs ts=[]):dE rs (f+1) items path k= .bad 15 (path++[(k:Int)]):=by
 rw[dE];unfold xN;rw[ai (λe=>a (pF.2 e)),h];dsimp only;rw[show xM rs ts=[] from b]
def Za {y:Rd}{zs:List Rd}(a:items.drop k≠[])(h:jP rs (items.drop k)= .inl ts)(b:lD rs ts=x::y::zs):dE rs (f+1) items path k= .bad 14 (path++[(k:Int)]):=by
 rw[dE];unfold xN;rw[ai (λe=>a (pF.2 e)),h];dsimp only;rw[show xM rs ts=x::y::zs from b]
def Qt (h:x∈lD rs ts):fZ rs=true/\x∈aX rs ts 0 ts.length:=by
 unfold lD at h
 split at h
 ·next hc=>
  rw[aM] at hc;exact⟨hc.1,h⟩
 ·cases h
def Zb (c:items.drop k≠[])(h:jP rs (items.drop k)= .inl ts)(a:lD rs ts=[x])(d:∀n∈items.drop k,nY n):
  dE rs (f+1) items path k=(uM rs (dE rs f) path (λi=>decide ((i:Int)∈kH rs x)) k (items.drop k) ts 0).then_ λxs=>.ok (dO rs (items.drop k) xs x ts.length):=by
 rw[dE];unfold xN;rw[ai (λe=>c (pF.2 e)),h];dsimp only;rw[show xM rs ts=[x] from a];dsimp only;have b:=Qt (rs:=rs) (ts:=ts) (x:=x) (by rw[a];exact bZ);exact JH b.1 h b.2 d
def Zc (h:fJ n=true):nY n:=by
 have a:=(wu h).2;unfold lJ at a;unfold nY;refine⟨λe=>?_,λe=>?_⟩
 ·rw[ai (show ¬n.kind=12 from aa),aM,ai (show ¬n.kind=1 from aa),ak e] at a;exact eP.1 (bD a.2)
 ·rw[ai (show ¬n.kind=12 from aa),aM,ai (show ¬n.kind=1 from aa),ai (show ¬(n.kind=2\/n.kind=3\/n.kind=4) from aa),ak (.inr (.inl e))] at a;exact bD a.2
def gI (rs:List aD)(M:List aG->List Int->Nat->bO aC)(n:aG)(path:List Int)(op pre:Bool)(s:Nat):bO (List aC):=
 if op=true then(if s=0 then kF M path n.kids.tail 1 (if(dN rs n pre).isSome then 2 else 0) else kF M path (n.kids.drop s) s (if s=1/\(dN rs n pre).isSome=true then 2 else 0))
 else uK M n path s
def wD (n:aG)(op:Bool)(s:Nat):Bool:=(op&&decide (s=0))||oI n s
def lF (rs:List aD)(n:aG)(op pre:Bool)(s:Nat):Nat:=if op=true/\s=1/\(dN rs n pre).isSome=true then 2 else 0
def Zd (rs:List aD)(M:List aG->List Int->Nat->bO aC)(n:aG)(path:List Int)(op pre:Bool):iX rs M n path op pre=gI rs M n path op pre 0:=by
 unfold iX gI;cases op with
 |true=>rw[ak rfl,ak rfl,ak rfl]
 |false=>
  rw[ai aI,ai aI];unfold uK oI;cases a:n.kids with
  |nil=>simp[kF]
  |cons d b=>
   dsimp only;simp only[pg,mF]
   by_cases h:n.kind=6/\d.kids.isEmpty=true
   ·rw[ak h,ak (by rw[aJ h.1,h.2];rfl)]
   ·rw[ai h,ai (by
     intro e;simp only[aM,eF] at e;exact h ⟨e.1,e.2.2⟩)]
def Ze (h:oI n s=true):s=0:=by
 unfold oI at h;simp only[aM,eF] at h;exact h.2.1
def Zf {M:List aG->List Int->Nat->bO aC}(h:wD n op s=true):gI rs M n path op pre s=gI rs M n path op pre (s+1):=by
 unfold wD at h;rw[kT,aM,eF] at h;unfold gI;cases op with
 |true=>
  have a:s=0:=h.elim (λh=>h.2) Ze;subst a;rw[ak rfl,ak rfl,ak rfl,ai (show ¬0+1=0 from aa),List.drop_one];simp only[fe,true_and]
 |false=>
  rw[ai aI,ai aI];exact ND (h.elim (λh=>by cases h.1) id)
def Zg {M:List aG->List Int->Nat->bO aC}{d:aG}(h:wD n op s=false)(a:n.kids[s]?=some d):
  gI rs M n path op pre s=(M d.kids (path++[(s:Int)]) (lF rs n op pre s)).then_ λt=>(gI rs M n path op pre (s+1)).then_ λts=>.ok (t::ts):=by
 unfold wD at h;rw[Bool.or_eq_false_iff] at h;unfold gI lF;cases op with
 |true=>
  have b:¬s=0:=by simpa using h.1
  rw[ak rfl,ai b,Jq a];simp only[true_and];rw[ak trivial,ai (show ¬s+1=0 from aa),ai (show ¬(s+1=1/\(dN rs n pre).isSome=true) from λe=>b aa)]
 |false=>
  rw[ai (show ¬(false=true) from aI),ai (show ¬(false=true/\s=1/\(dN rs n pre).isSome=true) from λe=>by cases e.1),ai (show ¬(false=true) from aI)];exact NE h.2 a
def Zh {M:List aG->List Int->Nat->bO aC}:gI rs M n path op pre n.kids.length= .ok []:=by
 unfold gI;cases op with
 |true=>
  rw[ak rfl]
  split
  ·next h=>rw[eP.1 h];simp[kF]
  ·rw[nQ,kF]
 |false=>
  rw[ai aI]
  by_cases h:n.kids=[]
  ·unfold uK oI;rw[h];simp[kF]
  ·exact rest_end h
def wE (tot:bO (List (List aC)))(xs:List (List aC))(rest:bO (List (List aC))):Prop:=tot=rest.then_ λys=>.ok (xs++ys)
def wE.start (m:bO (List (List aC))):wE m [] m:=by
 unfold wE;cases m<;>rfl
def wE.bad {a:bO (List (List aC))}{xs:List (List aC)}{m:bO (List aC)}{F:List aC->bO (List (List aC))}{b:Int}{p:List Int}(h:wE a xs (m.then_ F))(c:m= .bad b p):a= .bad b p:=by
 unfold wE at h;rw[h,c];rfl
def wE.next {a:bO (List (List aC))}{m:bO (List aC)}{r:bO (List (List aC))}{t:List aC}(h:wE a xs (m.then_ λt=>r.then_ λts=>.ok (t::ts)))(b:m= .ok t):wE a (xs++[t]) r:=by
 unfold wE at*;rw[h,b];cases r with
 |ok ts=>simp[bO.then_]
 |bad e p=>rfl
def wE.end {a:bO (List (List aC))}(h:wE a xs (.ok [])):a= .ok xs:=by
 unfold wE at h;rw[h];simp[bO.then_]
def Zi {M:List aG->List Int->Nat->bO aC}{t:ByteArray}(a:its[i]?=some n)(b:ts[i]?=some t):
  uM rs M path pb k (its.drop i) (ts.drop i) i=(iX rs M n (path++[((k+i:Nat):Int)]) (!decide (t.data.toList=[35])) (pb i)).then_ λp=>(uM rs M path pb k (its.drop (i+1)) (ts.drop (i+1)) (i+1)).then_ λps=>.ok (p::ps):=by
 obtain⟨c,rfl⟩:=bP.1 a;obtain⟨d,rfl⟩:=bP.1 b;rw[ib c,ib d,uM]
def Zj {M:List aG->List Int->Nat->bO aC}(h:its.length<=i):uM rs M path pb k (its.drop i) (ts.drop i) i= .ok []:=by
 rw[pF.2 h];cases ts.drop i<;>simp[uM]
inductive yP (rs:List aD):List aG->List Int->Nat->List Int->List Rd->Prop
 |here (items:List aG) (path:List Int) (k:Nat) (ts:List ByteArray) (x y:Rd) (zs:List Rd) (ht:jP rs (items.drop k)= .inl ts) (ha:lD rs ts=x::y::zs):yP rs items path k (path++[(k:Int)]) [x,y]
 |there (items:List aG) (path:List Int) (k i s b:Nat) (n d:aG) (q:List Int) (rds:List Rd) (hn:(items.drop k)[i]?=some n) (hd:n.kids[s]?=some d) (h:yP rs d.kids (path++[((k+i:Nat):Int),(s:Int)]) b q rds):yP rs items path k q rds
def yx (Q:List Rd->Prop)(ok:Nat->Prop)(w:World)(g:Nat)(e:Int)(p:List Int):Prop:=∃A c Ar cr rds,au w g 121 #[qI e,.slice A p.length c,.slice Ar rds.length cr]/\p.length<=c/\c<=9223372036854775807/\kK w A p/\ok g/\(∀ad,A=some ad->0<p.length->ok ad.block)/\rds.length<=cr/\cr<=9223372036854775807/\iE ok w Ar rds/\Q rds
def yx.keep {Q:List Rd->Prop}{ok:Nat->Prop}{w w':World}{g:Nat}{e:Int}{p:List Int}(h:yx Q ok w g e p)(a:Below w.heap.size w w'):yx Q ok w' g e p:=by
 obtain⟨A,c,b,d,f,i,j,k,l,m,n,o,q,r,s⟩:=h;exact⟨A,c,b,d,f,jL a i,j,k,l.keep a,m,n,o,q,r.keep a,s⟩
def yx.any {Q f:List Rd->Prop}{ok ok':Nat->Prop}{w:World}{g:Nat}{e:Int}{p:List Int}(h:yx Q ok w g e p)(n:∀a,Q a->f a)(d:∀b,b<w.heap.size->ok b->ok' b):yx f ok' w g e p:=by
 obtain⟨A,c,o,q,a,i,r,s,j,t,u,v,x,y,z⟩:=h;refine⟨A,c,o,q,a,i,r,s,j,d _ i.lt t,λk l m=>?_,v,x,y.any d,n _ z⟩;obtain⟨B,C,D,_⟩:=j.2 m;obtain rfl:k=B:=sj (l.symm.trans C);exact d _ D (u k l m)
def yx.grown {Q:List Rd->Prop}{ok:Nat->Prop}{w w':World}{g:Nat}{e:Int}{p:List Int}{q:Nat}(h:yx Q ok w g e p)(a:w.grownBy w' (some q))(b:¬ok q):yx Q ok w' g e p:=by
 obtain⟨A,c,o,r,s,t,v,x,y,d,f,z,B,C,D⟩:=h;refine⟨A,c,o,r,s,t.grown a λe=>b (by rw[<-sj e];exact d),v,x,?_,d,f,z,B,C.map a.size (λ_ _ h=>h) (λp E F=>dm (a.block _ E λe=>b (by rw[<-sj e];exact F))),D⟩;obtain⟨G,H⟩:=y;refine⟨G,λi=>?_⟩;obtain⟨k,l,m,I⟩:=H i;refine⟨k,l,ll m a.size,λj u J=>?_⟩;rw[<-I j u J];refine dm (a.block _ (by rw[gX];exact m) λe=>?_);have n:=sj e;rw[gX] at n;exact b (by rw[<-n];exact f k l i)
def Cu (rs:List aD)(items:List aG)(path:List Int)(k:Nat)(m:bO aC)(g:Nat)(w:World)(e:Ending)(w':World):Prop:=(match m with
 | .ok t=>∃c,e= .returned (.tuple #[.agg c,.pointer none])/\bH (λb=>w.heap.size<=b) w' t c
 | .bad er p=>∃gf,e= .returned (.tuple #[.agg cK,qP gf])/\yx (λrds=>er=14->yP rs items path k p rds) (λb=>w.heap.size<=b) w' gf er p)/\Gr g w w'
abbrev sU (A:Option Addr)(cap:Nat)(rs:List aD)(Ai:Option Addr)(ci:Nat)(its:List aG)(Ap:Option Addr)(cp:Nat)(path:List Int)(k:Nat)(v:Value):Array Value:= #[.slice A rs.length cap,.slice Ai its.length ci,.slice Ap path.length cp,qI (k:Int),v]
def Hq (A:Option Addr)(cap:Nat)(rs:List aD)(f:Nat):Prop:=∀(items:List aG) (path:List Int) (k:Nat) (Ai Ap:Option Addr) (ci cp g:Nat) (w0 w:World),fG w0 A rs->mO w0 Ai (items.drop k)->Below w0.heap.size w0 w->w0.heap.size<=g->(items.drop k).length<=ci->ci<=9223372036854775807->kK w Ap path->(∀ad,Ap=some ad->0<path.length->ad.block≠g)->path.length<=cp->cp<=9223372036854775807->
 au w g 158 (sU A cap rs Ai ci (items.drop k) Ap cp path k qN)->nz 1 items=true->bK items<f->path.length+bK items+2<=900000->items.length<=7->nG items=true->k<=2->
 Calls prog 119 #[qP g] w (Cu rs items path k (dE rs f items path k) g w)
def zC (Q:List Int->List Rd->Prop)(m:bO (List aC))(w:World)(e:Ending)(w':World):Prop:=(match m with
 | .ok ts=>∃A cap,e= .returned (.tuple #[.slice A ts.length cap,.pointer none])/\ts.length<=cap/\cap<=9223372036854775807/\qw (λb=>w.heap.size<=b) w' A ts
 | .bad er p=>∃gf,e= .returned (.tuple #[qN,qP gf])/\yx (λrds=>er=14->Q p rds) (λb=>w.heap.size<=b) w' gf er p)/\Below w.heap.size w w'
def df (ok:Nat->Prop)(w:World)(B:Nat)(v:Value)(xs:List (List aC)):Prop:=∃cs:List Value,w.ownsRow B 23 1 v xs.length cs/\cs.length=xs.length/\∀(j:Nat) c x,cs[j]?=some c->xs[j]?=some x->∃A cap,c= .slice A x.length cap/\x.length<=cap/\cap<=9223372036854775807/\qw ok w A x
def df.nil (ok:Nat->Prop)(w:World)(B:Nat):df ok w B qN []:=⟨[],iR _ _ _ _,rfl,λj c x h=>by simp at h⟩
def df.keep {ok:Nat->Prop}{w w':World}{B:Nat}{v:Value}{xs:List (List aC)}(h:df ok w B v xs)(a:Below w.heap.size w w'):df ok w' B v xs:=by
 obtain⟨b,d,e,f⟩:=h;exact⟨b,Sp.own_below d a,e,λj c x g i=>by
  obtain⟨A,k,l,m,n,o⟩:=f j c x g i;exact⟨A,k,l,m,n,o.keep a⟩⟩
def df.snoc {ok ok':Nat->Prop}{v v':Value}{f:List Value}{x:List aC}{A:Option Addr}{cap:Nat}(i:f.length=xs.length)(h:∀(j:Nat) c x,f[j]?=some c->xs[j]?=some x->∃A cap,c= .slice A x.length cap/\x.length<=cap/\cap<=9223372036854775807/\qw ok w A x)
  (n:x.length<=cap) (o:cap<=9223372036854775807) (q:qw ok w A x) (r:w'.ownsRow B 23 1 v' (xs.length+1) (f++[.slice A x.length cap])) (k:w.grownBy w' v.ownBlock) (s:∀b,b<w.heap.size->ok b->some b≠v.ownBlock) (t:∀b,b<w.heap.size->ok b->ok' b):df ok' w' B v' (xs++[x]):=by
 have l:∀{A:Option Addr} {ts:List aC},qw ok w A ts->qw ok' w' A ts:=λh=>h.map k.size t λp m u=>dm (k.block _ m (s _ m u))
 refine⟨f++[.slice A x.length cap],by rw[aO];exact r,by simp[i],λj d y a g=>?_⟩;rcases bu j f.length with z|C
 ·rw[dz z] at a;rw[dz aa] at g;obtain⟨D,E,F,G,H,I⟩:=h j d y a g;exact⟨D,E,F,G,H,l I⟩
 ·rw[cO C] at a;rw[cO aa,<-i] at g
  by_cases e:j -f.length=0
  ·rw[e] at a g;simp only[iD,gV] at a g;subst a g;exact⟨A,cap,rfl,n,o,l q⟩
  ·rw[ko (by simp;omega)] at a;cases a
def df.yI6 {ok:Nat->Prop}{v:Value}{g:Nat}(h:df ok w B v xs)(a:w.grownBy w' (some g))(C:g<B)(f:∀b,ok b->some b≠some g):df ok w' B v xs:=by
 obtain⟨i,d,k,l⟩:=h;refine⟨i,gM d a ?_,k,λj c x m n=>?_⟩
 ·cases o:v.ownBlock with
  |none=>exact .inl rfl
  |some b=>exact .inr λe=>aV ((bA d b o).1) (sj e)
 ·obtain⟨A,q,r,s,t,u⟩:=l j c x m n;exact⟨A,q,r,s,t,u.map a.size (λ_ _ h=>h) λp y z=>dm (a.block _ y λe=>f _ z e)⟩
def zD (ok:Nat->Prop)(w:World)(A:Option Addr)(xs:List (List aC)):Prop:=∀(q:Nat) (x:List aC),xs[q]?=some x->∃ad:Addr,A=some ad/\ad.block<w.heap.size/\∃A2 cap2,w.cell? (ad.add q)=some (.slice A2 x.length cap2)/\x.length<=cap2/\cap2<=9223372036854775807/\qw ok w A2 x
def zD.keep {ok:Nat->Prop}{w w':World}{A:Option Addr}{xs:List (List aC)}(h:zD ok w A xs)(a:Below w.heap.size w w'):zD ok w' A xs:=λq x c=>by
 obtain⟨d,e,b,f,g,i,j,k,l⟩:=h q x c;exact⟨d,e,ll b a.size,f,g,by rw[a.cell (by rw[gX];exact b)];exact i,j,k,l.keep a⟩
def zD.any {ok ok':Nat->Prop}{w:World}{A:Option Addr}{xs:List (List aC)}(h:zD ok w A xs)(a:∀b,b<w.heap.size->ok b->ok' b):zD ok' w A xs:=λq x c=>by
 obtain⟨d,e,f,g,i,j,k,l,m⟩:=h q x c;exact⟨d,e,f,g,i,j,k,l,m.any a⟩
def df.form {ok:Nat->Prop}{v:Value}(h:df ok w B v xs):∃A cap,v= .slice A xs.length cap/\xs.length<=cap/\cap<=9223372036854775807/\zD ok w A xs:=by
 obtain⟨e,f,D,i⟩:=h;rcases f.2 with⟨rfl,k⟩|⟨g,cap,l,rfl,E,m,n,o,F,r⟩
 ·obtain rfl:xs=[]:=eP.1 k;exact⟨none,0,rfl,aS,aa,λj p s=>by simp at s⟩
 ·have b:au w g 23 l:=m;refine⟨_,cap,rfl,n,by unfold maxLen at o;omega,λq x d=>?_⟩;have G:=(bP.1 d).1;obtain⟨c,a⟩:∃c,e[q]?=some c:=⟨_,gE aa⟩
  obtain⟨t,u,rfl,y,z,C⟩:=i q c x a d;refine⟨(ag g (0)),rfl,b.lt,t,u,?_,y,z,C⟩;rw[show(⟨g,0,none⟩:Addr).add q=(ag g q) by unfold Addr.add;split<;>simp_all,b.cell];rw[<-r,gU] at a
  split at a
  ·rw[<-gF];exact a
  ·cases a
end El
end Go.Proofs.YtlefbenkhgbifaaGreatDoor
