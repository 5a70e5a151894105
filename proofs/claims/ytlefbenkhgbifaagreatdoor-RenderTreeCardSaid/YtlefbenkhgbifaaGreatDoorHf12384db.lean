/- infix, prefix, postfix and juxtapose of the writer. -/
import Derived.Test.YtlefbenkhgbifaaGreatDoorH49dce4a3
set_option linter.all false
set_option maxRecDepth 100000
set_option maxHeartbeats 8000000
namespace Go.Proofs.YtlefbenkhgbifaaGreatDoor.Rn
open At Ch Sp Sy El Go.RowKit Tryz
variable{rs:List aD}{kd:Int}{e:Nat}{R R2:List (List aG)}{t:aG}
def GV {nam:ByteArray}{n:Nat}(h:kL rs kd nam e R n=some (t,R2)):R2.length=n/\∀a∈R2,a∈R:=by
 unfold kL at h
 split at h
 ·cases h
 ·split at h
  ·cases h
  ·split at h
   ·next hq=>
    injection h with h;injection h with d b;rw[<-b];exact⟨by rw[lg];omega,λa c=>pq c⟩
   ·cases h
def XI (W:jV)(A:Option Addr)(cap:Nat)(rs:List aD)(f:Nat)(b5:si W A cap rs f)(m:aC)(c:Array Value)(w:World)(Y:fT m<=f)(s:f<=10000)(Z:pX w W A cap rs)(a0:gK w m c):
  Calls prog 35 #[qP W.gw,.agg c] w (jk ((bI rs m.args).bind λR=>bG rs m.nam m.vr R .jux) w):=by
 obtain⟨H,I,rfl,_,_,_,d8,d9,a1⟩:=a0.form;have J:=aN w (.cells (aA m.kind m.nam m.vr H m.args.length I m.form) 25);have a2:=zh (au.new w 25 (aA m.kind m.nam m.vr H m.args.length I m.form));have b6:=zh (Z.keep J);have b7:=zh (a1.keep J);have B:=zh J;have a3:=ah (lT m.args+1<=f) (by have:=yw Y aa;omega);clear Z a0 a1 J Y;go_enter func35,ntmps35;go_upto_region 1 with(fail)
 generalize w.alloc (.cells (aA m.kind m.nam m.vr H m.args.length I m.form) 25)=b8 at*;have y:=a2.o.cell 3;go_wp2_with fail;refine(Gy W A cap rs f b5 m.args H I b8 (av a3.o) aa b6.o b7.o).mono ?_;rintro a4 O ⟨K,k⟩;have L:=jt B k;have b9:=zh B.o.size;clear k B a2 y;have P:=ah (∀(o:Option (List aG)),o=none->jk o w (.returned (.tuple #[qN,.bool false])) O) (λo e=>by subst e;exact⟨rfl,L.o⟩);cases z:bI rs m.args with
 |none=>
  rw[z] at K;obtain rfl:a4= .returned (.tuple #[qN,.bool false]):=K;have u:=zh z;clear z;go_wp2_with fail
  go_ret2
  exact P.o _ (by rw[u.o];rfl)
 |some R=>
  rw[z] at K;obtain⟨c0,Q,q,c1,e0,a5⟩:=K;rw[dI] at q c1;have M:=zh (a5.any (ok':=λb=>w.heap.size<=b) λb _ k=>ax b9.o k);have u:=zh z;clear z a5
  by_cases S:R.length=2
  ·match R,S,q,M,u with
   |[a,b],_,q,M,u=>
   obtain rfl:a4= .returned (.tuple #[.slice c0 2 Q,.bool true]):=q;have N:=ah (((bI rs m.args).bind λR=>bG rs m.nam m.vr R .jux)=some (a++b)) (by rw[u.o];rfl);have c2:=zh (show a.length+b.length<=160000 by
    have a6:=Bt u.o a aS;have a7:=Bt u.o b aS;have:=a3.o;omega)
   have c3:=zh L.o.size;obtain⟨g,C,D,rfl,a8,_,e1,e2,a9,c4,c5,c6,T⟩:=M.o.at0 (t:=aQ a) rfl;have c7:=zh a9;have b0:=zh a8;have T:O.cell? (aF g 3)=some (.slice C a.length D):=T;clear c4 c5 c6 a8 a9;obtain⟨e3,v,x,b1,_,_,e4,e5,b2,_,_,_,q⟩:=M.o.at_ (i:=1) (t:=aQ b) rfl;obtain rfl:=sj b1;have c8:=zh b2;have q:O.cell? ⟨(g.add 4).block,(g.add 4).off+3,none⟩=some (.slice v b.length x):=q;clear b2 b1;have B:=L;clear L P;obtain⟨E,U⟩:∃E,E=a++b:=⟨_,rfl⟩
   have c9:=zh U;rw[<-U] at N;clear U;go_upto_region 4 with(fail)
   refine qm [2,2,2,1,2,2,2,1,1,1,2,2] (List.replicate 12 false) (λd=>[ay g 2 Q,az g,aR g.block (g.off+3),.slice C a.length D,ay g 2 Q,az (g.add 4),az ⟨(g.add 4).block,(g.add 4).off+3,none⟩,.slice v b.length x,ay ⟨d.n 30,0,none⟩ 2 2,d.v 31,d.v 31,.bool true]) [(8,λd F=>au F (d.n 30) 29 #[.slice C a.length D,.slice v b.length x]),(9,λd F=>∃r l,d.v 31= .slice r E.length l/\E.length<=l/\l<=9223372036854775807/\fw (λb=>w.heap.size<=b) F r E)] (λ_ _=>True) (bV.cons (λd F d0 h k=>ae k h) (bV.cons (λd F d0 ⟨r,l,a6,a7,d1,d2⟩ k=>⟨r,l,a6,a7,d1,d2.keep k⟩) bV.nil)) (trivial) ?_ ?_
   ·refine⟨jC,λd j=>?_,jI,jR λd j n=>(n.cell (p:=aF g 3) b0.o).trans T,jC,jI,jI,λd j n G s=>?_,λd j n G s=>?_,λd j n G s=>?_,jC,jC,trivial⟩
    ·exact jp (az g) (bT Dw) rfl
    ·have d3:j.cell? (ag g.block (g.off+4+3))=some (.slice v b.length x):=by have h:=(n.cell (p:=⟨(g.add 4).block,(g.add 4).off+3,none⟩) (by rw[gX];exact b0.o)).trans q;simpa [go_sem] using h
     exact gs (.slice v b.length x) G aj (bT d3) rfl
    ·exact jv (ay (ag j.heap.size (0)) 2 2) (j.alloc (.cells #[.slice C a.length D,.slice v b.length x] 29)) iw ⟨d.setN 30 j.heap.size,rfl,jD,aN j _,⟨au.new j _ _,jG,trivial⟩,trivial⟩
    ·have d4:=jE s.1;refine jc 64 (#[ay ⟨d.n 30,0,none⟩ 2 2]) j aj ((GU w.heap.size (d.n 30) C v D x a b j d4 (c7.o.keep n) (c8.o.keep n) (ax c3.o n.size) (by have:=c2.o;first|omega|(simp only[aY,gZ];omega))).mono ?_);rintro e e6 ⟨⟨r,l,d5,b3,rfl,V,X,y⟩,k⟩;rw[<-c9.o] at b3;subst b3;exact⟨_,rfl,d.setV 31 (.slice r d5.length l),rfl,jD,k,⟨jH,⟨r,l,rfl,V,X,y⟩,trivial⟩,trivial⟩
   ·refine λd j n G s=>?_
    dsimp only[ji] at s;change wpOps _ _ _ [] _ _;refine jo ?_;obtain⟨r,l,b4,V,X,y⟩:=s.2.1;have d6:=jt B n;have d7:=zh y;rw[b4];clear s G y b4;generalize d.n 30=e7 at*;clear d;go_wp2_with fail
    go_ret2
    rw[N.o];exact⟨⟨r,l,rfl,V,X,d7.o⟩,d6.o⟩
  ·subst q;have e8:((R.length:Int) !=2)=true:=pE.2 aa;have N:=zh (show((bI rs m.args).bind λR=>bG rs m.nam m.vr R .jux)=none by
    rw[u.o];show bG rs m.nam m.vr R .jux=none;unfold bG;dsimp only
    split
    ·exact absurd rfl S
    ·rfl)
   clear S;go_wp2_with fail
   go_ret2
   exact P.o _ N.o
def XJ (W:jV)(A:Option Addr)(cap:Nat)(rs:List aD)(f:Nat)(c8:si W A cap rs f)(e:Nat)(a2:e=0\/e=7\/e=8\/e=9)(es:ByteArray)(a3:es=eO (eJ e))(m:aC)(c:Array Value)(w:World)(Q:fT m<=f)(k:f<=10000)(c9:rs.length<=1000000)(a4:pX w W A cap rs)(S:gK w m c):
  Calls prog 39 #[qP W.gw,.agg c,af es] w (jk ((bI rs m.args).bind λR=>bG rs m.nam m.vr R (.pre e)) w):=by
 obtain⟨T,U,rfl,g0,g1,g2,g3,g4,d0⟩:=S.form;have H:=aN w (.cells (aA m.kind m.nam m.vr T m.args.length U m.form) 25);have a5:=zh (au.new w 25 (aA m.kind m.nam m.vr T m.args.length U m.form));have a6:=zh (a4.keep H);have a7:=zh (S.keep H);have B:=zh H;have d1:=ah (lT m.args+1<=f) (by have:=yw Q aa;omega);have d2:=zh Q;have d3:=zh a3;have d4:=zh a2;clear a4 S d0 H Q a3 a2;go_enter func39,ntmps39;go_upto_region 1 with(fail)
 generalize w.alloc (.cells (aA m.kind m.nam m.vr T m.args.length U m.form) 25)=d5 at*;obtain⟨d6,a8,a9,b0,b1⟩:=qc a5;go_wp2_with fail;refine(CS W A cap rs f c8 2 e d4.o es d3.o 1 aa aa m _ d5 d2.o aa c9 a6.o a7.o).mono ?_;rintro d7 s ⟨I,i⟩;have J:=jt B i;have b2:=zh B.o.size;clear d6 a8 a9 b0 b1 i B a5 a6 a7;cases l:((bI rs m.args).bind λR=>kL rs 2 m.nam e R 1) with
 |none=>
  rw[l] at I;obtain rfl:d7= .returned (.tuple #[.agg bY,qN,.bool false]):=I;have K:=zh (show((bI rs m.args).bind λR=>bG rs m.nam m.vr R (.pre e))=none by
   cases q:bI rs m.args with
   |none=>rfl
   |some R=>
    rw[q] at l;show bG rs m.nam m.vr R (.pre e)=none;unfold bG;dsimp only;rw[show kL rs 2 m.nam e R 1=none from l])
  have C:=zh (J.o.trans ((aN s (.cells bY 31)).mono J.o.size));clear l;go_wp2_with fail
  go_ret2
  rw[K.o];exact⟨rfl,C.o⟩
 |some d8=>
  obtain⟨t,R2⟩:=d8;rw[l] at I;obtain⟨v,g5,V,rfl,b3,b4,b5,g6,L⟩:=I;obtain⟨R,q,D⟩:∃R,bI rs m.args=some R/\kL rs 2 m.nam e R 1=some (t,R2):=by
   cases q:bI rs m.args with
   |none=>rw[q] at l;cases l
   |some R=>rw[q] at l;exact⟨R,rfl,l⟩
  obtain⟨b6,M⟩:=GV D
  match R2,b6,M,D,b5,L with
  |[a],_,M,D,b5,L=>
  have K:=zh (show((bI rs m.args).bind λR=>bG rs m.nam m.vr R (.pre e))=some ([t]++a) by
   rw[q];show bG rs m.nam m.vr R (.pre e)=_;unfold bG;dsimp only;rw[D];rfl)
  have d9:=zh (show a.length<=160000 by
   have b7:=Bt q a (M a aS);have:=d1.o;omega)
  obtain⟨u,x,rfl,b8,b9,c0⟩:=b4.form λb i=>i
  have e0:=zh b3;have c1:=zh (And.intro b8 b9);have N:=aN s (qO t u x);have O:=zh (au.new s 31 (qC t u x));have C:=jt J N;have e1:=zh ((c0.any (ok':=λb=>w.heap.size<=b) λb _ i=>ax b2.o i).keep N);have e2:=zh ((L.any (ok':=λb=>w.heap.size<=b) λb _ i=>ax b2.o i.1).keep N);have c2:=zh C.o.size;clear q l D M b6 b3 b4 L c0 N b8 b9 J;go_upto_region 4 with(fail)
  generalize s.alloc (qO t u x)=c3 at*;obtain⟨y,E,F,rfl,c4,_,g7,g8,c5,e3,e4,e5,X⟩:=e2.o.at0 (t:=aQ a) rfl;have e6:=zh c5;have e7:=zh c4;have X:c3.cell? (aF y 3)=some (.slice E a.length F):=X;clear e3 e4 e5 c4 c5;have B:=C;clear C;obtain⟨G,Y⟩:∃G,G=[t]++a:=⟨_,rfl⟩
  have e8:=zh Y;rw[<-Y] at K;clear Y;refine qm [1,1,2,2,2,1,1,1,2,2] (List.replicate 10 false) (λd=>[.agg (qC t u x),ay ⟨d.n 22,0,none⟩ 1 1,ay y 1 V,az y,aR y.block (y.off+3),.slice E a.length F,ay ⟨d.n 27,0,none⟩ 2 2,d.v 28,d.v 28,.bool true]) [(1,λd r=>au r (d.n 22) 31 (qC t u x)/\c3.heap.size<=d.n 22),(6,λd r=>au r (d.n 27) 29 #[ay ⟨d.n 22,0,none⟩ 1 1,.slice E a.length F]),(7,λd r=>∃o n,d.v 28= .slice o G.length n/\G.length<=n/\n<=9223372036854775807/\fw (λb=>w.heap.size<=b) r o G)] (λ_ _=>True) (bV.cons (λd r s h i=>⟨ae i h.1,h.2⟩) (bV.cons (λd r s h i=>ae i h) (bV.cons (λd r s ⟨o,n,b7,e9,f0,f1⟩ i=>⟨o,n,b7,e9,f0,f1.keep i⟩) bV.nil))) (trivial) ?_ ?_
  ·refine⟨λd g j z k=>?_,λd g j z k=>?_,jC,λd g=>jp (az y) (bT Dw) rfl,jI,jR λd g j=>(j.cell (p:=aF y 3) e7.o).trans X,λd g j z k=>?_,λd g j z k=>?_,jC,jC,trivial⟩
   ·have f2:=(ae j O.o).cell 0;have f3:=(ae j O.o).cell 1;have f4:=(ae j O.o).cell 2;have V:=(ae j O.o).cell 3;exact gs (.agg (qC t u x)) z aj (jZ f2 f3 f4 V) rfl
   ·exact jv (ay (ag g.heap.size (0)) 1 1) (g.alloc (qO t u x)) iw ⟨d.setN 22 g.heap.size,rfl,jD,aN g _,⟨⟨au.new g _ _,j.size⟩,jG,jG,trivial⟩,trivial⟩
   ·have Z:=jE k.1;exact jv (ay (ag g.heap.size (0)) 2 2) (g.alloc (.cells #[ay ⟨d.n 22,0,none⟩ 1 1,.slice E a.length F] 29)) iw ⟨d.setN 27 g.heap.size,rfl,jD,aN g _,⟨jH,au.new g _ _,jG,trivial⟩,trivial⟩
   ·have Z:=jE k.1;have f5:=jE k.2.1;refine jc 64 (#[ay ⟨d.n 27,0,none⟩ 2 2]) g aj ((GU w.heap.size (d.n 27) (some ⟨d.n 22,0,none⟩) E 1 F [t] a g f5 (by have f6:=xu (ok:=λb=>w.heap.size<=b) Z.1 e0.o c1.o.1 c1.o.2 (e1.o.keep j) (aV Z.2 c2.o);obtain⟨a8,a9,b0,b1⟩:=t;exact f6) (e6.o.keep j) (ax c2.o j.size) (by have:=d9.o;first|omega|(simp only[aY,gZ];omega))).mono ?_);rintro e g9 ⟨⟨o,n,f7,c6,rfl,a0,a1,P⟩,i⟩;rw[<-e8.o] at c6;subst c6;exact⟨_,rfl,d.setV 28 (.slice o f7.length n),rfl,jD,i,⟨jH,jH,⟨o,n,rfl,a0,a1,P⟩,trivial⟩,trivial⟩
  ·refine λd g j z k=>?_
   dsimp only[ji] at k;change wpOps _ _ _ [] _ _;refine jo ?_;obtain⟨o,n,c7,a0,a1,P⟩:=k.2.2.1;have f8:=jt B j;have f9:=zh P;rw[c7];clear k z P c7;generalize d.n 22=h0 at*;generalize d.n 27=h1 at*;clear d;go_wp2_with fail
   go_ret2
   rw[K.o];exact⟨⟨o,n,rfl,a0,a1,f9.o⟩,f8.o⟩
def XK (W:jV)(A:Option Addr)(cap:Nat)(rs:List aD)(f:Nat)(c8:si W A cap rs f)(e:Nat)(a2:e=0\/e=7\/e=8\/e=9)(es:ByteArray)(a3:es=eO (eJ e))(m:aC)(c:Array Value)(w:World)(Q:fT m<=f)(k:f<=10000)(c9:rs.length<=1000000)(a4:pX w W A cap rs)(S:gK w m c):
  Calls prog 41 #[qP W.gw,.agg c,af es] w (jk ((bI rs m.args).bind λR=>bG rs m.nam m.vr R (.pos e)) w):=by
 obtain⟨T,U,rfl,g0,g1,g2,g3,g4,d0⟩:=S.form;have H:=aN w (.cells (aA m.kind m.nam m.vr T m.args.length U m.form) 25);have a5:=zh (au.new w 25 (aA m.kind m.nam m.vr T m.args.length U m.form));have a6:=zh (a4.keep H);have a7:=zh (S.keep H);have B:=zh H;have d1:=ah (lT m.args+1<=f) (by have:=yw Q aa;omega);have d2:=zh Q;have d3:=zh a3;have d4:=zh a2;clear a4 S d0 H Q a3 a2;go_enter func41,ntmps41;go_upto_region 1 with(fail)
 generalize w.alloc (.cells (aA m.kind m.nam m.vr T m.args.length U m.form) 25)=d5 at*;obtain⟨d6,a8,a9,b0,b1⟩:=qc a5;go_wp2_with fail;refine(CS W A cap rs f c8 3 e d4.o es d3.o 1 aa aa m _ d5 d2.o aa c9 a6.o a7.o).mono ?_;rintro d7 s ⟨I,i⟩;have J:=jt B i;have b2:=zh B.o.size;clear d6 a8 a9 b0 b1 i B a5 a6 a7;cases l:((bI rs m.args).bind λR=>kL rs 3 m.nam e R 1) with
 |none=>
  rw[l] at I;obtain rfl:d7= .returned (.tuple #[.agg bY,qN,.bool false]):=I;have K:=zh (show((bI rs m.args).bind λR=>bG rs m.nam m.vr R (.pos e))=none by
   cases q:bI rs m.args with
   |none=>rfl
   |some R=>
    rw[q] at l;show bG rs m.nam m.vr R (.pos e)=none;unfold bG;dsimp only;rw[show kL rs 3 m.nam e R 1=none from l])
  have C:=zh (J.o.trans ((aN s (.cells bY 31)).mono J.o.size));clear l;go_wp2_with fail
  go_ret2
  rw[K.o];exact⟨rfl,C.o⟩
 |some d8=>
  obtain⟨t,R2⟩:=d8;rw[l] at I;obtain⟨v,g5,V,rfl,b3,b4,b5,g6,L⟩:=I;obtain⟨R,q,D⟩:∃R,bI rs m.args=some R/\kL rs 3 m.nam e R 1=some (t,R2):=by
   cases q:bI rs m.args with
   |none=>rw[q] at l;cases l
   |some R=>rw[q] at l;exact⟨R,rfl,l⟩
  obtain⟨b6,M⟩:=GV D
  match R2,b6,M,D,b5,L with
  |[a],_,M,D,b5,L=>
  have K:=zh (show((bI rs m.args).bind λR=>bG rs m.nam m.vr R (.pos e))=some (a++[t]) by
   rw[q];show bG rs m.nam m.vr R (.pos e)=_;unfold bG;dsimp only;rw[D])
  have d9:=zh (show a.length<=160000 by
   have b7:=Bt q a (M a aS);have:=d1.o;omega)
  obtain⟨u,x,rfl,b8,b9,c0⟩:=b4.form λb i=>i
  have e0:=zh b3;have c1:=zh (And.intro b8 b9);have N:=aN s (qO t u x);have O:=zh (au.new s 31 (qC t u x));have C:=jt J N;have e1:=zh ((c0.any (ok':=λb=>w.heap.size<=b) λb _ i=>ax b2.o i).keep N);have e2:=zh ((L.any (ok':=λb=>w.heap.size<=b) λb _ i=>ax b2.o i.1).keep N);have c2:=zh C.o.size;clear q l D M b6 b3 b4 L c0 N b8 b9 J;go_upto_region 4 with(fail)
  generalize s.alloc (qO t u x)=c3 at*;obtain⟨y,E,F,rfl,c4,_,g7,g8,c5,e3,e4,e5,X⟩:=e2.o.at0 (t:=aQ a) rfl;have e6:=zh c5;have e7:=zh c4;have X:c3.cell? (aF y 3)=some (.slice E a.length F):=X;clear e3 e4 e5 c4 c5;have B:=C;clear C;obtain⟨G,Y⟩:∃G,G=a++[t]:=⟨_,rfl⟩
  have e8:=zh Y;rw[<-Y] at K;clear Y;refine qm [2,2,2,1,1,1,1,1,2,2] (List.replicate 10 false) (λd=>[ay y 1 V,az y,aR y.block (y.off+3),.slice E a.length F,.agg (qC t u x),ay ⟨d.n 26,0,none⟩ 1 1,ay ⟨d.n 27,0,none⟩ 2 2,d.v 28,d.v 28,.bool true]) [(5,λd r=>au r (d.n 26) 31 (qC t u x)/\c3.heap.size<=d.n 26),(6,λd r=>au r (d.n 27) 29 #[.slice E a.length F,ay ⟨d.n 26,0,none⟩ 1 1]),(7,λd r=>∃o n,d.v 28= .slice o G.length n/\G.length<=n/\n<=9223372036854775807/\fw (λb=>w.heap.size<=b) r o G)] (λ_ _=>True) (bV.cons (λd r s h i=>⟨ae i h.1,h.2⟩) (bV.cons (λd r s h i=>ae i h) (bV.cons (λd r s ⟨o,n,b7,e9,f0,f1⟩ i=>⟨o,n,b7,e9,f0,f1.keep i⟩) bV.nil))) (trivial) ?_ ?_
  ·refine⟨jC,λd g=>?_,jI,jR λd g j=>(j.cell (p:=aF y 3) e7.o).trans X,λd g j z k=>?_,λd g j z k=>?_,λd g j z k=>?_,λd g j z k=>?_,jC,jC,trivial⟩
   ·exact jp (az y) (bT Dw) rfl
   ·have f2:=(ae j O.o).cell 0;have f3:=(ae j O.o).cell 1;have f4:=(ae j O.o).cell 2;have V:=(ae j O.o).cell 3;exact gs (.agg (qC t u x)) z aj (jZ f2 f3 f4 V) rfl
   ·exact jv (ay (ag g.heap.size (0)) 1 1) (g.alloc (qO t u x)) iw ⟨d.setN 26 g.heap.size,rfl,jD,aN g _,⟨⟨au.new g _ _,j.size⟩,jG,jG,trivial⟩,trivial⟩
   ·have Z:=jE k.1;exact jv (ay (ag g.heap.size (0)) 2 2) (g.alloc (.cells #[.slice E a.length F,ay ⟨d.n 26,0,none⟩ 1 1] 29)) iw ⟨d.setN 27 g.heap.size,rfl,jD,aN g _,⟨jH,au.new g _ _,jG,trivial⟩,trivial⟩
   ·have Z:=jE k.1;have f5:=jE k.2.1;refine jc 64 (#[ay ⟨d.n 27,0,none⟩ 2 2]) g aj ((GU w.heap.size (d.n 27) E (some ⟨d.n 26,0,none⟩) F 1 a [t] g f5 (e6.o.keep j) (by have f6:=xu (ok:=λb=>w.heap.size<=b) Z.1 e0.o c1.o.1 c1.o.2 (e1.o.keep j) (aV Z.2 c2.o);obtain⟨a8,a9,b0,b1⟩:=t;exact f6) (ax c2.o j.size) (by have:=d9.o;first|omega|(simp only[aY,gZ];omega))).mono ?_);rintro e g9 ⟨⟨o,n,f7,c6,rfl,a0,a1,P⟩,i⟩;rw[<-e8.o] at c6;subst c6;exact⟨_,rfl,d.setV 28 (.slice o f7.length n),rfl,jD,i,⟨jH,jH,⟨o,n,rfl,a0,a1,P⟩,trivial⟩,trivial⟩
  ·refine λd g j z k=>?_
   dsimp only[ji] at k;change wpOps _ _ _ [] _ _;refine jo ?_;obtain⟨o,n,c7,a0,a1,P⟩:=k.2.2.1;have f8:=jt B j;have f9:=zh P;rw[c7];clear k z P c7;generalize d.n 26=h0 at*;generalize d.n 27=h1 at*;clear d;go_wp2_with fail
   go_ret2
   rw[K.o];exact⟨⟨o,n,rfl,a0,a1,f9.o⟩,f8.o⟩
def XL (W:jV)(A:Option Addr)(cap:Nat)(rs:List aD)(f:Nat)(d7:si W A cap rs f)(e:Nat)(a7:e=0\/e=7\/e=8\/e=9)(es:ByteArray)(a8:es=eO (eJ e))(m:aC)(c:Array Value)(w:World)(V:fT m<=f)(n:f<=10000)(d8:rs.length<=1000000)(a9:pX w W A cap rs)(X:gK w m c):
  Calls prog 37 #[qP W.gw,.agg c,af es] w (jk ((bI rs m.args).bind λR=>bG rs m.nam m.vr R (.inf e)) w):=by
 obtain⟨Y,Z,rfl,g8,g9,h0,h1,h2,d9⟩:=X.form;have L:=aN w (.cells (aA m.kind m.nam m.vr Y m.args.length Z m.form) 25);have b0:=zh (au.new w 25 (aA m.kind m.nam m.vr Y m.args.length Z m.form));have b1:=zh (a9.keep L);have b2:=zh (X.keep L);have E:=zh L;have e0:=ah (lT m.args+1<=f) (by have:=yw V aa;omega);have e1:=zh V;have e2:=zh a8;have e3:=zh a7;clear a9 X d9 L V a8 a7;go_enter func37,ntmps37;go_upto_region 1 with(fail)
 generalize w.alloc (.cells (aA m.kind m.nam m.vr Y m.args.length Z m.form) 25)=e4 at*;obtain⟨e5,b3,b4,b5,b6⟩:=qc b0;go_wp2_with fail;refine(CS W A cap rs f d7 1 e e3.o es e2.o 2 aa aa m _ e4 e1.o aa d8 b1.o b2.o).mono ?_;rintro e6 y ⟨M,l⟩;have N:=jt E l;have b7:=zh E.o.size;clear e5 b3 b4 b5 b6 l E b0 b1 b2;cases o:((bI rs m.args).bind λR=>kL rs 1 m.nam e R 2) with
 |none=>
  rw[o] at M;obtain rfl:e6= .returned (.tuple #[.agg bY,qN,.bool false]):=M;have O:=zh (show((bI rs m.args).bind λR=>bG rs m.nam m.vr R (.inf e))=none by
   cases r:bI rs m.args with
   |none=>rfl
   |some R=>
    rw[r] at o;show bG rs m.nam m.vr R (.inf e)=none;unfold bG;dsimp only;rw[show kL rs 1 m.nam e R 2=none from o])
  have F:=zh (N.o.trans ((aN y (.cells bY 31)).mono N.o.size));clear o;go_wp2_with fail
  go_ret2
  rw[O.o];exact⟨rfl,F.o⟩
 |some e7=>
  obtain⟨t,R2⟩:=e7;rw[o] at M;obtain⟨v,h3,P,rfl,b8,b9,c0,h4,Q⟩:=M;obtain⟨R,r,G⟩:∃R,bI rs m.args=some R/\kL rs 1 m.nam e R 2=some (t,R2):=by
   cases r:bI rs m.args with
   |none=>rw[r] at o;cases o
   |some R=>rw[r] at o;exact⟨R,rfl,o⟩
  obtain⟨c1,H⟩:=GV G
  match R2,c1,H,G,c0,Q with
  |[a,b],_,H,G,c0,Q=>
  have O:=zh (show((bI rs m.args).bind λR=>bG rs m.nam m.vr R (.inf e))=some (a++[t]++b) by
   rw[r];show bG rs m.nam m.vr R (.inf e)=_;unfold bG;dsimp only;rw[G])
  have e8:=zh (show a.length+b.length<=160000 by
   have c2:=Bt r a (H a aS);have c3:=Bt r b (H b aS);have:=e0.o;omega)
  obtain⟨z,B,rfl,c4,c5,c6⟩:=b9.form λb l=>l
  have e9:=zh b8;have c7:=zh (And.intro c4 c5);have S:=aN y (qO t z B);have T:=zh (au.new y 31 (qC t z B));have F:=jt N S;have f0:=zh ((c6.any (ok':=λb=>w.heap.size<=b) λb _ l=>ax b7.o l).keep S);have c8:=zh ((Q.any (ok':=λb=>w.heap.size<=b) λb _ l=>ax b7.o l.1).keep S);have c9:=zh F.o.size;clear r o G H c1 b8 b9 Q c6 S c4 c5 N;go_upto_region 4 with(fail)
  generalize y.alloc (qO t z B)=a0 at*;obtain⟨k,I,J,rfl,d0,_,h5,h6,d1,f1,f2,f3,a1⟩:=c8.o.at0 (t:=aQ a) rfl;have f4:=zh d1;have d2:=zh d0;have a1:a0.cell? (aF k 3)=some (.slice I a.length J):=a1;clear f1 f2 f3 d0 d1;obtain⟨h7,C,D,d3,_,_,h8,h9,d4,_,_,_,a2⟩:=c8.o.at_ (i:=1) (t:=aQ b) rfl;obtain rfl:=sj d3;have f5:=zh d4;have a2:a0.cell? ⟨(k.add 4).block,(k.add 4).off+3,none⟩=some (.slice C b.length D):=a2;clear d4 d3;have E:=F;clear F;obtain⟨K,a3⟩:∃K,K=a++[t]++b:=⟨_,rfl⟩
  have f6:=zh a3;rw[<-a3] at O;clear a3;refine qm [2,2,2,1,1,1,2,2,2,1,1,1,2,2] (List.replicate 14 false) (λd=>[ay k 2 P,az k,aR k.block (k.off+3),.slice I a.length J,.agg (qC t z B),ay ⟨d.n 26,0,none⟩ 1 1,ay k 2 P,az (k.add 4),az ⟨(k.add 4).block,(k.add 4).off+3,none⟩,.slice C b.length D,ay ⟨d.n 31,0,none⟩ 3 3,d.v 32,d.v 32,.bool true]) [(5,λd u=>au u (d.n 26) 31 (qC t z B)/\a0.heap.size<=d.n 26),(10,λd u=>au u (d.n 31) 29 #[.slice I a.length J,ay ⟨d.n 26,0,none⟩ 1 1,.slice C b.length D]),(11,λd u=>∃s q,d.v 32= .slice s K.length q/\K.length<=q/\q<=9223372036854775807/\fw (λb=>w.heap.size<=b) u s K)] (λ_ _=>True) (bV.cons (λd u y h l=>⟨ae l h.1,h.2⟩) (bV.cons (λd u y h l=>ae l h) (bV.cons (λd u y ⟨s,q,c2,c3,f7,f8⟩ l=>⟨s,q,c2,c3,f7,f8.keep l⟩) bV.nil))) (trivial) ?_ ?_
  ·refine⟨jC,λd g=>?_,jI,jR λd g j=>(j.cell (p:=aF k 3) d2.o).trans a1,λd g j x n=>?_,λd g j x n=>?_,jC,jI,jI,λd g j x n=>?_,λd g j x n=>?_,λd g j x n=>?_,jC,jC,trivial⟩
   ·exact jp (az k) (bT Dw) rfl
   ·have f9:=(ae j T.o).cell 0;have g0:=(ae j T.o).cell 1;have g1:=(ae j T.o).cell 2;have P:=(ae j T.o).cell 3;exact gs (.agg (qC t z B)) x aj (jZ f9 g0 g1 P) rfl
   ·exact jv (ay (ag g.heap.size (0)) 1 1) (g.alloc (qO t z B)) iw ⟨d.setN 26 g.heap.size,rfl,jD,aN g _,⟨⟨au.new g _ _,j.size⟩,jG,jG,trivial⟩,trivial⟩
   ·have g2:g.cell? (ag k.block (k.off+4+3))=some (.slice C b.length D):=by have h:=(j.cell (p:=⟨(k.add 4).block,(k.add 4).off+3,none⟩) (by rw[gX];exact d2.o)).trans a2;simpa [go_sem] using h
    exact gs (.slice C b.length D) x aj (bT g2) rfl
   ·have a4:=jE n.1;exact jv (ay (ag g.heap.size (0)) 3 3) (g.alloc (.cells #[.slice I a.length J,ay ⟨d.n 26,0,none⟩ 1 1,.slice C b.length D] 29)) iw ⟨d.setN 31 g.heap.size,rfl,jD,aN g _,⟨jH,au.new g _ _,jG,trivial⟩,trivial⟩
   ·have a4:=jE n.1;have g3:=jE n.2.1;refine jc 64 (#[ay ⟨d.n 31,0,none⟩ 3 3]) g aj ((XH w.heap.size (d.n 31) I (some ⟨d.n 26,0,none⟩) C J 1 D a [t] b g g3 (f4.o.keep j) (by have g4:=xu (ok:=λb=>w.heap.size<=b) a4.1 e9.o c7.o.1 c7.o.2 (f0.o.keep j) (aV a4.2 c9.o);obtain⟨b3,b4,b5,b6⟩:=t;exact g4) (f5.o.keep j) (ax c9.o j.size) (by have:=e8.o;first|omega|(simp only[aY,gZ];omega))).mono ?_);rintro e i0 ⟨⟨s,q,g5,d5,rfl,a5,a6,U⟩,l⟩;rw[<-f6.o] at d5;subst d5;exact⟨_,rfl,d.setV 32 (.slice s g5.length q),rfl,jD,l,⟨jH,jH,⟨s,q,rfl,a5,a6,U⟩,trivial⟩,trivial⟩
  ·refine λd g j x n=>?_
   dsimp only[ji] at n;change wpOps _ _ _ [] _ _;refine jo ?_;obtain⟨s,q,d6,a5,a6,U⟩:=n.2.2.1;have g6:=jt E j;have g7:=zh U;rw[d6];clear n x U d6;generalize d.n 26=i1 at*;generalize d.n 31=i2 at*;clear d;go_wp2_with fail
   go_ret2
   rw[O.o];exact⟨⟨s,q,rfl,a5,a6,g7.o⟩,g6.o⟩
def XM {P:Nat->Prop}{w:World}{B:Nat}{v:Value}{ks:List aG}(h:bN P w B v ks){k:Nat}{x:aG}(u:ks[k]?=some x):
  ∃g cap d A m,v=ay (ag g (0)) ks.length cap/\ks.length<=cap/\cap<=9223372036854775807/\B<=g/\au w g 31 d/\d[k*4+3]?=some (.slice A x.kids.length m)/\x.kids.length<=m/\m<=9223372036854775807/\fw (λb=>b≠g/\P b) w A x.kids/\
   ∀(Q:Nat->Prop) (r:Option Addr) (n:List aG) (p:Nat) (o:World),n.length<=p->p<=9223372036854775807->au o g 31 (d.setIfInBounds (k*4+3) (.slice r n.length p))->fw Q o r n->(∀{y:aG} {c:Array Value},bC (λb=>b≠g/\P b) w y c->bC Q o y c)->Q g->fw Q o (some (ag g (0))) (ks.set k (.mk x.kind x.text x.cols n)):=by
 obtain⟨z,G,H,C⟩:=h;have I:=(bP.1 u).1;have D:=fP.size H C;rcases G.2 with⟨rfl,a4⟩|⟨g,cap,d,rfl,J,K,L,M,N,O⟩
 ·omega
 have R:au w g 31 d:=K;have E:∀(i:Nat) y,ks[i]?=some y->∃c,bC (λb=>b≠g/\P b) w y c/\∀j,j<4->d[i*4+j]?=c[j]?:=λi y f=>by
  have a5:=(bP.1 f).1;obtain⟨c,s⟩:∃c,z[i]?=some c:=⟨_,gE aa⟩
  refine⟨c,(C i c y s f).any λb _ h=>⟨λe=>h.1 (by rw[e];rfl),h.2⟩,λj l=>?_⟩;have a:=ED z i j c D s l;have S:j<c.size:=by rw[D c (dQ s)];exact l
  have t:c[j]?=some c[j]:=cB S;rw[t] at a⊢;rw[<-O,gU] at a
  split at a
  ·rw[<-gF];exact a
  ·cases a
 obtain⟨c,T,q⟩:=E k x u;obtain⟨A,m,rfl,U,V,W,X⟩:=T.form;refine⟨g,cap,d,A,m,rfl,L,by unfold maxLen at M;omega,J,R,q 3 aa,V,W,X,λQ r n p o Y Z a t a0 a1 i y f=>?_⟩;have a6:d.size=cap*4:=N;refine⟨(ag g (0)),rfl,a.lt,a1,?_⟩
 by_cases F:i=k
 ·subst F;rw[wH I] at f;obtain rfl:=sj f;refine⟨_,bC.of U Y Z t,λj l=>?_⟩;rw[xh,a.cell,tV]
  match j,l with
  |0,_=>rw[ai aa];exact q 0 aa
  |1,_=>rw[ai aa];exact q 1 aa
  |2,_=>rw[ai aa];exact q 2 aa
  |3,_=>rw[ak rfl,ak aa];rfl
  |j+4,l=>omega
 ·rw[wI (λe=>F e.symm)] at f;obtain⟨c,a2,a3⟩:=E i y f;refine⟨c,a0 a2,λj l=>?_⟩;rw[xh,a.cell,tV,ai aa];exact a3 j l
def XN {nam:ByteArray}(c:e=7\/e=9)(h:kL rs kd nam e R 1=some (t,R2)):∃b s0 r,t= .mk e ⟨#[]⟩ 0 (b::aQ s0::r)/\s0∈R:=by
 unfold kL at h
 split at h
 ·cases h
 ·split at h
  ·cases h
  ·split at h
   ·next u hq _ hl=>
    injection h with h;injection h with a f;have g:1<=fF e:=by rcases c with rfl|rfl<;>decide
    cases R with
    |nil=>simp at hl
    |cons s0 R=>
     obtain⟨k,d⟩:∃k,fF e=k+1:=⟨fF e -1,aa⟩
     rw[ai aa,d] at a;exact⟨_,s0,_,a.symm,bZ⟩
   ·cases h
def XO (a3:jV)(A:Option Addr)(cap:Nat)(rs:List aD)(f:Nat)(h6:si a3 A cap rs f)(e:Nat)(d9:e=7\/e=9)(es:ByteArray)(e0:es=eO (eJ e))(m:aC)(c:Array Value)(w:World)(b9:fT m<=f)(q:f<=10000)(h7:rs.length<=1000000)(e1:pX w a3 A cap rs)(c0:gK w m c):
  Calls prog 43 #[qP a3.gw,.agg c,af es] w (jk ((bI rs m.args).bind λR=>bG rs m.nam m.vr R (.bind e)) w):=by
 obtain⟨c1,c2,rfl,m0,h8,m1,m2,m3,h9⟩:=c0.form;have a4:=aN w (.cells (aA m.kind m.nam m.vr c1 m.args.length c2 m.form) 25);have a5:=zh (au.new w 25 (aA m.kind m.nam m.vr c1 m.args.length c2 m.form));have e2:=zh (e1.keep a4);have e3:=zh (c0.keep a4);have U:=zh a4;have e4:=ah (lT m.args+1<=f) (by have:=yw b9 aa;omega);have i0:=zh b9;have i1:=zh e0;have e5:=zh d9;have i2:=zh h8;clear e1 c0 h9 a4 b9 e0 d9;go_enter func43,ntmps43;go_upto_region 1 with(fail)
 generalize w.alloc (.cells (aA m.kind m.nam m.vr c1 m.args.length c2 m.form) 25)=V at*;obtain⟨i3,e6,e7,e8,e9⟩:=qc a5;go_wp2_with fail;refine(CS a3 A cap rs f h6 2 e (av e5.o) es i1.o 1 aa aa m _ V i0.o aa h7 e2.o e3.o).mono ?_;rintro r n ⟨a6,d⟩;have K:=jt U d;have i4:=kp d a5;have W:=zh U.o.size;have m4:=ah (w.heap.size<V.heap.size) a5.o.lt;clear i3 e6 e7 e8 e9 d U a5 e2 e3;cases u:((bI rs m.args).bind λR=>kL rs 2 m.nam e R 1) with
 |none=>
  rw[u] at a6;obtain rfl:r= .returned (.tuple #[.agg bY,qN,.bool false]):=a6;have X:=zh (show((bI rs m.args).bind λR=>bG rs m.nam m.vr R (.bind e))=none by
   cases B:bI rs m.args with
   |none=>rfl
   |some R=>
    rw[B] at u;show bG rs m.nam m.vr R (.bind e)=none;unfold bG;dsimp only;rw[show kL rs 2 m.nam e R 1=none from u])
  have Y:=zh (K.o.trans ((aN n (.cells bY 31)).mono K.o.size));clear u;go_wp2_with fail
  go_ret2
  rw[X.o];exact⟨rfl,Y.o⟩
 |some i5=>
  obtain⟨t,R2⟩:=i5;rw[u] at a6;obtain⟨v,i6,a7,c3,i7,f0,f1,m5,a8⟩:=a6;obtain⟨R,B,L⟩:∃R,bI rs m.args=some R/\kL rs 2 m.nam e R 1=some (t,R2):=by
   cases B:bI rs m.args with
   |none=>rw[B] at u;cases u
   |some R=>rw[B] at u;exact⟨R,rfl,u⟩
  obtain⟨f2,a9⟩:=GV L;obtain⟨c4,s0,M,rfl,f3⟩:=XN e5.o L
  match R2,f2,a9,L,f1,a8,c3 with
  |[a],_,a9,L,f1,a8,c3=>
  obtain rfl:r= .returned (.tuple #[.agg #[qI (e:Int),qE,qI 0,v],.slice i6 1 a7,.bool true]):=c3;have X:=zh (show((bI rs m.args).bind λR=>bG rs m.nam m.vr R (.bind e))=some ([.mk e ⟨#[]⟩ 0 (c4:: .mk 1 ⟨#[]⟩ 0 ([dh m.vr,dh sN]++s0)::M)]++a) by
   rw[B];show bG rs m.nam m.vr R (.bind e)=_;unfold bG;dsimp only;rw[L];rfl)
  have i8:=zh (show a.length<=160000 by
   have c5:=Bt B a (a9 a aS);have:=e4.o;omega)
  have i9:=zh (show s0.length<=160000 by
   have c5:=Bt B s0 f3;have:=e4.o;omega)
  obtain⟨g,o,j0,s,y,rfl,c6,f4,j1,E,f5,j2,j3,f6,f7⟩:=XM (k:=1) (x:=aQ s0) f0 rfl;obtain⟨I,b0⟩:∃I,I=(aG.mk e ⟨#[]⟩ 0 (c4::aQ s0::M)).kids.length:=⟨_,rfl⟩
  rw[<-b0] at c6;rw[<-b0];have c7:=ah (I=M.length+2) b0;have m6:(1:Int)<(I:Int):=by rw[c7.o];omega
  have b1:=zh (And.intro c6 f4);have f8:=aN n (.cells #[qI (e:Int),qE,qI 0,ay (ag g (0)) I o] 31);have F:=zh (au.new n 31 #[qI (e:Int),qE,qI 0,ay (ag g (0)) I o]);have b2:=ah (Below n.heap.size n _) f8;have Z:=ah (V.heap.size<=g/\g<n.heap.size) ⟨j1,E.lt⟩;have f9:=ah (fw (λb=>b≠g/\V.heap.size<=b) n s s0) f6;have g0:=ah (j0[7]?=some (.slice s s0.length y)) f5;have c8:=zh E;have g1:=zh (a8.any (ok':=λb=>b≠g/\V.heap.size<=b) λb _ d=>⟨λh=>d.2 (by rw[h];rfl),d.1⟩);have g2:=zh (λ(j4:Option Addr) (j5:List aG) (j6:Nat) (j7:World)=>f7 (λb=>w.heap.size<=b) j4 j5 j6 j7);clear B u L a9 f2 i7 f0 a8 f8 c6 f4 f6 f5 E f7 f3 b0;go_upto_region 4 with(fail)
  generalize n.alloc (.cells #[qI (e:Int),qE,qI 0,ay (ag g (0)) I o] 31)=N at*;have C:=F.o.cell 3;have G:=(ae b2.o i4.o).cell 2;have c9:=aN N (.cells #[qI 2,af m.vr,qI 0,qN,qI 2,af ⟨#[61]⟩,qI 0,qN] 31);have d0:=jt b2 c9;have g3:=zh (au.new N 31 #[qI 2,af m.vr,qI 0,qN,qI 2,af ⟨#[61]⟩,qI 0,qN]);have g4:=kp c9 F;clear c9 F;have j8:=ah (g<N.heap.size/\w.heap.size<=N.heap.size) (fD Z.o b2.o.size K.o.size);go_upto_region 6 with(fail)
  generalize N.heap.size=d1 at*;generalize N.alloc (.cells #[qI 2,af m.vr,qI 0,qN,qI 2,af ⟨#[61]⟩,qI 0,qN] 31)=d2 at*;clear G C b2;have g5:=((ae d0.o c8.o).cell 7).trans g0.o;have b3:=aN d2 (.cells #[ay (ag d1 (0)) 2 2,.slice s s0.length y] 29);have b4:=jt d0 b3;have g6:=zh (au.new d2 29 #[ay (ag d1 (0)) 2 2,.slice s s0.length y]);have g7:=zh (Pv (ok:=λb=>w.heap.size<=b/\b≠g) (ae b3 g3.o) (bC.zero _ _ 2 m.vr 0 i2.o) (bC.zero _ _ 2 ⟨#[61]⟩ 0 aI) (av j8.o));go_wp2_with fail;refine(PU (λb=>w.heap.size<=b/\b≠g) d2.heap.size (some (ag d1 (0))) s 2 y [dh m.vr,dh sN] s0 _ g6.o g7.o ((f9.o.any (ok':=λb=>w.heap.size<=b/\b≠g) λb _ d=>⟨aV d.2 W.o,d.1⟩).keep b4.o) (λb d=>fD b4.o.size Z.o K.o.size) (by have:=i9.o;simp only[aY,gZ];omega)).mono ?_;rintro r b5 ⟨⟨b6,b7,a0,g8,rfl,O,G,C⟩,d⟩;have a1:=jt b4 d;have j9:=zh g8;have E:=ae a1.o c8.o;have g5:=(E.cell 7).trans g0.o;have k0:=E.frozen 7;have P:b5.grownBy (b5.setCell (ag g (7)) (.slice b6 a0.length b7)) (some g):=kJ b5 (ag g (7)) _;have g9:=zh ((ae d (ae b3 g4.o)).grown P λe=>by have d3:n.heap.size=g:=sj e;have:=Z.o;omega);have d4:=K.o.trans (a1.o.mono K.o.size);have Y:=zh (d4.grown P d4.size λr e=>by have d3:g=r:=sj e;have:=Z.o;have:=W.o;omega);have h0:=zh (g2.o b6 a0 b7 _ O G (E.set_ 7 (.slice b6 a0.length b7)) ((C.off P λb d e=>d.2 (sj e)).any λb _ h=>h.1) (λh=>(h.keep a1.o).grown P (λb _ d e=>d.1 (sj e)) λb _ d=>aV d.2 W.o) (aV Z.o W.o));have k1:=zh (((g1.o.keep a1.o).off P λb d e=>d.1 (sj e)).any (ok':=λb=>w.heap.size<=b) λb _ d=>aV d.2 W.o);have h1:=zh Y.o.size;clear b3 d O G C g8 E P d4 b4 d0 g6 g7 g4 g3 g1 f9 g2 c8 a1;go_upto_region 7 with(fail)
  clear g5 k0;generalize b5.setCell (ag g (7)) (.slice b6 a0.length b7)=b8 at*;obtain⟨t,Q⟩:∃t,t=aG.mk e ⟨#[]⟩ 0 (c4:: .mk 1 ⟨#[]⟩ 0 a0::M):=⟨_,rfl⟩
  obtain⟨S,d5⟩:∃A:Option Addr,A=some ⟨g,0,none⟩:=⟨_,rfl⟩
  have F:=ah (au b8 n.heap.size 31 (qC t S o)) (by rw[Q,d5];show au _ _ _ #[qI (e:Int),qE,qI 0,ay (ag g (0)) (M.length+2) o];rw[<-c7.o];exact g9.o);have k2:=ah (t.text.size<=9223372036854775807) (by rw[Q];exact(by decide:(⟨#[]⟩:ByteArray).size<=9223372036854775807));have b1:=ah (t.kids.length<=o/\o<=9223372036854775807) (by rw[Q];show M.length+2<=o/\_;rw[<-c7.o];exact b1.o);have k3:=ah (fw (λb=>w.heap.size<=b) b8 S t.kids) (by rw[Q,d5];exact h0.o);rw[<-j9.o,<-Q] at X;clear Q d5 g9 h0;obtain⟨J,s,y,rfl,h2,_,j2,j3,h3,k4,k5,k6,d6⟩:=k1.o.at0 (t:=aQ a) rfl;have k7:=zh h3;have k8:=zh h2;have d6:b8.cell? (aF J 3)=some (.slice s a.length y):=d6;clear k4 k5 k6 h2 h3;have U:=Y;clear Y;obtain⟨a2,d7⟩:∃a2,a2=[t]++a:=⟨_,rfl⟩
  have k9:=zh d7;rw[<-d7] at X;clear d7;refine qm [1,1,2,2,2,1,1,1,2,2] (List.replicate 10 false) (λi=>[.agg (qC t S o),ay ⟨i.n 42,0,none⟩ 1 1,ay J 1 a7,az J,aR J.block (J.off+3),.slice s a.length y,ay ⟨i.n 47,0,none⟩ 2 2,i.v 48,i.v 48,.bool true]) [(1,λi H=>au H (i.n 42) 31 (qC t S o)/\b8.heap.size<=i.n 42),(6,λi H=>au H (i.n 47) 29 #[ay ⟨i.n 42,0,none⟩ 1 1,.slice s a.length y]),(7,λi H=>∃D z,i.v 48= .slice D a2.length z/\a2.length<=z/\z<=9223372036854775807/\fw (λb=>w.heap.size<=b) H D a2)] (λ_ _=>True) (bV.cons (λi H n h d=>⟨ae d h.1,h.2⟩) (bV.cons (λi H n h d=>ae d h) (bV.cons (λi H n ⟨D,z,c5,l0,l1,l2⟩ d=>⟨D,z,c5,l0,l1,l2.keep d⟩) bV.nil))) (trivial) ?_ ?_
  ·refine⟨λi j l T q=>?_,λi j l T q=>?_,jC,λi j=>jp (az J) (bT Dw) rfl,jI,jR λi j l=>(l.cell (p:=aF J 3) k8.o).trans d6,λi j l T q=>?_,λi j l T q=>?_,jC,jC,trivial⟩
   ·have l3:=(ae l F.o).cell 0;have l4:=(ae l F.o).cell 1;have l5:=(ae l F.o).cell 2;have a7:=(ae l F.o).cell 3;exact gs (.agg (qC t S o)) T aj (jZ l3 l4 l5 a7) rfl
   ·exact jv (ay (ag j.heap.size (0)) 1 1) (j.alloc (qO t S o)) iw ⟨i.setN 42 j.heap.size,rfl,jD,aN j _,⟨⟨au.new j _ _,l.size⟩,jG,jG,trivial⟩,trivial⟩
   ·have d8:=jE q.1;exact jv (ay (ag j.heap.size (0)) 2 2) (j.alloc (.cells #[ay ⟨i.n 42,0,none⟩ 1 1,.slice s a.length y] 29)) iw ⟨i.setN 47 j.heap.size,rfl,jD,aN j _,⟨jH,au.new j _ _,jG,trivial⟩,trivial⟩
   ·have d8:=jE q.1;have l6:=jE q.2.1;refine jc 64 (#[ay ⟨i.n 47,0,none⟩ 2 2]) j aj ((GU w.heap.size (i.n 47) (some ⟨i.n 42,0,none⟩) s 1 y [t] a j l6 (by have d3:=xu (ok:=λb=>w.heap.size<=b) d8.1 k2.o b1.o.1 b1.o.2 (k3.o.keep l) (aV d8.2 h1.o);obtain⟨e6,e7,e8,e9⟩:=t;exact d3) (k7.o.keep l) (ax h1.o l.size) (by have:=i8.o;first|omega|(simp only[aY,gZ];omega))).mono ?_);rintro e m7 ⟨⟨D,z,l7,h4,rfl,O,G,C⟩,d⟩;rw[<-k9.o] at h4;subst h4;exact⟨_,rfl,i.setV 48 (.slice D l7.length z),rfl,jD,d,⟨jH,jH,⟨D,z,rfl,O,G,C⟩,trivial⟩,trivial⟩
  ·refine λi j l T q=>?_
   dsimp only[ji] at q;change wpOps _ _ _ [] _ _;refine jo ?_;obtain⟨D,z,h5,O,G,C⟩:=q.2.2.1;have l8:=jt U l;have l9:=zh C;rw[h5];clear q T C h5;generalize i.n 42=m8 at*;generalize i.n 47=m9 at*;clear i;go_wp2_with fail
   go_ret2
   rw[X.o];exact⟨⟨D,z,rfl,O,G,l9.o⟩,l8.o⟩
def XP (W:jV)(A:Option Addr)(cap:Nat)(rs:List aD)(f:Nat)(u:si W A cap rs f)(m:aC)(c:Array Value)(w:World)(n:fT m<=f)(K:f<=10000)(_:rs.length<=1000000)(o:pX w W A cap rs)(h:gK w m c):
  Calls prog 28 #[.agg c,qP W.gb] w (jk ((bI rs m.args).bind λR=>bG rs m.nam m.vr R .frac) w):=by
 obtain⟨i,j,rfl,v,L,M,N,O,x⟩:=h.form;have d:=aN w (.cells (aA m.kind m.nam m.vr i m.args.length j m.form) 25);have y:=zh (au.new w 25 (aA m.kind m.nam m.vr i m.args.length j m.form));have p:=zh (o.keep d);have z:=zh (h.keep d);have B:=zh d;have C:=zh n;have D:=zh v;clear o h x d n;go_enter func28,ntmps28;go_upto_region 1 with(fail)
 generalize w.alloc (.cells (aA m.kind m.nam m.vr i m.args.length j m.form) 25)=E at*;obtain⟨P,Q,S,T,U⟩:=qc y;have V:=p.o.var.cell 0;go_wp2_with fail;refine(AJ W A cap rs f u 5 ⟨#[]⟩ 2 m _ E C.o aa p.o z.o).mono ?_;rintro r X e;have e:=e.itm (by first|exact D.o|decide);obtain⟨a,q⟩:=e.up B.o;have s:=zh q;have g:=zh a;clear e q;cases b:((bI rs m.args).bind λR=>bG rs m.nam m.vr R .frac) with
 |none=>
  have a:=g.o;rw[show((bI rs m.args).bind λR=>mP 5 ⟨#[]⟩ R 2)=none from b] at a;obtain rfl:r= .returned (.tuple #[qN,.bool false]):=a;have k:=zh b;clear b g;go_wp2_with fail
  go_ret2
  rw[k.o];exact⟨rfl,s.o⟩
 |some l=>
  have a:=g.o;rw[show((bI rs m.args).bind λR=>mP 5 ⟨#[]⟩ R 2)=some l from b] at a;obtain⟨F,G,rfl,H,I,t⟩:=a;have J:=zh t;have k:=zh b;clear b g t;go_wp2_with fail
  go_ret2
  rw[k.o];exact⟨⟨F,G,rfl,H,I,J.o⟩,s.o⟩
def XQ (W:jV)(A:Option Addr)(cap:Nat)(rs:List aD)(f:Nat)(u:si W A cap rs f)(m:aC)(c:Array Value)(w:World)(n:fT m<=f)(K:f<=10000)(_:rs.length<=1000000)(o:pX w W A cap rs)(h:gK w m c):
  Calls prog 31 #[.agg c,qP W.gb] w (jk ((bI rs m.args).bind λR=>bG rs m.nam m.vr R .sub) w):=by
 obtain⟨i,j,rfl,v,L,M,N,O,x⟩:=h.form;have d:=aN w (.cells (aA m.kind m.nam m.vr i m.args.length j m.form) 25);have y:=zh (au.new w 25 (aA m.kind m.nam m.vr i m.args.length j m.form));have p:=zh (o.keep d);have z:=zh (h.keep d);have B:=zh d;have C:=zh n;have D:=zh v;clear o h x d n;go_enter func31,ntmps31;go_upto_region 1 with(fail)
 generalize w.alloc (.cells (aA m.kind m.nam m.vr i m.args.length j m.form) 25)=E at*;obtain⟨P,Q,S,T,U⟩:=qc y;have V:=p.o.var.cell 0;go_wp2_with fail;refine(AJ W A cap rs f u 7 ⟨#[]⟩ 2 m _ E C.o aa p.o z.o).mono ?_;rintro r X e;have e:=e.itm (by first|exact D.o|decide);obtain⟨a,q⟩:=e.up B.o;have s:=zh q;have g:=zh a;clear e q;cases b:((bI rs m.args).bind λR=>bG rs m.nam m.vr R .sub) with
 |none=>
  have a:=g.o;rw[show((bI rs m.args).bind λR=>mP 7 ⟨#[]⟩ R 2)=none from b] at a;obtain rfl:r= .returned (.tuple #[qN,.bool false]):=a;have k:=zh b;clear b g;go_wp2_with fail
  go_ret2
  rw[k.o];exact⟨rfl,s.o⟩
 |some l=>
  have a:=g.o;rw[show((bI rs m.args).bind λR=>mP 7 ⟨#[]⟩ R 2)=some l from b] at a;obtain⟨F,G,rfl,H,I,t⟩:=a;have J:=zh t;have k:=zh b;clear b g t;go_wp2_with fail
  go_ret2
  rw[k.o];exact⟨⟨F,G,rfl,H,I,J.o⟩,s.o⟩
def XR (W:jV)(A:Option Addr)(cap:Nat)(rs:List aD)(f:Nat)(u:si W A cap rs f)(m:aC)(c:Array Value)(w:World)(n:fT m<=f)(K:f<=10000)(_:rs.length<=1000000)(o:pX w W A cap rs)(h:gK w m c):
  Calls prog 32 #[.agg c,qP W.gb] w (jk ((bI rs m.args).bind λR=>bG rs m.nam m.vr R .sup) w):=by
 obtain⟨i,j,rfl,v,L,M,N,O,x⟩:=h.form;have d:=aN w (.cells (aA m.kind m.nam m.vr i m.args.length j m.form) 25);have y:=zh (au.new w 25 (aA m.kind m.nam m.vr i m.args.length j m.form));have p:=zh (o.keep d);have z:=zh (h.keep d);have B:=zh d;have C:=zh n;have D:=zh v;clear o h x d n;go_enter func32,ntmps32;go_upto_region 1 with(fail)
 generalize w.alloc (.cells (aA m.kind m.nam m.vr i m.args.length j m.form) 25)=E at*;obtain⟨P,Q,S,T,U⟩:=qc y;have V:=p.o.var.cell 0;go_wp2_with fail;refine(AJ W A cap rs f u 8 ⟨#[]⟩ 2 m _ E C.o aa p.o z.o).mono ?_;rintro r X e;have e:=e.itm (by first|exact D.o|decide);obtain⟨a,q⟩:=e.up B.o;have s:=zh q;have g:=zh a;clear e q;cases b:((bI rs m.args).bind λR=>bG rs m.nam m.vr R .sup) with
 |none=>
  have a:=g.o;rw[show((bI rs m.args).bind λR=>mP 8 ⟨#[]⟩ R 2)=none from b] at a;obtain rfl:r= .returned (.tuple #[qN,.bool false]):=a;have k:=zh b;clear b g;go_wp2_with fail
  go_ret2
  rw[k.o];exact⟨rfl,s.o⟩
 |some l=>
  have a:=g.o;rw[show((bI rs m.args).bind λR=>mP 8 ⟨#[]⟩ R 2)=some l from b] at a;obtain⟨F,G,rfl,H,I,t⟩:=a;have J:=zh t;have k:=zh b;clear b g t;go_wp2_with fail
  go_ret2
  rw[k.o];exact⟨⟨F,G,rfl,H,I,J.o⟩,s.o⟩
def XT (W:jV)(A:Option Addr)(cap:Nat)(rs:List aD)(f:Nat)(u:si W A cap rs f)(m:aC)(c:Array Value)(w:World)(n:fT m<=f)(K:f<=10000)(_:rs.length<=1000000)(o:pX w W A cap rs)(h:gK w m c):
  Calls prog 33 #[.agg c,qP W.gb] w (jk ((bI rs m.args).bind λR=>bG rs m.nam m.vr R .both) w):=by
 obtain⟨i,j,rfl,v,L,M,N,O,x⟩:=h.form;have d:=aN w (.cells (aA m.kind m.nam m.vr i m.args.length j m.form) 25);have y:=zh (au.new w 25 (aA m.kind m.nam m.vr i m.args.length j m.form));have p:=zh (o.keep d);have z:=zh (h.keep d);have B:=zh d;have C:=zh n;have D:=zh v;clear o h x d n;go_enter func33,ntmps33;go_upto_region 1 with(fail)
 generalize w.alloc (.cells (aA m.kind m.nam m.vr i m.args.length j m.form) 25)=E at*;obtain⟨P,Q,S,T,U⟩:=qc y;have V:=p.o.var.cell 0;go_wp2_with fail;refine(AJ W A cap rs f u 9 ⟨#[]⟩ 3 m _ E C.o aa p.o z.o).mono ?_;rintro r X e;have e:=e.itm (by first|exact D.o|decide);obtain⟨a,q⟩:=e.up B.o;have s:=zh q;have g:=zh a;clear e q;cases b:((bI rs m.args).bind λR=>bG rs m.nam m.vr R .both) with
 |none=>
  have a:=g.o;rw[show((bI rs m.args).bind λR=>mP 9 ⟨#[]⟩ R 3)=none from b] at a;obtain rfl:r= .returned (.tuple #[qN,.bool false]):=a;have k:=zh b;clear b g;go_wp2_with fail
  go_ret2
  rw[k.o];exact⟨rfl,s.o⟩
 |some l=>
  have a:=g.o;rw[show((bI rs m.args).bind λR=>mP 9 ⟨#[]⟩ R 3)=some l from b] at a;obtain⟨F,G,rfl,H,I,t⟩:=a;have J:=zh t;have k:=zh b;clear b g t;go_wp2_with fail
  go_ret2
  rw[k.o];exact⟨⟨F,G,rfl,H,I,J.o⟩,s.o⟩
def XU (W:jV)(A:Option Addr)(cap:Nat)(rs:List aD)(f:Nat)(u:si W A cap rs f)(m:aC)(c:Array Value)(w:World)(n:fT m<=f)(K:f<=10000)(_:rs.length<=1000000)(o:pX w W A cap rs)(h:gK w m c):
  Calls prog 34 #[.agg c,qP W.gb] w (jk ((bI rs m.args).bind λR=>bG rs m.nam m.vr R .accent) w):=by
 obtain⟨i,j,rfl,v,L,M,N,O,x⟩:=h.form;have d:=aN w (.cells (aA m.kind m.nam m.vr i m.args.length j m.form) 25);have y:=zh (au.new w 25 (aA m.kind m.nam m.vr i m.args.length j m.form));have p:=zh (o.keep d);have z:=zh (h.keep d);have B:=zh d;have C:=zh n;have D:=zh v;clear o h x d n;go_enter func34,ntmps34;go_upto_region 1 with(fail)
 generalize w.alloc (.cells (aA m.kind m.nam m.vr i m.args.length j m.form) 25)=E at*;obtain⟨P,Q,S,T,U⟩:=qc y;have V:=p.o.var.cell 0;go_wp2_with fail;refine(AJ W A cap rs f u 10 m.nam 1 m _ E C.o aa p.o z.o).mono ?_;rintro r X e;have e:=e.itm (by first|exact D.o|decide);obtain⟨a,q⟩:=e.up B.o;have s:=zh q;have g:=zh a;clear e q;cases b:((bI rs m.args).bind λR=>bG rs m.nam m.vr R .accent) with
 |none=>
  have a:=g.o;rw[show((bI rs m.args).bind λR=>mP 10 m.nam R 1)=none from b] at a;obtain rfl:r= .returned (.tuple #[qN,.bool false]):=a;have k:=zh b;clear b g;go_wp2_with fail
  go_ret2
  rw[k.o];exact⟨rfl,s.o⟩
 |some l=>
  have a:=g.o;rw[show((bI rs m.args).bind λR=>mP 10 m.nam R 1)=some l from b] at a;obtain⟨F,G,rfl,H,I,t⟩:=a;have J:=zh t;have k:=zh b;clear b g t;go_wp2_with fail
  go_ret2
  rw[k.o];exact⟨⟨F,G,rfl,H,I,J.o⟩,s.o⟩
def GX (W:jV)(A:Option Addr)(cap:Nat)(rs:List aD)(f:Nat)(y:si W A cap rs f)(e:Nat)(o:e=0\/e=7\/e=8\/e=9)(m:aC)(c:Array Value)(w:World)(p:fT m<=f)(z:f<=10000)(B:rs.length<=1000000)(q:pX w W A cap rs)(h:gK w m c):
  Calls prog 36 #[.agg c,qP W.gb,az ⟨W.ge (eJ e),0,none⟩] w (jk ((bI rs m.args).bind λR=>bG rs m.nam m.vr R (.inf e)) w):=by
 obtain⟨i,j,rfl,C,O,P,Q,S,D⟩:=h.form;have d:=aN w (.cells (aA m.kind m.nam m.vr i m.args.length j m.form) 25);have E:=zh (au.new w 25 (aA m.kind m.nam m.vr i m.args.length j m.form));have k:=zh (q.keep d);have F:=zh (h.keep d);have G:=zh d;have H:=zh p;have T:=zh C;have s:=zh o;clear q h D d p o;go_enter func36,ntmps36;go_upto_region 1 with(fail)
 generalize w.alloc (.cells (aA m.kind m.nam m.vr i m.args.length j m.form) 25)=I at*;obtain⟨U,V,X,Y,Z⟩:=qc E;have a0:=k.o.var.cell 0;have a1:=(k.o.ends (eJ e) (by rcases s.o with rfl|rfl|rfl|rfl<;>decide)).cell 0;go_wp2_with fail;refine(XL W A cap rs f y e s.o (eO (eJ e)) rfl m _ I H.o z B k.o F.o).mono ?_;rintro r a2 t;obtain⟨a,u⟩:=t.up G.o;have v:=zh u;have g:=zh a;clear t u;cases b:((bI rs m.args).bind λR=>bG rs m.nam m.vr R (.inf e)) with
 |none=>
  have a:=g.o;rw[show((bI rs m.args).bind λR=>bG rs m.nam m.vr R (.inf e))=none from b] at a;obtain rfl:r= .returned (.tuple #[qN,.bool false]):=a;have n:=zh b;clear b g;go_wp2_with fail
  go_ret2
  rw[n.o];exact⟨rfl,v.o⟩
 |some l=>
  have a:=g.o;rw[show((bI rs m.args).bind λR=>bG rs m.nam m.vr R (.inf e))=some l from b] at a;obtain⟨J,K,rfl,L,M,x⟩:=a;have N:=zh x;have n:=zh b;clear b g x;go_wp2_with fail
  go_ret2
  rw[n.o];exact⟨⟨J,K,rfl,L,M,N.o⟩,v.o⟩
def GY (W:jV)(A:Option Addr)(cap:Nat)(rs:List aD)(f:Nat)(y:si W A cap rs f)(e:Nat)(o:e=0\/e=7\/e=8\/e=9)(m:aC)(c:Array Value)(w:World)(p:fT m<=f)(z:f<=10000)(B:rs.length<=1000000)(q:pX w W A cap rs)(h:gK w m c):
  Calls prog 38 #[.agg c,qP W.gb,az ⟨W.ge (eJ e),0,none⟩] w (jk ((bI rs m.args).bind λR=>bG rs m.nam m.vr R (.pre e)) w):=by
 obtain⟨i,j,rfl,C,O,P,Q,S,D⟩:=h.form;have d:=aN w (.cells (aA m.kind m.nam m.vr i m.args.length j m.form) 25);have E:=zh (au.new w 25 (aA m.kind m.nam m.vr i m.args.length j m.form));have k:=zh (q.keep d);have F:=zh (h.keep d);have G:=zh d;have H:=zh p;have T:=zh C;have s:=zh o;clear q h D d p o;go_enter func38,ntmps38;go_upto_region 1 with(fail)
 generalize w.alloc (.cells (aA m.kind m.nam m.vr i m.args.length j m.form) 25)=I at*;obtain⟨U,V,X,Y,Z⟩:=qc E;have a0:=k.o.var.cell 0;have a1:=(k.o.ends (eJ e) (by rcases s.o with rfl|rfl|rfl|rfl<;>decide)).cell 0;go_wp2_with fail;refine(XJ W A cap rs f y e s.o (eO (eJ e)) rfl m _ I H.o z B k.o F.o).mono ?_;rintro r a2 t;obtain⟨a,u⟩:=t.up G.o;have v:=zh u;have g:=zh a;clear t u;cases b:((bI rs m.args).bind λR=>bG rs m.nam m.vr R (.pre e)) with
 |none=>
  have a:=g.o;rw[show((bI rs m.args).bind λR=>bG rs m.nam m.vr R (.pre e))=none from b] at a;obtain rfl:r= .returned (.tuple #[qN,.bool false]):=a;have n:=zh b;clear b g;go_wp2_with fail
  go_ret2
  rw[n.o];exact⟨rfl,v.o⟩
 |some l=>
  have a:=g.o;rw[show((bI rs m.args).bind λR=>bG rs m.nam m.vr R (.pre e))=some l from b] at a;obtain⟨J,K,rfl,L,M,x⟩:=a;have N:=zh x;have n:=zh b;clear b g x;go_wp2_with fail
  go_ret2
  rw[n.o];exact⟨⟨J,K,rfl,L,M,N.o⟩,v.o⟩
def GZ (W:jV)(A:Option Addr)(cap:Nat)(rs:List aD)(f:Nat)(y:si W A cap rs f)(e:Nat)(o:e=0\/e=7\/e=8\/e=9)(m:aC)(c:Array Value)(w:World)(p:fT m<=f)(z:f<=10000)(B:rs.length<=1000000)(q:pX w W A cap rs)(h:gK w m c):
  Calls prog 40 #[.agg c,qP W.gb,az ⟨W.ge (eJ e),0,none⟩] w (jk ((bI rs m.args).bind λR=>bG rs m.nam m.vr R (.pos e)) w):=by
 obtain⟨i,j,rfl,C,O,P,Q,S,D⟩:=h.form;have d:=aN w (.cells (aA m.kind m.nam m.vr i m.args.length j m.form) 25);have E:=zh (au.new w 25 (aA m.kind m.nam m.vr i m.args.length j m.form));have k:=zh (q.keep d);have F:=zh (h.keep d);have G:=zh d;have H:=zh p;have T:=zh C;have s:=zh o;clear q h D d p o;go_enter func40,ntmps40;go_upto_region 1 with(fail)
 generalize w.alloc (.cells (aA m.kind m.nam m.vr i m.args.length j m.form) 25)=I at*;obtain⟨U,V,X,Y,Z⟩:=qc E;have a0:=k.o.var.cell 0;have a1:=(k.o.ends (eJ e) (by rcases s.o with rfl|rfl|rfl|rfl<;>decide)).cell 0;go_wp2_with fail;refine(XK W A cap rs f y e s.o (eO (eJ e)) rfl m _ I H.o z B k.o F.o).mono ?_;rintro r a2 t;obtain⟨a,u⟩:=t.up G.o;have v:=zh u;have g:=zh a;clear t u;cases b:((bI rs m.args).bind λR=>bG rs m.nam m.vr R (.pos e)) with
 |none=>
  have a:=g.o;rw[show((bI rs m.args).bind λR=>bG rs m.nam m.vr R (.pos e))=none from b] at a;obtain rfl:r= .returned (.tuple #[qN,.bool false]):=a;have n:=zh b;clear b g;go_wp2_with fail
  go_ret2
  rw[n.o];exact⟨rfl,v.o⟩
 |some l=>
  have a:=g.o;rw[show((bI rs m.args).bind λR=>bG rs m.nam m.vr R (.pos e))=some l from b] at a;obtain⟨J,K,rfl,L,M,x⟩:=a;have N:=zh x;have n:=zh b;clear b g x;go_wp2_with fail
  go_ret2
  rw[n.o];exact⟨⟨J,K,rfl,L,M,N.o⟩,v.o⟩
def PV (W:jV)(A:Option Addr)(cap:Nat)(rs:List aD)(f:Nat)(y:si W A cap rs f)(e:Nat)(p:e=7\/e=9)(m:aC)(c:Array Value)(w:World)(q:fT m<=f)(z:f<=10000)(B:rs.length<=1000000)(s:pX w W A cap rs)(h:gK w m c):
  Calls prog 42 #[.agg c,qP W.gb,az ⟨W.gf (bJ e),0,none⟩] w (jk ((bI rs m.args).bind λR=>bG rs m.nam m.vr R (.bind e)) w):=by
 obtain⟨i,j,rfl,C,O,P,Q,S,D⟩:=h.form;have d:=aN w (.cells (aA m.kind m.nam m.vr i m.args.length j m.form) 25);have E:=zh (au.new w 25 (aA m.kind m.nam m.vr i m.args.length j m.form));have k:=zh (s.keep d);have F:=zh (h.keep d);have G:=zh d;have H:=zh q;have T:=zh C;have n:=zh p;clear s h D d q p;go_enter func42,ntmps42;go_upto_region 1 with(fail)
 generalize w.alloc (.cells (aA m.kind m.nam m.vr i m.args.length j m.form) 25)=I at*;obtain⟨U,V,X,Y,Z⟩:=qc E;have a0:=k.o.var.cell 0;have a1:=(k.o.bnds (bJ e) (by rcases n.o with rfl|rfl<;>decide)).cell 0;go_wp2_with fail;refine(XO W A cap rs f y e n.o (mR (bJ e)) (by rcases n.o with rfl|rfl<;>rfl) m _ I H.o z B k.o F.o).mono ?_;rintro r a2 t;obtain⟨a,u⟩:=t.up G.o;have v:=zh u;have g:=zh a;clear t u;cases b:((bI rs m.args).bind λR=>bG rs m.nam m.vr R (.bind e)) with
 |none=>
  have a:=g.o;rw[show((bI rs m.args).bind λR=>bG rs m.nam m.vr R (.bind e))=none from b] at a;obtain rfl:r= .returned (.tuple #[qN,.bool false]):=a;have o:=zh b;clear b g;go_wp2_with fail
  go_ret2
  rw[o.o];exact⟨rfl,v.o⟩
 |some l=>
  have a:=g.o;rw[show((bI rs m.args).bind λR=>bG rs m.nam m.vr R (.bind e))=some l from b] at a;obtain⟨J,K,rfl,L,M,x⟩:=a;have N:=zh x;have o:=zh b;clear b g x;go_wp2_with fail
  go_ret2
  rw[o.o];exact⟨⟨J,K,rfl,L,M,N.o⟩,v.o⟩
def Kv (W:jV)(A:Option Addr)(cap:Nat)(rs:List aD)(f:Nat)(k:FK)(fid:FuncId)(pre post:Array Value):Prop:=
 (∀args w,Sem.run prog (callFunc fid args) w= .ok (.enter fid args) w)/\∀(m:aC) (c:Array Value) (w:World),fT m<=f->f<=10000->rs.length<=1000000->pX w W A cap rs->gK w m c->Calls prog fid (pre++ #[.agg c]++post) w (jk ((bI rs m.args).bind λR=>bG rs m.nam m.vr R k) w)
def XV (W:jV)(A:Option Addr)(cap:Nat)(rs:List aD)(f:Nat)(j:si W A cap rs f){s:List UInt8}{k:FK}(n:iG s=some k):
  (∃l g,xk W k=pV l g/\Kv W A cap rs f k l #[] #[qP g])\/(∃l g h,xk W k=wB l g h/\Kv W A cap rs f k l #[] #[qP g,qP h])\/(∃l g,xk W k=zT l g/\Kv W A cap rs f k l #[qP g] #[]):=by
 obtain⟨p,o,rfl⟩:=wK.1 n;have q:=wL o;clear o n;simp only[Bj,dD,nS,or_false] at q;rcases q with rfl|rfl|rfl|rfl|rfl|rfl|rfl|rfl|rfl|rfl|rfl|rfl|rfl|rfl|rfl|rfl|rfl|rfl|rfl|rfl|rfl
 ·exact .inl ⟨_,_,rfl,λ_ _=>rfl,λm c w a e i b d=>XP W A cap rs f j m c w a e i b d⟩
 ·exact .inr (.inr ⟨_,_,rfl,λ_ _=>rfl,λm c w a e i b d=>Xa W A cap rs f j m c w a aa b d⟩)
 ·exact .inl ⟨_,_,rfl,λ_ _=>rfl,λm c w a e i b d=>XQ W A cap rs f j m c w a e i b d⟩
 ·exact .inl ⟨_,_,rfl,λ_ _=>rfl,λm c w a e i b d=>XR W A cap rs f j m c w a e i b d⟩
 ·exact .inl ⟨_,_,rfl,λ_ _=>rfl,λm c w a e i b d=>XT W A cap rs f j m c w a e i b d⟩
 ·exact .inl ⟨_,_,rfl,λ_ _=>rfl,λm c w a e i b d=>XU W A cap rs f j m c w a e i b d⟩
 ·exact .inr (.inr ⟨_,_,rfl,λ_ _=>rfl,λm c w a e i b d=>XI W A cap rs f j m c w a e b d⟩)
 ·exact .inr (.inl ⟨_,_,_,rfl,λ_ _=>rfl,λm c w a e i b d=>GX W A cap rs f j 0 (.inl rfl) m c w a e i b d⟩)
 ·exact .inr (.inl ⟨_,_,_,rfl,λ_ _=>rfl,λm c w a e i b d=>GY W A cap rs f j 0 (.inl rfl) m c w a e i b d⟩)
 ·exact .inr (.inl ⟨_,_,_,rfl,λ_ _=>rfl,λm c w a e i b d=>GZ W A cap rs f j 0 (.inl rfl) m c w a e i b d⟩)
 ·exact .inr (.inl ⟨_,_,_,rfl,λ_ _=>rfl,λm c w a e i b d=>GX W A cap rs f j 7 (.inr (.inl rfl)) m c w a e i b d⟩)
 ·exact .inr (.inl ⟨_,_,_,rfl,λ_ _=>rfl,λm c w a e i b d=>GY W A cap rs f j 7 (.inr (.inl rfl)) m c w a e i b d⟩)
 ·exact .inr (.inl ⟨_,_,_,rfl,λ_ _=>rfl,λm c w a e i b d=>GZ W A cap rs f j 7 (.inr (.inl rfl)) m c w a e i b d⟩)
 ·exact .inr (.inl ⟨_,_,_,rfl,λ_ _=>rfl,λm c w a e i b d=>GX W A cap rs f j 8 (.inr (.inr (.inl rfl))) m c w a e i b d⟩)
 ·exact .inr (.inl ⟨_,_,_,rfl,λ_ _=>rfl,λm c w a e i b d=>GY W A cap rs f j 8 (.inr (.inr (.inl rfl))) m c w a e i b d⟩)
 ·exact .inr (.inl ⟨_,_,_,rfl,λ_ _=>rfl,λm c w a e i b d=>GZ W A cap rs f j 8 (.inr (.inr (.inl rfl))) m c w a e i b d⟩)
 ·exact .inr (.inl ⟨_,_,_,rfl,λ_ _=>rfl,λm c w a e i b d=>GX W A cap rs f j 9 (.inr (jK)) m c w a e i b d⟩)
 ·exact .inr (.inl ⟨_,_,_,rfl,λ_ _=>rfl,λm c w a e i b d=>GY W A cap rs f j 9 (.inr (jK)) m c w a e i b d⟩)
 ·exact .inr (.inl ⟨_,_,_,rfl,λ_ _=>rfl,λm c w a e i b d=>GZ W A cap rs f j 9 (.inr (jK)) m c w a e i b d⟩)
 ·exact .inr (.inl ⟨_,_,_,rfl,λ_ _=>rfl,λm c w a e i b d=>PV W A cap rs f j 7 (.inl rfl) m c w a e i b d⟩)
 ·exact .inr (.inl ⟨_,_,_,rfl,λ_ _=>rfl,λm c w a e i b d=>PV W A cap rs f j 9 (.inr rfl) m c w a e i b d⟩)
end Go.Proofs.YtlefbenkhgbifaaGreatDoor.Rn
