/- Narrow of the reference of render: the law's bound. -/
import Derived.Test.YtlefbenkhgbifaaGreatDoorH11631d7c
set_option linter.all false
set_option maxRecDepth 100000
set_option maxHeartbeats 8000000
namespace Go.Proofs.YtlefbenkhgbifaaGreatDoor
open Tryz
namespace El
open At Ch Sp Sy Go.RowKit
def QH (A:Option Addr)(cap:Nat)(rs:List aD)(a:fZ rs=true)(b:rs.length<=1000):∀f,Hq A cap rs f
 |0=>λ_ _ _ _ _ _ _ _ _ _ _ _ _ _ _ _ _ _ _ _ _ _ h=>absurd h aa
 |f+1=>ZT A cap rs a b f (QH A cap rs a b f)
def DF (rs:List aD)(n:aG)(m:bO aC)(w:World)(e:Ending)(w':World):Prop:=(match m with
 | .ok t=>∃c,e= .returned (.tuple #[.agg c,.pointer none])/\bH (λb=>w.heap.size<=b) w' t c
 | .bad er p=>∃gf,e= .returned (.tuple #[.agg cK,qP gf])/\yx (λrds=>er=14->yP rs n.kids [] 0 p rds) (λb=>w.heap.size<=b) w' gf er p)/\Below w.heap.size w w'
def ZU (A:Option Addr)(cap:Nat)(rs:List aD)(f:Nat)(n:aG)(c:Array Value)(w:World)(d4:fG w A rs)(e7:rs.length<=1000)(b7:lX w n c)(d5:bK n.kids<f)(d6:dK n<=1000)(d7:wy n=true):
  Calls prog 81 #[.slice A rs.length cap,.agg c] w (DF rs n (kW rs f n) w):=by
 obtain⟨l,m,rfl,e8,e9,f0,d8⟩:=b7.form;have b8:=aN w (qO n l m);have s1:(w.alloc (qO n l m)).heap.size=w.heap.size+1:=aS
 have b9:=aN (w.alloc (qO n l m)) (.cells cK 25);have i:=zh (b8.trans (b9.mono b8.size));have k:=zh (ae b9 (au.new w 31 (qC n l m)));have j:=zh (au.new (w.alloc (qO n l m)) 25 cK);rw[s1] at j;have Z:=zh d4;have d9:=zh b7;have f1:=zh d8;have f2:=zh d5;have c0:=zh d6;have f3:=zh d7;clear d4 b7 d8 d5 e8 b8 b9 s1 d6 d7;go_enter func81,ntmps81;go_upto_region 1 with(fail)
 generalize (w.alloc (qO n l m)).alloc (.cells cK 25)=c1 at*;cases I:fZ rs with
 |false=>
  have P:=zh I;have M:=ah (kW rs f n= .bad 1 []) (by unfold kW;rw[I];rfl);clear I;obtain⟨s,u,x,o⟩:=qb k;go_wp2_with fail;refine(Go.Proofs.YtlefbenkhgbifaaGreatDoor.xJ A cap rs c1 (Z.o.keep i.o) aa).mono ?_;rintro e g ⟨rfl,a⟩;replace i:=jt i a;replace k:=kp a k;replace j:=kp a j;clear a s u x o;rw[P.o];have d:=aN g (.cells #[qI 1,qN,qN] 121);have c2:=jt i d;have K:=kp d j;have Q:=zh (au.new g 121 #[qI 1,qN,qN]);have R:=ah (w.heap.size+1<g.heap.size) j.o.lt;have a0:=K.o.cell;have a1:=K.o.frozen;go_wp2_with fail;obtain⟨a2,y,z,B,r⟩:=gQ K.o c2.o aa (qI 0) qE qE qN qE;rw[y];obtain⟨C,D,E,F,G⟩:=jF z;exact aB (v:=.tuple #[.agg qT,qP g.heap.size]) (by simp[results,results81,go_sem,C,D,E,F,G]) rfl (show DF _ _ _ _ _ _ by rw[M.o];exact⟨⟨_,rfl,none,0,none,0,[],Q.o.grown r.o (λe=>aV (sj e) R.o),aH _,aa,zS,av R.o,λa3 h=>(by cases h),aH _,aa,iE.nil _ _ _,λe=>absurd e aI⟩,B.o⟩)
 |true=>
  have P:=zh I;cases J:yC n with
  |false=>
   have c3:=zh J;have M:=ah (kW rs f n= .bad 1 []) (by unfold kW;rw[I,J];rfl);clear I J;obtain⟨s,u,x,o⟩:=qb k;go_wp2_with fail;refine(Go.Proofs.YtlefbenkhgbifaaGreatDoor.xJ A cap rs c1 (Z.o.keep i.o) aa).mono ?_;rintro e g ⟨rfl,a⟩;replace i:=jt i a;replace k:=kp a k;replace j:=kp a j;clear a s u x o;rw[P.o];obtain⟨s,u,x,o⟩:=qb k;go_wp2_with fail;refine(At.xJ n _ g (av c0.o) (d9.o.keep i.o)).mono ?_;rintro e c4 ⟨rfl,a⟩;replace i:=jt i a;replace k:=kp a k;replace j:=kp a j;clear a s u x o;generalize c4=g at*;rw[c3.o];have d:=aN g (.cells #[qI 1,qN,qN] 121);have c2:=jt i d;have K:=kp d j;have Q:=zh (au.new g 121 #[qI 1,qN,qN]);have R:=ah (w.heap.size+1<g.heap.size) j.o.lt;have a0:=K.o.cell;have a1:=K.o.frozen;go_wp2_with fail;obtain⟨a2,y,z,B,r⟩:=gQ K.o c2.o aa (qI 0) qE qE qN qE;rw[y];obtain⟨C,D,E,F,G⟩:=jF z;exact aB (v:=.tuple #[.agg qT,qP g.heap.size]) (by simp[results,results81,go_sem,C,D,E,F,G]) rfl (show DF _ _ _ _ _ _ by rw[M.o];exact⟨⟨_,rfl,none,0,none,0,[],Q.o.grown r.o (λe=>aV (sj e) R.o),aH _,aa,zS,av R.o,λa3 h=>(by cases h),aH _,aa,iE.nil _ _ _,λe=>absurd e aI⟩,B.o⟩)
  |true=>
   have c3:=zh J;have M:=zh (show kW rs f n=match dE rs f n.kids [] 0 with
    | .ok t=>if nV t=true then .ok t else .bad 6 [0]
    | .bad e c5=>.bad e c5 by unfold kW;rw[I,J];rfl)
   have f4:=zh (Dk J).2.2.2;have e0:=zh (Qv f3.o (Dk J).1);have e1:=ah (bK n.kids<1000) (by have g6:=Oc n;have:=c0.o;omega);clear I J;obtain⟨s,u,x,o⟩:=qb k;go_wp2_with fail;refine(Go.Proofs.YtlefbenkhgbifaaGreatDoor.xJ A cap rs c1 (Z.o.keep i.o) aa).mono ?_;rintro e g ⟨rfl,a⟩;replace i:=jt i a;replace k:=kp a k;replace j:=kp a j;clear a s u x o;rw[P.o];obtain⟨s,u,x,o⟩:=qb k;go_wp2_with fail;refine(At.xJ n _ g (av c0.o) (d9.o.keep i.o)).mono ?_;rintro e c4 ⟨rfl,a⟩;replace i:=jt i a;replace k:=kp a k;replace j:=kp a j;clear a s u x o;generalize c4=g at*;rw[c3.o];have o:=k.o.cell 3;go_upto_region 4 with(fail)
   have d:=aN g (.cells (sU A cap rs l m n.kids none 0 [] 0 qN) 158);have KL:=ah (au (g.alloc (.cells (sU A cap rs l m n.kids none 0 [] 0 qN) 158)) g.heap.size 158 (sU A cap rs l m (n.kids.drop 0) none 0 [] 0 qN)) (au.new g _ _);have f5:=zh d;have a4:=jt i d;have c6:=kp d j;have e2:=ah (w.heap.size+1<g.heap.size) j.o.lt;clear d o k j;change Code.wp _ _ _ _ (g.alloc (.cells (sU A cap rs l m n.kids none 0 [] 0 qN) 158));generalize g.alloc (.cells (sU A cap rs l m n.kids none 0 [] 0 qN) 158)=c7 at*;go_wp2_with fail;refine(QH A cap rs P.o e7 f n.kids [] 0 l none m 0 g.heap.size g c7 (Z.o.keep i.o) (by rw[mF];exact f1.o.keep i.o) f5.o (aH _) e9 f0 zS (λa3 h=>by cases h) (aH _) aa KL.o f4.o f2.o (by have:=e1.o;simp only[gZ];omega) e0.o.1 e0.o.2 aa).mono ?_;rintro e H ⟨a5,c8⟩;have c9:=zh (a4.o.trans (c8.down a4.o.size (av e2.o)));have a6:=zh (c8.blk c6.o (av e2.o));have f6:=ah (w.heap.size<=c7.heap.size) a4.o.size;have e3:=ah (w.heap.size+1<c7.heap.size) c6.o.lt;clear c8 KL a4 c6 i;cases L:dE rs f n.kids [] 0 with
   |bad f7 c5=>
    rw[L] at a5;obtain⟨e4,rfl,e5⟩:=a5;have d:=aN H (.cells qT 25);have f8:=zh (e5.keep d);have N:=zh (au.new H 25 qT);have O:=jt c9 d;have p:=kp d a6;have a7:=ah (kW rs f n= .bad f7 c5) (by rw[M.o,L]);clear e5 L d;go_upto_region 5 with(fail)
    generalize H.heap.size=f9 at*;generalize H.alloc (.cells qT 25)=e6 at*;obtain⟨a8,a9,b0,b1,b2⟩:=qc N;have a0:=p.o.cell;have a1:=p.o.frozen;go_wp2_with fail;obtain⟨a2,y,z,B,r⟩:=gQ p.o O.o aa (qI 0) qE qE qN qE;rw[y];obtain⟨C,D,E,F,G⟩:=jF z;exact aB (v:=.tuple #[.agg qT,qP e4]) (by simp[results,results81,go_sem,C,D,E,F,G]) rfl (show DF _ _ _ _ _ _ by rw[a7.o];exact⟨⟨e4,rfl,(f8.o.grown r.o λa=>av e3.o).any (λ_ h=>h) λb _ a=>av f6.o⟩,B.o⟩)
   |ok t=>
    rw[L] at a5;obtain⟨g7,rfl,d0⟩:=a5;obtain⟨S,T,U,V,W,X,Y,rfl⟩:=d0.ext;have d:=aN H (.cells #[qI S,af T,af U,.slice V W X,af Y] 25);have b3:=zh ((d0.keep d).any (ok':=λb=>w.heap.size+1<b) λb _ h=>av e3.o);have N:=zh (au.new H 25 #[qI S,af T,af U,.slice V W X,af Y]);have O:=jt c9 d;have p:=kp d a6;have g0:=ah (bg t<=1000000) (by have g8:=OP rs f n.kids [] 0 t L;have:=e1.o;omega);have a7:=ah (kW rs f n=if nV t=true then .ok t else .bad 6 [0]) (by rw[M.o,L]);have g9:=ah (w.heap.size+1<H.heap.size) a6.o.lt;clear d0 L d c9 a6;go_upto_region 5 with(fail)
    generalize H.heap.size=f9 at*;generalize H.alloc (.cells #[qI S,af T,af U,.slice V W X,af Y] 25)=e6 at*;obtain⟨a8,a9,b0,b1,b2⟩:=qc N;go_wp2_with fail;refine(Sp.xJ t _ e6 g0.o b3.o.mat).mono ?_;rintro e q ⟨rfl,a⟩;replace O:=jt O a;replace p:=kp a p;replace N:=kp a N;replace b3:=zh (b3.o.keep a);clear a a8 a9 b0 b1 b2;obtain⟨a8,a9,b0,b1,b2⟩:=qc N;cases b4:nV t with
    |true=>
     have d1:=ah (kW rs f n= .ok t) (by rw[a7.o,ak b4]);clear b4;have a0:=p.o.cell;have a1:=p.o.frozen;go_wp2_with fail;obtain⟨a2,y,z,B,r⟩:=gQ p.o O.o aa (qI S) (af T) (af U) (.slice V W X) (af Y);rw[y];obtain⟨C,D,E,F,G⟩:=jF z;exact aB (v:=.tuple #[.agg #[qI S,af T,af U,.slice V W X,af Y],.pointer none]) (by simp[results,results81,go_sem,C,D,E,F,G]) rfl (show DF _ _ _ _ _ _ by rw[d1.o];exact⟨⟨_,rfl,(b3.o.grown (ok':=λb=>w.heap.size+1<b) r.o (λb _ a e=>av (sj e)) (λ_ _ h=>h)).any λb _ a=>aa⟩,B.o⟩)
    |false=>
     have d1:=ah (kW rs f n= .bad 6 [0]) (by rw[a7.o,ai (by rw[b4];decide)]);clear b4 a8 a9 b0 b1 b2;have d:=aN q (.cells #[qI 0] 3);have g1:=zh (Od q);have g2:=jt O d;have g3:=kp d p;have b5:=ah (w.heap.size+1<q.heap.size) p.o.lt;have b6:=aN (q.alloc (.cells #[qI 0] 3)) (.cells #[qI 6,ay (ag q.heap.size (0)) 1 1,qN] 121);have g4:=jt g2 b6;have d2:=kp b6 g3;have Q:=zh (au.new (q.alloc (.cells #[qI 0] 3)) 121 #[qI 6,ay (ag q.heap.size (0)) 1 1,qN]);have g5:=zh (g1.o.keep b6);have a0:=d2.o.cell;have a1:=d2.o.frozen;clear d b6;go_wp2_with fail;obtain⟨a2,y,z,B,r⟩:=gQ d2.o g4.o aa (qI 0) qE qE qN qE;rw[y];obtain⟨C,D,E,F,G⟩:=jF z;exact aB (v:=.tuple #[.agg qT,az ⟨(q.alloc (.cells #[qI 0] 3)).heap.size,0,none⟩]) (by simp[results,results81,go_sem,C,D,E,F,G]) rfl (show DF _ _ _ _ _ _ by rw[d1.o];exact⟨⟨_,rfl,some (ag q.heap.size (0)),1,none,0,[],Q.o.grown r.o (λe=>by have:=sj e;rw[dY] at this;have:=b5.o;omega),aH _,aa,ET g5.o r.o (λa3 d3 _ e=>by cases d3;have h0:q.heap.size=w.heap.size+1:=e;have:=b5.o;omega),by rw[dY];have:=b5.o;omega,λa3 d3 _=>by cases d3;show w.heap.size<=q.heap.size;have:=b5.o;omega,aH _,aa,iE.nil _ _ _,λe=>absurd e aI⟩,B.o⟩)
def ZV (A:Option Addr)(cap:Nat)(rs:List aD)(f:Nat)(n:aG)(c:Array Value)(w:World)(S:fG w A rs)(a5:rs.length<=1000)(C:lX w n c)(a6:bK n.kids<f)(a7:dK n<=1000)(a8:wy n=true):
  Calls prog 54 #[.slice A rs.length cap,.agg c] w (zR (kW rs f n) w):=by
 obtain⟨j,k,rfl,a9,d1,d2,b0⟩:=C.form;have D:=aN w (qO n j k);have s1:(w.alloc (qO n j k)).heap.size=w.heap.size+1:=aS
 have E:=aN (w.alloc (qO n j k)) (.cells cK 25);have d:=zh (D.trans (E.mono D.size));have T:=zh (ae E (au.new w 31 (qC n j k)));have g:=zh (au.new (w.alloc (qO n j k)) 25 cK);rw[s1] at g;have U:=zh (S.keep d.o);have V:=zh (C.keep d.o);clear S C b0 a9 D E s1;go_enter func54,ntmps54;go_upto_region 1 with(fail)
 generalize (w.alloc (qO n j k)).alloc (.cells cK 25)=W at*;obtain⟨b1,b2,b3,b4⟩:=qb T;have F:=ah (w.heap.size+1<W.heap.size) g.o.lt;go_wp2_with fail;refine(ZU A cap rs f n _ W U.o a5 V.o a6 a7 a8).mono ?_;rintro e h ⟨x,l⟩;replace d:=jt d l;replace g:=kp l g;clear l b1 b2 b3 b4 T U V;cases y:kW rs f n with
 |bad b5 p=>
  rw[y] at x;obtain⟨G,rfl,X⟩:=x;have a:=aN h (.cells qT 25);have Y:=zh (X.keep a);have H:=jt d a;have i:=kp a g;clear X a d g;go_upto_region 2 with(fail)
  generalize h.heap.size=b6 at*;generalize h.alloc (.cells qT 25)=b7 at*;obtain⟨I,Z,d3,d4,d5,a0,b8,b9,a1,c0,a2,_⟩:=Y.o;have c1:=zh a1;have a3:=zh a0;have c2:=ah (∀z,I=some z->0<p.length->z.block≠w.heap.size+1) (λz c3 c4 d6=>aV (a2 z c3 c4) F.o);have c5:=ah (G≠w.heap.size+1) (av F.o);clear Y a0 a1 a2 c0;go_upto_region 3 with(fail)
  have d7:=a3.o.cell 0;have d8:=a3.o.cell 1;have d9:=i.o.cell;have e0:=i.o.frozen;have c6:G≠w.heap.size+1:=c5.o;have e1:w.heap.size+1≠G:=λe=>c6 e.symm
  go_region;go_wp2_with fail;obtain⟨c7,J,K,B,L⟩:=gQ i.o H.o aa (qI 0) qE qE qN qE;rw[J];obtain⟨M,N,O,P,Q⟩:=jF K;exact aB (v:=.tuple #[.agg qT,.slice I p.length Z,qI b5]) (by simp[results,results54,go_sem,M,N,O,P,Q]) rfl (show zR _ _ _ _ by exact⟨⟨I,Z,rfl,(c1.o.grown L.o c2.o).keep (fC (aL _ _)),b8,b9⟩,B.o.trans ((fC (aL _ _)).mono B.o.size)⟩)
 |ok e2=>
  rw[y] at x;obtain⟨e3,rfl,R⟩:=x;obtain⟨m,o,q,r,s,t,u,rfl⟩:=R.ext;have a:=aN h (.cells #[qI m,af o,af q,.slice r s t,af u] 25);have c8:=zh ((R.keep a).any (ok':=λb=>w.heap.size+1<b) λb _ a4=>av F.o);have c9:=zh (au.new h 25 #[qI m,af o,af q,.slice r s t,af u]);have H:=jt d a;have i:=kp a g;have d0:=zh y;clear R y a d g;go_upto_region 2 with(fail)
  generalize h.heap.size=b6 at*;generalize h.alloc (.cells #[qI m,af o,af q,.slice r s t,af u] 25)=b7 at*;obtain⟨e4,e5,e6,e7,e8⟩:=qc c9;have e9:=i.o.cell;have f0:=i.o.frozen;go_wp2_with fail;obtain⟨c7,J,K,B,L⟩:=gQ i.o H.o aa (qI m) (af o) (af q) (.slice r s t) (af u);rw[J];obtain⟨M,N,O,P,Q⟩:=jF K;exact aB (v:=.tuple #[.agg #[qI m,af o,af q,.slice r s t,af u],qN,qI 0]) (by simp[results,results54,go_sem,M,N,O,P,Q]) rfl (show zR _ _ _ _ by rw[d0.o];exact⟨⟨_,rfl,(c8.o.grown (ok':=λb=>w.heap.size+1<b) L.o (λb _ l e=>av (sj e)) (λ_ _ a4=>a4)).any λb _ l=>aa⟩,B.o⟩)
end El
namespace Rn
open At Ch Sp Sy El Go.RowKit
def QI (A:Option Addr)(cap:Nat)(rs:List aD)(a:rs.length<=1000000):∀f,f<=10000->EM A cap rs f
 |0,_=>λm c w b=>absurd b aa
 |f+1,g=>λm c w b d e=>Xx A cap rs f (QI A cap rs a f aa) aa a m c w aa d e
def DI (rs:List aD)(f:Nat)(m:aC)(w:World)(e:Ending)(w':World):Prop:=(∃A c,e= .returned (.tuple #[.agg #[qI 1,qE,qI 0,.slice A (jr rs m).length c],.bool (AC rs f m)])/\bC (λb=>w.heap.size<=b) w' (aQ (jr rs m)) #[qI 1,qE,qI 0,.slice A (jr rs m).length c])/\Below w.heap.size w w'
def QJ (A:Option Addr)(cap:Nat)(rs:List aD)(f:Nat)(n:400<=f)(e2:rs.length<=1000)(m:aC)(c:Array Value)(w:World)(c6:fT m<=40)(c7:wy (aQ (jr rs m))=true)(c8:fG w A rs)(a1:gK w m c):
  Calls prog 21 #[.slice A rs.length cap,.agg c] w (DI rs f m w):=by
 have c9:=a1;obtain⟨x,y,rfl,-,-,-,-,-,-⟩:=a1.form;have a2:=aN w (.cells (aA m.kind m.nam m.vr x m.args.length y m.form) 25);have s1:(w.alloc (.cells (aA m.kind m.nam m.vr x m.args.length y m.form) 25)).heap.size=w.heap.size+1:=aS
 have a3:=aN (w.alloc (.cells (aA m.kind m.nam m.vr x m.args.length y m.form) 25)) (.cells bY 31);have V:=zh (a2.trans (a3.mono a2.size));have a4:=zh (ae a3 (au.new w 25 (aA m.kind m.nam m.vr x m.args.length y m.form)));have W:=zh (au.new (w.alloc (.cells (aA m.kind m.nam m.vr x m.args.length y m.form) 25)) 31 bY);rw[s1] at W;have d0:=zh c8;have d1:=zh c9;have e3:=zh c6;have e4:=zh c7;have a5:=ah (bK (jr rs m)<400) (by have g4:=Kn (rs:=rs) m;have g5:bg m<=fT m:=fq _ _;omega);have X:=zh (show AC rs f m=match kW rs f (aQ (jr rs m)) with
  | .ok g=>mq g m
  | .bad _ _=>false from rfl)
 clear c8 a2 a3 s1 a1 c9 c6 c7;go_enter func21,ntmps21;obtain⟨e5,e6,e7,e8,e9⟩:=qc a4;go_upto_region 1 with(fail)
 generalize (w.alloc (.cells (aA m.kind m.nam m.vr x m.args.length y m.form) 25)).alloc (.cells bY 31)=f0 at*;go_wp2_with fail;refine(QI A cap rs aa 41 aI m _ f0 (av e3.o) (d0.o.keep V.o) (d1.o.keep V.o)).mono ?_;rintro f1 f2 ⟨⟨v,rfl,d2⟩,a⟩;unfold DI;generalize d3:jr rs m=L at*;obtain⟨h,i,rfl,d4,d5,d6⟩:=d2.form (λb a=>a);have d7:=jt V a;have d8:=kp a a4;have a6:=kp a W;have d9:=zh (d6.any (ok':=λb=>w.heap.size+2<=b) λb _ f3=>ax W.o.lt f3);have e0:=zh (And.intro d4 d5);clear d2 a V a4 W e5 e6 e7 e8 e9 d4 d5 d6;go_wp2_with fail;refine(Ei h L.length i f2).mono ?_;rintro f1 M ⟨rfl,a⟩;have z:=aN M (.cells #[qI 1,qE,qI 0,.slice h L.length i] 31);have g6:=ah (w.heap.size+1<M.heap.size) (ll a6.o.lt a.size);replace a:=a.trans (z.mono a.size);have N:=jt d7 a;have a7:=kp a d8;have Y:=kp a a6;have O:=zh (au.new M 31 #[qI 1,qE,qI 0,.slice h L.length i]);have a8:=zh (d9.o.keep a);clear a z d7 d8 a6 d9;go_upto_region 2 with(fail)
 generalize M.heap.size=g7 at*;generalize M.alloc (.cells #[qI 1,qE,qI 0,.slice h L.length i] 31)=f4 at*;obtain⟨q,r,t,u⟩:=qb O;have P:=zh (bC.of (k:=1) (s:=⟨#[]⟩) (c:=0) (ks:=L) aI e0.o.1 e0.o.2 a8.o);go_wp2_with fail;refine(ZV A cap rs f (aQ L) _ f4 (d0.o.keep N.o) e2 P.o.nod (by show bK L<f;have:=a5.o;omega) (by rw[sS];have:=a5.o;omega) e4.o).mono ?_;intro e C Z;cases a9:kW rs f (aQ L) with
 |ok g=>
  rw[a9] at Z X;obtain⟨⟨g8,rfl,b0⟩,a⟩:=Z;obtain⟨E,F,G,H,I,J,K,rfl⟩:=b0.ext;have z:=aN C (.cells #[qI E,af F,af G,.slice H I J,af K] 25);have f5:=zh (b0.mat.keep z);have Q:=zh (au.new C 25 #[qI E,af F,af G,.slice H I J,af K]);replace a:=a.trans (z.mono a.size);have a0:=jt N a;have R:=kp a a7;have b1:=kp a Y;have B:=kp a O;have b2:=zh (P.o.keep a);have f6:=zh (d1.o.keep a0.o);clear b0 z a N a7 Y O P a8 q r t u;go_upto_region 3 with(fail)
  generalize C.heap.size=f7 at*;generalize C.alloc (.cells #[qI E,af F,af G,.slice H I J,af K] 25)=f8 at*;refine qm [1,2,2,2,1,1,1,2,3,2] (List.replicate 10 false) (λj=>[.agg #[qI 1,qE,qI 0,.slice h L.length i],qI 0,.bool true,.bool true,.agg #[qI E,af F,af G,.slice H I J,af K],.agg (aA m.kind m.nam m.vr x m.args.length y m.form),.bool (mq g m),.bool (mq g m),undef,.bool (mq g m)]) [] (λ_ _=>True) bV.nil (trivial) ?_ ?_
  ·refine⟨λj p d l n=>?_,jC,jI,jC,λj p d l n=>?_,λj p d l n=>?_,λj p d l n=>?_,jC,jC,trivial⟩
   ·have q:=(ae d B.o).cell 0;have r:=(ae d B.o).cell 1;have t:=(ae d B.o).cell 2;have u:=(ae d B.o).cell 3;exact gs (.agg #[qI 1,qE,qI 0,.slice h L.length i]) l aj (jZ q r t u) rfl
   ·have q:=(ae d Q.o).cell 0;have r:=(ae d Q.o).cell 1;have t:=(ae d Q.o).cell 2;have u:=(ae d Q.o).cell 3;have b3:=(ae d Q.o).cell 4;exact gs (.agg #[qI E,af F,af G,.slice H I J,af K]) l aj (tq q r t u b3) rfl
   ·have q:=(ae d R.o).cell 0;have r:=(ae d R.o).cell 1;have t:=(ae d R.o).cell 2;have u:=(ae d R.o).cell 3;have b3:=(ae d R.o).cell 4;exact gs (.agg (aA m.kind m.nam m.vr x m.args.length y m.form)) l aj (by simp[go_sem,evAct,q,r,t,u,b3,aA]) rfl
   ·refine jc 55 (#[.agg #[qI E,af F,af G,.slice H I J,af K],.agg (aA m.kind m.nam m.vr x m.args.length y m.form)]) p aj ((Wt _ g m _ _ p (aH _) (f5.o.keep d) (f6.o.keep d)).mono ?_);rintro e g9 ⟨rfl,a⟩;exact⟨_,rfl,j,rfl,jD,a,trivial,trivial⟩
  ·refine λj p d l n=>?_
   dsimp only[ji] at n;change wpOps _ _ _ [8] _ _;have f9:=zh d;have b4:=jt a0 d;have D:=kp d b1;have b5:=zh (b2.o.keep d);clear d l n;clear j;generalize p=g0 at*;have S:=D.o.cell;have T:=D.o.frozen;obtain⟨b6,U,b7,b8,b9⟩:=iY D.o b4.o (dJ _) (qI 1) qE (qI 0) (.slice h L.length i);refine oL (o:=_) rfl rfl (w':=b6) (by rw[<-U];simp[go_sem,S,T]) ?_;refine jo ?_;clear S T U;have c0:=zh (b5.o.grown b9.o (ok':=λb=>w.heap.size<=b) (λb _ a e=>by have g1:b=w.heap.size+1:=sj e;omega) λb _ a=>aa);obtain⟨c1,c2,c3,c4⟩:=qb b7;go_wp2;exact aB (v:=.tuple #[.agg #[qI 1,qE,qI 0,.slice h L.length i],.bool (mq g m)]) (by simp[results,results21,go_sem,c1,c2,c3,c4]) rfl (show DI rs f m w _ _ by unfold DI;rw[d3,X.o];exact⟨⟨h,i,rfl,c0.o⟩,b8.o⟩)
 |bad c5 g2=>
  have e1:=Yx rs f (aQ L) (by show bK L<f;have:=a5.o;omega) c5 g2 a9;rw[a9] at Z X;obtain⟨⟨h0,h1,rfl,-⟩,a⟩:=Z;have g3:(c5==0)=false:=bn e1;have z:=aN C (.cells cK 25);replace a:=a.trans (z.mono a.size);have a0:=jt N a;have b1:=kp a Y;have B:=kp a O;have b2:=zh (P.o.keep a);clear z a N a7 Y O P a8 q r t u e1;go_upto_region 3 with(fail)
  generalize C.heap.size=f7 at*;generalize C.alloc (.cells cK 25)=f8 at*;refine qm [1,2,2,2,0,0,0,2,3,2] (List.replicate 10 false) (λj=>[.agg #[qI 1,qE,qI 0,.slice h L.length i],qI c5,.bool false,.bool false,undef,undef,undef,.bool false,undef,.bool false]) [] (λ_ _=>True) bV.nil (trivial) ?_ ?_
  ·refine⟨λj p d l n=>?_,jC,λj p=>jp (.bool false) (bT g3) rfl,jC,λ_=>rfl,λ_=>rfl,λ_=>rfl,jC,jC,trivial⟩
   ·have q:=(ae d B.o).cell 0;have r:=(ae d B.o).cell 1;have t:=(ae d B.o).cell 2;have u:=(ae d B.o).cell 3;exact gs (.agg #[qI 1,qE,qI 0,.slice h L.length i]) l aj (jZ q r t u) rfl
  ·refine λj p d l n=>?_
   dsimp only[ji] at n;change wpOps _ _ _ [8] _ _;have f9:=zh d;have b4:=jt a0 d;have D:=kp d b1;have b5:=zh (b2.o.keep d);clear d l n;clear j;generalize p=g0 at*;have S:=D.o.cell;have T:=D.o.frozen;obtain⟨b6,U,b7,b8,b9⟩:=iY D.o b4.o (dJ _) (qI 1) qE (qI 0) (.slice h L.length i);refine oL (o:=_) rfl rfl (w':=b6) (by rw[<-U];simp[go_sem,S,T]) ?_;refine jo ?_;clear S T U;have c0:=zh (b5.o.grown b9.o (ok':=λb=>w.heap.size<=b) (λb _ a e=>by have g1:b=w.heap.size+1:=sj e;omega) λb _ a=>aa);obtain⟨c1,c2,c3,c4⟩:=qb b7;go_wp2;exact aB (v:=.tuple #[.agg #[qI 1,qE,qI 0,.slice h L.length i],.bool false]) (by simp[results,results21,go_sem,c1,c2,c3,c4]) rfl (show DI rs f m w _ _ by unfold DI;rw[d3,X.o];exact⟨⟨h,i,rfl,c0.o⟩,b8.o⟩)
def Hr (rs:List aD)(f:Nat)(m:aC)(w:World)(e:Ending)(w':World):Prop:=(match gW rs f m [] with
 |some p=>∃A cp,e= .returned (.tuple #[.slice A p.length cp,.bool true])/\p.length<=cp/\cp<=9223372036854775807/\kK w' A p/\p.length+1<=bg m/\∀ad,A=some ad->w.heap.size<=ad.block
 |none=>e= .returned (.tuple #[qN,.bool false]))/\Below w.heap.size w w'
def QK {rs:List aD}{m:aC}(h:qj m=true)(b:mV m=true):wy (aQ (jr rs m))=true:=by
 have a:=Pp (rs:=rs) m h b;exact zw (av a.1) a.2
def QL:∀{ts:List aC} {k:Nat} {t:aC},nZ ts=true->ts[k]?=some t->mV t=true
 |[],k,t,_,h=>by simp at h
 |x::ts,0,t,a,h=>by
  rw[nZ,aM] at a;obtain rfl:=sj h;exact a.1
 |x::ts,k+1,t,a,h=>by
  rw[nZ,aM] at a;exact QL (k:=k) a.2 h
def ZW {m:aC}(h:qj m=true)(a:mV m=true):qo m.args=true/\nZ m.args=true:=by
 cases m;rw[qj,aM] at h;rw[mV,aM] at a;exact⟨h.2,a.1⟩
def ZX (A:Option Addr)(cap:Nat)(rs:List aD)(f:Nat)(a9:400<=f)(b0:rs.length<=1000):∀(z:Nat) (m:aC) (c:Array Value) (w:World),bg m<=z->fT m<=40->qj m=true->mV m=true->fG w A rs->gK w m c->
  Calls prog 22 #[.slice A rs.length cap,.agg c] w (Hr rs f m w):=by
 obtain⟨b1,b2,b3,b4,b5⟩:=Sp.info_parts El.BG;intro z
 induction z with
 |zero=>intro m c w e7;have:=vW m;omega
 |succ z L=>
  intro m c w M v x y N B;have b6:=zh L;have O:=B;obtain⟨C,D,rfl,-,-,-,-,-,E⟩:=B.form;have d:=aN w (.cells (aA m.kind m.nam m.vr C m.args.length D m.form) 25);have b:=zh d;have g:=zh (au.new w 25 (aA m.kind m.nam m.vr C m.args.length D m.form));have P:=zh N;have b7:=zh O;have b8:=zh E;have Q:=ah (bq m.args+1=bg m) ((Dv m).symm);have b9:=zh M;have F:=zh v;have R:=zh (And.intro x y);have S:=zh (ZW x y);have T:=zh (EF rs f m []);have c0:=ah (m.args.length<=40) (by have:=Bp m.args;have:=yw v aa;omega);clear L M v x y N B O E d;go_enter func22,ntmps22;go_wp2_with fail
  go_loopw [6] (λi wr=>∃k:Nat,k<=m.args.length/\i=qI k/\Hy (gJ rs f m.args [] 0=gJ rs f (m.args.drop k) [] k)/\Hy (au wr w.heap.size 25 (aA m.kind m.nam m.vr C m.args.length D m.form))/\Hy (Below w.heap.size w wr)) (λi _=>m.args.length -(intOf i).toNat)
  case atStart=>exact⟨0,aa,rfl,zh rfl,g,b⟩
  case round=>
   clear g b;obtain⟨k,E,rfl,j,g,b⟩:=hrel;have e8:=c0.o;have c1:=g.o.cell 3
   by_cases G:k<m.args.length
   ·obtain⟨t,h⟩:∃t,m.args[k]?=some t:=⟨_,gE G⟩
    obtain⟨H,e9,f0,rfl,c2,U⟩:=(b8.o.keep b.o).at_ h;have V:=zh U.whole;obtain⟨_,c3,c4,c5,c6,c7,_⟩:=U;have I:=ah (bg t<=bq m.args) (Ak h);have W:=ah (fT t<=40) (by have:=F.o;have:=Bq h;have:=yw F.o aa;omega);have X:=zh (And.intro (ME S.o.1 h) (QL S.o.2 h));have l:=zh (show gJ rs f (m.args.drop k) [] k=match (gW rs f t []).map (([(k:Int)]:List Int)++·) with
     |some p=>some p
     |none=>gJ rs f (m.args.drop (k+1)) [] (k+1) by
     rw[ib G,show m.args[k]=t from sj ((gE G).symm.trans h),gJ,Kh t ([]++[(k:Int)])];rfl)
    have f1:(k:Int)<(m.args.length:Int):=aa
    clear h c2;go_wp2_with fail;refine(b6.o t _ wr (fD I.o Q.o b9.o) W.o X.o.1 X.o.2 (P.o.keep b.o) V.o).mono ?_;rintro e a ⟨r,n⟩;have q:=jt b n;have c8:=kp n g;have Y:=q.o.size;clear n b g c1 c3 c4 c5 c6 c7 V;cases s:gW rs f t [] with
    |none=>
     rw[s] at r l;obtain rfl:=r;have c9:=zh (j.o.trans l.o);clear s j l;go_wp2;go_roundw
     case rel=>exact⟨k+1,aa,bi,c9,c8,q⟩
     case measure=>simp[intOf];omega
    |some p=>
     rw[s] at r l;obtain⟨d0,d1,rfl,d2,d3,Z,a0,-⟩:=r;have o:=ah (gW rs f m []=some ([(k:Int)]++p)) (by rw[T.o,j.o,l.o];rfl);have d:=aN a (.cells #[qI (k:Int)] 3);have a1:=zh (Kz Z d);have a2:=ah ((a.alloc (.cells #[qI (k:Int)] 3)).ownsRow a.heap.size 3 1 (ay (ag a.heap.size (0)) 1 1) 1 [qI (k:Int)]) ⟨rfl,.inr ⟨a.heap.size,1,_,rfl,aH _,au.new a 3 _,aH _,aI,rfl,rfl⟩⟩;have a3:=ah (p.length<=40) (by have:=I.o;have f2:bg t<=fT t:=fq _ _;have:=W.o;omega);have d4:=zh a0;have J:=zh d;clear s j l d2 d3 Z a0 d;go_wp2_with (at_builtin;refine Ch.uG _ rfl (.tmp 30) (.tmp 31) 32 rfl a.heap.size 3 b1 (qI 0) 1 8 underlying32 b2 b3 b4 b5 rfl aI _ 1 [qI (k:Int)] rfl a2.o _ d0 p.length d1 (dG p) rfl a1.o (Eo p) (by have:=a3.o;unfold maxLen;omega) (av a3.o) aS ?_)
     intro d5 K a4 a5 d6;have u:=ah (Below a.heap.size a K) (J.o.grown a5 J.o.size λd7 e=>av (sj (show some a.heap.size=some d7 from e)));have a6:=zh (show zM K a.heap.size d5 ([(k:Int)]++p) by
      show K.ownsRow _ _ _ _ _ _;rw[aO,show dG ([(k:Int)]++p)=dG [(k:Int)]++dG p by simp[dG]];exact a4)
     obtain⟨d8,d9,rfl,e0,e1,a7,e2⟩:=KG a6.o;have e3:=zh a7;clear a4 a5 d6 a2 a1 J a6 a7;go_wp2_with fail
     go_ret2
     unfold Hr;rw[o.o];exact⟨⟨d8,d9,rfl,e0,e1,e3.o,by have:=d4.o;have:=I.o;have:=Q.o;rw[aO];show 1+p.length+1<=_;omega,λH e=>ax Y (e2 H e)⟩,q.o.trans (u.o.mono Y)⟩
   ·obtain rfl:k=m.args.length:=by omega
    have o:=ah (gW rs f m []=if(qz rs f m).isNone then some [] else none) (by rw[T.o,j.o,nQ,gJ]);have e4:=zh (Pi rs f m).1;obtain⟨f3,f4,f5⟩:=qa g;have f6:=g.o.cell 4;clear j;go_wp2_with fail;refine(QJ A cap rs f a9 b0 m _ wr F.o (QK R.o.1 R.o.2) (P.o.keep b.o) (b7.o.keep b.o)).mono ?_;rintro e a ⟨⟨e5,e6,rfl,-⟩,n⟩;rw[e4.o];have d:=aN a (.cells #[qI 1,qE,qI 0,.slice e5 (jr rs m).length e6] 31);have q:=jt b n;have u:=jt q d;clear d n;generalize (jr rs m).length=f7 at*;cases a8:qz rs f m with
    |none=>
     rw[a8] at o;go_wp2_with fail
     go_ret2
     unfold Hr;rw[o.o];exact⟨⟨none,0,rfl,aH _,aa,zS,vW m,λH e=>by cases e⟩,u.o⟩
    |some f8=>
     rw[a8] at o;go_wp2_with fail
     go_ret2
     unfold Hr;rw[o.o];exact⟨rfl,u.o⟩
def ZY (A:Option Addr)(cap:Nat)(rs:List aD)(f:Nat)(b3:400<=f)(b4:rs.length<=1000)(m:aC)(c:Array Value)(w:World)(b5:fT m<=40)(b6:mV m=true)(b7:fG w A rs)(X:gK w m c):
  Calls prog 8 #[.slice A rs.length cap,.agg c] w (lC rs f m w):=by
 have b8:=X;obtain⟨C,D,rfl,-,-,-,-,-,-⟩:=X.form;have Y:=aN w (.cells (aA m.kind m.nam m.vr C m.args.length D m.form) 25);have s1:(w.alloc (.cells (aA m.kind m.nam m.vr C m.args.length D m.form) 25)).heap.size=w.heap.size+1:=aS
 have Z:=aN (w.alloc (.cells (aA m.kind m.nam m.vr C m.args.length D m.form) 25)) (.cells bY 31);have l:=zh (Y.trans (Z.mono Y.size));have d:=zh (ae Z (au.new w 25 (aA m.kind m.nam m.vr C m.args.length D m.form)));have H:=zh (au.new (w.alloc (.cells (aA m.kind m.nam m.vr C m.args.length D m.form) 25)) 31 bY);rw[s1] at H;have I:=zh b7;have Q:=zh b8;have R:=zh b5;have S:=zh b6;clear b7 X b8 Y Z s1 b5 b6;go_enter func8,ntmps8;go_upto_region 1 with(fail)
 generalize (w.alloc (.cells (aA m.kind m.nam m.vr C m.args.length D m.form) 25)).alloc (.cells bY 31)=a0 at*;cases o:fZ rs with
 |false=>
  have E:=ah (¬((fZ rs&&nV m)=true)) (by rw[o];simp);have T:=zh o;clear o;go_wp2_with fail;refine(Go.Proofs.YtlefbenkhgbifaaGreatDoor.xJ A cap rs a0 (I.o.keep l.o) aa).mono ?_;rintro r U ⟨rfl,a⟩;rw[T.o];have p:=jt l a;have e:=kp a H;clear a;have a1:=e.o.cell;have a2:=e.o.frozen;go_wp2_with fail;obtain⟨J,q,s,K,M⟩:=iY e.o p.o (dJ _) (qI 0) qE (qI 0) qN;rw[q];obtain⟨t,u,x,y⟩:=qb s;exact aB (v:=.tuple #[.agg qZ,qN,qI 1]) (by simp[results,results8,go_sem,t,u,x,y]) rfl (show lC _ _ _ _ _ _ by unfold lC;rw[ai E.o];exact⟨rfl,K.o⟩)
 |true=>
  have T:=zh o;obtain⟨g,h,i,j,k⟩:=qc d;cases n:nV m with
  |false=>
   have E:=ah (¬((fZ rs&&nV m)=true)) (by rw[o,n];simp);have a3:=zh n;clear o n;go_wp2_with fail;refine(Go.Proofs.YtlefbenkhgbifaaGreatDoor.xJ A cap rs a0 (I.o.keep l.o) aa).mono ?_;rintro r a4 ⟨rfl,a⟩;rw[T.o];clear g h i j k;have g:=(ae a d.o).cell 0;have h:=(ae a d.o).cell 1;have i:=(ae a d.o).cell 2;have j:=(ae a d.o).cell 3;have k:=(ae a d.o).cell 4;go_wp2_with fail;refine(Sp.xJ m _ a4 (by have:=R.o;have:bg m<=fT m:=fq _ _;omega) ((Q.o.keep l.o).keep a)).mono ?_;rintro r U ⟨rfl,N⟩;rw[a3.o];replace a:=a.trans (N.mono a.size);have p:=jt l a;have e:=kp a H;clear a N g h i j k;have a1:=e.o.cell;have a2:=e.o.frozen;go_wp2_with fail;obtain⟨J,q,s,K,M⟩:=iY e.o p.o (dJ _) (qI 0) qE (qI 0) qN;rw[q];obtain⟨t,u,x,y⟩:=qb s;exact aB (v:=.tuple #[.agg qZ,qN,qI 1]) (by simp[results,results8,go_sem,t,u,x,y]) rfl (show lC _ _ _ _ _ _ by unfold lC;rw[ai E.o];exact⟨rfl,K.o⟩)
  |true=>
   have E:=ah ((fZ rs&&nV m)=true) (by rw[o,n];rfl);have b9:=ah (qj m=true) (by unfold nV at n;rw[aM] at n;exact n.1);have a3:=zh n;clear o n;go_wp2_with fail;refine(Go.Proofs.YtlefbenkhgbifaaGreatDoor.xJ A cap rs a0 (I.o.keep l.o) aa).mono ?_;rintro r a4 ⟨rfl,a⟩;rw[T.o];clear g h i j k;have g:=(ae a d.o).cell 0;have h:=(ae a d.o).cell 1;have i:=(ae a d.o).cell 2;have j:=(ae a d.o).cell 3;have k:=(ae a d.o).cell 4;go_wp2_with fail;refine(Sp.xJ m _ a4 (by have:=R.o;have:bg m<=fT m:=fq _ _;omega) ((Q.o.keep l.o).keep a)).mono ?_;rintro r d1 ⟨rfl,N⟩;rw[a3.o];replace a:=a.trans (N.mono a.size);have p:=jt l a;have a5:=kp a d;have e:=kp a H;clear a N g h i j k l d H;generalize d1=U at*;obtain⟨g,h,i,j,k⟩:=qc a5;go_wp2_with fail;refine(QJ A cap rs f b3 b4 m _ U R.o (QK b9.o S.o) (I.o.keep p.o) (Q.o.keep p.o)).mono ?_;rintro r F ⟨⟨z,B,rfl,c0⟩,a⟩;obtain⟨c1,c2⟩:=Pi rs f m;rw[c1];have d2:=zh c2;have c3:=ah (w.heap.size+1<U.heap.size) e.o.lt;have a6:=aN F (.cells #[qI 1,qE,qI 0,.slice z (jr rs m).length B] 31);have c4:=zh (au.new F 31 #[qI 1,qE,qI 0,.slice z (jr rs m).length B]);replace a:=a.trans (a6.mono a.size);have c5:=zh (c0.keep a6);have O:=jt p a;have c6:=kp a a5;have G:=kp a e;clear c1 c2 c0 a6 a p a5 e g h i j k;generalize e3:jr rs m=L at*;cases P:qz rs f m with
   |some d3=>
    have V:=zh P;have d4:=d2.o d3 P;subst d4;clear P;go_upto_region 4 with(fail)
    generalize F.heap.size=d5 at*;generalize F.alloc (.cells #[qI 1,qE,qI 0,.slice z L.length B] 31)=J at*;obtain⟨g,h,i,j⟩:=qb c4;have a1:=G.o.cell;have a2:=G.o.frozen;go_wp2_with fail;obtain⟨d6,q,s,a7,M⟩:=iY G.o O.o (dJ _) (qI 1) qE (qI 0) (.slice z L.length B);rw[q];have S:=zh (c5.o.grown (ok':=λb=>w.heap.size<=b) M.o (λb _ a a8=>by have e4:b=w.heap.size+1:=sj a8;have:=c3.o;omega) λb _ a=>av c3.o);obtain⟨t,u,x,y⟩:=qb s;exact aB (v:=.tuple #[.agg #[qI 1,qE,qI 0,.slice z L.length B],qN,qI 0]) (by simp[results,results8,go_sem,t,u,x,y]) rfl (show lC _ _ _ _ _ _ by unfold lC;rw[ak E.o,V.o];exact⟨⟨z,B,rfl,S.o⟩,a7.o⟩)
   |none=>
    have V:=zh P;clear P;go_upto_region 4 with(fail)
    generalize F.heap.size=d5 at*;generalize F.alloc (.cells #[qI 1,qE,qI 0,.slice z L.length B] 31)=J at*;clear c4 c5;obtain⟨g,h,i,j,k⟩:=qc c6;go_wp2_with fail;refine(ZX A cap rs f b3 b4 (bg m) m _ J (aH _) R.o b9.o S.o (I.o.keep O.o) (Q.o.keep O.o)).mono ?_;rintro r d6 ⟨c7,a⟩;obtain⟨a9,b0⟩:=isNone_none V.o [];rw[b0] at c7;obtain⟨b1,c8,rfl,d7,d8,c9,-,d0⟩:=c7;have d9:=zh b0;have e0:=zh c9;have a7:=jt O a;have b2:=kp a G;have e1:=ah (∀W,b1=some W->0<a9.length->W.block≠w.heap.size+1) (λW a8 _=>by have e5:=d0 W a8;have e6:w.heap.size+1<J.heap.size:=G.o.lt;omega);clear b0 c9 d0 a O G c6 g h i j k;have a1:=b2.o.cell;have a2:=b2.o.frozen;go_wp2_with fail;obtain⟨e7,q,s,K,M⟩:=iY b2.o a7.o (dJ _) (qI 0) qE (qI 0) qN;rw[q];have e2:=zh (e0.o.grown M.o e1.o);obtain⟨t,u,x,y⟩:=qb s;exact aB (v:=.tuple #[.agg qZ,.slice b1 a9.length c8,qI 19]) (by simp[results,results8,go_sem,t,u,x,y]) rfl (show lC _ _ _ _ _ _ by unfold lC;rw[ak E.o,V.o];exact⟨⟨a9,b1,c8,d9.o,rfl,d7,d8,e2.o⟩,K.o⟩)
def ZZ {ts:List aC}{j:Nat}{y:aC}(h:ts[j]?=some y):lT (ts.take (j+1))=lT (ts.take j)+fT y:=by
 rw[Dn h];unfold lT;rw[dX,uA];simp
def QM:∀{ts:List aC},xq ts=false->bq ts+1000000<=lT ts
 |[],h=>by cases h
 |t::ts,h=>by
  have b:=Ka ts;unfold lT at b⊢;rw[di,lq,bq];rw[xq,Bool.and_eq_false_iff] at h;rcases h with h|h
  ·have a:fT t=bg t+1000000:=by unfold fT;rw[h];rfl
   omega
  ·have a:=QM h;unfold lT at a;have c:bg t<=fT t:=fq _ _;omega
def yIe {k:Int}{a v f:ByteArray}{ts:List aC}(b:a.size<=300)(c:v.size<=300)(d:f.size<=300):fT (.mk k a v f ts)<=lT ts+1:=by
 unfold fT;rw[bg,Cr];rw[show Dr a=true from aJ b,show Dr v=true from aJ c,show Dr f=true from aJ d];cases h:xq ts with
 |true=>
  have:=Kb h;rw[ak (show(true&&true&&true&&true)=true from rfl)];omega
 |false=>
  have:=QM h;rw[ai (show ¬(true&&true&&true&&false)=true from Bool.false_ne_true)];omega
def yIu (t:aC)(m:Int)(w:World)(e:Ending)(w':World):Prop:=∃r:Int,e= .returned (qI r)∧-1<=r/\r<=1000000/\(0<=r->(fT t:Int)+r<=m)/\Below w.heap.size w w'
def zPs (A:Option Addr)(cap:Nat)(rs:List aD)(w:World)(g:fG w A rs)(r:rs.length<=9223372036854775807):Calls prog 5 #[.slice A rs.length cap] w λe w'=>e= .returned (.bool (Bl rs))/\w=w':=by
 have n:=zh g;have b:=zh (@VZ rs);clear g;go_enter func5,ntmps5;go_wp2_with fail
 go_loop [3] (λi=>∃k:Nat,k<=rs.length/\i=qI k/\Hy (∀(j:Nat) x,rs[j]?=some x->j<k->yn x=true)) (λi=>rs.length -(intOf i).toNat)
 case atStart=>exact⟨0,aa,rfl,(λj _ _ h=>aa)⟩
 case round=>
  obtain⟨k,s,rfl,l⟩:=hrel
  by_cases o:k<rs.length
  ·obtain⟨x,c⟩:∃x,rs[k]?=some x:=⟨_,gE o⟩
   obtain⟨q,t,rfl,u,v,z,B,C,D,E⟩:=n.o.at_ c;have d:=zh c;clear c q
   by_cases F:50<x.sym.size
   ·have a:=zh (Oz d.o (show yn x=false by unfold yn;rw[aK aa];rfl));go_wp2;go_ret;exact⟨aU a.o.symm,rfl⟩
   ·by_cases G:50<x.nam.size
    ·have a:=zh (Oz d.o (show yn x=false by unfold yn;rw[aK (p:=x.nam.size<=50) aa,bF]));go_wp2;go_ret;exact⟨aU a.o.symm,rfl⟩
    ·have a:Hy (yn x=true):=by
      show yn x=true;unfold yn;rw[aJ aa,aJ aa];rfl
     go_wp2;go_round
     case rel=>exact⟨k+1,aa,bi,(λj y f h=>by
      rcases bu j k with m|m
      ·exact l.o j y f m
      ·obtain rfl:j=k:=by omega
       rw[d.o] at f;obtain rfl:=sj f;exact a.o)⟩
     case measure=>simp[intOf];omega
  ·obtain rfl:k=rs.length:=by omega
   have b:=zh (b.o l.o);go_wp2;go_ret;exact⟨aU (by rw[b.o];exact fE.2 aa),rfl⟩
def zYl (A B:Option Addr)(E F:Nat)(p q:List Int)(w:World)(n:kK w A p)(o:kK w B q)(J:p.length<=1000000):Calls prog 9 #[.slice A p.length E,.slice B q.length F] w λe w'=>e= .returned (.bool (decide (p=q)))/\Below w.heap.size w w':=by
 have G:=zh n;have H:=zh o;clear n o;go_enter func9,ntmps9
 by_cases d:p.length=q.length
 ·have I:((p.length:Int) !=(q.length:Int))=false:=by rw[d,bne,lh];rfl
  have f:=zh d;clear d;go_wp2_with fail
  go_loopw [5] (λi wr=>∃k:Nat,k<=p.length/\i=qI k/\Hy (∀j,j<k->p[j]?=q[j]?)/\Hy (Below w.heap.size w wr)) (λi _=>p.length -(intOf i).toNat)
  case atStart=>exact⟨0,aa,rfl,(λj h=>aa),aL _ _⟩
  case round=>
   obtain⟨k,K,rfl,r,a⟩:=hrel
   by_cases s:k<p.length
   ·obtain⟨x,g⟩:∃x,p[k]?=some x:=⟨_,gE s⟩
    obtain⟨y,l⟩:∃y,q[k]?=some y:=⟨_,gE (by rw[<-f.o];exact s)⟩
    obtain⟨L,rfl,_,t⟩:=(G.o.keep a.o).at_ g;obtain⟨M,rfl,_,u⟩:=(H.o.keep a.o).at_ l;have N:(0:Int)<=(k:Int):=aa
    have O:(k:Int)<(p.length:Int):=aa
    have P:(k:Int)<(q.length:Int):=av f.o
    have v:=zh g;have z:=zh l;clear g l;cases b:(x==y)
    ·have m:(x !=y)=true:=by rw[bne,b];rfl
     have c:=zh (show decide (p=q)=false from aK λe=>by
      rw[aZ] at b;have C:=v.o;rw[e,z.o] at C;exact b (sj C).symm)
     go_wp2_with fail
     go_quiet (fail)
     have a:=zh (below_drewN a.o nq);clear t u b m;go_wp2;go_ret;exact⟨aU c.o.symm,a.o⟩
    ·have m:(x !=y)=false:=by rw[bne,b];rfl
     have c:=zh (aT.1 b);go_wp2_with fail
     go_quiet (fail)
     have a:=zh (below_drewN a.o nq);clear t u b m;go_wp2;go_roundw
     case rel=>exact⟨k+1,aa,bi,(λj h=>by
      rcases bu j k with D|D
      ·exact r.o j D
      ·obtain rfl:j=k:=by omega
       rw[v.o,z.o,c.o]),a⟩
     case measure=>simp[intOf];omega
   ·obtain rfl:k=p.length:=by omega
    have c:=ah (decide (p=q)=true) (aJ (We f.o r.o));go_wp2;go_ret;exact⟨aU c.o.symm,a.o⟩
 ·have I:((p.length:Int) !=(q.length:Int))=true:=by rw[bne,bn aa];rfl
  have c:=ah (decide (p=q)=false) (aK λe=>d (by rw[e]));clear d;go_wp2;go_ret;exact⟨aU c.o.symm,aL _ _⟩
def zYb (w:World):Calls prog 11 #[] w λe w'=>e= .returned (ay (ag w.heap.size (0)) 1 1)/\w'=w.alloc (.cells Gq 41):=by
 go_enter func11,ntmps11;go_wp2;exact aB (v:=ay (ag w.heap.size (0)) 1 1) (by simp[results,results11,go_sem]) rfl ⟨rfl,rfl⟩
def yAj:∀(z:Nat) (t:aC) (c:Array Value) (m:Int) (w:World),bg t<=z->gK w t c->0<=m->m<=1000000->Calls prog 12 #[.agg c,qI m] w (yIu t m w):=by
 intro z
 induction z with
 |zero=>intro t c m w h;have:=vW t;omega
 |succ z C=>
  intro t c m w D E a7 a8;have M:=zh C;clear C;obtain⟨A,l,rfl,N,O,P,Q,a9,q⟩:=E.form;obtain⟨k,a,v,f,d⟩:=t;dsimp only[aC.kind,aC.nam,aC.vr,aC.form,aC.args] at N O P Q q⊢;have R:=ah (bq d<=z) (by rw[bg] at D;omega);have g:=zh (q.keep (aN w (.cells (aA k a v A d.length l f) 25)));have e:=zh (aN w (.cells (aA k a v A d.length l f) 25));have b:=zh (au.new w 25 (aA k a v A d.length l f));have b0:d.length<=9223372036854775807:=aa
  clear D E q;dsimp only[aA] at g e b
  by_cases b1:300<(a.size:Int)
  ·have n:=b.o.cell 1;go_enter func12,ntmps12;go_wp2;go_ret;exact⟨-1,rfl,aa,aa,λh=>absurd h aa,e.o⟩
  by_cases b2:300<(v.size:Int)
  ·have n:=b.o.cell 1;have s:=b.o.cell 2;go_enter func12,ntmps12;go_wp2;go_ret;exact⟨-1,rfl,aa,aa,λh=>absurd h aa,e.o⟩
  by_cases b3:300<(f.size:Int)
  ·have n:=b.o.cell 1;have s:=b.o.cell 2;have F:=b.o.cell 4;go_enter func12,ntmps12;go_wp2;go_ret;exact⟨-1,rfl,aa,aa,λh=>absurd h aa,e.o⟩
  have S:=ah (fT (.mk k a v f d)<=lT d+1) (yIe aa aa aa);have n:=b.o.cell 1;have s:=b.o.cell 2;have F:=b.o.cell 4;go_enter func12,ntmps12;go_wp2_with fail;clear n s F
  go_loopw [1,5] (λT i wr=>∃(j:Nat) (x:Int),j<=d.length/\i=qI j/\T=qI x∧-1<=x/\x<=1000000/\Hy (0<=x->((lT (d.take j)+1:Nat):Int)+x<=m)/\Hy (au wr w.heap.size 25 (aA k a v A d.length l f))/\Hy (uf wr A d)/\Hy (Below w.heap.size w wr)) (λ_ i _=>d.length -(intOf i).toNat)
  case atStart=>exact⟨0,m -1,aa,rfl,rfl,aa,aa,(λ_=>by rw[eZ,show lT []=0 from rfl];omega),b,g,e⟩
  case round=>
   clear b g e;obtain⟨j,x,b4,rfl,rfl,G,u,B,b,g,e⟩:=hrel;have H:=b.o.cell 3;dsimp only[aA] at H
   by_cases U:j<d.length
   ·by_cases I:0<=x
    ·obtain⟨y,o⟩:∃y,d[j]?=some y:=⟨_,gE U⟩
     obtain⟨b5,b6,b7,rfl,b8,J⟩:=g.o.at_ o;have K:=zh J.whole;obtain⟨-,V,W,X,Y,Z,-⟩:=J;have a0:=ah (bg y<=z) (aV (Ak o) R.o);have a1:=zh (ZZ o);clear o;go_wp2_with fail;refine(M.o y _ _ _ a0.o K.o I u).mono ?_;rintro b9 c0 ⟨r,rfl,a2,a3,L,p⟩;replace g:=zh (g.o.keep p);replace b:=kp p b;replace e:=jt e p;have a4:=zh (show 0<=r->((lT (d.take (j+1))+1:Nat):Int)+r<=m from λh=>by
      have a5:=L h;have a6:=B.o I;rw[a1.o];omega)
     clear p K V W X Y Z H L;go_wp2;go_roundw
     case rel=>exact⟨j+1,r,aa,bi,rfl,a2,a3,a4,b,g,e⟩
     case measure=>simp[intOf];omega
    ·go_wp2;go_ret;exact⟨x,rfl,G,u,λh=>absurd h aa,e.o⟩
   ·obtain rfl:j=d.length:=by omega
    rw[bW] at B;go_wp2;go_ret;exact⟨x,rfl,G,u,λh=>by have a5:=B.o h;have a6:=S.o;omega,e.o⟩
mutual
def yFj:∀m:aC,mr m<=bg m
 | .mk k a v f ts=>by
  have h:=KH ts;rw[mr,bg]
  split
  ·omega
  ·have h2:((iO ts).drop (bQ f).2.2).sum<=(iO ts).sum:=by
    have h3:((iO ts).take (bQ f).2.2++(iO ts).drop (bQ f).2.2).sum=_:=uA;rw[kw] at h3;omega
   omega
def KH:∀ts:List aC,(iO ts).sum<=bq ts
 |[]=>aH _
 |t::ts=>by
  have h1:=yFj t;have h2:=KH ts;rw[iO,bq,lq];omega
end
def QN:∀(ts:List aC) (i:Nat),(iO ts)[i]?=(ts[i]?).map mr
 |[],i=>by rw[iO];rfl
 |t::ts,0=>by rw[iO];rfl
 |t::ts,i+1=>by rw[iO,eD,eD,QN ts i]
def yGl (m:aC):mr m=if m.kind<4\/fQ (bQ m.form).1=0 then 1 else 1+((iO m.args).drop (bQ m.form).2.2).sum:=by
 cases m;rw[mr];rfl
def zVs:∀(z:Nat) (m:aC) (c:Array Value) (w:World),bg m<=z->z<=100000->gK w m c->Calls prog 24 #[.agg c] w λe w'=>e= .returned (qI (mr m:Int))/\Below w.heap.size w w':=by
 intro z
 induction z with
 |zero=>intro m c w h;have:=vW m;omega
 |succ z I=>
  intro m c w f J K;have a0:=zh I;obtain⟨D,E,rfl,-,-,a1,-,-,L⟩:=K.form;have M:=aN w (.cells (aA m.kind m.nam m.vr D m.args.length E m.form) 25);have n:=zh M;have o:=zh (au.new w 25 (aA m.kind m.nam m.vr D m.args.length E m.form));have a2:=zh L;have N:=ah (bq m.args<=z) (av (Dv m));have s:=zh (yGl m);have a3:=zh (KH m.args);have a4:=ah (m.args.length<=100000) (aV (Ee m.args) (Dv m));have O:=zh J;clear I f K L M J;go_enter func24,ntmps24;have a5:=o.o.cell 4;go_wp2_with fail;refine(OA m.form _ a1).mono ?_;rintro c6 a6 ⟨rfl,p⟩;have F:=jt n p;have G:=kp p o;have P:=zh (Ki m.form);clear p n o a5;generalize bQ m.form=a7 at*;obtain⟨g,c7,q⟩:=a7;dsimp only at P s;have a8:=G.o.cell 0;go_upto_region 2 with(fail)
  go_cut [37] (λv wc=>v= .bool (decide (m.kind<4\/fQ g=0))/\wc=a6)
  case first=>
   by_cases Q:m.kind<4
   ·go_wp2;go_meet
    case rel=>exact⟨by rw[aJ (.inl Q)],rfl⟩
   by_cases f:fQ g=0
   ·have u:=nK (a:=g) (b:=gG) (l:=[105,110,102,105,120]) (λe=>absurd (by rw[<-e];exact f) (by decide+kernel:¬fQ gG=0)) rfl;have B:=nK (a:=g) (b:=ic) (l:=[112,114,101,102,105,120]) (λe=>absurd (by rw[<-e];exact f) (by decide+kernel:¬fQ ic=0)) rfl;have H:=nK (a:=g) (b:=iL) (l:=[112,111,115,116,102,105,120]) (λe=>absurd (by rw[<-e];exact f) (by decide+kernel:¬fQ iL=0)) rfl;have R:=nK (a:=g) (b:=kE) (l:=[106,117,120,116,97,112,111,115,101]) (λe=>absurd (by rw[<-e];exact f) (by decide+kernel:¬fQ kE=0)) rfl;have a9:=nK (a:=g) (b:=mh) (l:=[98,105,110,100]) (λe=>absurd (by rw[<-e];exact f) (by decide+kernel:¬fQ mh=0)) rfl;replace f:=zh f;go_wp2;go_meet
    case rel=>exact⟨by rw[aJ (.inr f.o)],rfl⟩
   ·have y:=ah (decide (m.kind<4\/fQ g=0)=false) (aK λh=>h.elim Q f);have d:∀{b S:ByteArray} {l:List UInt8},g=S->¬S=b->b.data.toList=l->(g.toList==l)=false:=λk r T=>nK (λe=>r (k.symm.trans e)) T
    have b0:=Ke f;clear f;rcases b0 with e|e|e|e|e
    ·have u:=xS (l:=[105,110,102,105,120]) e rfl;clear e d;go_wp2;go_meet
     case rel=>rw[y.o];exact⟨rfl,rfl⟩
    ·have u:=d (b:=gG) (l:=[105,110,102,105,120]) e dW rfl;have B:=xS (l:=[112,114,101,102,105,120]) e rfl;clear e d;go_wp2;go_meet
     case rel=>rw[y.o];exact⟨rfl,rfl⟩
    ·have u:=d (b:=gG) (l:=[105,110,102,105,120]) e dW rfl;have B:=d (b:=ic) (l:=[112,114,101,102,105,120]) e dW rfl;have H:=xS (l:=[112,111,115,116,102,105,120]) e rfl;clear e d;go_wp2;go_meet
     case rel=>rw[y.o];exact⟨rfl,rfl⟩
    ·have u:=d (b:=gG) (l:=[105,110,102,105,120]) e dW rfl;have B:=d (b:=ic) (l:=[112,114,101,102,105,120]) e dW rfl;have H:=d (b:=iL) (l:=[112,111,115,116,102,105,120]) e dW rfl;have R:=xS (l:=[106,117,120,116,97,112,111,115,101]) e rfl;clear e d;go_wp2;go_meet
     case rel=>rw[y.o];exact⟨rfl,rfl⟩
    ·have u:=d (b:=gG) (l:=[105,110,102,105,120]) e dW rfl;have B:=d (b:=ic) (l:=[112,114,101,102,105,120]) e dW rfl;have H:=d (b:=iL) (l:=[112,111,115,116,102,105,120]) e dW rfl;have R:=d (b:=kE) (l:=[106,117,120,116,97,112,111,115,101]) e dW rfl;have a9:=xS (l:=[98,105,110,100]) e rfl;clear e d;go_wp2;go_meet
     case rel=>rw[y.o];exact⟨rfl,rfl⟩
  case rest=>
   obtain⟨rfl,rfl⟩:=hcut
   by_cases A:m.kind<4\/fQ g=0
   ·rw[aJ A];rw[ak A] at s;go_wp2;go_ret;exact⟨by rw[s.o];rfl,F.o⟩
   ·rw[aK A];rw[ai A] at s;have c8:q<=2:=by have:=P.o;omega
    clear A a8;go_wp2_with fail
    go_loopw [6,7] (λv i wr=>∃j x:Nat,j<=100002/\x<=100002/\i=qI j/\v=qI x/\Hy (x+((iO m.args).drop j).sum=1+((iO m.args).drop q).sum)/\Hy (au wr w.heap.size 25 (aA m.kind m.nam m.vr D m.args.length E m.form))/\Hy (Below w.heap.size w wr)) (λ_ i _=>m.args.length -(intOf i).toNat)
    case atStart=>exact⟨q,1,aa,aa,rfl,rfl,zh rfl,G,F⟩
    case round=>
     clear G F;obtain⟨j,x,c9,d0,rfl,rfl,U,o,n⟩:=hrel;have b1:=o.o.cell 3;have d1:=a4.o
     by_cases V:j<m.args.length
     ·obtain⟨t,C⟩:∃t,m.args[j]?=some t:=⟨_,gE V⟩
      obtain⟨d2,d3,d4,rfl,b2,W⟩:=(a2.o.keep n.o).at_ C;have X:=zh W.whole;obtain⟨_,b3,b4,b5,b6,b7,_⟩:=W;have b8:=ah (bg t<=z) (by have k:bg t<=bq m.args:=Ak C;have:=N.o;omega);have Y:=zh (show(x+mr t)+((iO m.args).drop (j+1)).sum=1+((iO m.args).drop q).sum by
       have k:=U.o;have Z:j<(iO m.args).length:=by rw[EH];exact V
       rw[ib Z,lq] at k;have r:=QN m.args j;rw[gE Z,C] at r;have T:(iO m.args)[j]=mr t:=sj r;omega)
      have b9:=zh (show x+mr t<=100002 by
       have k:=Y.o;have r:((iO m.args).take q++(iO m.args).drop q).sum=_:=uA;rw[kw] at r;have:=a3.o;have:=N.o;have:=O.o;omega)
      have c0:(j:Int)<(m.args.length:Int):=aa
      clear C b2;go_wp2_with fail;refine(a0.o t _ wr b8.o (av O.o) X.o).mono ?_;rintro e d5 ⟨rfl,p⟩;have c1:=jt n p;have c2:=kp p o;have c3:=b9.o;clear p o n b1 b3 b4 b5 b6 b7 X;generalize mr t=c4 at*;go_wp2;go_roundw
      case rel=>exact⟨j+1,x+c4,aa,c3,bi,bi,Y,c2,c1⟩
      case measure=>simp[intOf];omega
     ·have c5:=ah (x=1+((iO m.args).drop q).sum) (by have k:=U.o;rw[wM (by rw[EH];omega)] at k;exact k);have c0:¬(j:Int)<(m.args.length:Int):=by omega
      go_wp2;go_ret;exact⟨show Ending.returned (qI (x:Int))=_ by rw[s.o,<-c5.o],n.o⟩
def zRy:∀(z:Nat) (m:aC) (c:Array Value) (w:World),bg m<=z->z<=100000->gK w m c->Calls prog 13 #[.agg c] w λe w'=>e= .returned (.bool (mV m))/\Below w.heap.size w w':=by
 intro z
 induction z with
 |zero=>intro m c w h;have:=vW m;omega
 |succ z r=>
  intro m c w s u l;have F:=zh r;have v:=l;obtain⟨n,o,rfl,-,-,-,-,-,x⟩:=l.form;have y:=aN w (.cells (aA m.kind m.nam m.vr n m.args.length o m.form) 25);have a:=zh y;have b:=zh (au.new w 25 (aA m.kind m.nam m.vr n m.args.length o m.form));have G:=zh v;have H:=zh x;have I:=ah (bq m.args<=z) (av (Dv m));have J:=zh s;have K:=ah (m.args.length<=100000) (aV (Ee m.args) (Dv m));have A:=zh u;have B:=ah (mV m=(nZ m.args&&decide (mr m<=5))) (by cases m;rw[mV];rfl);clear r s l v x y u;go_enter func13,ntmps13;go_wp2_with fail
  go_loopw [3] (λi wr=>∃j:Nat,j<=m.args.length/\i=qI j/\Hy (nZ m.args=nZ (m.args.drop j))/\Hy (au wr w.heap.size 25 (aA m.kind m.nam m.vr n m.args.length o m.form))/\Hy (Below w.heap.size w wr)) (λi _=>m.args.length -(intOf i).toNat)
  case atStart=>exact⟨0,aa,rfl,zh rfl,b,a⟩
  case round=>
   clear b a;obtain⟨j,X,rfl,p,b,a⟩:=hrel;have L:=b.o.cell 3;have Y:=K.o
   by_cases q:j<m.args.length
   ·obtain⟨t,f⟩:∃t,m.args[j]?=some t:=⟨_,gE q⟩
    obtain⟨Z,a0,a1,rfl,M,C⟩:=(H.o.keep a.o).at_ f;have D:=zh C.whole;obtain⟨_,N,O,P,Q,R,_⟩:=C;have S:=ah (bg t<=z) (by have a2:bg t<=bq m.args:=Ak f;have:=I.o;omega);have g:=ah (nZ m.args=(mV t&&nZ (m.args.drop (j+1)))) (by rw[p.o,ib q,show m.args[j]=t from sj ((gE q).symm.trans f),nZ]);have a3:(j:Int)<(m.args.length:Int):=aa
    clear f M p;go_wp2_with fail;refine(F.o t _ wr S.o (av A.o) D.o).mono ?_;rintro e T ⟨rfl,d⟩;have k:=jt a d;have U:=kp d b;clear d b a L N O P Q R D;cases E:mV t with
    |false=>
     rw[E] at g;go_wp2;go_ret;exact⟨by rw[B.o,g.o];rfl,k.o⟩
    |true=>
     rw[E,aW] at g;go_wp2;go_roundw
     case rel=>exact⟨j+1,aa,bi,g,U,k⟩
     case measure=>simp[intOf];omega
   ·obtain rfl:j=m.args.length:=by omega
    have V:=ah (mV m=decide (mr m<=5)) (by rw[B.o,p.o,nQ,nZ,aW]);obtain⟨a4,a5,a6⟩:=qa b;have a7:=b.o.cell 4;go_wp2_with fail;refine(zVs (z+1) m _ wr J.o A.o (G.o.keep a.o)).mono ?_;rintro e T ⟨rfl,d⟩;have k:=jt a d;have W:=ah (decide ((mr m:Int)<=5)=mV m) (by rw[V.o];exact fE.2 aa);clear d;go_wp2;go_ret;exact⟨show Ending.returned (.bool (decide ((mr m:Int)<=5)))=_ by rw[W.o],k.o⟩
def NrP (m:aC)(w:World)(e:Ending)(w':World):Prop:=∃b:Bool,e= .returned (.bool b)/\(b=true->fT m<=40/\mV m=true)/\Below w.heap.size w w'
def zSr (m:aC)(c:Array Value)(w:World)(d:gK w m c):Calls prog 6 #[.agg c,qI 40] w (NrP m w):=by
 have f:=d;obtain⟨g,i,rfl,-,-,-,-,-,-⟩:=d.form;have j:=aN w (.cells (aA m.kind m.nam m.vr g m.args.length i m.form) 25);have k:=zh j;have l:=zh (au.new w 25 (aA m.kind m.nam m.vr g m.args.length i m.form));have n:=zh f;obtain⟨o,p,q,s,t⟩:=qc l;clear d f j;go_enter func6,ntmps6;go_wp2_with fail;refine(yAj (bg m) m _ 40 _ (aH _) (n.o.keep k.o) aa aa).mono ?_;rintro e x ⟨r,rfl,B,C,u,a⟩;have b:=jt k a;have y:=kp a l;have z:=zh u;clear a o p q s t u;obtain⟨o,p,q,s,t⟩:=qc y
 by_cases A:(0:Int)<=r
 ·have v:=ah (fT m<=40) (av (z.o A));go_wp2_with fail;refine(zRy (bg m) m _ x (aH _) (by have:=v.o;have:bg m<=fT m:=fq _ _;omega) (n.o.keep b.o)).mono ?_;rintro e D ⟨rfl,a⟩;go_wp2;go_ret;exact⟨_,rfl,λh=>⟨v.o,h⟩,b.o.trans (a.mono b.o.size)⟩
 ·go_wp2;go_ret;exact⟨false,rfl,λh=>(by cases h),b.o⟩
end Rn
namespace El
open At Ch Sp Sy Go.RowKit
def aQ (l:List aG):aG:=.mk 1 ⟨#[]⟩ 0 l
def zXw {w:World}{g:Nat}(h:au w g 41 Gq):fG w (some (ag g (0))) [Cj]:=λk r b=>by
 cases k with
 |succ k=>simp at b
 |zero=>
  obtain rfl:Cj=r:=by simpa using b
  refine⟨⟨aI,aI⟩,_,rfl,h.lt,λj v a=>?_⟩;have c:=h.cell j
  match j,a with
  |0,a|1,a|2,a|3,a|4,a|5,a=>exact c.trans a
  |j+6,a=>simp[Cj] at a
end El
end Go.Proofs.YtlefbenkhgbifaaGreatDoor
