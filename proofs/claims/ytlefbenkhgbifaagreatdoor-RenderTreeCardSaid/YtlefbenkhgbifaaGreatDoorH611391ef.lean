/- operator of the writer. -/
import Derived.Test.YtlefbenkhgbifaaGreatDoorHa47c6794
set_option linter.all false
set_option maxRecDepth 100000
set_option maxHeartbeats 8000000
namespace Go.Proofs.YtlefbenkhgbifaaGreatDoor.Rn
open At Ch Sp Sy El Go.RowKit Tryz
variable{B g:Nat}{w x w':World}{t:TypeId}{cs:Array Value}{A:Option Addr}{ks:List aG}
def Ej (x:World)(g:Nat)(a b c d:Value):x.grownBy ((((x.setCell (ag g (0)) a).setCell (ag g (1)) b).setCell (ag g (2)) c).setCell (ag g (3)) d) (some g):=
 vJ (vJ (vJ (kJ x (ag g (0)) a) (kJ _ (ag g (1)) b)) (kJ _ (ag g (2)) c)) (kJ _ (ag g (3)) d)
def iY {i j k l:Value}(h:au x g t #[i,j,k,l])(m:Below B w x)(n:B<=g)(a b c d:Value):∃f,(((x.setCell (ag g (0)) a).setCell (ag g (1)) b).setCell (ag g (2)) c).setCell (ag g (3)) d=f/\Hy (au f g t #[a,b,c,d])/\Hy (Below B w f)/\Hy (x.grownBy f (some g)):=
 ⟨_,rfl,zh ((((h.set_ 0 a).set_ 1 b).set_ 2 c).set_ 3 d),zh (m.grown (Ej x g a b c d) (ax n (nR h.lt)) λr e=>av (sj e)),zh (Ej x g a b c d)⟩
def AL {a b:Nat}(h:some a=some b):a=b:=sj h
def Kq (e:Nat)(sym:ByteArray)(g:Nat):Array Value:=if e=0 then #[qI 2,af sym,qI 0,qN] else #[qI e,qE,qI 0,ay (ag g (0)) 1 1]
def EL (o:Option (aG×List (List aG)))(w:World)(e:Ending)(w':World):Prop:=(match o with
 |none=>e= .returned (.tuple #[.agg bY,qN,.bool false])
 |some (t,R)=>∃v A cap,e= .returned (.tuple #[.agg #[qI t.kind,af t.text,qI t.cols,v],.slice A R.length cap,.bool true])/\t.text.size<=9223372036854775807/\bN (λb=>w.heap.size<=b) w' w.heap.size v t.kids/\R.length<=cap/\cap<=9223372036854775807/\fw (λb=>w.heap.size<=b/\v.ownBlock≠some b) w' A (R.map aQ))/\Below w.heap.size w w'
def Kr {i:Nat}{v:Value}(a:cs[i]?=some v):cs.setIfInBounds i v=cs:=by
 refine tX λk=>?_
 rw[tV]
 split
 ·next e=>
  subst e
  split
  ·exact a.symm
  ·next hn=>rw[ig (lH hn)] at a;cases a
 ·rfl
def zU (h:au w g t cs)(i:Nat)(v:Value)(a:cs[i]?=some v):w.setCell (ag g i) v=w:=by
 have e:(w.setCell (ag g i) v).heap=w.heap:=by
  unfold World.setCell;refine tX λk=>?_
  rw[Array.getElem?_modify]
  split
  ·next e=>
   subst e;have b:w.heap[g]?=some (.cells cs t (0,0)):=h;dsimp only;rw[b];simp[Kr a]
  ·rfl
 cases w;simp only[World.setCell] at e⊢;rw[e]
def Xc {a b c d:Value}(h:au w g t #[a,b,c,d]):(((w.setCell (ag g (0)) a).setCell (ag g (1)) b).setCell (ag g (2)) c).setCell (ag g (3)) d=w:=by
 rw[zU h 0 a rfl,zU h 1 b rfl,zU h 2 c rfl,zU h 3 d rfl]
def fw.off {ok:Nat->Prop}{row:Option Nat}(h:fw ok w A ks)(a:w.grownBy w' row)(c:∀b,ok b->some b≠row):fw ok w' A ks:=
 h.map a.size (λ_ _ h=>h) λ_ d e=>dm (a.block _ d (c _ e))
def Xd {ok:Nat->Prop}{a:Addr}(h:fw ok w (some a) ks)(s:Nat):fw ok w (some (a.add (s*4))) (ks.drop s):=λi t b=>by
 rw[rO] at b;obtain⟨m,d,e,f,c,g,k⟩:=h _ t b;obtain rfl:=sj d;refine⟨_,rfl,by rw[gX];exact e,by rw[gX];exact f,c,g,λj l=>?_⟩;rw[oO,show s*4+(i*4+j)=(s+i)*4+j from aa];exact k j l
def Xe {lo q:Nat}{w3 a wc:World}(d:Below w3.heap.size w3 a)(c:a.grownBy wc (some q))(i:q<lo)(h:fw (λb=>lo<=b) w3 A ks):fw (λb=>lo<=b/\b<w3.heap.size) wc A ks:=
 ((h.any (ok':=λb=>lo<=b/\b<w3.heap.size) λb f h=>⟨h,f⟩).keep d).map c.size (λ_ _ h=>h) λp g j=>dm (c.block _ g λe=>by have k:p.block=q:=sj e;omega)
def bN.zF8 {P:Nat->Prop}{v v':Value}{xs ys:List aG}{css dss:List (Array Value)}(k:css.length=xs.length)(h:∀(j:Nat) c x,css[j]?=some c->xs[j]?=some x->bC (λb=>v.ownBlock≠some b/\P b) w x c)(n:dss.length=ys.length)(i:∀(j:Nat) c x,dss[j]?=some c->ys[j]?=some x->bC (λb=>v.ownBlock≠some b/\P b) w x c)
  (a:w'.ownsRow B 31 4 v' (xs.length+ys.length) (css.flatMap (·.toList)++dss.flatMap (·.toList))) (o:w.grownBy w' v.ownBlock) (p:v'.ownBlock=v.ownBlock\/v'.ownBlock=some w.heap.size):bN P w' B v' (xs++ys):=by
 have l:∀{x:aG} {c:Array Value},bC (λb=>v.ownBlock≠some b/\P b) w x c->bC (λb=>v'.ownBlock≠some b/\P b) w' x c:=λq=>q.grown o (λb _ m e=>m.1 e.symm) λb m a=>⟨by
  rcases p with e|e
  ·rw[e];exact a.1
  ·rw[e];intro i;have:=sj i;omega,a.2⟩
 refine⟨css++dss,by rw[aO,fH];exact a,by simp[k,n],λj d y f g=>?_⟩;rcases bu j css.length with r|s
 ·rw[dz r] at f;rw[dz aa] at g;exact l (h j d y f g)
 ·rw[cO s] at f;rw[cO aa,<-k] at g;exact l (i _ d y f g)
def fw.take {ok:Nat->Prop}{w:World}{A:Option Addr}{ts:List aG}(h:fw ok w A ts)(n:Nat):fw ok w A (ts.take n):=λi t a=>by
 rw[gU] at a
 split at a
 ·exact h i t a
 ·cases a
def Xf {e:Nat}(A:e=0\/e=7\/e=8\/e=9){d:ByteArray}{a q:Nat}(r:d.size<=9223372036854775807)(g:au x q 31 (Kq e d (a+1)))(u:au x a 31 #[qI 2,af d,qI 0,qN])(v:au x (a+1) 31 #[qI 1,qE,qI 0,ay (ag a (0)) 1 1])(w:B+2<=a):
  ∃(t:Int) (m:ByteArray) (n:Value) (o:List aG),au x q 31 #[qI t,af m,qI 0,n]/\bN (λb=>B+2<=b) x (B+2) n o/\o.length<=1/\(∀b,n.ownBlock=some b->b=a+1)/\m.size<=9223372036854775807/\
   ∀R:List (List aG),(if e=0 then dh d else .mk e ⟨#[]⟩ 0 (aQ [dh d]::(R.take (fF e)).map aQ))= .mk t m 0 (o++(R.take (fF e)).map aQ):=by
 unfold Kq at g
 by_cases p:e=0
 ·subst p;exact⟨2,d,qN,[],g,bN.nil _ _ _,aS,(λb h=>by cases h),r,λR=>rfl⟩
 ·rw[ai p] at g;refine⟨e,⟨#[]⟩,_,[aQ [dh d]],g,?_,aS,(λb h=>(sj h).symm),aI,λR=>by rw[ai p];rfl⟩;have z:=xu (ok:=λb=>(Value.slice (some ⟨a+1,0,none⟩) 1 1).ownBlock≠some b/\B+2<=b) (ks:=[]) u r (aH _) aa (λi x h=>by simp at h) ⟨λh=>by have C:a+1=a:=AL h;omega,w⟩;exact⟨[#[qI 1,qE,qI 0,ay (ag a (0)) 1 1]],⟨rfl,.inr ⟨a+1,1,_,rfl,aa,v,aH _,aI,rfl,rfl⟩⟩,rfl,λj c y f l=>by
   match j,f,l with
   |0,f,l=>
    obtain rfl:=sj f;obtain rfl:=sj l;exact bC.of (k:=1) (s:=⟨#[]⟩) (c:=0) (ks:=[dh d]) aI (aH _) aa z
   |j+1,f,l=>simp at f⟩
def Xg (A:Option Addr)(cap:Nat)(rs:List aD)(kind:Int)(s:ByteArray)(w:World)(a:Option Nat)(h:rs.findIdx? (iH kind s)=a)(b:fG w A rs)(c:rs.length<=1000000):Calls prog 90 #[.slice A rs.length cap,qI kind,af s] w λe w'=>e= .returned (.tuple #[qI (zx a),.bool a.isSome])/\Below w.heap.size w w':=h▸Xb A cap rs kind s w b c
def CS (c5:jV)(A:Option Addr)(cap:Nat)(rs:List aD)(f:Nat)(o1:si c5 A cap rs f)(kd:Int)(e:Nat)(h7:e=0\/e=7\/e=8\/e=9)(es:ByteArray)(h8:es=eO (eJ e))(n:Nat)(o2:1<=n)(s8:n<=10)(m:aC)(c:Array Value)(w:World)(h9:fT m<=f)(E:f<=100000)(o3:rs.length<=1000000)(i0:pX w c5 A cap rs)(i1:gK w m c):
  Calls prog 65 #[qP c5.gw,qI kd,.agg c,af es,qI (n:Int)] w (EL ((bI rs m.args).bind λR=>kL rs kd m.nam e R n) w):=by
 obtain⟨o4,o5,o6,o7,o8⟩:=Ck;obtain⟨M,N,rfl,_,_,_,s9,i2,i3⟩:=i1.form;have e7:=aN w (.cells (aA m.kind m.nam m.vr M m.args.length N m.form) 25);have s1:(w.alloc (.cells (aA m.kind m.nam m.vr M m.args.length N m.form) 25)).heap.size=w.heap.size+1:=aS
 have e8:=aN (w.alloc (.cells (aA m.kind m.nam m.vr M m.args.length N m.form) 25)) (.cells bY 31);have c6:=zh (e7.trans (e8.mono e7.size));have e9:=zh (ae e8 (au.new w 25 (aA m.kind m.nam m.vr M m.args.length N m.form)));have f0:=zh (au.new (w.alloc (.cells (aA m.kind m.nam m.vr M m.args.length N m.form) 25)) 31 bY);rw[s1] at f0;have c7:=zh (i0.keep c6.o);have i4:=zh (i3.keep c6.o);have o9:=ah (lT m.args<f) (av (yw h9 E));have F:=zh h8;clear i0 i1 i3 e7 e8 s1 h9 h8;go_enter func65,ntmps65;go_upto_region 1 with(fail)
 generalize (w.alloc (.cells (aA m.kind m.nam m.vr M m.args.length N m.form) 25)).alloc (.cells bY 31)=f1 at*;refine Be aj aj ?_;have p0:=λe:jX f1=>(ae e.bel c7.o.box).cell 0
 have p1:=λe:jX f1=>(ae e.bel e9.o).cell 1
 obtain⟨c8,f2⟩:∃c8,rs.findIdx? (iH kd m.nam)=c8:=⟨_,rfl⟩
 have i5:=zh (λe:jX f1=>Calls.ext (Xg A cap rs kd m.nam e.val c8 f2 (c7.o.rules.keep e.bel) o3));have c9:=zh f2;clear f2
 repeat (go_big_quiet_step (fail))
 go_big_quiet_step ((rename_i e;exact i5.o e))
 repeat (go_big_quiet_step (fail))
 refine wpQuiet_nil ?_;intro l p2;obtain⟨⟨t0,a⟩,a1⟩:=p2;dsimp only at a1;subst a1;have f3:=jt c6 a;have i6:=kp a e9;have a2:=kp a f0;have f4:=zh (c7.o.keep a);have i7:=zh (i4.o.keep a);clear p0 p1 i5 a c6 e9 f0 c7 i4;cases c8 with
 |none=>
  have O:=zh (show((bI rs m.args).bind λR=>kL rs kd m.nam e R n)=none by
   cases bI rs m.args with
   |none=>rfl
   |some R=>show kL rs kd m.nam e R n=none;unfold kL;rw[EK,c9.o])
  have d0:=a2.o.cell;have d1:=a2.o.frozen;go_wp2_with fail;obtain⟨i8,b3,J,b4,_⟩:=iY a2.o f3.o aa (qI 0) qE (qI 0) qN;rw[b3];obtain⟨Q,S,T,U⟩:=qb J;exact aB (v:=.tuple #[.agg bY,qN,.bool false]) (by simp[results,results65,go_sem,Q,S,T,U]) rfl (show EL _ _ _ _ by rw[O.o];exact⟨rfl,b4.o⟩)
 |some d2=>
  obtain⟨u,d3⟩:∃u,rs[d2]?=some u:=⟨_,gE (qY.1 c9.o).1⟩
  have d4:=zh d3;rw[show zx (some d2)=(d2:Int) from rfl];have p3:=i6.o.cell 3;go_wp2_with fail;refine(Gy c5 A cap rs f o1 m.args M N l o9.o E f4.o i7.o).mono ?_;rintro r i ⟨b5,a⟩;obtain⟨b6,k,d,b,rfl,i9,j0⟩:∃b6 k d b,r= .returned (.tuple #[.slice b6 k d,.bool b])/\(b=true->∃R,bI rs m.args=some R/\R.length=k/\k<=d/\d<=9223372036854775807/\fw (λb=>l.heap.size<=b) i b6 (R.map aQ))/\(b=false->bI rs m.args=none):=by
   cases V:bI rs m.args with
   |none=>rw[V] at b5;exact⟨none,0,0,false,b5,(λh=>by cases h),λ_=>rfl⟩
   |some R=>
    rw[V] at b5;obtain⟨b6,d,j1,j2,j3,d5⟩:=b5;rw[dI] at j1 j2;exact⟨b6,R.length,d,true,j1,λ_=>⟨R,rfl,rfl,j2,j3,d5⟩,λh=>by cases h⟩
  have j4:=zh i9;have j5:=zh j0;have a3:=ah (w.heap.size+1<l.heap.size) a2.o.lt;have p4:=jt f3 a;have j6:=kp a a2;have j7:=zh (f4.o.keep a);clear b5 a i9 j0 p3 f3 i6 a2 f4 i7 d3;obtain⟨p5,t1,p6,t2,_,p7,_⟩:=j7.o.rules.at_ d4.o;subst p6;have t3:(d2:Int)<(rs.length:Int):=av ((bP.1 d4.o).1)
  have p8:=j7.o.box.cell 0;have p9:=ah (u.sym.size<=9223372036854775807) p5.1;have d6:=aN i (.cells #[qI 2,af u.sym,qI 0,qN] 31);have f5:=zh (au.new i 31 #[qI 2,af u.sym,qI 0,qN]);have j8:=jt p4 d6;have j9:=kp d6 j6;have K:=ah (w.heap.size+1<i.heap.size) j6.o.lt;have k0:=ah (Below i.heap.size i _) d6;have W:=ah ((i.alloc (.cells #[qI 2,af u.sym,qI 0,qN] 31)).heap.size=i.heap.size+1) (by simp);clear d6;go_upto_region 6 with(fail)
  generalize i.alloc (.cells #[qI 2,af u.sym,qI 0,qN] 31)=z at*;generalize k1:i.heap.size=t4 at*;have b7:=zh k1;clear p7 p8 k1;obtain⟨k2,d7,X,C⟩:=qb f5;have f6:=aN z (.cells #[qI 2,af u.sym,qI 0,qN] 31);have k3:(z.alloc (.cells #[qI 2,af u.sym,qI 0,qN] 31)).heap.size=z.heap.size+1:=aS
  have f7:=aN (z.alloc (.cells #[qI 2,af u.sym,qI 0,qN] 31)) (.cells #[qI 1,qE,qI 0,ay (ag z.heap.size (0)) 1 1] 31);have b8:=f6.trans (f7.mono f6.size);have k4:=jt j8 b8;have k5:=kp b8 f5;have d8:=kp b8 j9;have J:=zh (ae f7 (au.new z 31 #[qI 2,af u.sym,qI 0,qN]));have f8:=zh (au.new (z.alloc (.cells #[qI 2,af u.sym,qI 0,qN] 31)) 31 #[qI 1,qE,qI 0,ay (ag z.heap.size (0)) 1 1]);rw[k3] at f8;have q0:=zh (k0.o.trans (b8.mono (av W.o)));have d0:=d8.o.cell;have d1:=d8.o.frozen;clear f6 f7 b8 k3 j8 j9 f5 k0;go_upto_region 7 with(fail)
  clear k2 d7 X C d0 d1;obtain⟨Y,k6,Z,L,d9⟩:=iY d8.o k4.o aa (qI 0) qE (qI 0) (ay ⟨z.heap.size+1,0,none⟩ 1 1);rw[k6];have k7:=zh (k5.o.grown d9.o λe=>aV (AL e) K.o);have k8:=zh (J.o.grown d9.o λe=>fD (AL e) K.o W.o);have k9:=zh (f8.o.grown d9.o λe=>fD (AL e) K.o W.o);clear k6 k5 J f8 d8 k4
  go_upto_block 0 with(fail)
  go_cut [16] (λs wc=>s=qI (fF e:Nat)/\Hy (au wc (w.heap.size+1) 31 (Kq e u.sym (z.heap.size+1)))/\Hy (Below w.heap.size w wc)/\Hy (Y.grownBy wc (some (w.heap.size+1))))
  case first=>
   have d0:=Z.o.cell;have d1:=Z.o.frozen;obtain⟨k2,d7,X,C⟩:=qb k7;rcases h7 with rfl|rfl|rfl|rfl
   ·have f9:es.toList.isEmpty=true:=by rw[F.o];decide+kernel
    go_wp2_with fail;obtain⟨t5,q1,G,a4,b9⟩:=iY Z.o L.o aa (qI 2) (af u.sym) (qI 0) qN;rw[q1];go_meet;exact⟨rfl,G,a4,b9⟩
   ·have f9:es.toList.isEmpty=false:=by rw[F.o];decide+kernel
    have l0:(es.toList==[115,117,98])=true:=by rw[F.o];decide+kernel
    go_wp2;go_meet;exact⟨rfl,zh (Z.o.set_ 0 (qI 7)),zh (L.o.grown (kJ Y ⟨w.heap.size+1,0,none⟩ (qI 7)) L.o.size λr e=>by have a0:w.heap.size+1=r:=AL e;omega),zh (kJ Y ⟨w.heap.size+1,0,none⟩ (qI 7))⟩
   ·have f9:es.toList.isEmpty=false:=by rw[F.o];decide+kernel
    have l0:(es.toList==[115,117,98])=false:=by rw[F.o];decide+kernel
    have q2:(es.toList==[115,117,112])=true:=by rw[F.o];decide+kernel
    go_wp2;go_meet;exact⟨rfl,zh (Z.o.set_ 0 (qI 8)),zh (L.o.grown (kJ Y ⟨w.heap.size+1,0,none⟩ (qI 8)) L.o.size λr e=>by have a0:w.heap.size+1=r:=AL e;omega),zh (kJ Y ⟨w.heap.size+1,0,none⟩ (qI 8))⟩
   ·have f9:es.toList.isEmpty=false:=by rw[F.o];decide+kernel
    have l0:(es.toList==[115,117,98])=false:=by rw[F.o];decide+kernel
    have q2:(es.toList==[115,117,112])=false:=by rw[F.o];decide+kernel
    go_wp2;go_meet;exact⟨rfl,zh (Z.o.set_ 0 (qI 9)),zh (L.o.grown (kJ Y ⟨w.heap.size+1,0,none⟩ (qI 9)) L.o.size λr e=>by have a0:w.heap.size+1=r:=AL e;omega),zh (kJ Y ⟨w.heap.size+1,0,none⟩ (qI 9))⟩
  case rest=>
   obtain⟨rfl,l1,a4,b9⟩:=hcut;have l2:=zh (k8.o.grown b9.o λe=>fD (AL e) K.o W.o);have g0:=zh (k9.o.grown b9.o λe=>fD (AL e) K.o W.o);obtain⟨a5,a6,a7,a8,l3,l4,l5,l6,l7,l8⟩:=Xf (B:=w.heap.size) h7 p9.o l1.o l2.o g0.o (aV K.o W.o);have G:=zh l3;have l9:=zh l4;have q3:=zh l8;have q4:=zh l5;have q5:=zh l7;have m0:=zh l6;have q6:fF e<=2:=by unfold fF;split<;>(try split)<;>omega
   have q7:=ah (fF e=fF e) rfl;obtain⟨s,g1⟩:∃s,s=fF e:=⟨_,rfl⟩
   have g2:=zh g1;rw[<-g1] at q7 q6⊢;clear g1;have g3:=q0.o;rw[<-b7.o] at g3;have a9:=vJ d9.o b9.o;have m1:=ah (∀(A:Option Addr) (ks:List aG),fw (λb=>l.heap.size<=b) i A ks->fw (λb=>l.heap.size<=b/\b<i.heap.size) wc A ks) (λA ks h=>Xe (q:=w.heap.size+1) g3 a9 a3.o h);clear g3 a9;have g4:=ah (i.heap.size+2<=z.heap.size+1) (aV b7.o W.o);have q8:=ah (z.heap.size+1<wc.heap.size) g0.o.lt;clear l1 l3 l4 l8 l5 l7 l6 k8 k9 l2 g0 Z L k7;have d0:=G.o.cell;have d1:=G.o.frozen;cases b with
   |false=>
    have O:=ah (((bI rs m.args).bind λR=>kL rs kd m.nam e R n)=none) (by rw[j5.o rfl];rfl);go_wp2_with fail;obtain⟨i8,b3,J,b4,_⟩:=iY G.o a4.o (dJ _) (qI 0) qE (qI 0) qN;rw[b3];obtain⟨Q,S,T,U⟩:=qb J;exact aB (v:=.tuple #[.agg bY,qN,.bool false]) (by simp[results,results65,go_sem,Q,S,T,U]) rfl (show EL _ _ _ _ by rw[O.o];exact⟨rfl,b4.o⟩)
   |true=>
    obtain⟨R,V,c0,d5,j3,g5⟩:=j4.o rfl
    by_cases H:k=s+n
    ·have e0:=zh (m1.o _ _ g5);have d7:((k:Int) !=(s:Int)+(n:Int))=false:=by rw[H];simp
     have q9:0<(R.map aQ).length:=by rw[dI,c0,H];exact ll o2 (lu n s)
     obtain⟨r0,m2⟩:∃r1,(R.map aQ)[0]?=some r1:=⟨_,gE q9⟩
     obtain⟨D,g6,_⟩:=e0.o 0 r0 m2;rw[g6] at e0;rw[g6];clear g6;have e1:=zh c0;have r2:=zh V;have r3:=zh H;have g7:s<=k:=by rw[H];exact fq s n
     have r4:s<=d:=ax g7 d5;have r5:¬(d=s):=λh=>by rw[h,H] at d5;omega
     clear m2 V c0 g5 H j4 j5;go_upto_region 18 with(fail)
     refine qm [2,1,2,2,2,3,2,3] (List.replicate 8 false) (λI=>[aR (w.heap.size+1) (3),a7,ay D k d,qI (↑s),ay D s d,undef,aR (w.heap.size+1) (3),undef]) [] (λ_ _=>True) bV.nil (trivial) ?_ ?_
     ·refine⟨jI,jR λI l g=>(ae g G.o).cell 3,jC,jC,λI l=>?_,jI,trivial⟩
      ·exact jp (ay D s d) (bT r4) rfl
     ·refine λI l g c1 E=>?_
      dsimp only[ji] at E;change wpOps _ _ _ [5,7] _ _;have g8:=jt a4 g;have g9:=zh (e0.o.keep g);have m3:=kp g G;have m4:=zh (l9.o.keep g);have m5:=ah (i.heap.size+2<=l.heap.size) (ax (ax g4.o (nR q8.o)) g.size);clear g E c1 I e0 G l9 a4 m1;generalize l=e2 at*;obtain⟨m6,m7,m8,m9⟩:=m4.o;obtain⟨e3,h0,h1,h2⟩:=GI (g9.o.take s);have b0:((R.map aQ).take s).length=s:=by rw[eU,dI,e1.o];omega
      rw[b0] at h0 h2;have n0:∀u∈e3.flatMap (·.toList),u.oneCell'=true:=λu d3=>by
       obtain⟨c,i2,r6⟩:=oo.1 d3;obtain⟨h3,e4⟩:=gz.1 i2;have t6:=(bP.1 e4).1;exact Gs (h1 h3 c _ e4 (gE (by rw[b0];omega))) u r6
      have r7:=q4.o;refine wo (o:=_) (R:=λc2 w'=>w'.ownsRow (w.heap.size+2) 31 4 c2 (a8.length+s) (m6.flatMap (·.toList)++e3.flatMap (·.toList))/\e2.grownBy w' a7.ownBlock/\(c2.ownBlock=a7.ownBlock\/c2.ownBlock=some e2.heap.size)) rfl rfl (wQ (.tmp 75) (.tmp 78) 29 rfl (w.heap.size+2) 31 o4 (.agg bY) 4 56 underlying29 o5 o6 o7 o8 rfl aI a7 a8.length (m6.flatMap (·.toList)) rfl m7 e2.heap.size (some D) s d (e3.flatMap (·.toList)) rfl h2 n0 gy aa (fD m5.o a3.o b7.o) λc2 w' X C c3=>⟨X,C,c3⟩) ?_;rintro c2 b1 ⟨X,C,c3⟩;have h4:=bN.zF8 (P:=λb=>w.heap.size+2<=b) (v:=a7) (xs:=a8) (ys:=(R.map aQ).take s) (dss:=e3) m8 m9 (h0.trans b0.symm) (λh3 c x e4 r8=>(h1 h3 c x e4 r8).any λb _ a=>⟨λh=>by have a0:=m0.o b h;have:=g4.o;omega,av a3.o⟩) (by rw[b0];exact X) C c3;obtain⟨t,y,a1,n1,t7,_⟩:=h4.form (λb a=>a);rw[aO,b0] at a1 n1;obtain⟨j,h5⟩:∃j,j=a8.length+s:=⟨_,rfl⟩
      rw[<-h5] at a1 n1;have r9:=zh h5;subst a1;have c4:∀b,a7.ownBlock=some b->i.heap.size+2<=b:=λb h=>by have a0:=m0.o b h;have:=g4.o;omega
      have e5:=m3.o.grown C λe=>by have:=c4 _ e.symm;have:=a3.o;have:=b7.o;have:=K.o;omega
      have h6:=g8.o.grown C g8.o.size λr e=>fD (c4 r e) b7.o K.o
      have n2:=g9.o.off C λb a e=>av (c4 b e.symm)
      have n3:=e5.cell 3;have n4:=e5.frozen 3;have a9:b1.grownBy (b1.setCell ⟨w.heap.size+1,3,none⟩ (.slice t j y)) (some (w.heap.size+1)):=kJ b1 ⟨w.heap.size+1,3,none⟩ _;have b2:=ah (au (b1.setCell ⟨w.heap.size+1,3,none⟩ (.slice t j y)) (w.heap.size+1) 31 #[qI a5,af a6,qI 0,.slice t j y]) (e5.set_ 3 (.slice t j y));have n5:=zh (h6.grown a9 h6.size λr e=>by have a0:w.heap.size+1=r:=sj e;omega);have n6:=zh (n2.off a9 λb a e=>by have a0:b=w.heap.size+1:=sj e;have:=a3.o;omega);have n7:=zh (h4.set_ (p:=ag (w.heap.size+1) (3)) (by show ¬(w.heap.size+2<=w.heap.size+1);omega) (by show w.heap.size+1<w.heap.size+2;omega) (.slice t j y));refine oL (o:=_) rfl rfl (w':=b1.setCell ⟨w.heap.size+1,3,none⟩ (.slice t j y)) (ek n3 n4) ?_;refine jo ?_;have s0:=zh (show ∀b,(Value.slice t j y).ownBlock=some b->i.heap.size<=b from λb h=>by
       rcases c3 with e|e
       ·rw[e] at h;have:=c4 b h;omega
       ·rw[e] at h;have a0:e2.heap.size=b:=sj h;have:=m5.o;omega)
      clear n3 n4 h4 h0 h1 h2 n0 X C c3 a9 e5 h6 n2 c4 m7 m8 m9 h5 b0 r7 m4 g9 g8 m3;generalize b1.setCell ⟨w.heap.size+1,3,none⟩ (.slice t j y)=t8 at*;go_upto_region 19 with(fail)
      refine qm [1,2,2,2,3,2,2] (List.replicate 7 false) (λI=>[.agg #[qI a5,af a6,qI 0,.slice t j y],ay D k d,qI (↑s),ay (D.add (s*4)) (k -s) (d -s),undef,ay (D.add (s*4)) (k -s) (d -s),.bool true]) [] (λ_ _=>True) bV.nil (trivial) ?_ ?_
      ·refine⟨λI l g c1 E=>?_,jC,jC,λI l=>jp (ay (D.add (s*4)) (k -s) (d -s)) (yS g7 r5) rfl,jC,jC,trivial⟩
       ·have s2:=(ae g b2.o).cell 0;have s3:=(ae g b2.o).cell 1;have s4:=(ae g b2.o).cell 2;have d:=(ae g b2.o).cell 3;exact gs (.agg #[qI a5,af a6,qI 0,.slice t j y]) c1 aj (jZ s2 s3 s4 d) rfl
      ·refine λI l g c1 E=>?_
       dsimp only[ji] at E;change wpOps _ _ _ [4] _ _;have e6:=kp g b2;have s5:=jt n5 g;have s6:=zh (Xd (n6.o.keep g) s);have s7:=zh (n7.o.keep g);have n8:=e6.o.cell;have n9:=e6.o.frozen;clear g E c1 I b2 n5 n6 n7;refine oL (o:=_) rfl rfl (w':=(((l.setCell ⟨w.heap.size+1,0,none⟩ (qI a5)).setCell ⟨w.heap.size+1,1,none⟩ (af a6)).setCell ⟨w.heap.size+1,2,none⟩ (qI 0)).setCell ⟨w.heap.size+1,3,none⟩ (.slice t j y)) (ek n8 n9) ?_;rw[Xc e6.o];refine jo ?_;clear n8 n9;go_wp2_with fail;obtain⟨Q,S,T,U⟩:=qb e6;have O:((bI rs m.args).bind λR=>kL rs kd m.nam e R n)=some (.mk a5 a6 0 (a8++(R.take s).map aQ),R.drop s):=by
        rw[r2.o];show kL rs kd m.nam e R n=_;unfold kL;rw[EK,c9.o];dsimp only;rw[d4.o];dsimp only;rw[ak (by rw[e1.o,r3.o,g2.o]),q3.o R,<-g2.o]
       have o0:(R.drop s).length=k -s:=by rw[lg,e1.o]
       have t9:(a8++(R.take s).map aQ).length=j:=by rw[r9.o,aO,dI,eU,e1.o,xx g7]
       exact aB (v:=.tuple #[.agg #[qI a5,af a6,qI 0,.slice t j y],ay (D.add (s*4)) (k -s) (d -s),.bool true]) (by simp[results,results65,go_sem,Q,S,T,U]) rfl (show EL _ _ _ _ by
        rw[O];refine⟨⟨.slice t j y,some (D.add (s*4)),d -s,by rw[o0];rfl,q5.o,?_,by rw[o0];omega,aa,?_⟩,s5.o⟩
        ·have h:=s7.o;rw[<-List.map_take] at h;exact fP.more (fP.any h λb _ a=>⟨a.1,av a.2⟩) aa
        ·rw[List.map_drop];exact s6.o.any λb _ a=>⟨aV a.1 a3.o,λe=>aV (s0.o b e) a.2⟩)
    ·have d7:((k:Int) !=(s:Int)+(n:Int))=true:=pE.2 λh=>H (mE (h.trans (pu s n).symm))
     have O:=zh (show((bI rs m.args).bind λR=>kL rs kd m.nam e R n)=none by
      rw[V];show kL rs kd m.nam e R n=none;unfold kL;rw[EK,c9.o];dsimp only;rw[d4.o];dsimp only;rw[ai (by rw[<-g2.o,c0];exact H)])
     clear V c0 g5 H;go_wp2_with fail;obtain⟨i8,b3,J,b4,_⟩:=iY G.o a4.o (dJ _) (qI 0) qE (qI 0) qN;rw[b3];obtain⟨Q,S,T,U⟩:=qb J;exact aB (v:=.tuple #[.agg bY,qN,.bool false]) (by simp[results,results65,go_sem,Q,S,T,U]) rfl (show EL _ _ _ _ by rw[O.o];exact⟨rfl,b4.o⟩)
end Go.Proofs.YtlefbenkhgbifaaGreatDoor.Rn
