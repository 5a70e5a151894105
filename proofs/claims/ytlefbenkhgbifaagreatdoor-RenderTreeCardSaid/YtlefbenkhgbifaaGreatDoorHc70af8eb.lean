/- tree of the writer. -/
import Derived.Test.YtlefbenkhgbifaaGreatDoorHbee3a3d1
set_option linter.all false
set_option maxRecDepth 100000
set_option maxHeartbeats 8000000
namespace Go.Proofs.YtlefbenkhgbifaaGreatDoor
open Tryz
namespace El
open At Ch Sp Sy Go.RowKit
def il {α:Type}(m:bO α):Prop:=∀e p,m= .bad e p->e=14\/e=15
def il.ok {α:Type}(a:α):il (bO.ok a):=λe p h=>by cases h
def il.then_ {α β:Type}{m:bO α}{f:α->bO β}(h:il m)(g:∀a,m= .ok a->il (f a)):il (m.then_ f):=by
 intro e p b;cases m with
 |bad c d=>
  have i:(bO.bad c d:bO β)= .bad e p:=b;injection i with j k;rw[<-j];exact h c d rfl
 |ok a=>exact g a rfl e p b
def Hf {M:List aG->List Int->Nat->bO aC}{path:List Int}:∀(ks:List aG) (s b:Nat),(∀d∈ks,∀p k,il (M d.kids p k))->il (kF M path ks s b)
 |[],_,_,_=>by rw[kF];exact il.ok _
 |n::a,s,b,h=>by
  rw[kF];exact(h n bZ _ _).then_ λt _=>(Hf a _ _ λd c=>h d (dP _ c)).then_ λts _=>il.ok _
def Yp {M:List aG->List Int->Nat->bO aC}{n:aG}{path:List Int}(h:∀d∈n.kids,∀p k,il (M d.kids p k)):il (qH M n path):=by
 unfold qH
 split
 ·exact il.ok _
 split
 ·exact il.ok _
 split
 ·exact il.ok _
 ·refine il.then_ ?_ λf _=>il.ok _
  cases b:n.kids with
  |nil=>exact il.ok _
  |cons d a=>
   rw[b] at h;dsimp only
   split
   ·exact Hf a 1 0 λe c=>h e (dP _ c)
   ·exact Hf (d::a) 0 0 h
def Yq {rs:List aD}{M:List aG->List Int->Nat->bO aC}{n:aG}{path:List Int}{p:Bool}(h:∀d∈n.kids,∀p k,il (M d.kids p k)):il (lL rs M n path p):=by
 unfold lL
 split
 ·exact il.ok _
 ·exact(Hf _ _ _ λd a=>h d (List.mem_of_mem_tail a)).then_ λb _=>il.ok _
def PZ {rs:List aD}{M:List aG->List Int->Nat->bO aC}{path:List Int}{kd:Nat->Int}{k:Nat}:∀(a:List aG) (ts:List ByteArray) (i:Nat),(∀n∈a,∀d∈n.kids,∀p k,il (M d.kids p k))->il (pR rs M path kd k a ts i)
 |[],ts,i,_=>by
  have:pR rs M path kd k [] ts i= .ok []:=by cases ts<;>simp[pR]
  rw[this];exact il.ok _
 |n::a,[],i,_=>by
  have:pR rs M path kd k (n::a) [] i= .ok []:=by simp[pR]
  rw[this];exact il.ok _
 |n::a,t::ts,i,h=>by
  rw[pR];refine il.then_ ?_ λx _=>(PZ a ts (i+1) λm b=>h m (dP _ b)).then_ λc _=>il.ok _
  split
  ·exact Yp (h n bZ)
  ·exact Yq (h n bZ)
def Qa {l:List aG}{t:aG}(h:t∈l):dK t<=bK l:=by
 obtain⟨i,a⟩:=List.getElem?_of_mem h;have c:=IV a;have b:=xR (l.take (i+1)) (l.drop (i+1));rw[kw] at b;omega
def Kw (rs:List aD):∀(f:Nat) (items:List aG) (path:List Int) (k:Nat),bK items<f->il (dE rs f items path k)
 |0,_,_,_,h=>absurd h aa
 |f+1,items,path,k,h=>by
  rw[dE];unfold xN
  split
  ·intro e p b;injection b with a c;exact .inr a.symm
  split
  ·intro e p b;injection b with a c;exact .inr a.symm
  split
  ·intro e p b;injection b with a c;exact .inr a.symm
  ·refine(PZ _ _ _ λn g d i p j=>Kw rs f d.kids p j ?_).then_ λps _=>il.ok _
   have a:=Qa g;have c:=Qa i;have l:=GH items k;have m:=PP n;have o:=PP d;omega
  ·intro e p b;injection b with a c;exact .inl a.symm
end El
namespace Rn
open At Ch Sp Sy El Go.RowKit
variable{w w':World}{e:Ending}{rs:List aD}{f:Nat}{n:aG}
def Qb (m:bO aC):Int:=match m with
 | .ok _=>0
 | .bad er _=>er
def Yr {o:bO aC}{a:Int}(g:Qb o=a/\∀e p,o= .bad e p->e≠0)(h:zR o w e w'):∃j l m n,e= .returned (.tuple #[.agg j,.slice l m n,qI a])/\(∃tk ta tv tA tn d tf,(Value.agg j)= .agg #[qI tk,af ta,af tv,.slice tA tn d,af tf]/\(a=0->∃t,o= .ok t/\bH (λb=>w.heap.size<=b/\b<w'.heap.size) w' t #[qI tk,af ta,af tv,.slice tA tn d,af tf]))/\True/\Below w.heap.size w w':=by
 obtain⟨h,f⟩:=h;cases o with
 |ok t=>
  obtain⟨c,rfl,k⟩:=h;obtain⟨tk,ta,tv,tA,tn,d,tf,rfl⟩:=k.ext;have i:a=0:=g.1.symm;subst i;exact⟨_,_,_,_,rfl,⟨tk,ta,tv,tA,tn,d,tf,rfl,λ_=>⟨t,rfl,k.any λb f h=>⟨h,f⟩⟩⟩,trivial,f⟩
 |bad q p=>
  obtain⟨A,r,rfl,_,_,_⟩:=h;have i:a=q:=g.1.symm;subst i;exact⟨_,_,_,_,rfl,⟨_,_,_,_,_,_,_,rfl,λh=>absurd h (g.2 _ _ rfl)⟩,trivial,f⟩
def Yt (c:bK n.kids<f){e:Int}{p:List Int}(h:kW rs f n= .bad e p):e≠0:=by
 unfold kW at h
 split at h
 ·split at h
  ·split at h
   ·cases h
   ·injection h with a b;omega
  ·next er q hl=>
   injection h with a b;have:=Kw rs f _ _ _ c _ _ hl;omega
 ·injection h with a b;omega
def Yu {t:aC}(h:kW rs f n= .ok t):yC n=true:=by
 unfold kW at h
 split at h
 ·next h1=>exact(aM _ _▸h1:_/\_).2
 ·cases h
def Hg (o:Option aG)(w:World)(e:Ending)(w':World):Prop:=(match o with
 |none=>∃k s cc A n cp,e= .returned (.tuple #[.agg #[qI k,af s,qI cc,.slice A n cp],.bool false])
 |some n=>∃A cp,e= .returned (.tuple #[.agg (qC n A cp),.bool true])/\bC (λb=>w.heap.size<=b) w' n (qC n A cp))/\Below w.heap.size w w'
def Qc (W:jV)(A:Option Addr)(cap:Nat)(rs:List aD)(f c6:Nat)(i4:si W A cap rs c6)(m0:c6<=10000)(i5:rs.length<=cap)(i6:cap<=9223372036854775807)(i7:rs.length<=1000000)(m:aC)(c:Array Value)(w:World)(b3:fT m<c6)(f2:8*bg m<f)(f3:pX w W A cap rs)(b4:gK w m c):
  Calls prog 17 #[qP W.gw,.agg c] w (Hg (qz rs f m) w):=by
 obtain⟨L,M,rfl,m1,m2,m3,m4,m5,i8⟩:=b4.form;have c7:=aN w (.cells (aA m.kind m.nam m.vr L m.args.length M m.form) 25);have s1:(w.alloc (.cells (aA m.kind m.nam m.vr L m.args.length M m.form) 25)).heap.size=w.heap.size+1:=aS
 have c8:=aN (w.alloc (.cells (aA m.kind m.nam m.vr L m.args.length M m.form) 25)) (.cells bY 31);have a1:=zh (c7.trans (c8.mono c7.size));have N:=zh (ae c8 (au.new w 25 (aA m.kind m.nam m.vr L m.args.length M m.form)));have b5:=zh (au.new (w.alloc (.cells (aA m.kind m.nam m.vr L m.args.length M m.form) 25)) 31 bY);rw[s1] at b5;have c9:=zh (f3.keep a1.o);have d0:=zh (b4.keep a1.o);have i9:=zh b4;have f4:=ah (w.heap.size+1<_) b5.o.lt;have f5:=zh b3;have j0:=zh f2;clear f3 b4 i8 c7 c8 s1 b3 f2;go_enter func17,ntmps17;go_upto_region 1 with(fail)
 generalize (w.alloc (.cells (aA m.kind m.nam m.vr L m.args.length M m.form) 25)).alloc (.cells bY 31)=b6 at*;obtain⟨j1,j2,j3,j4,j5⟩:=qc N;go_wp2_with fail;refine(i4 m _ b6 f5.o aa c9.o d0.o).mono ?_;rintro j6 S ⟨b7,j⟩;have d1:=jt a1 j;have f6:=zh a1.o.size;have f7:=kp j N;have Z:=kp j b5;have f8:=zh (c9.o.keep j);have f9:=zh (d0.o.keep j);clear j1 j2 j3 j4 j5 j a1 N b5 c9 d0;cases T:jd rs m with
 |none=>
  rw[T] at b7;obtain rfl:j6= .returned (.tuple #[qN,.bool false]):=b7;have a2:=ah (qz rs f m=none) (by unfold qz;rw[T]);clear T;have m6:=Z.o.cell;have m7:=Z.o.frozen;go_wp2_with fail;obtain⟨j7,j8,j9,a3,_⟩:=iY Z.o d1.o (dJ _) (qI 0) qE (qI 0) qN;rw[j8];obtain⟨a4,a5,a6,a7⟩:=qb j9;exact aB (v:=.tuple #[.agg bY,.bool false]) (by simp[results,results17,go_sem,a4,a5,a6,a7]) rfl (show Hg _ _ _ _ by rw[a2.o];exact⟨⟨_,_,_,_,_,_,rfl⟩,a3.o⟩)
 |some l=>
  rw[T] at b7;obtain⟨q,r,rfl,k0,k1,g0⟩:=b7;have g1:=zh T;have g2:=ah (bK (aQ l).kids<f) (by have h:=OT m l T;have:=j0.o;show bK l<f;omega);have U:=aN S (.cells #[qI 1,qE,qI 0,.slice q l.length r] 31);have s:=zh (au.new S 31 #[qI 1,qE,qI 0,.slice q l.length r]);have g3:=jt d1 U;have g4:=kp U f7;have g5:=kp U Z;have d2:=zh (f8.o.keep U);have g6:=zh (f9.o.keep U);have d3:=ah (bC (λb=>b6.heap.size<=b) _ (aQ l) #[qI 1,qE,qI 0,.slice q l.length r]) (bC.of aI k0 k1 (g0.keep U));have k2:=ah (w.heap.size+1<S.heap.size) Z.o.lt;clear T g0 U d1 f7 Z f8 f9;obtain⟨K,b8⟩:∃K,Qb (kW rs f (aQ l))=K:=⟨_,rfl⟩
  have g7:=zh (And.intro b8 λe g8 h=>Yt (rs:=rs) (f:=f) (n:=aQ l) g2.o (e:=e) (p:=g8) h);clear b8;go_upto_region 5 with(fail)
  generalize S.heap.size=d4 at*;generalize S.alloc (.cells #[qI 1,qE,qI 0,.slice q l.length r] 31)=b9 at*;refine qm [2,2,2,1,1,1,2,2,2,2,1,3,2,2] (List.replicate 14 false) (λa=>[qP W.gw,qP W.gw,qP W.gw,.slice A rs.length cap,.agg #[qI 1,qE,qI 0,.slice q l.length r],.tuple #[a.v 30,a.v 31,qI K],.tuple #[a.v 30,a.v 31,qI K],a.v 30,a.v 31,qI K,qP (a.n 9),undef,a.v 31,qI K]) [(5,λa P=>(∃y z B C D E F,a.v 30= .agg #[qI y,af z,af B,.slice C D E,af F]/\(K=0->∃t,kW rs f (aQ l)= .ok t/\bH (λb=>a.n 29<=b/\b<a.n 30) P t #[qI y,af z,af B,.slice C D E,af F]))/\(∃c0 c1 c2,a.v 31= .slice c0 c1 c2)/\b9.heap.size<=a.n 29/\a.n 29<=a.n 30),(10,λa P=>au P (a.n 9) 25 cK/\b9.heap.size<=a.n 9)] (λa P=>(a.n 9=0\/a.n 9<P.heap.size)/\a.n 30<=P.heap.size/\(a.n 9=0\/a.n 30=0\/a.n 9<a.n 29\/a.n 30<=a.n 9)) (bV.cons (λa P S ⟨⟨y,z,B,C,D,E,F,d5,d6⟩,k3⟩ j=>⟨⟨y,z,B,C,D,E,F,d5,λh=>by obtain⟨t,k4,k5⟩:=d6 h;exact⟨t,k4,k5.keep j⟩⟩,k3⟩) (bV.cons (λa P S h j=>⟨ae j h.1,h.2⟩) bV.nil)) (⟨.inl rfl,dZ _,.inl rfl⟩) ?_ ?_
  ·refine⟨jC,jI,jI,jR λa i d=>(ae d d2.o.box).cell 0,λa i d k u=>?_,λa i d k u=>?_,jC,jC,jC,jC,λa i d k u=>?_,jC,jC,trivial⟩
   ·have G:=(ae d s.o).cell 0;have H:=(ae d s.o).cell 1;have I:=(ae d s.o).cell 2;have J:=(ae d s.o).cell 3;exact gs (.agg #[qI 1,qE,qI 0,.slice q l.length r]) k aj (jZ G H I J) rfl
   ·refine jc 45 (#[.slice A rs.length cap,.agg #[qI 1,qE,qI 0,.slice q l.length r]]) i aj ((VM A cap rs f (aQ l) _ i (d2.o.rules.keep d) i5 i6 i7 (d3.o.nod.keep d) g2.o).mono ?_);rintro e d7 b3;obtain⟨k6,c0,c1,c2,rfl,k7,d8,j⟩:=Yr (g7.o) b3;exact⟨_,rfl,(((a.setV 30 (.agg k6)).setV 31 (.slice c0 c1 c2)).setN 29 i.heap.size).setN 30 d7.heap.size,rfl,jD,j,⟨⟨k7,⟨_,_,_,rfl⟩,d.size,j.size⟩,jH,trivial⟩,(by obtain⟨c3,c4,d9⟩:=k;have k8:=j.size;exact⟨c3.imp id (λh=>ll h k8),aH _,c3.imp id (λh=>.inr (.inl h))⟩)⟩
   ·exact jv (qP i.heap.size) (i.alloc (.cells cK 25)) ol ⟨a.setN 9 i.heap.size,rfl,jD,aN i _,⟨jH,⟨au.new i _ _,d.size⟩,trivial⟩,(by obtain⟨c3,c4,d9⟩:=k;exact⟨.inr (by show i.heap.size<_;simp),ax c4 (aN i (.cells cK 25)).size,.inr (.inr (.inr c4))⟩)⟩
  ·refine λa i d k u=>?_
   dsimp only[ji] at u;change wpOps _ _ _ [11] _ _;obtain⟨⟨⟨y,z,B,C,D,E,F,g9,d8⟩,⟨c0,c1,c2,h0⟩,k9,l0⟩,⟨h1,h2⟩,-⟩:=u;rw[g9,h0];have e0:=jt g3 d;have h3:=zh ((d3.o.any (ok':=λb=>b6.heap.size<=b/\b<b9.heap.size) λb j h=>⟨h,j⟩).keep d);have h4:=kp d s;have h5:=kp d g4;have h6:=kp d g5;have l1:=zh (g6.o.keep d);have a8:=ah (w.heap.size+1<d4/\d4<b9.heap.size) ⟨k2.o,s.o.lt⟩;have c5:=zh h1;have a9:=zh h2;have h7:=zh d8;have h8:=zh (show a.n 9<a.n 29\/a.n 30<=a.n 9 by
    obtain⟨c3,c4,d9⟩:=k;have:=a8.o;rcases d9 with h|h|h
    ·omega
    ·omega
    ·exact h)
   clear d8 h1 h2 d k g9 h0 k9 l0 g3 d3 s g4 g5 g6 d2;generalize a.n 9=x at*;generalize a.n 29=m8 at*;generalize a.n 30=m9 at*;clear a;generalize i=e1 at*;have Q:=c5.o.cell;have R:=c5.o.frozen;have h9:=zh (sK c5.o (qI y) (af z) (af B) (.slice C D E) (af F));have a3:=zh (Da (g:=x) e0.o e0.o.size (aV a8.o a9.o) (qI y) (af z) (af B) (.slice C D E) (af F));have a0:=zh (xP e1 x (qI y) (af z) (af B) (.slice C D E) (af F));have e2:=zh (h3.o.grown (ok':=λb=>b6.heap.size<=b) a0.o (λb _ j e=>by have O:b=x:=sj e;have:=a9.o;have:=j.2;omega) λb _ j=>j.1);have i0:=zh (h4.o.grown a0.o λe=>by have O:d4=x:=sj e;have:=a8.o;have:=a9.o;omega);have i1:=zh (h5.o.grown a0.o λe=>by have O:w.heap.size=x:=sj e;have:=a8.o;have:=a9.o;omega);have i2:=zh (h6.o.grown a0.o λe=>by have O:w.heap.size+1=x:=sj e;have:=a8.o;have:=a9.o;omega);have e3:=zh (λh=>show ∃t,kW rs f (aQ l)= .ok t/\gK _ t _ from by
    obtain⟨t,d5,d6⟩:=h7.o h;exact⟨t,d5,(d6.grown (ok':=λ_=>True) a0.o (λb _ j e=>by have O:b=x:=sj e;have:=h8.o;omega) λ_ _ _=>trivial).mat⟩)
   refine oL (o:=_) rfl rfl (w':=((((e1.setCell (ag x (0)) (qI y)).setCell (ag x (1)) (af z)).setCell (ag x (2)) (af B)).setCell (ag x (3)) (.slice C D E)).setCell (ag x (4)) (af F)) (ek Q R) ?_;refine jo ?_;have l2:=zh (i9.o.keep a3.o);clear Q R a0 e0 h3 h4 h5 h6 c5 h7 h8 l1;generalize ((((e1.setCell (ag x (0)) (qI y)).setCell (ag x (1)) (af z)).setCell (ag x (2)) (af B)).setCell (ag x (3)) (.slice C D E)).setCell (ag x (4)) (af F)=j7 at*;go_upto_region 6 with(fail)
   have s:=i0;have b0:=h9;have N:=i1;clear i0 h9 i1
   by_cases b1:K=0
   ·obtain⟨t,e4,i3⟩:=e3.o b1;subst b1;have l3:=zh i3;have l4:=zh (Yu e4);obtain⟨V,e5⟩:∃b,mq t m=b:=⟨_,rfl⟩
    have l5:=zh e5;have l6:=zh e4;have l7:=ah (bg m<=1000000) (by have:=f5.o;have:bg m<=fT m:=fq _ _;omega);have a2:=zh (show qz rs f m=if V=true then some (aQ l) else none by
     unfold qz;rw[g1.o];dsimp only;rw[l6.o];dsimp only;rw[e5])
    clear i3 e5 e4 e3;refine qm [1,2,2,2,1,1,2,2,1,1,1,2,3,2] (List.replicate 14 false) (λa=>[.agg #[qI 1,qE,qI 0,.slice q l.length r],qI 0,.bool true,.bool true,.agg #[qI 1,qE,qI 0,.slice q l.length r],.bool true,.bool true,.bool true,.agg #[qI y,af z,af B,.slice C D E,af F],.agg #[qI m.kind,af m.nam,af m.vr,.slice L m.args.length M,af m.form],.bool V,.bool V,undef,.bool V]) [] (λ_ _=>True) bV.nil (trivial) ?_ ?_
    ·refine⟨λa i d k u=>?_,jC,jI,jC,λa i d k u=>?_,λa i d k u=>?_,jC,jC,λa i d k u=>?_,λa i d k u=>?_,λa i d k u=>?_,jC,jC,trivial⟩
     ·have G:=(ae d s.o).cell 0;have H:=(ae d s.o).cell 1;have I:=(ae d s.o).cell 2;have J:=(ae d s.o).cell 3;exact gs (.agg #[qI 1,qE,qI 0,.slice q l.length r]) k aj (jZ G H I J) rfl
     ·have G:=(ae d s.o).cell 0;have H:=(ae d s.o).cell 1;have I:=(ae d s.o).cell 2;have J:=(ae d s.o).cell 3;exact gs (.agg #[qI 1,qE,qI 0,.slice q l.length r]) k aj (jZ G H I J) rfl
     ·refine jc 46 (#[.agg #[qI 1,qE,qI 0,.slice q l.length r]]) i aj ((IZ (aQ l) _ i (e2.o.nod.keep d)).mono ?_);rintro e d7 ⟨rfl,j⟩;rw[l4.o];exact⟨_,rfl,a,rfl,jD,j,trivial,trivial⟩
     ·have G:=(ae d b0.o).cell 0;have H:=(ae d b0.o).cell 1;have I:=(ae d b0.o).cell 2;have J:=(ae d b0.o).cell 3;have e6:=(ae d b0.o).cell 4;exact gs (.agg #[qI y,af z,af B,.slice C D E,af F]) k aj (tq G H I J e6) rfl
     ·have G:=(ae d N.o).cell 0;have H:=(ae d N.o).cell 1;have I:=(ae d N.o).cell 2;have J:=(ae d N.o).cell 3;have e6:=(ae d N.o).cell 4;exact gs (.agg #[qI m.kind,af m.nam,af m.vr,.slice L m.args.length M,af m.form]) k aj (tq G H I J e6) rfl
     ·refine jc 47 (#[.agg #[qI y,af z,af B,.slice C D E,af F],.agg #[qI m.kind,af m.nam,af m.vr,.slice L m.args.length M,af m.form]]) i aj ((Yo t m _ _ i l7.o (l3.o.keep d) (l2.o.keep d)).mono ?_);rintro e d7 ⟨rfl,j⟩;rw[l5.o];exact⟨_,rfl,a,rfl,jD,j,trivial,trivial⟩
    ·refine λa i d k u=>?_
     dsimp only[ji] at u;change wpOps _ _ _ [12] _ _;have e7:=jt a3 d;have X:=kp d i2;have e8:=zh (e2.o.keep d);have Q:=X.o.cell;have R:=X.o.frozen;clear d k u a;refine oL (o:=_) rfl rfl (w':=(((i.setCell ⟨w.heap.size+1,0,none⟩ (qI 1)).setCell ⟨w.heap.size+1,1,none⟩ qE).setCell ⟨w.heap.size+1,2,none⟩ (qI 0)).setCell ⟨w.heap.size+1,3,none⟩ (.slice q l.length r)) (ek Q R) ?_;refine jo ?_;clear Q R;obtain⟨l8,b2,e9,Y,f0⟩:=iY X.o e7.o (dJ _) (qI 1) qE (qI 0) (.slice q l.length r);rw[b2];clear b2;have f1:=zh (e8.o.grown (ok':=λb=>w.heap.size<=b) f0.o (λb _ j e=>by have O:b=w.heap.size+1:=sj e;have:=f4.o;omega) λb _ j=>av f6.o);go_wp2_with fail;obtain⟨a4,a5,a6,a7⟩:=qb e9;exact aB (v:=.tuple #[.agg #[qI 1,qE,qI 0,.slice q l.length r],.bool V]) (by simp[results,results17,go_sem,a4,a5,a6,a7]) rfl (show Hg _ _ _ _ by
      rw[a2.o]
      first
       |exact⟨⟨_,_,_,_,_,_,rfl⟩,Y.o⟩
       |(cases V
         ·exact⟨⟨_,_,_,_,_,_,rfl⟩,Y.o⟩
         ·exact⟨⟨q,r,rfl,f1.o⟩,Y.o⟩))
   ·have b8:(K==0)=false:=bn b1;have a2:=zh (show qz rs f m=none by
     unfold qz;rw[g1.o];dsimp only;cases l9:kW rs f (aQ l) with
     |ok t=>have O:=g7.o.1;rw[l9] at O;exact absurd O.symm b1
     |bad e g8=>rfl)
    clear b1 e3;refine qm [1,2,2,2,0,0,2,2,0,0,0,2,3,2] (List.replicate 14 false) (λa=>[.agg #[qI 1,qE,qI 0,.slice q l.length r],qI K,.bool false,.bool false,undef,undef,.bool false,.bool false,undef,undef,undef,.bool false,undef,.bool false]) [] (λ_ _=>True) bV.nil (trivial) ?_ ?_
    ·refine⟨λa i d k u=>?_,jC,λa i=>jp (.bool false) (bT b8) rfl,jC,λ_=>rfl,λ_=>rfl,jC,jC,λ_=>rfl,λ_=>rfl,λ_=>rfl,jC,jC,trivial⟩
     ·have G:=(ae d s.o).cell 0;have H:=(ae d s.o).cell 1;have I:=(ae d s.o).cell 2;have J:=(ae d s.o).cell 3;exact gs (.agg #[qI 1,qE,qI 0,.slice q l.length r]) k aj (jZ G H I J) rfl
    ·refine λa i d k u=>?_
     dsimp only[ji] at u;change wpOps _ _ _ [12] _ _;have e7:=jt a3 d;have X:=kp d i2;have e8:=zh (e2.o.keep d);have Q:=X.o.cell;have R:=X.o.frozen;clear d k u a;refine oL (o:=_) rfl rfl (w':=(((i.setCell ⟨w.heap.size+1,0,none⟩ (qI 1)).setCell ⟨w.heap.size+1,1,none⟩ qE).setCell ⟨w.heap.size+1,2,none⟩ (qI 0)).setCell ⟨w.heap.size+1,3,none⟩ (.slice q l.length r)) (ek Q R) ?_;refine jo ?_;clear Q R;obtain⟨l8,b2,e9,Y,f0⟩:=iY X.o e7.o (dJ _) (qI 1) qE (qI 0) (.slice q l.length r);rw[b2];clear b2;have f1:=zh (e8.o.grown (ok':=λb=>w.heap.size<=b) f0.o (λb _ j e=>by have O:b=w.heap.size+1:=sj e;have:=f4.o;omega) λb _ j=>av f6.o);go_wp2_with fail;obtain⟨a4,a5,a6,a7⟩:=qb e9;exact aB (v:=.tuple #[.agg #[qI 1,qE,qI 0,.slice q l.length r],.bool false]) (by simp[results,results17,go_sem,a4,a5,a6,a7]) rfl (show Hg _ _ _ _ by
      rw[a2.o]
      first
       |exact⟨⟨_,_,_,_,_,_,rfl⟩,Y.o⟩
       |(cases V
         ·exact⟨⟨_,_,_,_,_,_,rfl⟩,Y.o⟩
         ·exact⟨⟨q,r,rfl,f1.o⟩,Y.o⟩))
def Dy (B:Nat)(o:Option (List Int))(v:Value)(w:World):Prop:=match o with
 |none=>∃A n cp,v= .slice A n cp
 |some p=>∃A cp,v= .slice A p.length cp/\p.length<=cp/\cp<=9223372036854775807/\kK w A p/\∀ad,A=some ad->0<p.length->B<=ad.block
def Dy.keep {B:Nat}{o:Option (List Int)}{v:Value}{w w':World}(h:Dy B o v w)(a:Below w.heap.size w w'):Dy B o v w':=by
 cases o with
 |none=>exact h
 |some p=>obtain⟨A,b,c,d,e,f,g⟩:=h;exact⟨A,b,c,d,e,f.keep a,g⟩
def Qd (B:Nat)(o:Option (List Int))(w:World)(e:Ending)(w':World):Prop:=(∃v,e= .returned (.tuple #[v,.bool o.isSome])/\Dy B o v w')/\Below w.heap.size w w'
def Yv {B:Nat}{o a:Option (List Int)}(b:o=a)(h:Qd B o w e w'):∃v,e= .returned (.tuple #[v,.bool a.isSome])/\Dy B a v w'/\Below w.heap.size w w':=by
 subst b;obtain⟨⟨v,c,d⟩,f⟩:=h;exact⟨v,c,d,f⟩
def Ky {rs:List aD}{f:Nat}{path:List Int}:∀{ts:List aC} {k i:Nat},(∀(j:Nat) t,ts[j]?=some t->j<k->gW rs f t (path++[((i+j:Nat):Int)])=none)->gJ rs f ts path i=gJ rs f (ts.drop k) path (i+k)
 |ts,0,i,_=>by rw[mF,rF]
 |[],k+1,i,_=>by rw[List.drop_nil,gJ,gJ]
 |t::ts,k+1,i,h=>by
  rw[gJ,show gW rs f t (path++[(i:Int)])=none from h 0 t rfl aa,pg,show i+(k+1)=(i+1)+k from aa];exact Ky λj x b c=>by
   have a:=h (j+1) x b aa;rw[show i+(j+1)=i+1+j from aa] at a;exact a
def Yw (W:jV)(A:Option Addr)(cap:Nat)(rs:List aD)(f H:Nat)(e7:si W A cap rs H)(e8:H<=10000)(e9:rs.length<=cap)(f0:cap<=9223372036854775807)(f1:rs.length<=1000000)(j2:8*H<=f)(B:Nat):
  ∀(z:Nat) (m:aC) (c:Array Value) (path:List Int) (s:Option Addr) (u:Nat) (w:World),fT m<=z/\fT m<H->path.length+fT m<=100000->pX w W A cap rs->gK w m c->kK w s path->path.length<=u->u<=9223372036854775807->B<=w.heap.size->(∀v,s=some v->0<path.length->B<=v.block)->
  Calls prog 18 #[qP W.gw,.agg c,.slice s path.length u] w (Qd B (gW rs f m path) w):=by
 intro z
 induction z with
 |zero=>intro m c path s u w h;have:=OV m;have:bg m<=fT m:=fq _ _;omega
 |succ z b0=>
  intro m c path s u w Y b1 b2 Z b3 b4 b5 b6 b7;have f2:=zh b6;have f3:=zh b7;have f4:=zh b0;obtain⟨O,P,rfl,j3,j4,j5,j6,j7,a0⟩:=Z.form;have b8:=aN w (.cells (aA m.kind m.nam m.vr O m.args.length P m.form) 25);have y:=zh b8;have D:=zh (au.new w 25 (aA m.kind m.nam m.vr O m.args.length P m.form));have b9:=zh b2;have f5:=zh Z;have c0:=zh b3;have c1:=zh (And.intro b4 b5);have a1:=zh Y;have c2:=zh b1;have f6:=zh a0;have c3:=ah (lT m.args+1=fT m) (yw (nR Y.2) aa);have j8:m.args.length<=100000:=aV (Bp m.args) c3.o
  clear b0 b2 Z b3 a0 b8 Y b1 b4 b5 b6 b7;go_enter func18,ntmps18;go_upto_region 1 with(fail)
  generalize w.alloc (.cells (aA m.kind m.nam m.vr O m.args.length P m.form) 25)=j9 at*;have f7:=D.o.cell 3;go_wp2_with fail
  go_loopw [17] (λa2 wr=>∃b:Nat,b<=m.args.length/\a2=qI b/\Hy (∀(j:Nat) t,m.args[j]?=some t->j<b->gW rs f t (path++[((0+j:Nat):Int)])=none)/\Hy (au wr w.heap.size 25 (aA m.kind m.nam m.vr O m.args.length P m.form))/\Hy (Below w.heap.size w wr)) (λa2 _=>m.args.length -(intOf a2).toNat)
  case atStart=>exact⟨0,aa,rfl,zh (λj t _ h=>aa),D,y⟩
  case round=>
   clear D y f7;obtain⟨b,a0,rfl,Q,D,y⟩:=hrel;rcases bu b m.args.length with a3|k0
   ·obtain⟨t,R⟩:∃t,m.args[b]?=some t:=⟨_,gE a3⟩
    have c4:=zh R;obtain⟨v,I,J,rfl,f8,c5⟩:=(f6.o.keep y.o).at_ R;have c6:=zh c5.whole;obtain⟨_,f9,g0,g1,g2,g3,_⟩:=c5;have k1:(b:Int)<(m.args.length:Int):=aa
    have S:=aN wr (.cells #[qI t.kind,af t.nam,af t.vr,.slice I t.args.length J,af t.form] 25);have o:=jt y S;have c7:=zh (c6.o.keep S);have K:=zh (au.new wr 25 #[qI t.kind,af t.nam,af t.vr,.slice I t.args.length J,af t.form]);have c8:=kp S D;have c9:=zh (b9.o.keep o.o);have d0:=zh (c0.o.keep o.o);have d1:=ah (fT t+1<=fT m) (aV (Bq R) c3.o);have g4:=ah (fT t<=z/\fT t<H) (aV d1.o a1.o);clear R f8 S c6 y D;go_upto_region 4 with(fail)
    generalize wr.heap.size=k2 at*;generalize wr.alloc (.cells #[qI t.kind,af t.nam,af t.vr,.slice I t.args.length J,af t.form] 25)=g5 at*;clear f9 g0 g1 g2 g3;obtain⟨E,d2⟩:∃E,E=path++[(b:Int)]:=⟨_,rfl⟩
    have a4:=zh d2;obtain⟨C,d3⟩:∃C,gW rs f t E=C:=⟨_,rfl⟩
    have d4:=zh d3;have d5:=ah (B<=g5.heap.size) (aV o.o.size f2.o);clear d2 d3;refine qm [2,1,2,2,1,1,1,1,2,2,2,2,2] (List.replicate 13 false) (λa=>[qP W.gw,.agg #[qI t.kind,af t.nam,af t.vr,.slice I t.args.length J,af t.form],.slice s path.length u,qI (↑b),ay ⟨a.n 27,0,none⟩ 1 1,ay ⟨a.n 28,0,none⟩ 2 2,a.v 29,.tuple #[a.v 31,.bool C.isSome],.tuple #[a.v 31,.bool C.isSome],a.v 31,.bool C.isSome,a.v 31,.bool C.isSome]) [(4,λa p=>au p (a.n 27) 3 #[qI (b:Int)]),(5,λa p=>au p (a.n 28) 32 #[.slice s path.length u,ay ⟨a.n 27,0,none⟩ 1 1]),(6,λa p=>∃q r,a.v 29= .slice q E.length r/\E.length<=r/\r<=9223372036854775807/\kK p q E/\∀v,q=some v->B<=v.block),(7,λa p=>Dy B C (a.v 31) p)] (λ_ _=>True) (bV.cons (λa p F h i=>ae i h) (bV.cons (λa p F h i=>ae i h) (bV.cons (λa p F ⟨q,r,g6,g7,g8,g9,h0⟩ i=>⟨q,r,g6,g7,g8,g9.keep i,h0⟩) (bV.cons (λa p F h i=>h.keep i) bV.nil)))) (trivial) ?_ ?_
    ·refine⟨jC,λa d g G l=>?_,jC,jC,λa d g G l=>?_,λa d g G l=>?_,λa d g G l=>?_,λa d g G l=>?_,jC,jC,jC,jC,jC,trivial⟩
     ·have h1:=(ae g K.o).cell 0;have h2:=(ae g K.o).cell 1;have h3:=(ae g K.o).cell 2;have h4:=(ae g K.o).cell 3;have h5:=(ae g K.o).cell 4;exact gs (.agg #[qI t.kind,af t.nam,af t.vr,.slice I t.args.length J,af t.form]) G aj (tq h1 h2 h3 h4 h5) rfl
     ·exact jv (ay (ag d.heap.size (0)) 1 1) (d.alloc (.cells #[qI (b:Int)] 3)) iw ⟨a.setN 27 d.heap.size,rfl,jD,aN d _,⟨au.new d _ _,jG,jG,jG,trivial⟩,trivial⟩
     ·have a5:=jE l.1;exact jv (ay (ag d.heap.size (0)) 2 2) (d.alloc (.cells #[.slice s path.length u,ay ⟨a.n 27,0,none⟩ 1 1] 32)) iw ⟨a.setN 28 d.heap.size,rfl,jD,aN d _,⟨jH,au.new d _ _,jG,jG,trivial⟩,trivial⟩
     ·have a5:=jE l.1;have d6:=jE l.2.1;refine jc 48 (#[ay ⟨a.n 28,0,none⟩ 2 2]) d aj ((Ep (a.n 28) (a.n 27) s path u (b:Int) d d6 a5 (d0.o.keep g) (av c2.o)).mono ?_);rintro e h6 ⟨⟨h7,q,r,d7,rfl,a6,a7,a8,a9⟩,i⟩;rw[<-a4.o] at d7;subst d7;exact⟨_,rfl,a.setV 29 (.slice q h7.length r),rfl,jD,i,⟨jH,jH,⟨q,r,rfl,a6,a7,a8,λv h=>ax d5.o (ax g.size (a9 v h))⟩,jG,trivial⟩,trivial⟩
     ·have a5:=jE l.1;have d6:=jE l.2.1;have h8:=jE l.2.2.1;obtain⟨q,r,h9,a6,a7,a8,a9⟩:=h8;refine jc 18 (#[qP W.gw,.agg #[qI t.kind,af t.nam,af t.vr,.slice I t.args.length J,af t.form],.slice q E.length r]) d (bT h9) ((f4.o t _ E q r d g4.o (by have:=c2.o;have:=d1.o;rw[a4.o,aO,gN];omega) (c9.o.keep g) (c7.o.keep g) a8 a6 a7 (ax d5.o g.size) (λv h _=>a9 v h)).mono ?_);rintro e h6 i0;obtain⟨i1,rfl,T,i⟩:=Yv d4.o i0;exact⟨_,rfl,a.setV 31 i1,rfl,jD,i,⟨jH,jH,jH,T,trivial⟩,trivial⟩
    ·refine λa d g G l=>?_
     dsimp only[ji] at l;change wpOps _ _ _ [] _ _;refine jo ?_;obtain⟨-,-,-,T,-⟩:=l;have L:=jt o g;have i2:=kp g c8;have d8:=zh T;have d9:=ah (gW rs f t (path++[((0+b:Nat):Int)])=C) (by rw[fe,<-a4.o,d4.o]);clear T G g o c8 c9 d0 c7 K;generalize a.v 29=k3 at*;generalize a.v 31=k4 at*;generalize a.n 27=k5 at*;generalize a.n 28=k6 at*;clear a;generalize d=k7 at*;cases C with
     |none=>
      have i3:=zh (show ∀(j:Nat) x,m.args[j]?=some x->j<b+1->gW rs f x (path++[((0+j:Nat):Int)])=none from λj x e0 k8=>by
       rcases bu j b with h|h
       ·exact Q.o j x e0 h
       ·obtain rfl:j=b:=by omega
        obtain rfl:=sj (c4.o.symm.trans e0);exact d9.o)
      clear Q d8;go_wp2;go_roundw
      case rel=>exact⟨b+1,aa,bi,i3,i2,L⟩
      case measure=>simp[intOf];omega
     |some i4=>
      have N:=zh (show gW rs f m path=some i4 by
       rw[EF,Ky (k:=b) Q.o,ib a3,show m.args[b]=t from sj ((gE a3).symm.trans c4.o),gJ,d9.o])
      go_wp2_with fail
      go_ret2
      rw[N.o];exact⟨⟨_,rfl,d8.o⟩,L.o⟩
   ·obtain rfl:b=m.args.length:=by omega
    have e1:=ah (gJ rs f m.args path 0=none) (by rw[Ky (k:=m.args.length) Q.o,nQ,gJ]);obtain⟨i5,i6,i7,i8,i9⟩:=qc D;have e2:8*bg m<f:=by have:=a1.o.2;have:bg m<=fT m:=fq _ _;omega
    go_wp2_with fail;refine(Qc W A cap rs f H e7 e8 e9 f0 f1 m _ wr a1.o.2 e2 (b9.o.keep y.o) (f5.o.keep y.o)).mono ?_;rintro k9 F ⟨U,i⟩;have o:=jt y i;have j0:=zh (c0.o.keep o.o);clear i y D i5 i6 i7 i8 i9 e2;cases M:qz rs f m with
    |none=>
     rw[M] at U;obtain⟨e3,e4,e5,V,e6,X,rfl⟩:=U;have N:=ah (gW rs f m path=some path) (by rw[EF,e1.o,M];rfl);have L:=zh (o.o.trans ((aN F (.cells #[qI e3,af e4,qI e5,.slice V e6 X] 31)).mono o.o.size));have j1:=zh (j0.o.keep (aN F (.cells #[qI e3,af e4,qI e5,.slice V e6 X] 31)));clear M;go_wp2_with fail
     go_ret2
     rw[N.o];exact⟨⟨_,rfl,s,u,rfl,c1.o.1,c1.o.2,j1.o,f3.o⟩,L.o⟩
    |some n=>
     rw[M] at U;obtain⟨V,X,rfl,_⟩:=U;have N:=ah (gW rs f m path=none) (by rw[EF,e1.o,M];rfl);have L:=zh (o.o.trans ((aN F (qO n V X)).mono o.o.size));clear M;go_wp2_with fail
     go_ret2
     rw[N.o];exact⟨⟨_,rfl,_,_,_,rfl⟩,L.o⟩
def Qe (W:jV)(A:Option Addr)(cap:Nat)(rs:List aD)(a:rs.length<=1000000):∀f,f<=10000->si W A cap rs f
 |0,_=>λm c w b=>absurd b aa
 |f+1,g=>λm c w b _ d e=>Yc W A cap rs f (Qe W A cap rs a f aa) aa a m c w aa d e
def lC (rs:List aD)(f:Nat)(m:aC)(w:World)(e:Ending)(w':World):Prop:=(if(fZ rs&&nV m)=true then(match qz rs f m with
 |some n=>∃A cp,e= .returned (.tuple #[.agg (qC n A cp),qN,qI 0])/\bC (λb=>w.heap.size<=b) w' n (qC n A cp)
 |none=>∃p A cp,gW rs f m []=some p/\e= .returned (.tuple #[.agg bY,.slice A p.length cp,qI 19])/\p.length<=cp/\cp<=9223372036854775807/\kK w' A p)
 else e= .returned (.tuple #[.agg bY,qN,qI 1]))/\Below w.heap.size w w'
def Qf (A:Option Addr)(cap:Nat)(rs:List aD)(f G:Nat)(a1:G<=10000)(M:rs.length<=cap)(N:cap<=9223372036854775807)(a2:rs.length<=1000000)(e7:8*G<=f)(m:aC)(c:Array Value)(w:World)(c2:fT m<G)(c3:fG w A rs)(a3:gK w m c)(c4:mU w 0)(c5:mU w 1):
  Calls prog 7 #[.slice A rs.length cap,.agg c] w (lC rs f m w):=by
 obtain⟨H,I,rfl,g5,g6,g7,g8,g9,e8⟩:=a3.form;have a4:=aN w (.cells (aA m.kind m.nam m.vr H m.args.length I m.form) 25);have s1:(w.alloc (.cells (aA m.kind m.nam m.vr H m.args.length I m.form) 25)).heap.size=w.heap.size+1:=aS
 have a5:=aN (w.alloc (.cells (aA m.kind m.nam m.vr H m.args.length I m.form) 25)) (.cells bY 31);have p:=zh (a4.trans (a5.mono a4.size));have b:=zh (ae a5 (au.new w 25 (aA m.kind m.nam m.vr H m.args.length I m.form)));have O:=zh (au.new (w.alloc (.cells (aA m.kind m.nam m.vr H m.args.length I m.form) 25)) 31 bY);rw[s1] at O;have S:=zh c3;have T:=zh a3;have U:=zh c2;have e9:=zh c4;have f0:=zh c5;clear c3 a3 e8 a4 a5 s1 c2 c4 c5;go_enter func7,ntmps7;go_upto_region 1 with(fail)
 generalize (w.alloc (.cells (aA m.kind m.nam m.vr H m.args.length I m.form) 25)).alloc (.cells bY 31)=a6 at*;cases u:fZ rs with
 |false=>
  have J:=ah (¬((fZ rs&&nV m)=true)) (by rw[u];simp);have V:=zh u;clear u;go_wp2_with fail;refine(Aa A cap rs a6 (S.o.keep p.o) M N).mono ?_;rintro r a7 ⟨rfl,a⟩;rw[V.o];have q:=jt p a;have l:=kp a O;clear a;have a8:=l.o.cell;have a9:=l.o.frozen;go_wp2_with fail;obtain⟨W,x,y,j,P⟩:=iY l.o q.o (dJ _) (qI 0) qE (qI 0) qN;rw[x];obtain⟨z,B,C,D⟩:=qb y;exact aB (v:=.tuple #[.agg qZ,qN,qI 1]) (by simp[results,results7,go_sem,z,B,C,D]) rfl (show lC _ _ _ _ _ _ by unfold lC;rw[ai J.o];exact⟨rfl,j.o⟩)
 |true=>
  have V:=zh u;cases K:nV m with
  |false=>
   have J:=ah (¬((fZ rs&&nV m)=true)) (by rw[u,K];simp);have b0:=zh K;clear u K;obtain⟨d,g,h,i,k⟩:=qc b;go_wp2_with fail;refine(Aa A cap rs a6 (S.o.keep p.o) M N).mono ?_;rintro r b1 ⟨rfl,a⟩;rw[V.o];clear d g h i k;have d:=(ae a b.o).cell 0;have g:=(ae a b.o).cell 1;have h:=(ae a b.o).cell 2;have i:=(ae a b.o).cell 3;have k:=(ae a b.o).cell 4;go_wp2_with fail;refine(Sp.Ed m _ b1 ((T.o.keep p.o).keep a)).mono ?_;rintro r a7 ⟨rfl,Q⟩;rw[b0.o];replace a:=a.trans (Q.mono a.size);have q:=jt p a;have l:=kp a O;clear a Q d g h i k;have a8:=l.o.cell;have a9:=l.o.frozen;go_wp2_with fail;obtain⟨W,x,y,j,P⟩:=iY l.o q.o (dJ _) (qI 0) qE (qI 0) qN;rw[x];obtain⟨z,B,C,D⟩:=qb y;exact aB (v:=.tuple #[.agg qZ,qN,qI 1]) (by simp[results,results7,go_sem,z,B,C,D]) rfl (show lC _ _ _ _ _ _ by unfold lC;rw[ai J.o];exact⟨rfl,j.o⟩)
  |true=>
   have J:=ah ((fZ rs&&nV m)=true) (by rw[u,K];rfl);have b0:=zh K;clear u K;obtain⟨d,g,h,i,k⟩:=qc b;go_wp2_with fail;refine(Aa A cap rs a6 (S.o.keep p.o) M N).mono ?_;rintro r b1 ⟨rfl,a⟩;rw[V.o];clear d g h i k;have d:=(ae a b.o).cell 0;have g:=(ae a b.o).cell 1;have h:=(ae a b.o).cell 2;have i:=(ae a b.o).cell 3;have k:=(ae a b.o).cell 4;go_wp2_with fail;refine(Sp.Ed m _ b1 ((T.o.keep p.o).keep a)).mono ?_;rintro r f1 ⟨rfl,Q⟩;rw[b0.o];replace a:=a.trans (Q.mono a.size);have q:=jt p a;have c6:=kp a b;have l:=kp a O;clear a Q d g h i k p b O;generalize f1=a7 at*;go_wp2_with fail;refine(Yj A cap rs a7 (S.o.keep q.o) (e9.o.keep q.o) (f0.o.keep q.o)).mono ?_;rintro r c7 ⟨⟨b2,rfl,c8⟩,a⟩;have c9:=Qe b2 A cap rs a2 G a1;have b3:=zh c8;have b4:=jt q a;have b5:=kp a c6;have b6:=kp a l;clear c8 a q c6 l;obtain⟨d,g,h,i,k⟩:=qc b5;have d0:8*bg m<f:=by have:=U.o;have:bg m<=fT m:=fq _ _;omega
   have d1:=zh c9;clear c9;go_wp2_with fail;refine(Qc b2 A cap rs f G d1.o a1 M N a2 m _ c7 U.o d0 b3.o (T.o.keep b4.o)).mono ?_;rintro r E ⟨X,a⟩;have Y:=jt b4 a;have b7:=zh (b3.o.keep a);have b8:=kp a b5;have R:=kp a b6;have d2:=ah (w.heap.size+1<c7.heap.size) b6.o.lt;clear a b4 b5 b6 b3 d g h i k d0;cases L:qz rs f m with
   |some n=>
    rw[L] at X;obtain⟨s,t,rfl,d3⟩:=X;have o:=aN E (qO n s t);have j:=jt Y o;have F:=kp o R;have f2:=zh (au.new E 31 (qC n s t));have f3:=zh (d3.keep o);have h0:=ah (w.heap.size+1<E.heap.size) R.o.lt;have Z:=zh L;clear d3 o L Y R b8 b7;go_upto_region 5 with(fail)
    generalize E.heap.size=h1 at*;generalize E.alloc (qO n s t)=W at*;obtain⟨d,g,h,i⟩:=qb f2;have a8:=F.o.cell;have a9:=F.o.frozen;go_wp2_with fail;obtain⟨f4,x,y,b9,P⟩:=iY F.o j.o (dJ _) (qI n.kind) (af n.text) (qI n.cols) (.slice s n.kids.length t);rw[x];have f5:=zh (f3.o.grown (ok':=λa0=>w.heap.size<=a0) P.o (λa0 _ a e=>by have h2:a0=w.heap.size+1:=sj e;have:=d2.o;omega) λa0 _ a=>av d2.o);obtain⟨z,B,C,D⟩:=qb y;exact aB (v:=.tuple #[.agg (qC n s t),qN,qI 0]) (by simp[results,results7,go_sem,z,B,C,D]) rfl (show lC _ _ _ _ _ _ by unfold lC;rw[ak J.o,Z.o];exact⟨⟨s,t,rfl,f5.o⟩,b9.o⟩)
   |none=>
    rw[L] at X;obtain⟨d4,d5,d6,s,d7,t,rfl⟩:=X;have o:=aN E (.cells #[qI d4,af d5,qI d6,.slice s d7 t] 31);have j:=jt Y o;have d8:=kp o b8;have F:=kp o R;have d9:=zh (b7.o.keep o);have Z:=zh L;clear o L Y R b8 b7;go_upto_region 5 with(fail)
    generalize E.alloc (.cells #[qI d4,af d5,qI d6,.slice s d7 t] 31)=W at*;obtain⟨d,g,h,i,k⟩:=qc d8;go_wp2_with fail;refine(Yw b2 A cap rs f G d1.o a1 M N a2 e7 (w.heap.size+2) (fT m) m _ [] none 0 W ⟨aH _,U.o⟩ (by have:=U.o;simp only[gZ];omega) d9.o (T.o.keep j.o) zS (aH _) aa (av F.o.lt) (λe0 f6=>by cases f6)).mono ?_;rintro r f4 ⟨⟨v,rfl,e1⟩,a⟩;obtain⟨e2,c0⟩:=isNone_none Z.o [];rw[c0] at e1⊢;obtain⟨e3,e4,rfl,f7,f8,e5,e6⟩:=e1;have f9:=zh e6;have g0:=zh c0;have g1:=zh e5;have b9:=jt j a;have c1:=kp a F;clear c0 e5 e6 a j F d8 d9 d g h i k;have a8:=c1.o.cell;have a9:=c1.o.frozen;go_wp2_with fail;obtain⟨h3,x,y,j,P⟩:=iY c1.o b9.o (dJ _) (qI 0) qE (qI 0) qN;rw[x];have g2:=zh (g1.o.grown P.o λe0 g3 g4 h4=>av (f9.o e0 g3 g4));obtain⟨z,B,C,D⟩:=qb y;exact aB (v:=.tuple #[.agg qZ,.slice e3 e2.length e4,qI 19]) (by simp[results,results7,go_sem,z,B,C,D]) rfl (show lC _ _ _ _ _ _ by unfold lC;rw[ak J.o,Z.o];exact⟨⟨e2,e3,e4,g0.o,rfl,f7,f8,g2.o⟩,j.o⟩)
def Yx (rs:List aD)(f:Nat)(t:aG)(c:bK t.kids<f)(e:Int)(p:List Int)(h:kW rs f t= .bad e p):e≠0:=by
 unfold kW at h
 split at h
 ·cases a:dE rs f t.kids [] 0 with
  |ok u=>
   rw[a] at h;dsimp only at h
   split at h
   ·cases h
   ·injection h with b _;omega
  |bad d g=>
   rw[a] at h;dsimp only at h;injection h with b _;have:=Kw rs f t.kids [] 0 c d g a;omega
 ·injection h with b _;omega
end Rn
namespace El
open At Ch Sp Sy Go.RowKit
def Hl (n:aG):Nat:=match n.kids with
 |b0::_=>b0.kids.length
 |[]=>0
def Hm {n a:aG}{ks:List aG}(h:n.kids=a::ks):Hl n=a.kids.length:=by unfold Hl;rw[h]
def Qg (rs:List aD)(s:List UInt8):rX (qp rs) s=mD rs s:=Nf rs s
def Qh (rs:List aD)(h:rs.length<=1000000):(qp rs).length<=1000000:=by
 have:=Ef rs rs.length;rw[bW] at this;omega
def Yy (A:Option Addr)(cap:Nat)(rs:List aD)(n:aG)(c:Array Value)(w:World)(Q:fG w A rs)(a9:rs.length<=1000000)(R:lX w n c)(b0:fO n.kind=true->n.kids≠[]):Calls prog 166 #[.slice A rs.length cap,.agg c] w λe w'=>e= .returned (.tuple #[af (eH n).text,.bool (oh rs n)])/\Below w.heap.size w w':=by
 obtain⟨D,E,rfl,b8,e7,e8,b1⟩:=R.form;have b9:=zh (Jd R);have s:=zh (aN w (qO n D E));have m:=zh (au.new w 31 (qC n D E));have c0:=zh (Q.keep s.o);have S:=zh (b1.keep s.o);have T:=zh b0;have c1:=Q;clear Q R b1 b0 b8;go_enter func166,ntmps166;go_upto_region 1 with(fail)
 generalize w.alloc (qO n D E)=c2 at*;have b2:=m.o.cell 0;have c3:=m.o.cell 3
 go_cut [27] (λc4 wc=>c4= .bool (fO n.kind&&decide (Hl n=1))/\wc=c2)
 case first=>
  cases a:fO n.kind with
  |true=>
   obtain⟨f,k,j⟩:∃f k,n.kids=f::k:=by
    cases U:n.kids with
    |nil=>exact absurd U (T.o a)
    |cons f k=>exact⟨f,k,rfl⟩
   obtain⟨c5,c6,c7,V,c8,_,c9,d0,L,W,F,G,H,M⟩:=S.o.at_ (i:=0) (t:=f) (by rw[j];rfl);subst V;rw[add_zero'] at F G H M;have d1:(0:Int)<(n.kids.length:Int):=by rw[j,aY];omega
   have e9:((f.kids.length:Int)==1)=decide (f.kids.length=1):=by
    rw[fI,aT,rq];omega
   have N:=ah (n.kind=7\/n.kind=8\/n.kind=9) (by unfold fO at a;exact bD a);have I:=zh a;have X:=zh j;clear a L W j F G H;rcases N.o with h|h|h
   ·have Y:(n.kind==7)=true:=aT.2 h;clear h N;go_wp2;go_meet;exact⟨by rw[I.o,aW,Hm X.o],rfl⟩
   ·have Y:(n.kind==7)=false:=by rw[h];rfl
    have b3:(n.kind==8)=true:=aT.2 h;clear h N;go_wp2;go_meet;exact⟨by rw[I.o,aW,Hm X.o],rfl⟩
   ·have Y:(n.kind==7)=false:=by rw[h];rfl
    have b3:(n.kind==8)=false:=by rw[h];rfl
    have d2:(n.kind==9)=true:=aT.2 h;clear h N;go_wp2;go_meet;exact⟨by rw[I.o,aW,Hm X.o],rfl⟩
  |false=>
   have Y:(n.kind==7)=false:=by unfold fO at a;rw[aZ];have:=kY a;omega
   have b3:(n.kind==8)=false:=by unfold fO at a;rw[aZ];have:=kY a;omega
   have d2:(n.kind==9)=false:=by unfold fO at a;rw[aZ];have:=kY a;omega
   have I:=zh a;clear a;go_wp2;go_meet;exact⟨by rw[I.o];rfl,rfl⟩
 obtain⟨b4,rfl⟩:=hcut;obtain⟨y,Z⟩:∃y,y=(fO n.kind&&decide (Hl n=1)):=⟨_,rfl⟩
 rw[<-Z] at b4;subst b4;have O:=zh Z;clear b2 c3 Z;go_upto_if 27 with(fail)
 go_cut [] (λb5=>(∃z B,Hy (au b5 w.heap.size 31 #[qI (eH n).kind,af (eH n).text,qI (eH n).cols,.slice z (eH n).kids.length B]))/\Hy (Below w.heap.size w b5))
 case first=>
  cases a:fO n.kind with
  |false=>
   obtain rfl:y=false:=by rw[O.o,a];rfl
   have J:=zh (Jb a);clear a O;go_wp2;go_meet;exact⟨⟨D,E,by rw[J.o];exact m⟩,s⟩
  |true=>
   obtain⟨f,k,j⟩:∃f k,n.kids=f::k:=by
    cases U:n.kids with
    |nil=>exact absurd U (T.o a)
    |cons f k=>exact⟨f,k,rfl⟩
   have P:y=decide (f.kids.length=1):=by rw[O.o,a,aW,Hm j]
   clear O
   by_cases o:f.kids.length=1
   ·obtain⟨x,a0⟩:∃x,f.kids=[x]:=List.length_eq_one_iff.1 o;obtain⟨c5,c6,c7,V,c8,_,c9,d0,L,W,F,G,H,M⟩:=S.o.at_ (i:=0) (t:=f) (by rw[j];rfl);subst V;rw[add_zero'] at F G H M;obtain⟨f0,z,B,d3,f1,f2,_,_,_,_,d4,d5,d6,d7⟩:=L.at_ (i:=0) (t:=x) (by rw[a0];rfl);subst d3;rw[add_zero'] at d4 d5 d6 d7;have J:=zh (Nh a j a0);have d1:(0:Int)<(n.kids.length:Int):=by rw[j,aY];omega
    have b2:=m.o.cell;have f3:=m.o.frozen;obtain rfl:y=true:=by rw[P];exact aJ o
    rw[show f.kids.length=1 from aa] at M;clear a j a0 o L W P F G H;go_wp2;go_meet;have d8:=Ej wc w.heap.size (qI x.kind) (af x.text) (qI x.cols) (.slice z x.kids.length B);have d9:=Em m.o (qI x.kind) (af x.text) (qI x.cols) (.slice z x.kids.length B);exact⟨⟨z,B,by rw[J.o];exact zh d9⟩,zh (s.o.grown d8 s.o.size λf4 e=>av (sj e))⟩
   ·have J:=zh (Ng j o);obtain rfl:y=false:=by rw[P];exact aK o
    clear a j o P;go_wp2;go_meet;exact⟨⟨D,E,by rw[J.o];exact m⟩,s⟩
 obtain⟨⟨z,B,C⟩,a1⟩:=hcut;have e0:=zh (c1.keep a1.o);have a2:=ah (oh rs n=(decide ((eH n).kind=2)&&mD rs (eH n).text.data.toList)) rfl;clear s m c0 S T;obtain⟨u,a3⟩:∃u,u=eH n:=⟨_,rfl⟩
 rw[<-a3] at C a2 b9;have b6:=zh a3;clear a3;go_upto_region 3 with(fail)
 by_cases p:u.kind=2
 ·have a4:(u.kind==2)=true:=aT.2 p;have a5:=ah (oh rs n=mD rs u.text.data.toList) (by rw[a2.o,aJ p,aW]);clear p;refine qm [2,1,2,1,2,2,2,1,2,1,1,2,2,2] (List.replicate 14 false) (λb=>[aR w.heap.size (1),af u.text,qP w.heap.size,qI u.kind,.bool true,.bool true,.slice A rs.length cap,b.v 42,aR w.heap.size (1),af u.text,.bool (mD rs u.text.data.toList),.bool (mD rs u.text.data.toList),af u.text,.bool (mD rs u.text.data.toList)]) [(7,λb b7=>∃l q,b.v 42= .slice l (qp rs).length q/\BM b7 l (qp rs))] (λ_ _=>True) (bV.cons (λb b7 f5 ⟨l,q,o,p⟩ a6=>⟨l,q,o,p.keep a6⟩) bV.nil) (trivial) ?_ ?_
  ·refine⟨jI,jR λb g d=>(ae d C.o).cell 1,jI,jR λb g d=>(ae d C.o).cell 0,λb g=>?_,jC,jC,λb g d K r=>?_,jI,jR λb g d=>(ae d C.o).cell 1,λb g d K r=>?_,jC,jC,jC,trivial⟩
   ·exact jp (.bool true) (bT a4) rfl
   ·refine jc 186 (#[.slice A rs.length cap]) g aj ((MN A cap rs g (e0.o.keep d) a9).mono ?_);rintro e e1 ⟨e2,rfl,e3,a6⟩;exact⟨_,rfl,b.setV 42 e2,rfl,jD,a6,⟨(by obtain⟨l,q,a7,_,_,a⟩:=e3.form;exact⟨l,q,a7,a⟩),trivial⟩,trivial⟩
   ·have e4:=jE r.1;obtain⟨l,q,a7,e5⟩:=e4;refine jc 185 (#[.slice l (qp rs).length q,af u.text]) g (bT a7) ((IP l q (qp rs) u.text g e5 (Qh rs a9)).mono ?_);rintro e e1 ⟨rfl,rfl⟩;rw[Qg];exact⟨_,rfl,b,rfl,jD,(aL _ _),⟨jH,trivial⟩,trivial⟩
  ·refine λb g d K r=>?_
   dsimp only[ji] at r;change wpOps _ _ _ [] _ _;refine jo ?_;have a8:=jt a1 d;clear d K r;generalize b.v 42=f6 at*;clear b;generalize g=e6 at*;go_wp2;exact aB (v:=.tuple #[af u.text,.bool (mD rs u.text.data.toList)]) (by simp[results,results166,go_sem]) rfl ⟨by rw[a5.o,b6.o],a8.o⟩
 ·have a4:(u.kind==2)=false:=bn p;have a5:=ah (oh rs n=false) (by rw[a2.o,aK p,bL]);clear p;refine qm [2,1,2,1,2,2,0,0,0,0,0,2,2,2] (List.replicate 14 false) (λb=>[aR w.heap.size (1),af u.text,qP w.heap.size,qI u.kind,.bool false,.bool false,undef,undef,undef,undef,undef,.bool false,af u.text,.bool false]) [] (λ_ _=>True) bV.nil (trivial) ?_ ?_
  ·refine⟨jI,jR λb g d=>(ae d C.o).cell 1,jI,jR λb g d=>(ae d C.o).cell 0,λb g=>?_,jC,λ_=>rfl,λ_=>rfl,λ_=>rfl,λ_=>rfl,λ_=>rfl,jC,jC,jC,trivial⟩
   ·exact jp (.bool false) (bT a4) rfl
  ·refine λb g d K r=>?_
   dsimp only[ji] at r;change wpOps _ _ _ [] _ _;refine jo ?_;have a8:=jt a1 d;clear d K r;clear b;generalize g=e6 at*;go_wp2;exact aB (v:=.tuple #[af u.text,.bool false]) (by simp[results,results166,go_sem]) rfl ⟨by rw[a5.o,b6.o],a8.o⟩
def Yz (A U:Option Addr)(cap a7:Nat)(rs:List aD)(l:List aG)(w:World)(V:fG w A rs)(a8:rs.length<=1000000)(W:mO w U l)(X:∀n∈l,fO n.kind=true->n.kids≠[])(a9:l.length<=1000000):Calls prog 148 #[.slice A rs.length cap,.slice U l.length a7] w (FW rs l w):=by
 obtain⟨M,t,N,O,P⟩:=info_parts FL;have b0:=zh V;have b1:=zh W;have b2:=zh X;clear V W X;go_enter func148,ntmps148;go_wp2_with fail
 go_loopw [7,8] (λv i wr=>∃(k:Nat) (c:List ByteArray),k<=l.length/\i=qI k/\Hy (jP rs (l.take k)= .inl c)/\Hy (uJ wr w.heap.size v c)/\Hy (Below w.heap.size w wr)) (λ_ i _=>l.length -(intOf i).toNat)
 case atStart=>exact⟨0,[],aa,rfl,zh rfl,zh (iR _ _ _ _),zh (aL _ _)⟩
 case round=>
  obtain⟨k,c,u,rfl,h,Q,a⟩:=hrel
  by_cases b3:k<l.length
  ·obtain⟨x,G⟩:∃x,l[k]?=some x:=⟨_,gE b3⟩
   obtain⟨H,c2,c3,rfl,Y,Z,c4,c5,b4,a0,R,S,b5,b6⟩:=(b1.o.keep a.o).at_ G;have I:=zh G;have b7:=zh Z;have b8:=zh (b2.o x (dQ G));have y:=ah (c.length=k) (by have:=Al h.o;rw[eU] at this;omega);have T:=zh a0;clear G a0 b4 Z;go_wp2_with fail;refine(Yy A cap rs x _ wr (b0.o.keep a.o) a8 T.o b8.o).mono ?_;rintro e z ⟨rfl,b⟩;obtain⟨c6,d⟩:∃_:Unit,Hy (uJ z w.heap.size u7 c):=⟨(),zh (gM (row:=none) Q.o ⟨b.os,b.tape,b.output,b.size,λi t _=>b.block i t⟩ (by cases u7.ownBlock<;>simp))⟩
   have b9:=jt a b;have c7:=ah ((eH x).text.size<=9223372036854775807) (Jd T.o);replace R:=(b.cell (p:=H.add (k*4)) (by rw[gX];exact Y)).trans R;replace S:=(b.cell (p:=⟨(H.add (k*4)).block,(H.add (k*4)).off+1,none⟩) (by show(H.add (k*4)).block<_;rw[gX];exact Y)).trans S;clear b Q a T b5 b6;have a:=b9;obtain⟨J,B,rfl,c8,c9,_⟩:∃J B,u7= .slice J c.length B/\c.length<=B/\B<=9223372036854775807/\True:=by
    obtain⟨d0,j⟩:=d.o;rcases j with⟨rfl,c0⟩|⟨d1,cap,d2,rfl,d3,b,a9,d4,d5,d6⟩
    ·exact⟨none,0,by rw[c0],aa,aa,trivial⟩
    ·exact⟨_,cap,rfl,aa,by unfold maxLen at*;omega,trivial⟩
   cases g:oh rs x
   ·by_cases j:x.kind=2
    ·have c1:(x.kind==2)=true:=aT.2 j;have a1:=ah (ma rs x=mY x.text.data.toList) (by unfold ma;rw[g,aJ j];rfl);have C:=ah (iM rs x=xK) (by unfold iM;rw[g];rfl);clear j g;go_wp2_with fail;refine(FT x.text z b7.o).mono ?_;rintro e a2 ⟨rfl,b⟩;obtain⟨d7,a3⟩:∃_:Unit,Hy (uJ a2 w.heap.size (.slice J c.length B) c):=⟨(),zh (gM (row:=none) d.o ⟨b.os,b.tape,b.output,b.size,λi t _=>b.block i t⟩ (by cases (Value.slice J c.length B).ownBlock<;>simp))⟩
     replace a:=jt a b;clear b d R S;have d:=a3;clear a3;generalize a2=z at*;rw[bz];cases K:mY x.text.data.toList
     ·have f:=zh (Nk I.o h.o (by rw[a1.o];exact K));clear K;go_wp2;exact aB (v:=.tuple #[qN,qI (k:Int),.bool false]) (by simp[results,results148,go_sem]) rfl ⟨by rw[f.o],a.o⟩
     ·have f:=zh (FV I.o h.o (by rw[a1.o];exact K));rw[C.o] at f;clear K;have m:=rM d.o (.cells #[af xK] 9);have D:=zh (bA d.o);have o:=zh a.o.size;go_wp2_with (at_builtin;refine oV _ rfl (.tmp 26) (.tmp 27) 62 rfl w.heap.size 9 M qE 1 16 underlying62 t N O P rfl aI _ _ _ rfl m (ag z.heap.size (0)) 1 1 [af xK] rfl rfl (Ch.Bb _ _ _) ?c2a ?c3a ?c4a ?c5a ?_)
      case c2a=>intro a4 q;simp at q;subst q;rfl
      case c3a=>have:=y.o;unfold maxLen;omega
      case c4a=>have:=y.o;omega
      case c5a=>have:=o.o;simp;omega
      intro a5 a6 r s _;have E:=zh ((a.o.alloc a.o.size (.cells #[af xK] 9)).grown s (by have:=o.o;simp;omega) (λk u=>(D.o k u).1));have F:=zh (uJ.snoc rfl rfl r);clear m r s d a;go_wp2;go_roundw
      case rel=>exact⟨k+1,c++[xK],aa,bi,f,F,E⟩
      case measure=>simp[intOf];omega
    ·have c1:(x.kind==2)=false:=bn j;have f:=zh (FV I.o h.o (by unfold ma;rw[g,aK j];rfl));have C:=ah (iM rs x=xK) (by unfold iM;rw[g];rfl);rw[C.o] at f;clear j g;have m:=rM d.o (.cells #[af xK] 9);have D:=zh (bA d.o);have o:=zh a.o.size;go_wp2_with (at_builtin;refine oV _ rfl (.tmp 26) (.tmp 27) 62 rfl w.heap.size 9 M qE 1 16 underlying62 t N O P rfl aI _ _ _ rfl m (ag z.heap.size (0)) 1 1 [af xK] rfl rfl (Ch.Bb _ _ _) ?c2a ?c3a ?c4a ?c5a ?_)
     case c2a=>intro a4 q;simp at q;subst q;rfl
     case c3a=>have:=y.o;unfold maxLen;omega
     case c4a=>have:=y.o;omega
     case c5a=>have:=o.o;simp;omega
     intro a5 a6 r s _;have E:=zh ((a.o.alloc a.o.size (.cells #[af xK] 9)).grown s (by have:=o.o;simp;omega) (λk u=>(D.o k u).1));have F:=zh (uJ.snoc rfl rfl r);clear m r s d a;go_wp2;go_roundw
     case rel=>exact⟨k+1,c++[xK],aa,bi,f,F,E⟩
     case measure=>simp[intOf];omega
   ·have f:=zh (FV I.o h.o (by unfold ma;rw[g];rfl));have C:=ah (iM rs x=(eH x).text) (by unfold iM;rw[g];rfl);rw[C.o] at f;clear g;generalize (eH x).text=L at*;have m:=rM d.o (.cells #[af L] 9);have D:=zh (bA d.o);have o:=zh a.o.size;go_wp2_with (at_builtin;refine oV _ rfl (.tmp 31) (.tmp 33) 62 rfl w.heap.size 9 M qE 1 16 underlying62 t N O P rfl aI _ _ _ rfl m (ag z.heap.size (0)) 1 1 [af L] rfl rfl (Ch.Bb _ _ _) ?c2a ?c3a ?c4a ?c5a ?_)
    case c2a=>intro a4 q;simp at q;subst q;rfl
    case c3a=>have:=y.o;unfold maxLen;omega
    case c4a=>have:=y.o;omega
    case c5a=>have:=o.o;simp;omega
    intro a5 a6 r s _;have E:=zh ((a.o.alloc a.o.size (.cells #[af L] 9)).grown s (by have:=o.o;simp;omega) (λk u=>(D.o k u).1));have F:=zh (uJ.snoc rfl rfl r);clear m r s d a;go_wp2;go_roundw
    case rel=>exact⟨k+1,c++[L],aa,bi,f,F,E⟩
    case measure=>simp[intOf];omega
  ·obtain rfl:k=l.length:=by omega
   have h:=ah (jP rs l= .inl c) (by have:=h.o;rwa [bW] at this);go_wp2;exact aB (v:=.tuple #[u7,qI 0,.bool true]) (by simp[results,results148,go_sem]) rfl ⟨by rw[h.o];exact⟨_,rfl,Q.o⟩,a.o⟩
end El
end Go.Proofs.YtlefbenkhgbifaaGreatDoor
