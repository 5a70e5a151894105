/- slots of the reference: the meanings of the slots of an operand or of the scripts of an operator. -/
import Derived.Test.YtlefbenkhgbifaaGreatDoorH1b1899a1
set_option linter.all false
set_option maxRecDepth 100000
set_option maxHeartbeats 8000000
namespace Go.Proofs.YtlefbenkhgbifaaGreatDoor.El
open At Ch Sp Sy Go.RowKit Tryz
variable{n d:aG}{rs:List aD}{s:Nat}{w:World}{A:Option Addr}{p:List Int}
structure Cv (w:World)(cs:Array Value)(v:Value)(xs:List aC)(x:World):Prop where
 bel:Below w.heap.size w x
 k0:au x w.heap.size 31 cs
 app:dU (λb=>w.heap.size<b) x (w.heap.size+1) v xs
def Cv.keep {w x b:World}{c:Array Value}{v:Value}{xs:List aC}(h:Cv w c v xs x)(a:Below x.heap.size x b):Cv w c v xs b:=
 ⟨h.bel.trans (a.mono h.bel.size),jL a h.k0,h.app.keep a⟩
def Qu (h:fJ n=true):n.kind=7\/n.kind=9->∃a s r,n.kids=a::s::r:=by
 intro e;have c:=(wu h).2;unfold lJ at c;rw[ai (show ¬n.kind=12 from aa),aM,ai (show ¬n.kind=1 from aa),ai (show ¬(n.kind=2\/n.kind=3\/n.kind=4) from aa)] at c;have b:=c.2
 match hn:n.kids with
 |a::s::r=>exact⟨a,s,r,rfl⟩
 |[a]=>
  rw[hn] at b;exfalso;revert b;rcases e with e|e<;>simp[e]
 |[]=>
  rw[hn] at b;exfalso;revert b;rcases e with e|e<;>simp[e]
def Zm {sub:aG}{v:ByteArray}(h:vY rs sub=some v):3<=sub.kids.length:=by
 unfold vY at h
 split at h
 ·next a b c r hs=>rw[hs];simp
 ·cases h
def Zn {i pre:Bool}(c:n.kids[s]?=some d)(h:lF rs n i pre s=2):3<=d.kids.length:=by
 unfold lF at h
 split at h
 ·next hc=>
  obtain⟨_,rfl,e⟩:=hc;unfold dN at e
  split at e
  ·cases f:n.kids with
   |nil=>rw[f] at c;simp at c
   |cons a r=>
    cases r with
    |nil=>rw[f] at c;simp at c
    |cons b r=>
     rw[f] at c e;simp only[eD,iD,gV] at c;subst c;dsimp only at e;cases g:vY rs b with
     |none=>rw[g] at e;cases e
     |some v=>exact Zm g
  ·cases e
 ·omega
def KD:∀{ts:List aG},nG ts=true->∀t∈ts,wy t=true
 |[],_,t,h=>by cases h
 |x::ts,h,t,a=>by
  rw[nG,aM] at h;rcases dD.1 a with rfl|a
  ·exact h.1
  ·exact KD h.2 t a
def Zo (h:wy n=true)(a:n.kids[s]?=some d):wy d=true:=by
 obtain⟨k,t,c,b⟩:=n;rw[wy,aM] at h;exact KD h.2 d (dQ a)
def Qv (h:wy n=true)(a:n.kind=1):n.kids.length<=7/\nG n.kids=true:=by
 obtain⟨k,t,c,b⟩:=n;have d:k=1:=a;rw[wy,aM,d] at h;exact⟨show b.length<=7 by simpa using h.1,h.2⟩
def Zp (h:fJ n=true)(b:n.kind≠1)(c:n.kids[s]?=some d):d.kind=1:=by
 obtain⟨f,a⟩:=Aq h c;unfold sF at a;rw[aK b] at a
 by_cases e:d.kind=1
 ·exact e
 ·rw[aK e] at a;cases a
def Zq (h:kK w A p)(b:0<p.length):∀a,A=some a->a.block<w.heap.size:=λa c=>by
 obtain⟨d,e,f,_⟩:=h.2 b;obtain rfl:a=d:=sj (c.symm.trans e);exact f
def ET {w':World}{q:Nat}(h:kK w A p)(b:w.grownBy w' (some q))(i:∀a,A=some a->0<p.length->a.block≠q):kK w' A p:=by
 obtain⟨k,l⟩:=h;refine⟨k,λc=>?_⟩;obtain⟨a,d,f,m⟩:=l c;refine⟨a,d,ll f b.size,λj u n=>?_⟩;rw[<-m j u n];refine dm (b.block _ (by rw[gX];exact f) λe=>?_);have g:=sj e;rw[gX] at g;exact i a d c g
def Zr {g:Nat}{a b:Int}(h:au w g 3 #[qI a,qI b]):kK w (some (ag g (0))) [a,b]:=by
 refine⟨rfl,λ_=>⟨_,rfl,h.lt,λj u c=>?_⟩⟩;rw[show(⟨g,0,none⟩:Addr).add j=(ag g j) by unfold Addr.add;split<;>simp_all,h.cell]
 match j,c with
 |0,c=>exact c
 |1,c=>exact c
 |j+2,c=>simp[dG] at c
def Zt {B:Nat}{v:Value}{l:List Int}(h:zM w B v l):∃A c,v= .slice A l.length c/\l.length<=c/\c<=9223372036854775807/\kK w A l:=by
 have a:w.ownsRow B 3 1 v l.length (dG l):=h;rcases a.2 with⟨rfl,b⟩|⟨g,d,i,rfl,j,k,e,f,m,n⟩
 ·obtain rfl:l=[]:=eP.1 b;exact⟨none,0,rfl,aH _,aa,rfl,λh=>absurd h aS⟩
 ·exact⟨_,d,rfl,e,by unfold maxLen at f;omega,dL.zIi a⟩
def AJ (A:Option Addr)(cap:Nat)(rs:List aD)(f:Nat)(i4:Hq A cap rs f)(items:List aG)(path:List Int)(k:Nat)(i5 c2:Option Addr)(o0 a5 g:Nat)(o1:Value)(i:Nat)(n:aG)(q pre:Bool)(w:World)(i6:fG w A rs)(i7:rs.length<=1000000)(f2:mO w i5 (items.drop k))(i8:kK w c2 path)(i9:path.length<=a5)(j0:a5<=9223372036854775807)
  (c3:au w g 158 (sU A cap rs i5 o0 (items.drop k) c2 a5 path k o1)) (O:(items.drop k)[i]?=some n) (j1:fJ n=true) (j2:n.kind≠1) (j3:dK n<=f) (j4:path.length+dK n+2<=900000) (d6:wy n=true) (j5:k<=2) (j6:i<=100):
  Calls prog 151 #[qP g,qI (i:Int),.bool q,.bool pre] w (zC (λp a6=>yP rs items path k p a6) (iX rs (dE rs f) n (path++[((k+i:Nat):Int)]) q pre) w):=by
 obtain⟨o2,o3,o4,o5,o6⟩:=Sp.info_parts zN;have o7:=zh (λ(s:Nat) (d:aG) (b:Nat) (j7:List Int) (a6:List Rd) (J:n.kids[s]?=some d) (h:yP rs d.kids (path++[((k+i:Nat):Int),(s:Int)]) b j7 a6)=>yP.there items path k i s b n d j7 a6 O J h);generalize items.drop k=o8 at f2 c3 O;obtain⟨V,d7,P,rfl,u3,o9,u4,c4,j8,j9,f3,f4,f5,d8⟩:=f2.at_ O;have u5:(i:Int)<(o8.length:Int):=av ((bP.1 O).1)
 have p0:=c3.cell 1;have k0:=aN w (qO n d7 P);have k1:=zh (Cv.mk (xs:=[]) (v:=qN) k0 (au.new w 31 (qC n d7 P)) (dU.nil _ _ _));have k2:=zh i6;have p1:=zh j9;have B:=zh j8;have p2:=zh i8;have p3:=zh c3;have d9:=zh j1;have p4:=zh j3;have k3:=zh j4;have k4:=zh j2;have p5:=zh i7;have p6:=zh d6;have p7:=zh i4;have p8:=zh j5;have p9:=zh j6;have u6:=zh c3.lt;have u7:=zh (And.intro i9 j0);clear i6 j9 j8 i8 c3 j1 j3 j4 j2 i7 d6 i4 k0 f2 O o9 j5 j6 i9 j0;go_enter func151,ntmps151;go_upto_region 2 with(fail)
 clear f3 f4 f5 d8 p0;generalize w.alloc (qO n d7 P)=u8 at*;have f6:=zh (Zd rs (dE rs f) n (path++[((k+i:Nat):Int)]) q pre);obtain⟨G,f7⟩:∃G,G=path++[((k+i:Nat):Int)]:=⟨_,rfl⟩
 rw[<-f7] at f6;have f8:=zh f7;clear f7;go_wp2_with fail
 go_loopw [11,12] (λo i wr=>∃(s:Nat) (y:List aC) (W:Option Addr) (K:Nat),s<=n.kids.length/\i=qI s/\o= .slice W y.length K/\y.length<=s/\y.length<=K/\K<=9223372036854775807/\Hy (qR (gI rs (dE rs f) n G q pre 0) y (gI rs (dE rs f) n G q pre s))/\Hy (Cv w (qC n d7 P) (.slice W y.length K) y wr)) (λ_ i _=>n.kids.length -(intOf i).toNat)
 case atStart=>exact⟨0,[],none,0,aa,rfl,rfl,aH _,aH _,aa,zh (qR.start _),k1⟩
 case round=>
  clear k1;obtain⟨s,y,W,K,u9,rfl,rfl,v0,k5,k6,c5,m⟩:=hrel;have q0:=m.o.k0.cell 3
  by_cases k7:s<n.kids.length
  ·obtain⟨d,J⟩:∃d,n.kids[s]?=some d:=⟨_,gE k7⟩
   obtain⟨C,X,E,rfl,q1,v1,q2,q3,k8,q4,f3,f4,f5,d8⟩:=B.o.at_ J;have f9:∀o,(⟨(C.add (s*4)).block,o,none⟩:Addr).block<w.heap.size:=λo=>by show(C.add (s*4)).block<_;rw[gX];exact q1
   have g0:∀o,(⟨(C.add (s*4)).block,o,none⟩:Addr).block<wr.heap.size:=λo=>ll (f9 o) m.o.bel.size
   have g1:=(m.o.bel.cell (f9 ((C.add (s*4)).off+3))).trans d8;have g2:=zh k8;have k9:=zh (Js J);have q5:=zh (Jr d9.o k4.o J);have l0:=zh (Qv (Zo p6.o J) (Zp d9.o k4.o J));have e0:=zh J;have v2:=zh g0;clear J k8 q4 f3 f4 f5 d8 f9;obtain⟨z,e1⟩:∃z,z=path++[(k:Int)+(i:Int),(s:Int)]:=⟨_,rfl⟩
   have g3:=zh e1;have l1:=ah (z.length=path.length+2) (by rw[e1,aO];rfl);have q6:=ah (G++[(s:Int)]=z) (by rw[f8.o,e1,cu,pu];rfl);clear e1;have e2:=zh (p2.o.keep m.o.bel);have a7:=zh (k2.o.keep m.o.bel);have L:=zh (ae m.o.bel p3.o);have a8:=zh (g2.o.keep m.o.bel);have q7:IntKind.i64.wrap ((k:Int)+(i:Int))=(k:Int)+(i:Int):=lc _ (aV p8.o p9.o);go_upto_region 6 with(fail)
   refine qm [2,2,2,1,2,1,2,2,2,1,2,2,2,1,2,2,2,1,2,2,2,1,1,1,1,2] (List.replicate 26 false) (λa=>[qP g,qP g,qP g,.slice A rs.length cap,aR w.heap.size (3),ay C n.kids.length P,qI (↑s),az (C.add (s*4)),az ⟨(C.add (s*4)).block,(C.add (s*4)).off+3,none⟩,.slice X d.kids.length E,qP g,qP g,aR g (2),.slice c2 path.length a5,qP g,qP g,aR g (3),qI (k:Int),qI (i:Int),qI ((k:Int)+(i:Int)),qI (↑s),ay ⟨a.n 53,0,none⟩ 2 2,a.v 54,.agg #[.slice A rs.length cap,.slice X d.kids.length E,a.v 54,qI 0,qN],qP (a.n 56),qP (a.n 56)]) [(21,λa F=>au F (a.n 53) 3 #[qI ((k:Int)+(i:Int)),qI (s:Int)]),(22,λa F=>∃t r,a.v 54= .slice t z.length r/\z.length<=r/\r<=9223372036854775807/\kK F t z),(24,λa F=>au F (a.n 56) 158 #[.slice A rs.length cap,.slice X d.kids.length E,a.v 54,qI 0,qN]/\wr.heap.size<=a.n 56/\∃t r,a.v 54= .slice t z.length r/\z.length<=r/\r<=9223372036854775807/\kK F t z/\∀V,t=some V->V.block<a.n 56)] (λ_ _=>True) (bV.cons (λa F g4 h j=>ae j h) (bV.cons (λa F g4 ⟨t,r,a9,g5,g6,g7⟩ j=>⟨t,r,a9,g5,g6,g7.keep j⟩) (bV.cons (λa F g4 ⟨a9,g5,t,r,g6,g7,q8,q9,d6⟩ j=>⟨ae j a9,g5,t,r,g6,g7,q8,q9.keep j,d6⟩) bV.nil))) (trivial) ?_ ?_
   ·refine⟨jC,jI,jI,jR λa l c=>(ae c L.o).cell 0,jI,jR λa l c=>(ae c m.o.k0).cell 3,jC,λa l=>?_,jI,jR λa l c=>(c.cell (g0 ((C.add (s*4)).off+3))).trans g1,jC,jI,jI,jR λa l c=>(ae c L.o).cell 2,jC,jI,jI,jR λa l c=>(ae c L.o).cell 3,jC,λa l=>?_,jC,λa l c H x=>?_,λa l c H x=>?_,λa l c H x=>?_,λa l c H x=>?_,jC,trivial⟩
    ·exact jp (az (C.add (s*4))) (gY k7) rfl
    ·exact jp (qI ((k:Int)+(i:Int))) (bT q7) rfl
    ·exact jv (ay (ag l.heap.size (0)) 2 2) (l.alloc (.cells #[qI ((k:Int)+(i:Int)),qI (s:Int)] 3)) iw ⟨a.setN 53 l.heap.size,rfl,jD,aN l _,⟨au.new l _ _,jG,jG,trivial⟩,trivial⟩
    ·have g8:=jE x.1;refine jc 147 (#[.slice c2 path.length a5,ay ⟨a.n 53,0,none⟩ 2 2]) l aj ((KA c2 (some ⟨a.n 53,0,none⟩) a5 2 path [(k:Int)+(i:Int),(s:Int)] l (e2.o.keep c) (Zr g8) (by have:=k3.o;simp;omega)).mono ?_);rintro e l2 ⟨v3,rfl,c6,j⟩;obtain⟨t,r,rfl,c7,c4,c8⟩:=Zt c6;rw[<-g3.o] at c7 c8;rw[<-g3.o];exact⟨_,rfl,a.setV 54 (.slice t z.length r),rfl,jD,j,⟨jH,⟨t,r,rfl,c7,c4,c8⟩,jG,trivial⟩,trivial⟩
    ·have g8:=jE x.1;have g9:=jE x.2.1;obtain⟨t,r,Q,_⟩:=g9;exact jv (.agg #[.slice A rs.length cap,.slice X d.kids.length E,a.v 54,qI 0,qN]) l (bT Q) ⟨a,rfl,jD,(aL _ _),⟨jH,jH,jG,trivial⟩,trivial⟩
    ·have g8:=jE x.1;have g9:=jE x.2.1;obtain⟨t,r,Q,R,h0,e3⟩:=g9;exact jv (qP l.heap.size) (l.alloc (.cells #[.slice A rs.length cap,.slice X d.kids.length E,a.v 54,qI 0,qN] 158)) (bT Q) ⟨a.setN 56 l.heap.size,rfl,jD,aN l _,⟨jH,jH,⟨au.new l _ _,c.size,t,r,Q,R,h0,e3.keep (aN l _),Zq e3 (av l1.o)⟩,trivial⟩,trivial⟩
   ·refine λa l c H x=>?_
    dsimp only[ji] at x;change wpOps _ _ _ [] _ _;obtain⟨-,-,⟨h1,l3,t,r,Q,c7,c4,c8,l4⟩,-⟩:=x;rw[Q] at h1;rw[Q];refine jo ?_;have S:=zh h1;have r0:=zh l3;have e4:=zh c8;have l5:=zh l4;have l6:=zh (And.intro c7 c4);clear h1 l3 c8 c7 c4 H Q l4;generalize a.n 56=T at*;generalize a.n 53=v4 at*;clear a;replace g1:=(c.cell (g0 ((C.add (s*4)).off+3))).trans g1;have Y:=ah (w.heap.size<wr.heap.size) m.o.k0.lt;have Z:=zh ((m.o.app.weak (P':=λb=>w.heap.size<b/\b<wr.heap.size) λb j h=>⟨h,j⟩).keep c);have h2:=zh (λb j=>(m.o.app.ltT b j).2);replace m:=zh (m.o.keep c);replace e2:=zh (e2.o.keep c);replace a7:=zh (a7.o.keep c);replace L:=kp c L;replace a8:=zh (a8.o.keep c);have h3:=ah (wr.heap.size<=l.heap.size) c.size;clear c q0;generalize l=r1 at*;go_upto_region 7 with(fail)
    go_cut [78] (λb wc=>b= .bool (wD n q s)/\wc=r1)
    case first=>
     have v5:=m.o.k0.cell 0;have v6:=S.o.cell 1
     by_cases s0:s=0
     case neg=>
      have r2:((s:Int)==0)=false:=wF
      have B:=ah (wD n q s=false) (by unfold wD oI;rw[aK s0];simp);clear s0;cases q
      ·by_cases u:n.kind=6
       ·have c9:(n.kind==6)=true:=aT.2 u;clear u;go_wp2;go_meet;exact⟨by rw[B.o],rfl⟩
       ·have c9:(n.kind==6)=false:=bn u;clear u;go_wp2;go_meet;exact⟨by rw[B.o],rfl⟩
      ·by_cases u:n.kind=6
       ·have c9:(n.kind==6)=true:=aT.2 u;clear u;go_wp2;go_meet;exact⟨by rw[B.o],rfl⟩
       ·have c9:(n.kind==6)=false:=bn u;clear u;go_wp2;go_meet;exact⟨by rw[B.o],rfl⟩
     have r2:((s:Int)==0)=true:=by rw[s0];rfl
     cases q
     case true=>
      have B:=ah (wD n true s=true) (by unfold wD;rw[aJ s0];rfl);replace s0:=zh s0;go_wp2;go_meet;exact⟨by rw[B.o],rfl⟩
     by_cases u:n.kind=6
     case neg=>
      have c9:(n.kind==6)=false:=bn u;have B:=ah (wD n false s=false) (by unfold wD oI;rw[aK u];rfl);replace s0:=zh s0;clear u;go_wp2;go_meet;exact⟨by rw[B.o],rfl⟩
     have c9:(n.kind==6)=true:=aT.2 u;have U:∃a0,n.kids=d::a0:=by
      have h:=e0.o;rw[s0] at h;cases O:n.kids with
      |nil=>rw[O] at h;simp at h
      |cons r3 a0=>
             rw[O] at h;obtain rfl:r3=d:=by simpa using h
             exact⟨a0,rfl⟩
     obtain⟨a0,U⟩:=U
     by_cases a1:d.kids.length=0
     ·have h4:((d.kids.length:Int)==0)=true:=by rw[a1];rfl
      have B:=ah (wD n false s=true) (by unfold wD oI;rw[aJ u,aJ s0,U];exact lG.2 (eP.1 a1));replace U:=zh U;replace s0:=zh s0;replace a1:=zh a1;clear u;go_wp2;go_meet;exact⟨by rw[B.o],rfl⟩
     ·have h4:((d.kids.length:Int)==0)=false:=by rw[aZ];omega
      have B:=ah (wD n false s=false) (by unfold wD oI;rw[aJ u,aJ s0,U];exact uX.2 λe=>a1 (by rw[e];rfl));replace U:=zh U;replace s0:=zh s0;replace a1:=zh a1;clear u;go_wp2;go_meet;exact⟨by rw[B.o],rfl⟩
    obtain⟨rfl,rfl⟩:=hcut;cases b0:wD n q s with
    |true=>
     have d0:=ah (qR (gI rs (dE rs f) n G q pre 0) y (gI rs (dE rs f) n G q pre (s+1))) (by rw[<-Zf b0];exact c5.o);clear b0;go_wp2;go_roundw
     case rel=>exact⟨s+1,y,W,K,aa,bi,rfl,aa,k5,k6,d0,m⟩
     case measure=>simp[intOf];omega
    |false=>
     have d0:=ah (qR (gI rs (dE rs f) n G q pre 0) y ((dE rs f d.kids z (lF rs n q pre s)).then_ λh5=>(gI rs (dE rs f) n G q pre (s+1)).then_ λr4=>.ok (h5::r4))) (by rw[<-q6.o,<-Zg b0 e0.o];exact c5.o);have v7:=ah (q=true->s≠0) (λe h=>by rw[e,h] at b0;cases b0);clear b0 c5;go_upto_region 8 with(fail)
     refine qm [2,2,2,1,1,1,2,2,2,2,2] (List.replicate 11 false) (λa=>[qP g,qP g,qP g,.slice A rs.length cap,.agg (qC n (some C) P),.tuple #[a.v 86,a.v 87],.tuple #[a.v 86,a.v 87],a.v 86,a.v 87,a.v 86,a.v 87]) [(5,λa F=>∃a2 a3,a.v 86=af a2/\a.v 87= .bool a3/\qV rs n=(if a3=true then some a2 else none))] (λ_ _=>True) (bV.cons (λa F g4 h j=>h) bV.nil) (trivial) ?_ ?_
     ·refine⟨jC,jI,jI,jR λa l c=>(ae c L.o).cell 0,λa l c H x=>?_,λa l c H x=>?_,jC,jC,jC,jC,jC,trivial⟩
      ·have r5:=(ae c m.o.k0).cell 0;have r6:=(ae c m.o.k0).cell 1;have r7:=(ae c m.o.k0).cell 2;have r8:=(ae c m.o.k0).cell 3;exact gs (.agg (qC n (some C) P)) H aj (jZ r5 r6 r7 r8) rfl
      ·refine jc 169 (#[.slice A rs.length cap,.agg (qC n (some C) P)]) l aj ((Qi A cap rs n _ l (a7.o.keep c) p5.o (p1.o.keep (m.o.bel.trans (c.mono m.o.bel.size))) (Qu d9.o)).mono ?_);rintro e l2 ⟨a2,a3,rfl,e5,j⟩;exact⟨_,rfl,((a.setV 86 (af a2)).setV 87 (.bool a3)),rfl,jD,j,⟨⟨a2,a3,rfl,rfl,e5⟩,trivial⟩,trivial⟩
     ·refine λa l c H x=>?_
      dsimp only[ji] at x;change wpOps _ _ _ [] _ _;obtain⟨⟨a2,a3,l7,l8,e5⟩,-⟩:=x;rw[l7,l8];refine jo ?_;have h6:=zh e5;clear e5 l7 l8 H;clear a;replace m:=zh (m.o.keep c);replace Z:=zh (Z.o.keep c);replace a7:=zh (a7.o.keep c);replace L:=kp c L;replace a8:=zh (a8.o.keep c);replace e4:=zh (e4.o.keep c);replace S:=kp c S;replace h3:=zh (ax h3.o c.size);clear c e2;generalize l=b1 at*;go_upto_region 9 with(fail)
      go_cut [98] (λb wc=>b= .bool (decide (lF rs n q pre s=2))/\wc=b1)
      case first=>
       cases q
       case false=>
        have M:=ah (decide (lF rs n false pre s=2)=false) (aK (by unfold lF;rw[ai (λe=>by cases e.1)];omega));go_wp2;go_meet;exact⟨by rw[M.o],rfl⟩
       cases pre
       case false=>
        have M:=ah (decide (lF rs n true false s=2)=false) (aK (by unfold lF;rw[(ES rs n).2,ai (λe=>by cases e.2.2)];omega));go_wp2;go_meet;exact⟨by rw[M.o],rfl⟩
       cases a3
       case false=>
        have M:=ah (decide (lF rs n true true s=2)=false) (aK (by unfold lF;rw[(ES rs n).1,show qV rs n=none from h6.o,ai (λe=>by cases e.2.2)];omega));go_wp2;go_meet;exact⟨by rw[M.o],rfl⟩
       by_cases s1:s=1
       ·have h4:((s:Int)==1)=true:=by rw[s1];rfl
        have M:=ah (decide (lF rs n true true s=2)=true) (aJ (by unfold lF;rw[(ES rs n).1,show qV rs n=some a2 from h6.o,ak ⟨rfl,s1,rfl⟩]));replace s1:=zh s1;go_wp2;go_meet;exact⟨by rw[M.o],rfl⟩
       ·have h4:((s:Int)==1)=false:=by rw[aZ];omega
        have M:=ah (decide (lF rs n true true s=2)=false) (aK (by unfold lF;rw[ai (λe=>s1 e.2.1)];omega));clear s1;go_wp2;go_meet;exact⟨by rw[M.o],rfl⟩
      obtain⟨rfl,rfl⟩:=hcut;generalize wc=b1 at*;clear h6;have r9:=ah (lF rs n q pre s=2->3<=d.kids.length) (Zn e0.o);have l9:=ah (lF rs n q pre s=2\/lF rs n q pre s=0) (by unfold lF;split<;>simp);generalize lF rs n q pre s=I at*;have N:=zh r0.o;go_upto_if 98 with(fail)
      go_cut [] (λwc=>∃(e6:Option Addr) (d1:Nat),Hy (au wc T 158 (sU A cap rs e6 d1 (d.kids.drop I) t r z I qN)/\mO w e6 (d.kids.drop I)/\(d.kids.drop I).length<=d1/\d1<=9223372036854775807/\b1.grownBy wc (some T)))
      case first=>
       by_cases e7:I=2
       ·have v8:=r9.o e7;subst e7;obtain⟨a4,rfl⟩:∃a4,X=some a4:=by
         obtain⟨a4,h,_⟩:=a8.o 0 _ (gE aa);exact⟨a4,h⟩
        have v9:=S.o.cell;have w0:=S.o.frozen;have w1:¬(E=2):=aa
        have w2:2<=E:=aa
        have w3:2<=d.kids.length:=aa
        have m0:d.kids.length -2=(d.kids.drop 2).length:=by rw[lg]
        have s2:=zh m0;clear m0;have w4:decide (2=2)=true:=rfl;go_wp2;go_meet;have m1:b1.grownBy ((b1.setCell (ag T (1)) (ay (a4.add (2*4)) (d.kids.length -2) (E -2))).setCell (ag T (3)) (qI 2)) (some T):=vJ (kJ b1 (ag T (1)) _) (kJ _ (ag T (3)) _);have j:=(S.o.set_ 1 (ay (a4.add (2*4)) (d.kids.length -2) (E -2))).set_ 3 (qI 2);rw[s2.o] at j m1⊢;exact⟨some (a4.add (2*4)),E -2,zh ⟨j,NG g2.o 2,by rw[lg];omega,aa,m1⟩⟩
       ·have s3:I=0:=l9.o.resolve_left e7;subst s3;clear e7;go_wp2;go_meet;exact⟨X,E,zh ⟨by rw[mF];exact S.o,by rw[mF];exact g2.o,by rw[mF];exact q2,q3,⟨rfl,rfl,rfl,aH _,λ_ _ _=>rfl⟩⟩⟩
      obtain⟨e6,d1,b2⟩:=hcut;have s4:=ah (I<=2) (by rcases l9.o with h|h<;>omega);have d2:=zh b2.o.2.2.2.2;have b3:=zh (Z.o.zU7 d2.o (λb j e=>fD (h2.o b j) N.o (sj e)) (λb j e=>fD j.2 N.o (sj e)));have d3:=zh (Cv.mk (m.o.bel.grown d2.o m.o.bel.size λa0 e=>fD N.o Y.o (sj e)) (m.o.k0.grown d2.o λe=>fD N.o Y.o (sj e)) (b3.o.weak λb _ j=>j.1));have m2:=zh (ET e4.o d2.o λV h7 _ e=>av (l5.o V h7));clear e4 Z m L a8 S a7;go_wp2_with fail;refine(p7.o d.kids z I e6 t d1 r T w wc k2.o b2.o.2.1 d3.o.bel (aV N.o Y.o) b2.o.2.2.1 b2.o.2.2.2.1 m2.o (λV h7 _ e=>av (l5.o V h7)) l6.o.1 l6.o.2 b2.o.1 q5.o (aV p4.o k9.o) (fD l1.o k3.o k9.o) l0.o.1 l0.o.2 s4.o).mono ?_;rintro e d4 ⟨e8,d5⟩;have w5:=zh d5;have m3:=zh (b3.o.zU7 d5.own (λb j e=>fD (h2.o b j) N.o (sj e)) (λb j e=>fD j.2 N.o (sj e)));have e9:=zh (d3.o.bel.trans (d5.down d3.o.bel.size (aV N.o Y.o)));have m4:=zh (d5.blk d3.o.k0 (aV N.o Y.o));have h8:=ah (wr.heap.size<=wc.heap.size) (ax h3.o d2.o.size);clear d5 b3 d3 m2 b2;cases b4:dE rs f d.kids z I with
      |bad s5 p=>
       rw[b4] at e8;obtain⟨m5,rfl,m6⟩:=e8;have s6:=zh m6;have s7:=ah (iX rs (dE rs f) n G q pre= .bad s5 p) (by rw[f6.o];exact d0.o.bad b4);clear m6 b4;go_wp2_with fail;have D:=aN d4 (.cells qT 25);exact aB (v:=.tuple #[qN,qP m5]) (by simp[results,results151,go_sem]) rfl (show zC _ _ _ _ _ by rw[<-f8.o,s7.o];exact⟨⟨m5,rfl,(s6.o.keep D).any (λa6 h e=>o7.o s d I p a6 e0.o (by have a9:=h e;rw[g3.o,<-pu] at a9;exact a9)) λb _ j=>aV h8.o Y.o⟩,e9.o.trans (D.mono e9.o.size)⟩)
      |ok h5=>
       rw[b4] at e8;obtain⟨w6,rfl,h9⟩:=e8;obtain⟨b5,b6,b7,b8,b9,c0,c1,rfl⟩:=h9.ext;have s8:=zh (d0.o.next b4);have D:=aN d4 (.cells #[qI b5,af b6,af b7,.slice b8 b9 c0,af c1] 25);have m7:=zh ((h9.keep D).any (ok':=λb=>(Value.slice W y.length K).ownBlock≠some b/\w.heap.size<b) λb _ j=>⟨λe=>aV (h2.o b e) h8.o,aV h8.o Y.o⟩);have m8:=jt e9 D;have i0:=kp D m4;have m9:=zh ((m3.o.weak (P':=λb=>w.heap.size<b) λb _ j=>j.1).keep D);have n0:=zh (au.new d4 25 #[qI b5,af b6,af b7,.slice b8 b9 c0,af c1]);clear h9 b4 D e9 m4 m3 d0;go_upto_region 12 with(fail)
       generalize d4.heap.size=w7 at*;generalize d4.alloc (.cells #[qI b5,af b6,af b7,.slice b8 b9 c0,af c1] 25)=f0 at*;obtain⟨s9,t0,t1,t2,t3⟩:=qc n0;have D:=aN f0 (.cells #[qI b5,af b6,af b7,.slice b8 b9 c0,af c1] 25);have i1:=jt m8 D;have n1:=kp D i0;have b3:=zh (m9.o.keep D);have i2:=zh (m7.o.keep D);have n2:=zh (au.new f0 25 #[qI b5,af b6,af b7,.slice b8 b9 c0,af c1]);have t4:=ah (w.heap.size<f0.heap.size) i0.o.lt;obtain⟨w8,c6,n3,n4⟩:=b3.o;have w9:y.length<=1001:=av (Ev d9.o)
       have t5:=Sp.vF n2.o rfl (n:=5);have t6:=yI i2.o;clear D m9 m8 i0 m7 b3;go_wp2_with (at_builtin;refine uG _ rfl (.tmp 118) (.tmp 120) 23 rfl (w.heap.size+1) 25 o2 (.agg qT) 5 80 underlying23 o3 o4 o5 o6 rfl aI _ _ _ rfl c6 _ (some (ag f0.heap.size (0))) 1 1 (#[qI b5,af b6,af b7,.slice b8 b9 c0,af c1]:Array Value).toList rfl t5 t6 gy aa (by have:=t4.o;simp;omega) ?_)
       intro x0 l2 n5 f1 n6;have Z:=dU.push n3 n4 i2.o n5 f1 (by rw[dY];exact n6);have i3:∀b,(Value.slice W y.length K).ownBlock=some b->w.heap.size+1<=b:=λb j=>(bA c6 b j).1
       have n7:=zh (Cv.mk (i1.o.grown f1 i1.o.size λa0 e=>av (i3 a0 e)) (n1.o.grown f1 λe=>by have:=i3 _ e.symm;omega) Z);clear Z c6 n3 n4 n5 f1 n6 i3 i1 n1 i2 n2 s9 t0 t1 t2 t3 n0;obtain⟨t7,t8,R,n8,t9,_⟩:=n7.o.app.form (λb j=>aa);rw[aO,gN] at R n8;subst R;go_wp2;go_roundw
       case rel=>exact⟨s+1,y++[h5],t7,t8,aa,bi,by rw[aO,gN],by rw[aO,gN];omega,by rw[aO,gN];exact n8,t9,s8,by rw[aO,gN];exact n7⟩
       case measure=>simp[intOf];omega
  ·obtain rfl:s=n.kids.length:=by omega
   rw[Zh] at c5;have u0:=zh c5.o.end;obtain⟨x1,x2,R,x3,x4,n9⟩:=m.o.app.form λb j=>aa
   injection R with R h0 e3;subst R;have u1:=zh n9;have u2:=zh m.o.bel;clear n9 h0 e3;go_wp2;exact aB (v:=.tuple #[.slice W y.length K,.pointer none]) (by simp[results,results151,go_sem]) rfl (show zC _ _ _ _ _ by rw[<-f8.o,f6.o,u0.o];exact⟨⟨_,_,rfl,k5,k6,u1.o.any λb _ j=>aa⟩,u2.o⟩)
end Go.Proofs.YtlefbenkhgbifaaGreatDoor.El
