/- The reader of the program: newReader, operator. -/
import Derived.Test.YtlefbenkhgbifaaGreatDoorH9bf11b4f
set_option linter.all false
set_option maxRecDepth 100000
set_option maxHeartbeats 4000000
namespace Go.Proofs.YtlefbenkhgbifaaGreatDoor
open Tryz
namespace At
open Go.RowKit
def IY (k:Int):∀(a b:List aG) (D n:Nat),iJ k (a++b) D n=if(iJ k a D n).1=true then iJ k b D (iJ k a D n).2 else iJ k a D n
 |[],b,D,n=>by rw[iA,show iJ k [] D n=(true,n) by rw[iJ]];rfl
 |x::a,b,D,n=>by
  rw[iB,iJ,iJ];cases sF k x.kind
  ·cases c:(jJ x D n).1
   ·simp only[oW,↓reduceIte]
   ·simp only[oW,↓reduceIte];exact IY k a b D _
  ·simp only[oW,↓reduceIte]
def Ud {k:Int}{ks:List aG}{j D n a:Nat}{y:aG}(b:ks[j]?=some y)(h:iJ k (ks.take j) D n=(true,a)):iJ k (ks.take (j+1)) D n=if sF k y.kind then(false,a) else((jJ y D a).1,(jJ y D a).2):=by
 rw[dA,b,Option.toList,IY,h,ak rfl,iJ];cases sF k y.kind
 ·cases c:(jJ y D a).1
  ·simp only[oW,↓reduceIte]
  ·simp only[oW,↓reduceIte,iJ]
 ·simp only[↓reduceIte]
def Na {k:Int}{ks:List aG}{j D n:Nat}(h:(iJ k (ks.take j) D n).1=false):iJ k ks D n=iJ k (ks.take j) D n:=by
 conv=>lhs;rw[<-kw j ks]
 rw[IY,h,ai aS]
def pM (gc n1 n2:Nat):List Bool->World->Prop
 |[true],w=>Hy (au w gc 105 (fu n2))
 |_,w=>Hy (au w gc 105 (fu n1))
def Ue (n:Int)(v:Int):(fu n).setIfInBounds 39 (qI v)=fu v:=rfl
def Nb (n:Int):(fu n)[39]?=some (qI n):=rfl
def Uf:∀(m:Nat) (t:aG) (p:Addr) (A:Option Addr) (cap g n d:Nat) (r w:World),dK t<m->nE r p t A cap->Below r.heap.size r w->au w g 105 (fu n)->r.heap.size<=g->n<=1000->d<=25->Calls prog 71 #[qP g,az p,qI (d:Int)] w λe w'=>e= .returned (.bool (jJ t d n).1)/\au w' g 105 (fu (jJ t d n).2)/\Below r.heap.size r w':=by
 intro m
 induction m with
 |zero=>intro t p A cap g n d r w h;omega
 |succ m a7=>
  intro t p A cap g n d r w a8 a9 b0 R Z d2 d3;have b1:=zh a7;clear a7;obtain⟨k,s,cols,ks⟩:=t;have D:=zh a9;have c0:=zh a8;have F:=ah (jJ (.mk k s cols ks) d n=if 1000<n+1\/24<d\/kz k s.data.toList cols ks.length=false then(false,n+1) else iJ k ks (d+1) (n+1)) (by rw[jJ]);have c1:=R.frozen 39;have b2:=R.cell 39;rw[Nb] at b2;have I:=zh (show au (w.setCell (ag g (39)) (qI ((n:Int)+1))) g 105 (fu (n+1:Nat)) by
   have:=R.set_ 39 (qI ((n:Int)+1));rw[Ue] at this;exact this)
  have M:=zh (b0.setCell (p:=ag g (39)) Z (qI ((n:Int)+1)));clear a9 b0 R a8;go_enter func71,ntmps71
  by_cases S:1000<n+1
  ·have z:=ah (jJ (.mk k s cols ks) d n=(false,n+1)) (by rw[F.o,ak (.inl S)]);go_wp2;go_ret;exact⟨aU (by rw[z.o]),by rw[z.o];exact I.o,M.o⟩
  by_cases b3:24<d
  ·have z:=ah (jJ (.mk k s cols ks) d n=(false,n+1)) (by rw[F.o,ak (.inr (.inl b3))]);go_wp2;go_ret;exact⟨aU (by rw[z.o]),by rw[z.o];exact I.o,M.o⟩
  have b4:=I.o.cell 39;rw[Nb] at b4;go_wp2_with fail;generalize w.setCell (ag g (39)) (qI ((n:Int)+1))=c2 at*;clear c1 b2 b4;refine(Bz g (n+1:Nat) p k s cols ks A cap c2 (D.o.keep M.o) I.o).mono ?_;rintro e c3 ⟨rfl,l⟩;have B:=kp l I;have v:=jt M l;clear l I M;cases T:kz k s.data.toList cols ks.length
  ·have z:=ah (jJ (.mk k s cols ks) d n=(false,n+1)) (by rw[F.o,ak (.inr (.inr T))]);clear T;go_wp2;go_ret;exact⟨aU (by rw[z.o]),by rw[z.o];exact B.o,v.o⟩
  rw[ai (by rintro(h|h|h);exact S h;exact b3 h;rw[T] at h;cases h)] at F;clear T;have c4:c3.cell? (aF p 3)=some (.slice A ks.length cap):=(D.o.keep v.o).kids;have c5:=D.o.len;have d4:=D.o.capl;dsimp only[aG.kids] at c5;have N:IntKind.i64.wrap ((d:Int)+1)=((d:Int)+1):=lc _ aa;have c6:=zh N;clear N;go_wp2_with fail;clear c4
  go_loopw [35] (λi wr=>∃(c C:Nat),c<=ks.length/\i=qI c/\C<=1000/\Hy (iJ k (ks.take c) (d+1) (n+1)=(true,C))/\Hy (au wr g 105 (fu C))/\Hy (Below r.heap.size r wr)) (λi _=>ks.length -(intOf i).toNat)
  case atStart=>exact⟨0,n+1,aa,rfl,aa,ah (iJ k (ks.take 0) (d+1) (n+1)=(true,n+1)) (by rw[eZ,iJ]),B,v⟩
  case round=>
   clear B v;obtain⟨c,C,d5,rfl,a0,a1,B,v⟩:=hrel
   by_cases J:c<ks.length
   ·obtain⟨y,U⟩:∃y,ks[c]?=some y:=⟨_,gE J⟩
    obtain⟨f,b5,b6,rfl,b7⟩:=D.o.down.ptr U;have O:=zh b7;have c7:=Eh U;have H:=zh (Ud U a1.o);have b8:Hy (dK y<m):=by have S:=c0.o;show _<_;rw[dK] at S;omega
    have b9:=zh ((Ig y (d+1) C a0));obtain⟨o,V,W,X⟩:=y;clear U b7 c7;rw[FN] at H;have Y:=ah (((k==1)==(o==1))=sF k o) (by rw[<-MZ];cases (k==1)<;>cases (o==1)<;>rfl);go_upto_region 7 with(fail)
    have N:=c6.o;cases P:((k==1)==(o==1))
    ·rw[P] at Y;rw[<-Y.o,ai aS] at H;obtain⟨E,Q⟩:∃E,E=(jJ (.mk o V W X) (d+1) C).2:=⟨_,rfl⟩
     have K:=zh Q;clear Q;cases G:(jJ (.mk o V W X) (d+1) C).1
     ·have a2:=zh G;have z:=ah (jJ (.mk k s cols ks) d n=(false,E)) (by rw[F.o,Na (j:=c+1) (by rw[H.o];exact G),H.o,G,K.o]);clear G;refine Ma aj _ [az p,az p,az p,qI k,.bool (k==1),az p,az p,aR p.block (p.off+3),.slice (some f) ks.length cap,qI c,az (f.add (c*4)),az (f.add (c*4)),qI o,.bool (o==1),.bool false,.bool false,qP g,az p,az p,aR p.block (p.off+3),.slice (some f) ks.length cap,qI c,az (f.add (c*4)),qI (d:Int),qI ((d+1:Nat):Int),.bool false,.bool true,.bool true] [true,true,true,true,true,true,true,true,true,true,true,true,true,true,true,true,true,true,true,true,true,true,true,true,true,true,true,true] [25] (λL b=>Hy (Below r.heap.size r b)/\pM g C E L b) aj (by simp[fin,mX,fK,List.range,List.range.loop,Act.put];rfl) aj aj ⟨fC v.o,zh B.o.drew⟩ ?_ ?_
      ·refine⟨jM,jO,jO,λL b q l u a=>?_,jO,jM,jO,jO,λL b q l u a=>?_,jM,λL b q l u a=>?_,jO,λL b q l u a=>?_,jO,λL b q l u a=>?_,jM,jM,jM,jO,jO,λL b q l u a=>?_,jM,λL b q l u a=>?_,jM,λL b q l u a=>?_,λL b q l u a=>?_,jO,jM,trivial⟩
       ·have x:b.cell? p=some (qI k):=(D.o.keep a.1.o).kind;exact jv (qI k) b (bE x) ⟨rfl,a⟩
       ·have x:b.cell? (aF p 3)=some (.slice (some f) ks.length cap):=(D.o.keep a.1.o).kids;exact jv (.slice (some f) ks.length cap) b (bE x) ⟨rfl,a⟩
       ·skip
        exact jv (az (f.add (c*4))) b (nL J) ⟨rfl,a⟩
       ·have x:b.cell? (f.add (c*4))=some (qI o):=(O.o.keep a.1.o).kind;exact jv (qI o) b (bE x) ⟨rfl,a⟩
       ·skip
        exact jv (.bool false) b (bE P) ⟨rfl,a⟩
       ·have x:b.cell? (aF p 3)=some (.slice (some f) ks.length cap):=(D.o.keep a.1.o).kids;exact jv (.slice (some f) ks.length cap) b (bE x) ⟨rfl,a⟩
       ·skip
        exact jv (az (f.add (c*4))) b (nL J) ⟨rfl,a⟩
       ·skip
        exact jv (qI ((d+1:Nat):Int)) b (bE N) ⟨rfl,a⟩
       ·have a3:L 25=false:=q;simp only[List.map,a3] at a;refine jc 71 (#[qP g,az (f.add (c*4)),qI ((d+1:Nat):Int)]) b aj ((b1.o (.mk o V W X) (f.add (c*4)) b5 b6 g C (d+1) r b b8.o O.o a.1.o a.2.o Z a0 aa).mono ?_);rintro e a4 ⟨rfl,a5,a6⟩;exact⟨_,rfl,by rw[a2.o],a6,show Hy (au a4 g 105 (fu E)) from zh (by rw[K.o];exact a5)⟩
      ·intro b a;have v:=a.1;have B:=a.2;clear a;go_wp2;go_ret;exact⟨aU (by rw[z.o]),by rw[z.o];exact B.o,v.o⟩
     ·have a2:=zh G;have c8:=ah (iJ k (ks.take (c+1)) (d+1) (n+1)=(true,E)) (by rw[H.o,G,K.o]);have c9:=ah (E<=1000) (by have d0:=b9.o.1.1 G;have d1:=b9.o.2 G;rw[K.o,d1];exact d0.2.2);clear G;refine Ma aj _ [az p,az p,az p,qI k,.bool (k==1),az p,az p,aR p.block (p.off+3),.slice (some f) ks.length cap,qI c,az (f.add (c*4)),az (f.add (c*4)),qI o,.bool (o==1),.bool false,.bool false,qP g,az p,az p,aR p.block (p.off+3),.slice (some f) ks.length cap,qI c,az (f.add (c*4)),qI (d:Int),qI ((d+1:Nat):Int),.bool true,.bool false,.bool false] [true,true,true,true,true,true,true,true,true,true,true,true,true,true,true,true,true,true,true,true,true,true,true,true,true,true,true,true] [25] (λL b=>Hy (Below r.heap.size r b)/\pM g C E L b) aj (by simp[fin,mX,fK,List.range,List.range.loop,Act.put];rfl) aj aj ⟨fC v.o,zh B.o.drew⟩ ?_ ?_
      ·refine⟨jM,jO,jO,λL b q l u a=>?_,jO,jM,jO,jO,λL b q l u a=>?_,jM,λL b q l u a=>?_,jO,λL b q l u a=>?_,jO,λL b q l u a=>?_,jM,jM,jM,jO,jO,λL b q l u a=>?_,jM,λL b q l u a=>?_,jM,λL b q l u a=>?_,λL b q l u a=>?_,jO,jM,trivial⟩
       ·have x:b.cell? p=some (qI k):=(D.o.keep a.1.o).kind;exact jv (qI k) b (bE x) ⟨rfl,a⟩
       ·have x:b.cell? (aF p 3)=some (.slice (some f) ks.length cap):=(D.o.keep a.1.o).kids;exact jv (.slice (some f) ks.length cap) b (bE x) ⟨rfl,a⟩
       ·skip
        exact jv (az (f.add (c*4))) b (nL J) ⟨rfl,a⟩
       ·have x:b.cell? (f.add (c*4))=some (qI o):=(O.o.keep a.1.o).kind;exact jv (qI o) b (bE x) ⟨rfl,a⟩
       ·skip
        exact jv (.bool false) b (bE P) ⟨rfl,a⟩
       ·have x:b.cell? (aF p 3)=some (.slice (some f) ks.length cap):=(D.o.keep a.1.o).kids;exact jv (.slice (some f) ks.length cap) b (bE x) ⟨rfl,a⟩
       ·skip
        exact jv (az (f.add (c*4))) b (nL J) ⟨rfl,a⟩
       ·skip
        exact jv (qI ((d+1:Nat):Int)) b (bE N) ⟨rfl,a⟩
       ·have a3:L 25=false:=q;simp only[List.map,a3] at a;refine jc 71 (#[qP g,az (f.add (c*4)),qI ((d+1:Nat):Int)]) b aj ((b1.o (.mk o V W X) (f.add (c*4)) b5 b6 g C (d+1) r b b8.o O.o a.1.o a.2.o Z a0 aa).mono ?_);rintro e a4 ⟨rfl,a5,a6⟩;exact⟨_,rfl,by rw[a2.o],a6,show Hy (au a4 g 105 (fu E)) from zh (by rw[K.o];exact a5)⟩
      ·intro b a;have v:=a.1;have B:=a.2;clear a;go_wp2;go_roundw
       case rel=>exact⟨c+1,E,aa,bi,c9.o,c8,B,v⟩
       case measure=>simp[intOf];omega
    ·rw[P] at Y;rw[<-Y.o,ak rfl] at H;have z:=ah (jJ (.mk k s cols ks) d n=(false,C)) (by rw[F.o,Na (j:=c+1) (by rw[H.o]),H.o]);obtain⟨E,Q⟩:∃E,E=C:=⟨_,rfl⟩
     have K:=zh Q;clear Q;refine ql [az p,az p,az p,qI k,.bool (k==1),az p,az p,aR p.block (p.off+3),.slice (some f) ks.length cap,qI c,az (f.add (c*4)),az (f.add (c*4)),qI o,.bool (o==1),.bool true,.bool true,undef,undef,undef,undef,undef,undef,undef,undef,undef,undef,undef,.bool true] (qt 16 (qf 11 (qt 1 []))) (λb=>Hy (Below r.heap.size r b)/\Hy (au b g 105 (fu C))) ⟨fC v.o,zh B.o.drew⟩ ?_ ?_
     ·refine⟨jA,jB,jB,jQ λb a=>(show b.cell? p=some (qI k) from(D.o.keep a.1.o).kind),jB,jA,jB,jB,jQ λb a=>(show b.cell? (aF p 3)=some (.slice (some f) ks.length cap) from(D.o.keep a.1.o).kids),jA,λb a=>?_,jB,jQ λb a=>(show b.cell? (f.add (c*4))=some (qI o) from(O.o.keep a.1.o).kind),jB,λb a=>?_,jA,rfl,rfl,rfl,rfl,rfl,rfl,rfl,rfl,rfl,rfl,rfl,jA,trivial⟩
      ·skip
       exact jv (az (f.add (c*4))) b (nL J) ⟨rfl,a⟩
      ·skip
       exact jv (.bool true) b (bE P) ⟨rfl,a⟩
     ·intro b a;have v:=a.1;have B:=a.2;clear a;go_wp2;go_ret;exact⟨aU (by rw[z.o]),by rw[z.o];exact B.o,v.o⟩
   ·obtain rfl:c=ks.length:=by omega
    rw[bW] at a1;rw[a1.o] at F;go_wp2;go_ret;exact⟨aU (by rw[F.o]),by rw[F.o];exact B.o,v.o⟩
def Nc {P:Program}{ops:Array Oper}{c:List Oper}{o:Oper}{a:Act}{w:World}{Q:Exit->Act->World->Prop}(e:o.guard=none)(t:TypeId)(b:Array (Nat×Operand))(f:o.op= .build t b)(cells:Array Value)
  (d:P.built t (b.map λ(i,x)=>(i,a.eval x)).toList=some cells) (h:wpList P ops Q c (a.put o.dst (.agg cells)) w):wpList P ops Q (o::c) a w:=
 wpList_build e t b f (by rw[d];rfl) (by rw[d];exact h)
def IZ (t:aG)(c:Array Value)(w:World)(n:lX w t c):Calls prog 46 #[.agg c] w λe w'=>e= .returned (.bool (yC t))/\Below w.heap.size w w':=by
 obtain⟨k,s,cols,ks⟩:=t;have g:=zh (Ro (.mk k s cols ks));obtain⟨h,i,rfl,o,p,q,m⟩:=n.form;dsimp only[qC,aG.kind,aG.text,aG.cols,aG.kids] at o p q m⊢;rw[FN] at g;have a:=zh (au.new w 31 (gu k s cols h ks.length i));have b:=zh (aN w (.cells (gu k s cols h ks.length i) 31));have j:=zh (m.keep b.o);clear m n;dsimp only[gu] at a b j;go_enter func46,ntmps46;go_wp2_with fail;generalize w.alloc (.cells #[qI k,.string s,qI cols,.slice h ks.length i] 31)=u at*;refine(TT u).mono ?_;rintro e f ⟨rfl,d⟩;have a:=kp d a;have j:=zh (j.o.keep d);have b:=jt b d;clear d
 by_cases l:k=1
 ·subst l;rw[aJ rfl,aW] at g;have r:=(a.o.alloc (.cells (fu 0) 105)).cell 0;go_wp2_with (refine Nc rfl 105 #[(0,.tmp 4)] rfl (fu 0) aj ?_)
  have v:=zh (au.new f 105 (fu 0));have x:=zh (aN f (.cells (fu 0) 105));have y:=ah (nE f (ag w.heap.size (0)) (.mk 1 s cols ks) h i) ⟨a.o.lt,a.o.cell 0,a.o.cell 1,a.o.cell 2,a.o.cell 3,o,p,q,j.o⟩;refine(Uf (dK (.mk 1 s cols ks)+1) (.mk 1 s cols ks) (ag w.heap.size (0)) h i f.heap.size 0 1 f _ aa y.o x.o v.o (aH _) aa aa).mono ?_;rintro e A ⟨rfl,_,d⟩;have z:=jt b d;clear d r;go_wp2;go_ret;exact⟨aU g.o.symm,z.o⟩
 ·have B:(k==1)=false:=bn l;rw[aK l,bL] at g;clear l;have r:=(a.o.alloc (.cells (fu 0) 105)).cell 0;go_wp2_with (refine Nc rfl 105 #[(0,.tmp 4)] rfl (fu 0) aj ?_)
  go_ret;exact⟨aU g.o.symm,b.o.trans ((aN f _).mono b.o.size)⟩
def Ei (A:Option Addr)(n cap:Nat)(w:World):Calls prog 52 #[.slice A n cap] w λe w'=>e= .returned (.agg (gu 1 ⟨#[]⟩ 0 A n cap))/\Below w.heap.size w w':=by
 go_enter func52,ntmps52;go_wp2_with fail;have N:=zh (au.new w 31 (gu 1 ⟨#[]⟩ 0 A n cap));have a:=zh (aN w (.cells (gu 1 ⟨#[]⟩ 0 A n cap) 31));dsimp only[gu] at N a;generalize w.alloc (.cells #[qI 1,qE,qI 0,.slice A n cap] 31)=b at*;have c:=N.o.cell;exact aB (v:=.agg (gu 1 ⟨#[]⟩ 0 A n cap)) (by simp[results,results52,go_sem,c]) rfl ⟨rfl,a.o⟩
end At
namespace El
open At Ch Sp Sy Go.RowKit
variable{w:World}{b n:Nat}{ks:List aG}
def Ja (s:List UInt8):∀(rs:List aD) (acc:List (List UInt8)),s∈rs.foldl Bd acc↔s∈acc\/(s≠[]/\∃r∈rs,r.sym.data.toList=s)
 |[],acc=>aS
 |r::rs,acc=>by
  rw[List.foldl_cons,Ja s rs];unfold Bd
  by_cases h:r.sym.data.toList=[]\/acc.contains r.sym.data.toList=true
  ·rw[ak h];constructor
   ·rintro(a|⟨a,x,b,c⟩)
    ·exact .inl a
    ·exact .inr ⟨a,x,dP _ b,c⟩
   ·rintro(a|⟨a,x,b,c⟩)
    ·exact .inl a
    ·rcases dD.1 b with rfl|b
     ·rcases h with h|h
      ·exact absurd (c.symm.trans h) a
      ·rw[c,rz] at h;exact .inl h
     ·exact .inr ⟨a,x,b,c⟩
  ·rw[ai h,iZ,iT];simp only[not_or] at h;constructor
   ·rintro((a|a)|⟨a,x,b,c⟩)
    ·exact .inl a
    ·exact .inr ⟨a▸h.1,r,bZ,a.symm⟩
    ·exact .inr ⟨a,x,dP _ b,c⟩
   ·rintro(a|⟨a,x,b,c⟩)
    ·exact .inl (.inl a)
    ·rcases dD.1 b with rfl|b
     ·exact .inl (.inr c.symm)
     ·exact .inr ⟨a,x,b,c⟩
def Nf (rs:List aD)(s:List UInt8):(qp rs).contains s=mD rs s:=by
 rw[fI,rz];unfold qp mD;rw[Ja,aM,List.any_eq_true];cases s with
 |nil=>simp
 |cons a r=>simp
structure wX (w:World)(g:Nat)(A:Option Addr)(cap:Nat)(rs:List aD):Prop where
 rul:fG w A rs
 box:∃b n D,au w g 130 #[.slice A rs.length cap,.map (some b)]/\sG w b n D/\zL D (qp rs)
def wX.keep {w w':World}{g:Nat}{A:Option Addr}{cap:Nat}{rs:List aD}(h:wX w g A cap rs)(a:Below w.heap.size w w'):wX w' g A cap rs:=by
 obtain⟨b,n,D,c,d,e⟩:=h.box;exact⟨h.rul.keep a,b,n,D,jL a c,uq (row:=none) d ⟨a.os,a.tape,a.output,a.size,λi f _=>a.block i f⟩ aS,e⟩
def FQ {D:DataW Unit}{rs:List aD}(d:sG w b n D)(e:zL D (qp rs)){s:ByteArray}(g:s.size<=9223372036854775807):(Instr.lookup 128 (.map (some b)) (.string s) false).run prog w= .ok (.bool (mD rs s.data.toList)) w:=by
 obtain⟨c,f,a⟩:=MF d uI underlying128 underlying4 (IR _) (rH (P:=prog) (k:=9) underlying9 (s:=s) gy);rw[e s.data.toList] at a;obtain rfl:(qp rs).contains s.data.toList=c:=by simpa using a
 rw[f,Nf]
def _root_.Go.Proofs.YtlefbenkhgbifaaGreatDoor.Sy.xO.strs {B cap:Nat}{A:Option Addr}{ps:List (List UInt8)}(h:xO w B (.slice A n cap) ps):BM w A ps:=by
 obtain⟨c,d,e,_,_,a⟩:=h.form;injection e with b;rw[b];exact a
def Ug (A:Option Addr)(cap:Nat)(rs:List aD)(w:World)(e:Ending)(w':World):Prop:=∃g,e= .returned (qP g)/\wX w' g A cap rs/\Below w.heap.size w w'
def Uh (A:Option Addr)(cap:Nat)(rs:List aD)(w:World)(m:fG w A rs)(F:rs.length<=1000000):Calls prog 68 #[.slice A rs.length cap] w (Ug A cap rs w):=by
 have G:= @run_makeMap prog;have n:=aN w (.map #[] 0);have s1:(w.alloc (.map #[] 0)).heap.size=w.heap.size+1:=aS
 have x:=aN (w.alloc (.map #[] 0)) (.cells #[.slice A rs.length cap,.map (some w.heap.size)] 130);have a:=zh (n.trans (x.mono n.size));have c:=ah (sG ((w.alloc (.map #[] 0)).alloc (.cells #[.slice A rs.length cap,.map (some w.heap.size)] 130)) w.heap.size 0 (.map [])) ((uo (H:=Unit) w prog 9 (plainElem prog 4)).alloc _);have d:=zh (au.new (w.alloc (.map #[] 0)) 130 #[.slice A rs.length cap,.map (some w.heap.size)]);rw[s1] at d;have I:=zh m;have j:=zh (m.keep a.o);clear m n x s1;go_enter func68,ntmps68;go_upto_region 2 with(fail)
 generalize (w.alloc (.map #[] 0)).alloc (.cells #[.slice A rs.length cap,.map (some w.heap.size)] 130)=o at*;clear G;go_wp2_with fail;refine(Ty A cap rs o j.o F).mono ?_;rintro e J ⟨v,rfl,q,f⟩;obtain⟨K,y,rfl,a4,a5,L⟩:=q.form;have g:=zh q;have a6:=zh a.o.size;have M:=ah ((qp rs).length<=1000000) (by have:=Ef rs rs.length;rw[bW] at this;omega);have N:=zh (show ∀p∈qp rs,p.length<=9223372036854775807 from λp h=>by
  obtain⟨a7,r,O,Q⟩:=((Ja p rs []).1 h).resolve_left aS;obtain⟨i,t⟩:=List.getElem?_of_mem O;obtain⟨R,_⟩:=j.o.at_ t;have:=R.1;rw[<-Q]
  simpa using this)
 replace d:=kp f d;replace j:=zh (j.o.keep f);replace c:=ah (sG J w.heap.size 0 (.map [])) (uq (row:=none) c.o ⟨f.os,f.tape,f.output,f.size,λi t _=>f.block i t⟩ aS);replace a:=jt a f;clear q f L;generalize z:qp rs=b at*;have S:=zh z;clear z;have a8:=M.o;go_wp2_with fail
 go_loopw [13] (λi wr=>∃(k:Nat) (D:DataW Unit),k<=b.length/\i= .int .i64 k/\Hy (sG wr w.heap.size k D)/\Hy (zL D (b.take k))/\Hy (xO wr o.heap.size (.slice K b.length y) b)/\Hy (au wr (w.heap.size+1) 130 #[.slice A rs.length cap,.map (some w.heap.size)])/\Hy (Below w.heap.size w wr)) (λi _=>b.length -(intOf i).toNat)
 case atStart=>exact⟨0,.map [],aa,rfl,c,zh MI,g,d,a⟩
 case round=>
  clear c g d j a;obtain⟨k,D,a9,rfl,c,u,g,d,a⟩:=hrel
  by_cases T:k<b.length
  ·obtain⟨p,h⟩:∃p,b[k]?=some p:=⟨_,gE T⟩
   obtain⟨U,rfl,b0,V⟩:=g.o.strs k p h;have W:=zh (N.o p (dQ h));have X:=zh (show zL (D.put (.string (jy p).data.toList) (.lit (.bool true))) (b.take (k+1)) by
    rw[dA,h,Lr];exact IL u.o (World.ownsMap.isMap c.o) _)
   have Y:=zh (rH (P:=prog) (k:=9) underlying9 (s:=jy p) (by unfold maxLen;have:=W.o;rw[show(jy p).size=p.length by simp[jy,ByteArray.size]];omega));have Z:=d.o.cell 1;clear h;go_wp2_with (at_mapUpdate;refine wpList_mapUpdate_own _ rfl _ _ _ 128 rfl 9 4 uI underlying128 _ w.heap.size k D rfl c.o gy _ _ _ rfl rfl Y.o (.lit (.bool true)) [] (plainElem_bool underlying4 true) ?_)
   intro B C l;have E:∀r,some w.heap.size=some r->w.heap.size<=r:=λr e=>av (sj e)
   have a0:=zh (a.o.grown l a.o.size E);have a1:=ah (xO B o.heap.size (.slice (some (ag U (0))) b.length y) b) (gM g.o l (.inr (IU c.o g.o)));have a2:=zh (d.o.grown l (λe=>av (sj e)));have a3:=ah (sG B w.heap.size (k+1) (D.put (.string (jy p).data.toList) (.lit (.bool true)))) C;clear C l E c g d a Z V;go_wp2;go_roundw
   case rel=>exact⟨k+1,_,aa,bi,a3,X,a1,a2,a0⟩
   case measure=>simp[intOf];omega
  ·obtain rfl:k=b.length:=by omega
   rw[bW] at u;go_wp2;go_ret;exact⟨w.heap.size+1,rfl,⟨I.o.keep a.o,w.heap.size,_,D,d.o,c.o,by rw[S.o];exact u.o⟩,a.o⟩
def fO (k:Int):Bool:=decide (k=7\/k=8\/k=9)
def Ui (k:Int)(s:ByteArray)(g:Int)(A:Option Addr)(n cap:Nat)(w:World):Calls prog 178 #[.agg #[.int .i64 k,.string s,.int .i64 g,.slice A n cap]] w λe w'=>e= .returned (.bool (fO k))/\Below w.heap.size w w':=by
 have f:=zh (aN w (.cells #[.int .i64 k,.string s,.int .i64 g,.slice A n cap] 31));have i:=zh (au.new w 31 #[.int .i64 k,.string s,.int .i64 g,.slice A n cap]);have j:=i.o.cell 0
 by_cases a:k=7
 ·have q:(k==7)=true:=aT.2 a;have b:=ah (fO k=true) (aJ (.inl a));clear a;go_enter func178,ntmps178;go_wp2;go_ret;exact⟨aU b.o.symm,f.o⟩
 have l:(k==7)=false:=bn a
 by_cases c:k=8
 ·have q:(k==8)=true:=aT.2 c;have b:=ah (fO k=true) (aJ (.inr (.inl c)));clear a c;go_enter func178,ntmps178;go_wp2;go_ret;exact⟨aU b.o.symm,f.o⟩
 have m:(k==8)=false:=bn c
 by_cases d:k=9
 ·have q:(k==9)=true:=aT.2 d;have b:=ah (fO k=true) (aJ (.inr (.inr d)));clear a c d;go_enter func178,ntmps178;go_wp2;go_ret;exact⟨aU b.o.symm,f.o⟩
 have o:(k==9)=false:=bn d;have b:=ah (fO k=false) (aK (by rintro(h|h|h)<;>contradiction));clear a c d;go_enter func178,ntmps178;go_wp2;go_ret;exact⟨aU b.o.symm,f.o⟩
def Jb {n:aG}(h:fO n.kind=false):eH n=n:=by
 unfold eH;unfold fO at h;rw[ai (kY h)]
def Ng {n b:aG}(a:n.kids=b::ks)(h:b.kids.length≠1):eH n=n:=by
 unfold eH;rw[a]
 split
 ·dsimp only
  split
  ·next x hx=>rw[hx] at h;simp at h
  ·rfl
 ·rfl
def Nh {n b x:aG}(a:fO n.kind=true)(c:n.kids=b::ks)(h:b.kids=[x]):eH n=x:=by
 unfold eH;unfold fO at a;rw[ak (bD a),c];dsimp only;rw[h]
def Jc {w':World}{D:DataW Unit}(h:sG w b n D)(a:Below w.heap.size w w'):sG w' b n D:=uq (row:=none) h ⟨a.os,a.tape,a.output,a.size,λi c _=>a.block i c⟩ aS
def add_zero' (a:Addr):a.add (0*4)=a:=by unfold Addr.add;cases a;simp
def kJ (w:World)(p:Addr)(u:Value):w.grownBy (w.setCell p u) (some p.block):=
 ⟨rfl,rfl,rfl,by simp[World.setCell],λk _ a=>xD _ _ _ _ (λe=>a (by simp[e]))⟩
def vJ {a b c:World}{row:Option Nat}(h:a.grownBy b row)(k:b.grownBy c row):a.grownBy c row:=
 ⟨k.os.trans h.os,k.tape.trans h.tape,k.output.trans h.output,ax h.size k.size,λi d e=>(k.block i (ll d h.size) e).trans (h.block i d e)⟩
def Ej (x:World)(g:Nat)(a b c d:Value):x.grownBy ((((x.setCell (ag g (0)) a).setCell (ag g (1)) b).setCell (ag g (2)) c).setCell (ag g (3)) d) (some g):=
 vJ (vJ (vJ (kJ x (ag g (0)) a) (kJ _ (ag g (1)) b)) (kJ _ (ag g (2)) c)) (kJ _ (ag g (3)) d)
def Em {x:World}{g:Nat}{t:TypeId}{e f i j:Value}(h:au x g t #[e,f,i,j])(a b c d:Value):au ((((x.setCell (ag g (0)) a).setCell (ag g (1)) b).setCell (ag g (2)) c).setCell (ag g (3)) d) g t #[a,b,c,d]:=(((h.set_ 0 a).set_ 1 b).set_ 2 c).set_ 3 d
def CS (g:Nat)(A:Option Addr)(cap:Nat)(rs:List aD)(n:aG)(c:Array Value)(w:World)(Y:wX w g A cap rs)(Z:lX w n c)(a0:fO n.kind=true->n.kids≠[]):Calls prog 159 #[qP g,.agg c] w λe w'=>e= .returned (.tuple #[.string (eH n).text,.bool (oh rs n)])/\Below w.heap.size w w':=by
 obtain⟨z,u,rfl,b3,c3,c4,a1⟩:=Z.form;obtain⟨b,y,D,O,P,C⟩:=Y.box;have E:=aN w (qO n z u);have k:=zh E;have h:=zh (au.new w 31 (qC n z u));have a2:=zh (And.intro O.lt P.lt);have q:=zh (ae E O);have r:=zh (Jc P E);have Q:=zh C;have R:=zh (a1.keep E);have b4:=zh a0;have J:=zh b3;clear Y Z a1 a0 O P C E;go_enter func159,ntmps159;go_upto_region 1 with(fail)
 generalize w.alloc (qO n z u)=b5 at*;have S:=h.o.cell;go_wp2_with fail;refine(Ui n.kind n.text n.cols z n.kids.length u b5).mono ?_;rintro e a3 ⟨rfl,B⟩;replace q:=kp B q;replace r:=zh (Jc r.o B);replace R:=zh (R.o.keep B);replace h:=kp B h;replace k:=jt k B;clear B S;cases F:fO n.kind
 ·have j:=zh (Jb F);clear F;go_upto_region 3 with(fail)
  by_cases f:n.kind=2
  ·have l:(n.kind==2)=true:=aT.2 f;have m:=ah (oh rs n=mD rs n.text.data.toList) (by unfold oh;rw[j.o,aJ f,aW]);clear f;refine ql [aR w.heap.size (1),.string n.text,qP w.heap.size,.int .i64 n.kind,.bool true,.bool true,qP g,qP g,aR g (1),.map (some b),aR w.heap.size (1),.string n.text,.bool (mD rs n.text.data.toList),.bool (mD rs n.text.data.toList),.string n.text,.bool (mD rs n.text.data.toList)] (qt 16 []) (λa=>(au a g 130 #[.slice A rs.length cap,.map (some b)]/\sG a b y D)/\au a w.heap.size 31 (qC n z u)/\Below w.heap.size w a) ⟨⟨q.o.drew,oZ r.o⟩,h.o.drew,fC k.o⟩ ?_ ?_
   ·refine⟨jB,jQ λa d=>d.2.1.cell 1,jB,jQ λa d=>d.2.1.cell 0,λa d=>?_,jA,jA,jB,jB,jQ λa d=>d.1.1.cell 1,jB,jQ λa d=>d.2.1.cell 1,jQ λa d=>FQ d.1.2 Q.o (s:=n.text) J.o,jA,jA,jA,trivial⟩
    ·skip
     exact jv (.bool true) a (bE l) ⟨rfl,d⟩
   ·intro a d;have o:=zh d.2.2;clear d;generalize a=G at*;go_wp2;exact aB (v:=.tuple #[.string n.text,.bool (mD rs n.text.data.toList)]) (by simp[results,results159,go_sem]) rfl ⟨by rw[m.o,j.o],o.o⟩
  ·have l:(n.kind==2)=false:=bn f;have m:=ah (oh rs n=false) (by unfold oh;rw[j.o,aK f,bL]);clear f;refine ql [aR w.heap.size (1),.string n.text,qP w.heap.size,.int .i64 n.kind,.bool false,.bool false,undef,undef,undef,undef,undef,undef,undef,.bool false,.string n.text,.bool false] (qt 6 (qf 7 (qt 3 []))) (λa=>(au a g 130 #[.slice A rs.length cap,.map (some b)]/\sG a b y D)/\au a w.heap.size 31 (qC n z u)/\Below w.heap.size w a) ⟨⟨q.o.drew,oZ r.o⟩,h.o.drew,fC k.o⟩ ?_ ?_
   ·refine⟨jB,jQ λa d=>d.2.1.cell 1,jB,jQ λa d=>d.2.1.cell 0,λa d=>?_,jA,rfl,rfl,rfl,rfl,rfl,rfl,rfl,jA,jA,jA,trivial⟩
    ·skip
     exact jv (.bool false) a (bE l) ⟨rfl,d⟩
   ·intro a d;have o:=zh d.2.2;clear d;generalize a=G at*;go_wp2;exact aB (v:=.tuple #[.string n.text,.bool (false)]) (by simp[results,results159,go_sem]) rfl ⟨by rw[m.o,j.o],o.o⟩
 have b6:=zh F;obtain⟨p,ks,K⟩:∃p ks,n.kids=p::ks:=by
  cases b7:n.kids with
  |nil=>exact absurd b7 (b4.o F)
  |cons p ks=>exact⟨p,ks,rfl⟩
 obtain⟨a4,c5,c6,b8,c7,_,c8,c9,a5,d0,T,U,V,L⟩:=R.o.at_ (i:=0) (t:=p) (by rw[K];rfl);subst b8;rw[add_zero'] at T U V L;have a6:=zh K;have b9:(0:Int)<(n.kids.length:Int):=by rw[K,aY];omega
 have a7:=h.o.cell 3;clear K F
 by_cases M:p.kids.length=1
 ·obtain⟨x,W⟩:∃x,p.kids=[x]:=List.length_eq_one_iff.1 M;obtain⟨d1,H,I,c0,d2,c1,_,_,_,_,a8,a9,b0,b1⟩:=a5.at_ (i:=0) (t:=x) (by rw[W];rfl);subst c0;rw[add_zero'] at a8 a9 b0 b1;have j:=zh (Nh b6.o a6.o W);have J:=zh c1;have b2:(p.kids.length:Int)=1:=by omega
  have X:((p.kids.length:Int)==1)=true:=by rw[b2];rfl
  have S:=h.o.cell;have c2:=h.o.frozen;clear W M a5;rw[show p.kids.length=1 from aa] at L;clear b2 X;go_upto_region 3 with(fail)
  have N:=Ej a3 w.heap.size (.int .i64 x.kind) (.string x.text) (.int .i64 x.cols) (.slice H x.kids.length I);have C:=Em h.o (.int .i64 x.kind) (.string x.text) (.int .i64 x.cols) (.slice H x.kids.length I);replace q:=zh (q.o.grown N (λe=>aV (sj e) a2.o.1));replace r:=ah (sG _ b y D) (uq r.o N (λe=>aV (sj e) a2.o.2));replace k:=zh (k.o.grown N k.o.size λd3 e=>av (sj e));clear h S c2 a7 T U V L a8 a9 b0 b1 N;have h:=zh C;clear C;generalize (((a3.setCell (ag w.heap.size (0)) (.int .i64 x.kind)).setCell (ag w.heap.size (1)) (.string x.text)).setCell (ag w.heap.size (2)) (.int .i64 x.cols)).setCell (ag w.heap.size (3)) (.slice H x.kids.length I)=d4 at*
  by_cases f:x.kind=2
  ·have l:(x.kind==2)=true:=aT.2 f;have m:=ah (oh rs n=mD rs x.text.data.toList) (by unfold oh;rw[j.o,aJ f,aW]);clear f;refine ql [aR w.heap.size (1),.string x.text,qP w.heap.size,.int .i64 x.kind,.bool true,.bool true,qP g,qP g,aR g (1),.map (some b),aR w.heap.size (1),.string x.text,.bool (mD rs x.text.data.toList),.bool (mD rs x.text.data.toList),.string x.text,.bool (mD rs x.text.data.toList)] (qt 16 []) (λa=>(au a g 130 #[.slice A rs.length cap,.map (some b)]/\sG a b y D)/\au a w.heap.size 31 (qC x H I)/\Below w.heap.size w a) ⟨⟨q.o.drew,oZ r.o⟩,h.o.drew,fC k.o⟩ ?_ ?_
   ·refine⟨jB,jQ λa d=>d.2.1.cell 1,jB,jQ λa d=>d.2.1.cell 0,λa d=>?_,jA,jA,jB,jB,jQ λa d=>d.1.1.cell 1,jB,jQ λa d=>d.2.1.cell 1,jQ λa d=>FQ d.1.2 Q.o (s:=x.text) J.o,jA,jA,jA,trivial⟩
    ·skip
     exact jv (.bool true) a (bE l) ⟨rfl,d⟩
   ·intro a d;have o:=zh d.2.2;clear d;generalize a=G at*;go_wp2;exact aB (v:=.tuple #[.string x.text,.bool (mD rs x.text.data.toList)]) (by simp[results,results159,go_sem]) rfl ⟨by rw[m.o,j.o],o.o⟩
  ·have l:(x.kind==2)=false:=bn f;have m:=ah (oh rs n=false) (by unfold oh;rw[j.o,aK f,bL]);clear f;refine ql [aR w.heap.size (1),.string x.text,qP w.heap.size,.int .i64 x.kind,.bool false,.bool false,undef,undef,undef,undef,undef,undef,undef,.bool false,.string x.text,.bool false] (qt 6 (qf 7 (qt 3 []))) (λa=>(au a g 130 #[.slice A rs.length cap,.map (some b)]/\sG a b y D)/\au a w.heap.size 31 (qC x H I)/\Below w.heap.size w a) ⟨⟨q.o.drew,oZ r.o⟩,h.o.drew,fC k.o⟩ ?_ ?_
   ·refine⟨jB,jQ λa d=>d.2.1.cell 1,jB,jQ λa d=>d.2.1.cell 0,λa d=>?_,jA,rfl,rfl,rfl,rfl,rfl,rfl,rfl,jA,jA,jA,trivial⟩
    ·skip
     exact jv (.bool false) a (bE l) ⟨rfl,d⟩
   ·intro a d;have o:=zh d.2.2;clear d;generalize a=G at*;go_wp2;exact aB (v:=.tuple #[.string x.text,.bool (false)]) (by simp[results,results159,go_sem]) rfl ⟨by rw[m.o,j.o],o.o⟩
 ·have j:=zh (Ng a6.o M);have X:((p.kids.length:Int)==1)=false:=by rw[aZ];omega
  clear M;go_upto_region 3 with(fail)
  clear X a7 T U V L b9
  by_cases f:n.kind=2
  ·have l:(n.kind==2)=true:=aT.2 f;have m:=ah (oh rs n=mD rs n.text.data.toList) (by unfold oh;rw[j.o,aJ f,aW]);clear f;refine ql [aR w.heap.size (1),.string n.text,qP w.heap.size,.int .i64 n.kind,.bool true,.bool true,qP g,qP g,aR g (1),.map (some b),aR w.heap.size (1),.string n.text,.bool (mD rs n.text.data.toList),.bool (mD rs n.text.data.toList),.string n.text,.bool (mD rs n.text.data.toList)] (qt 16 []) (λa=>(au a g 130 #[.slice A rs.length cap,.map (some b)]/\sG a b y D)/\au a w.heap.size 31 (qC n (some a4) u)/\Below w.heap.size w a) ⟨⟨q.o.drew,oZ r.o⟩,h.o.drew,fC k.o⟩ ?_ ?_
   ·refine⟨jB,jQ λa d=>d.2.1.cell 1,jB,jQ λa d=>d.2.1.cell 0,λa d=>?_,jA,jA,jB,jB,jQ λa d=>d.1.1.cell 1,jB,jQ λa d=>d.2.1.cell 1,jQ λa d=>FQ d.1.2 Q.o (s:=n.text) J.o,jA,jA,jA,trivial⟩
    ·skip
     exact jv (.bool true) a (bE l) ⟨rfl,d⟩
   ·intro a d;have o:=zh d.2.2;clear d;generalize a=G at*;go_wp2;exact aB (v:=.tuple #[.string n.text,.bool (mD rs n.text.data.toList)]) (by simp[results,results159,go_sem]) rfl ⟨by rw[m.o,j.o],o.o⟩
  ·have l:(n.kind==2)=false:=bn f;have m:=ah (oh rs n=false) (by unfold oh;rw[j.o,aK f,bL]);clear f;refine ql [aR w.heap.size (1),.string n.text,qP w.heap.size,.int .i64 n.kind,.bool false,.bool false,undef,undef,undef,undef,undef,undef,undef,.bool false,.string n.text,.bool false] (qt 6 (qf 7 (qt 3 []))) (λa=>(au a g 130 #[.slice A rs.length cap,.map (some b)]/\sG a b y D)/\au a w.heap.size 31 (qC n (some a4) u)/\Below w.heap.size w a) ⟨⟨q.o.drew,oZ r.o⟩,h.o.drew,fC k.o⟩ ?_ ?_
   ·refine⟨jB,jQ λa d=>d.2.1.cell 1,jB,jQ λa d=>d.2.1.cell 0,λa d=>?_,jA,rfl,rfl,rfl,rfl,rfl,rfl,rfl,jA,jA,jA,trivial⟩
    ·skip
     exact jv (.bool false) a (bE l) ⟨rfl,d⟩
   ·intro a d;have o:=zh d.2.2;clear d;generalize a=G at*;go_wp2;exact aB (v:=.tuple #[.string n.text,.bool (false)]) (by simp[results,results159,go_sem]) rfl ⟨by rw[m.o,j.o],o.o⟩
end El
namespace Sp
open At Go.RowKit
def Ni (c:UInt8)(w:World):Calls prog 154 #[.int .u8 (c.toNat:Int)] w λe w'=>e= .returned (.bool (bU c))/\w=w':=by
 have h:=c.toNat_lt
 by_cases b:97<=c.toNat
 ·by_cases d:c.toNat<=122
  ·have a:=ah (bU c=true) (by unfold bU;rw[aJ b,aJ d];rfl);go_enter func154,ntmps154;go_wp2;go_ret;exact⟨aU (by first|exact a.o.symm|(rw[a.o];simp;omega)),rfl⟩
  ·have a:=ah (bU c=false) (by unfold bU;rw[aK d,bF,aK (show ¬c.toNat<=90 from aa),bF];rfl);go_enter func154,ntmps154;go_wp2;go_ret;exact⟨aU (by first|exact a.o.symm|(rw[a.o];simp;omega)),rfl⟩
 ·by_cases f:65<=c.toNat
  ·by_cases g:c.toNat<=90
   ·have a:=ah (bU c=true) (by unfold bU;rw[aJ f,aJ g,kT];exact .inr rfl);go_enter func154,ntmps154;go_wp2;go_ret;exact⟨aU (by first|exact a.o.symm|(rw[a.o];simp;omega)),rfl⟩
   ·have a:=ah (bU c=false) (by unfold bU;rw[aK b,aK g,bF];rfl);go_enter func154,ntmps154;go_wp2;go_ret;exact⟨aU (by first|exact a.o.symm|(rw[a.o];simp;omega)),rfl⟩
  ·have a:=ah (bU c=false) (by unfold bU;rw[aK b,aK f];rfl);go_enter func154,ntmps154;go_wp2;go_ret;exact⟨aU (by first|exact a.o.symm|(rw[a.o];simp;omega)),rfl⟩
def Uj (s:ByteArray)(w:World)(t:s.size<=9223372036854775807):Calls prog 123 #[.string s] w λe w'=>e= .returned (.bool (ky s.toList))/\w=w':=by
 go_enter func123,ntmps123;go_wp2_with fail
 go_loop [3] (λi=>∃k:Nat,k<=s.size/\i=qI k/\Hy (∀(j:Nat) (c:j<s.size),j<k->bU s[j]=true)) (λi=>s.size -(intOf i).toNat)
 case atStart=>exact⟨0,aa,rfl,λj _ h=>aa⟩
 case round=>
  obtain⟨k,u,rfl,l⟩:=hrel
  by_cases q:k<s.size
  ·have d:=zh (λw=>Ni s[k] w);cases b:bU s[k]
   ·have f:=zh (vV q b);rw[b] at d;clear b;go_wp2_with fail;refine(d.o _).mono ?_;rintro e w' ⟨rfl,rfl⟩;go_wp2;go_ret;exact⟨aU (by unfold ky tY;rw[f.o];rfl),rfl⟩
   ·have r:=zh b;rw[b] at d;clear b;go_wp2_with fail;refine(d.o _).mono ?_;rintro e w' ⟨rfl,rfl⟩;go_wp2;go_round
    case rel=>exact⟨k+1,aa,bi,λj c h=>by
     rcases bu j k with m|m
     ·exact l.o j c m
     ·obtain rfl:j=k:=by omega
      exact r.o⟩
    case measure=>simp[intOf];omega
  ·have f:=zh (yY (s:=s) (p:=bU) λj c=>l.o j c aa);have g:=zh (Bv s)
   by_cases n:1<=s.size
   ·by_cases o:s.size<=16
    ·have a:=ah (ky s.toList=true) (by unfold ky tY;rw[f.o,g.o,aJ n,aJ o];rfl);go_wp2;go_ret;exact⟨aU (by first|exact a.o.symm|(rw[a.o];simp;omega)),rfl⟩
    ·have a:=ah (ky s.toList=false) (by unfold ky;rw[g.o,aK o,bF,bF]);go_wp2;go_ret;exact⟨aU (by first|exact a.o.symm|(rw[a.o];simp;omega)),rfl⟩
   ·have a:=ah (ky s.toList=false) (by unfold ky;rw[g.o,aK n,bL,bF]);go_wp2;go_ret;exact⟨aU (by first|exact a.o.symm|(rw[a.o];simp;omega)),rfl⟩
def wh (a:Nat)(c:UInt8):Bool:=decide (a<=c.toNat)&&decide (c.toNat<=126)
def Uk (s:ByteArray)(a n:Nat)(w:World)(m:s.size<=9223372036854775807):Calls prog 121 #[.string s,.int .u8 (a:Int),qI (n:Int)] w λe w'=>e= .returned (.bool (oH a s.toList&&decide (s.size<=n)))/\w=w':=by
 go_enter func121,ntmps121;go_wp2_with fail
 go_loop [7] (λi=>∃k:Nat,k<=s.size/\i=qI k/\Hy (∀(j:Nat) (c:j<s.size),j<k->wh a s[j]=true)) (λi=>s.size -(intOf i).toNat)
 case atStart=>exact⟨0,aa,rfl,λj _ h=>aa⟩
 case round=>
  obtain⟨k,o,rfl,d⟩:=hrel
  by_cases f:k<s.size
  ·by_cases q:(s[k].toNat:Int)<(a:Int)
   ·have b:=zh (vV (p:=wh a) f (by unfold wh;rw[aK aa];rfl));go_wp2;go_ret;exact⟨aU (by rw[show oH a s.toList=false from b.o,bL]),rfl⟩
   ·by_cases r:126<(s[k].toNat:Int)
    ·have b:=zh (vV (p:=wh a) f (by unfold wh;rw[aK (p:=s[k].toNat<=126) aa,bF]));go_wp2;go_ret;exact⟨aU (by rw[show oH a s.toList=false from b.o,bL]),rfl⟩
    ·have l:=ah (wh a s[k]=true) (by unfold wh;rw[aJ aa,aJ aa];rfl);go_wp2;go_round
     case rel=>exact⟨k+1,aa,bi,λj c h=>by
      rcases bu j k with g|g
      ·exact d.o j c g
      ·obtain rfl:j=k:=by omega
       exact l.o⟩
     case measure=>simp[intOf];omega
  ·have b:=zh (yY (s:=s) (p:=wh a) λj c=>d.o j c aa);go_wp2;go_ret;exact⟨aU (by rw[show oH a s.toList=true from b.o,aW]),rfl⟩
def Ul (s:ByteArray)(a n:Nat)(w:World)(m:s.size<=9223372036854775807):Calls prog 115 #[.string s,.int .u8 (a:Int),qI (n:Int)] w λe w'=>e= .returned (.bool (oH a s.toList&&decide (s.size<=n)))/\w=w':=by
 go_enter func115,ntmps115;go_wp2_with fail
 go_loop [7] (λi=>∃k:Nat,k<=s.size/\i=qI k/\Hy (∀(j:Nat) (c:j<s.size),j<k->wh a s[j]=true)) (λi=>s.size -(intOf i).toNat)
 case atStart=>exact⟨0,aa,rfl,λj _ h=>aa⟩
 case round=>
  obtain⟨k,o,rfl,d⟩:=hrel
  by_cases f:k<s.size
  ·by_cases q:(s[k].toNat:Int)<(a:Int)
   ·have b:=zh (vV (p:=wh a) f (by unfold wh;rw[aK aa];rfl));go_wp2;go_ret;exact⟨aU (by rw[show oH a s.toList=false from b.o,bL]),rfl⟩
   ·by_cases r:126<(s[k].toNat:Int)
    ·have b:=zh (vV (p:=wh a) f (by unfold wh;rw[aK (p:=s[k].toNat<=126) aa,bF]));go_wp2;go_ret;exact⟨aU (by rw[show oH a s.toList=false from b.o,bL]),rfl⟩
    ·have l:=ah (wh a s[k]=true) (by unfold wh;rw[aJ aa,aJ aa];rfl);go_wp2;go_round
     case rel=>exact⟨k+1,aa,bi,λj c h=>by
      rcases bu j k with g|g
      ·exact d.o j c g
      ·obtain rfl:j=k:=by omega
       exact l.o⟩
     case measure=>simp[intOf];omega
  ·have b:=zh (yY (s:=s) (p:=wh a) λj c=>d.o j c aa);go_wp2;go_ret;exact⟨aU (by rw[show oH a s.toList=true from b.o,aW]),rfl⟩
def Um (s:ByteArray)(h:0<s.size):s.toList.headD 0=s[0]:=by
 rw[bz];obtain⟨⟨l⟩⟩:=s;cases l with
 |nil=>simp[ByteArray.size] at h
 |cons a r=>rfl
def Nj (s:ByteArray):s.toList.isEmpty=decide (s.size=0):=by
 rw[<-Bv s];cases s.toList<;>simp
def FR (s:ByteArray)(w:World)(h:s.size<=9223372036854775807):Calls prog 122 #[.string s] w λe w'=>e= .returned (.bool (mY s.toList))/\Below w.heap.size w w':=by
 have a:=ah (mY s.toList=(!s.toList.isEmpty&&(bU (s.toList.headD 0)&&fV s.toList))) ((Tp _).symm)
 by_cases f:s.size=0
 ·have d:s.toList.isEmpty=true:=by rw[Nj,aJ f]
  rw[d] at a;go_enter func122,ntmps122;go_wp2;go_ret;exact⟨aU (by rw[a.o];rfl),aL _ _⟩
 ·have d:s.toList.isEmpty=false:=by rw[Nj,aK f]
  have i:0<s.size:=aa
  rw[d,Um s i,ry,aW] at a;have c:=zh (λw=>Ni s[0] w);cases b:bU s[0]
  ·rw[b] at c a;clear b;go_enter func122,ntmps122;go_wp2_with fail;refine(c.o _).mono ?_;rintro e w' ⟨rfl,rfl⟩;go_wp2;go_ret;exact⟨aU (by rw[a.o];rfl),aL _ _⟩
  ·rw[b,aW] at a;rw[b] at c;clear b;go_enter func122,ntmps122;go_wp2_with fail;refine(c.o _).mono ?_;rintro e w' ⟨rfl,rfl⟩;go_wp2_with fail;refine(CF s _ h).mono ?_;rintro e w' ⟨rfl,g⟩;have j:=zh g;clear g;go_wp2;go_ret;exact⟨aU (by rw[a.o]),j.o⟩
def FT (s:ByteArray)(w:World)(d:s.size<=9223372036854775807):Calls prog 114 #[.string s] w λe w'=>e= .returned (.bool (mY s.toList))/\Below w.heap.size w w':=by
 have b:=ah (mY s.toList=(ky s.toList&&fV s.toList)) rfl;have c:=zh (λw=>DV s w d);cases a:ky s.toList
 ·rw[a] at c b;clear a;go_enter func114,ntmps114;go_wp2_with fail;refine(c.o _).mono ?_;rintro e w' ⟨rfl,rfl⟩;go_wp2;go_ret;exact⟨aU (by rw[b.o];rfl),aL _ _⟩
 ·rw[a,aW] at b;rw[a] at c;clear a;go_enter func114,ntmps114;go_wp2_with fail;refine(c.o _).mono ?_;rintro e w' ⟨rfl,rfl⟩;go_wp2_with fail;refine(yD s _ d).mono ?_;rintro e w' ⟨rfl,f⟩;have g:=zh f;clear f;go_wp2;go_ret;exact⟨aU (by rw[b.o]),g.o⟩
end Sp
namespace El
open At Ch Sp Sy Go.RowKit
variable{w:World}{rs:List aD}{l:List aG}{k:Nat}{x:aG}{ts:List ByteArray}
def Jd {n:aG}{c:Array Value}(h:lX w n c):(eH n).text.size<=9223372036854775807:=by
 obtain⟨g,j,rfl,a,_,_,d⟩:=h.form;unfold eH
 split
 ·split
  ·next b ks hks=>
   split
   ·next x hx=>
    obtain⟨_,k,_,_,_,_,_,_,e,_⟩:=d.at_ (i:=0) (t:=b) (by rw[hks];rfl);obtain⟨_,_,_,_,_,f,_⟩:=e.at_ (i:=0) (t:=x) (by rw[hx];rfl);exact f
   ·exact a
  ·exact a
 ·exact a
def iM (rs:List aD)(n:aG):ByteArray:=if oh rs n=true then(eH n).text else xK
def ma (rs:List aD)(n:aG):Bool:=oh rs n|| !(decide (n.kind=2))||mY n.text.data.toList
def FU (rs:List aD)(n:aG):xZ rs n=if ma rs n=true then some (iM rs n) else none:=by
 unfold xZ iM ma;cases oh rs n
 ·by_cases h:n.kind=2
  ·cases mY n.text.data.toList<;>simp[h]
  ·simp[h]
 ·simp
def Je (rs:List aD):∀(a b:List aG),jP rs (a++b)=match jP rs a with
  | .inl ts=>(match jP rs b with
   | .inl us=>.inl (ts++us)
   | .inr i=>.inr (a.length+i))
  | .inr i=>.inr i
 |[],b=>by
  simp only[iA,jP,gZ,fe];cases jP rs b<;>rfl
 |x::a,b=>by
  simp only[iB,jP];cases xZ rs x with
  |none=>rfl
  |some t=>
   dsimp only;rw[Je rs a b];cases jP rs a with
   |inr i=>rfl
   |inl ts=>
    dsimp only;cases jP rs b with
    |inl us=>rfl
    |inr i=>simp only[aY];congr 1;omega
def FV (a:l[k]?=some x)(h:jP rs (l.take k)= .inl ts)(b:ma rs x=true):jP rs (l.take (k+1))= .inl (ts++[iM rs x]):=by
 rw[dA,a,Option.toList_some,Je,h];simp only[jP,FU,ak b]
def Nk (a:l[k]?=some x)(h:jP rs (l.take k)= .inl ts)(b:ma rs x=false):jP rs l= .inr k:=by
 obtain⟨c,d⟩:=bP.1 a;have e:l=l.take k++x::l.drop (k+1):=by rw[<-d,<-ib c,kw]
 have f:(l.take k).length=k:=by rw[eU];omega
 have:=Je rs (l.take k) (x::l.drop (k+1));rw[<-e,h] at this;rw[this];simp only[jP,FU,b,oW,if_false,f,rF]
def Al {rs:List aD}:∀{l:List aG} {ts:List ByteArray},jP rs l= .inl ts->ts.length=l.length
 |[],ts,h=>by simp only[jP,rJ] at h;rw[<-h];rfl
 |x::l,ts,h=>by
  simp only[jP] at h;cases b:xZ rs x with
  |none=>rw[b] at h;cases h
  |some t=>
   rw[b] at h;dsimp only at h;cases a:jP rs l with
   |inr i=>rw[a] at h;cases h
   |inl us=>
    rw[a] at h;simp only[rJ] at h;rw[<-h,aY,aY,Al a]
def Un (g:Nat)(A:Option Addr)(cap:Nat)(rs:List aD)(n:aG)(c:Array Value)(w:World)(p:wX w g A cap rs)(l:lX w n c)(r:fO n.kind=true->n.kids≠[]):Calls prog 130 #[qP g,.agg c] w λe w'=>e= .returned (.tuple #[.string (iM rs n),.bool (ma rs n)])/\Below w.heap.size w w':=by
 obtain⟨m,o,rfl,u,I,J,x⟩:=l.form;have k:=aN w (qO n m o);have b:=zh k;have h:=zh (au.new w 31 (qC n m o));have y:=zh (p.keep k);have z:=zh (l.keep k);have B:=zh r;have C:=zh u;clear p l x r k;go_enter func130,ntmps130;go_upto_region 1 with(fail)
 generalize w.alloc (qO n m o)=D at*;obtain⟨s,t,E,F⟩:=qb h;go_wp2_with fail;refine(CS g A cap rs n _ D y.o z.o B.o).mono ?_;rintro e G ⟨rfl,d⟩;replace h:=kp d h;replace b:=jt b d;clear d s t E F;have s:=h.o.cell 0;have t:=h.o.cell 1;cases a:oh rs n
 ·by_cases f:n.kind=2
  ·have q:(n.kind==2)=true:=aT.2 f;have H:(n.kind !=2)=false:=by rw[bne,q];rfl
   have i:=ah (iM rs n=xK) (by unfold iM;rw[a];rfl);have j:=ah (ma rs n=mY n.text.data.toList) (by unfold ma;rw[a,aJ f];rfl);clear f a;go_wp2_with fail;refine(FR n.text G C.o).mono ?_;rintro e K ⟨rfl,d⟩;replace b:=jt b d;clear d;go_wp2;exact aB (v:=.tuple #[.string ⟨#[35]⟩,.bool (mY n.text.toList)]) (by simp[results,results130,go_sem]) rfl ⟨by rw[i.o,j.o,bz];rfl,b.o⟩
  ·have q:(n.kind==2)=false:=bn f;have H:(n.kind !=2)=true:=by rw[bne,q];rfl
   have i:=ah (iM rs n=xK) (by unfold iM;rw[a];rfl);have j:=ah (ma rs n=true) (by unfold ma;rw[a,aK f];rfl);clear f a;go_wp2;exact aB (v:=.tuple #[.string ⟨#[35]⟩,.bool true]) (by simp[results,results130,go_sem]) rfl ⟨by rw[i.o,j.o];rfl,b.o⟩
 ·have i:=ah (iM rs n=(eH n).text) (by unfold iM;rw[a];rfl);have j:=ah (ma rs n=true) (by unfold ma;rw[a];rfl);clear a;go_wp2;exact aB (v:=.tuple #[.string (eH n).text,.bool true]) (by simp[results,results130,go_sem]) rfl ⟨by rw[i.o,j.o],b.o⟩
abbrev uJ (w:World)(B:Nat)(v:Value)(ts:List ByteArray):Prop:=w.ownsRow B 9 1 v ts.length (ts.map Value.string)
def uJ.snoc {B:Nat}{v:Value}{t:ByteArray}{n:Nat}{xs:List Value}(a:n=ts.length+1)(b:xs=ts.map Value.string++[.string t])(h:w.ownsRow B 9 1 v n xs):uJ w B v (ts++[t]):=by
 unfold uJ;rw[aO,dX];subst a b;exact h
def FW (rs:List aD)(l:List aG)(w:World)(e:Ending)(w':World):Prop:=(match jP rs l with
 | .inl ts=>∃v,e= .returned (.tuple #[v,qI 0,.bool true])/\uJ w' w.heap.size v ts
 | .inr i=>e= .returned (.tuple #[qN,qI (i:Int),.bool false]))/\Below w.heap.size w w'
def Uo (g:Nat)(A y:Option Addr)(cap Q:Nat)(rs:List aD)(l:List aG)(w:World)(z:wX w g A cap rs)(B:mO w y l)(C:∀n∈l,fO n.kind=true->n.kids≠[])(R:l.length<=1000000):Calls prog 96 #[qP g,.slice y l.length Q] w (FW rs l w):=by
 obtain⟨S,q,T,U,V⟩:=info_parts FL;have W:=zh z;have X:=zh B;have Y:=zh C;clear z B C;go_enter func96,ntmps96;go_wp2_with fail
 go_loopw [4,13] (λv i wr=>∃(k:Nat) (ts:List ByteArray),k<=l.length/\i=qI k/\Hy (jP rs (l.take k)= .inl ts)/\Hy (uJ wr w.heap.size v ts)/\Hy (Below w.heap.size w wr)) (λ_ i _=>l.length -(intOf i).toNat)
 case atStart=>exact⟨0,[],aa,rfl,zh rfl,zh (iR _ _ _ _),zh (aL _ _)⟩
 case round=>
  obtain⟨k,ts,D,rfl,c,r,a⟩:=hrel
  by_cases Z:k<l.length
  ·obtain⟨x,e⟩:∃x,l[k]?=some x:=⟨_,gE Z⟩
   obtain⟨b8,f,h,rfl,a0,b9,c0,c1,a1,E,a2,a3,a4,a5⟩:=(X.o.keep a.o).at_ e;have F:=zh e;have d:=zh E;have a6:=zh (Y.o x (dQ e));have G:=ah (ts.length=k) (by have:=Al c.o;rw[eU] at this;omega);have s:=aN wr (qO x f h);clear e E a1;go_upto_region 4 with(fail)
   have t:=jt a s;have H:=ah (uJ _ w.heap.size u4 ts) (rM r.o (qO x f h));have I:=zh (au.new wr 31 (qC x f h));replace d:=zh (d.o.keep s);have a7:=zh (W.o.keep t.o);clear s r a a2 a3 a4 a5 a0;generalize wr.alloc (qO x f h)=a8 at*;obtain⟨a9,b0,b1,b2⟩:=qb I;go_wp2_with fail;refine(Un g A cap rs x _ a8 a7.o d.o a6.o).mono ?_;rintro c2 J ⟨rfl,b⟩;obtain⟨c3,j⟩:∃_:Unit,Hy (uJ J w.heap.size u4 ts):=⟨(),zh (gM (row:=none) H.o ⟨b.os,b.tape,b.output,b.size,λi q _=>b.block i q⟩ (by cases u4.ownBlock<;>simp))⟩
   have a:=jt t b;have c4:=zh (show(iM rs x).size<=9223372036854775807 by
    unfold iM
    split
    ·exact Jd d.o
    ·decide)
   clear b a9 b0 b1 b2 I d H t;cases m:ma rs x
   ·have u:=zh (Nk F.o c.o m);clear m;go_wp2;exact aB (v:=.tuple #[qN,qI (k:Int),.bool false]) (by simp[results,results96,go_sem]) rfl ⟨by rw[u.o],a.o⟩
   ·have u:=zh (FV F.o c.o m);clear m;generalize iM rs x=o at*;obtain⟨K,p,rfl,c5,c6,_⟩:∃K p,u4= .slice K ts.length p/\ts.length<=p/\p<=9223372036854775807/\True:=by
     obtain⟨c7,b3⟩:=j.o;rcases b3 with⟨rfl,b4⟩|⟨c8,cap,c9,rfl,d0,b,R,d1,d2,d3⟩
     ·exact⟨none,0,by rw[b4],aa,aa,trivial⟩
     ·exact⟨_,cap,rfl,aa,by unfold maxLen at*;omega,trivial⟩
    have L:=rM j.o (.cells #[.string o] 9);have b5:=zh (bA j.o);have M:=zh a.o.size;go_wp2_with (at_builtin;refine oV _ rfl (.tmp 27) (.tmp 29) 62 rfl w.heap.size 9 S qE 1 16 underlying62 q T U V rfl aI _ _ _ rfl L (ag J.heap.size (0)) 1 1 [.string o] rfl rfl (Ch.Bb _ _ _) ?c2a ?c3a ?c4a ?c5a ?_)
    case c2a=>intro d4 N;simp at N;subst N;rfl
    case c3a=>have:=G.o;unfold maxLen;omega
    case c4a=>have:=G.o;omega
    case c5a=>have:=M.o;simp;omega
    intro d5 d6 O P _;have b6:=zh ((a.o.alloc a.o.size (.cells #[.string o] 9)).grown P (by have:=M.o;simp;omega) (λk D=>(b5.o k D).1));have b7:=zh (uJ.snoc rfl rfl O);clear L O P j a;go_wp2;go_roundw
    case rel=>exact⟨k+1,ts++[o],aa,bi,u,b7,b6⟩
    case measure=>simp[intOf];omega
  ·obtain rfl:k=l.length:=by omega
   have c:=ah (jP rs l= .inl ts) (by have:=c.o;rwa [bW] at this);go_wp2;exact aB (v:=.tuple #[u4,qI 0,.bool true]) (by simp[results,results96,go_sem]) rfl ⟨by rw[c.o];exact⟨_,rfl,r.o⟩,a.o⟩
end El
end Go.Proofs.YtlefbenkhgbifaaGreatDoor
