/- An operator of the reference of render. -/
import Derived.Test.YtlefbenkhgbifaaGreatDoorH611391ef
import Derived.Laws.BytesArg
set_option linter.all false
set_option maxRecDepth 100000
set_option maxHeartbeats 8000000
namespace Go.Proofs.YtlefbenkhgbifaaGreatDoor
open Tryz
namespace Rn
open At Ch Sp Sy El Go.RowKit
variable{w w':World}{ks xs:List aG}{css:List (Array Value)}{P:Nat->Prop}{B g:Nat}{A:Option Addr}{o:Oper}{F:Act}{x:aG}
def Py {ok:Nat->Prop}(e:css.length=ks.length)(h:∀(j:Nat) c x,css[j]?=some c->ks[j]?=some x->bC ok w x c):∀u∈css.flatMap (·.toList),u.oneCell'=true:=λu a=>by
 obtain⟨c,d,a⟩:=oo.1 a;obtain⟨j,b⟩:=gz.1 d;have f:=(bP.1 b).1;exact Gs (h j c ks[j] b (gE aa)) u a
def Pz {ok:Nat->Prop}{v:Value}{ys:List aG}(h:bN P w B v xs)(g:fw ok w A ys)(i:∀b,b<w.heap.size->ok b->v.ownBlock≠some b/\P b):∃d a:List Value,w.ownsRow B 31 4 v xs.length d/\dL w w.heap.size 4 A ys.length a/\(∀u∈a,u.oneCell'=true)/\∀v' w',w'.ownsRow B 31 4 v' (xs.length+ys.length) (d++a)->w.grownBy w' v.ownBlock->(v'.ownBlock=v.ownBlock\/v'.ownBlock=some w.heap.size)->bN P w' B v' (xs++ys):=by
 obtain⟨css,k,l,m⟩:=h;obtain⟨t,e,f,n⟩:=GI g;exact⟨_,_,k,n,Py e f,λv' w' o p q=>bN.zF8 l m e (λj c x r s=>(f j c x r s).any i) o p q⟩
def GK {ops:Array Oper}{d:List Oper}{a:Act}{Q:Exit->Act->World->Prop}(g:o.guard=none)(s x:Operand)(i:o.op= .call {callee:=.builtin .append,args:= #[s,x],argTypes:= #[29,29]})
  {P ok:Nat->Prop} {B c:Nat} {v:Value} {xs ys:List aG} {A:Option Addr} (j:a.eval s=v) (l:a.eval x= .slice A ys.length c) (h:bN P w B v xs) (m:fw ok w A ys) (n:∀b,b<w.heap.size->ok b->v.ownBlock≠some b/\P b) (G:xs.length+ys.length<=1000000) (p:B<=w.heap.size)
  (k:∀v' w',bN P w' B v' (xs++ys)->w.grownBy w' v.ownBlock->(v'.ownBlock=v.ownBlock\/v'.ownBlock=some w.heap.size)->wpList prog ops Q d (a.put o.dst v') w'):wpList prog ops Q (o::d) a w:=by
 obtain⟨q,r,t,u,y⟩:=Ck;obtain⟨H,I,z,C,D,E⟩:=Pz h m n;exact uG w g s x 29 i B 31 q (.agg bY) 4 56 underlying29 r t u y rfl aI v _ _ j z _ A ys.length c _ l C D gy aa p λv' w' F e f=>k v' w' (E v' w' F e f) e f
def GL (s x:Operand)(e:o.op= .call {callee:=.builtin .append,args:= #[s,x],argTypes:= #[29,29]})
  {P ok:Nat->Prop} {B c:Nat} {v:Value} {xs ys:List aG} {A:Option Addr} (f:F.eval s=v) (g:F.eval x= .slice A ys.length c) (h:bN P w B v xs) (i:fw ok w A ys) (j:∀b,b<w.heap.size->ok b->v.ownBlock≠some b/\P b) (C:xs.length+ys.length<=1000000) (k:B<=w.heap.size):
  aP prog (execOp F.eval o) w λv' w'=>bN P w' B v' (xs++ys)/\w.grownBy w' v.ownBlock/\(v'.ownBlock=v.ownBlock\/v'.ownBlock=some w.heap.size):=by
 obtain⟨l,m,n,p,q⟩:=Ck;obtain⟨D,E,r,t,u,y⟩:=Pz h i j;exact wQ s x 29 e B 31 l (.agg bY) 4 56 underlying29 m n p q rfl aI v _ _ f r _ A ys.length c _ g t u gy aa k λv' w' z a d=>⟨y v' w' z a d,a,d⟩
def fP.yIi {ok:Nat->Prop}{v:Value}(h:fP ok w B v xs)(n:∀b,v.ownBlock=some b->P b)(o:∀b,ok b->P b):∃A cap,v= .slice A xs.length cap/\xs.length<=cap/\cap<=9223372036854775807/\fw P w A xs:=by
 obtain⟨css,q,r,f⟩:=h;have k:=fP.size r f;rcases q.2 with⟨rfl,s⟩|⟨g,cap,t,rfl,F,u,y,z,G,C⟩
 ·obtain rfl:xs=[]:=eP.1 s;exact⟨none,0,rfl,aS,aa,λj p d=>by simp at d⟩
 ·have l:au w g 31 t:=u;refine⟨_,cap,rfl,y,by unfold maxLen at z;omega,λi x m=>⟨(ag g (0)),rfl,l.lt,n g rfl,?_⟩⟩;have H:=(bP.1 m).1;obtain⟨c,e⟩:∃c,css[i]?=some c:=⟨_,gE aa⟩
  refine⟨c,(f i c x e m).any λb _ h=>o b h,λj d=>?_⟩;have a:=ED css i j c k e d;have D:j<c.size:=by rw[k c (dQ e)];exact d
  have E:c[j]?=some c[j]:=cB D;rw[show(⟨g,0,none⟩:Addr).add (i*4+j)=(ag g (i*4+j)) by unfold Addr.add;split<;>simp_all,l.cell];rw[E] at a⊢;rw[<-C,gU] at a
  split at a
  ·rw[<-gF];exact a
  ·cases a
def fw.zUh {ok:Nat->Prop}{row:Option Nat}(h:fw ok w A ks)(a:w.grownBy w' row)(d:∀b,b<w.heap.size->ok b->some b≠row):fw ok w' A ks:=h.map a.size (λ_ _ h=>h) λp c e=>dm (a.block _ c (d _ c e))
def Xh {s:Sem Next}{R a:Value->World->Prop}(h:aP prog s w R)(k:∀v w',R v w'->a v w'):aP prog s w a:=by
 unfold aP at h⊢;generalize s.run prog w=x at h;cases x with
 |halt e w'=>exact h.elim
 |ok n w'=>
  cases n with
  |value v=>exact k _ _ h
  |skip=>exact k _ _ h
  |enter f args=>
   refine rA h λe d b=>?_
   obtain⟨v,rfl,c⟩:=b;exact⟨v,rfl,k _ _ c⟩
  |_=>exact h.elim
def Xi (s x:Operand)(q:o.op= .call {callee:=.builtin .append,args:= #[s,x],argTypes:= #[29,29]})
  {P ok:Nat->Prop} {B c g:Nat} {xs ys:List aG} {A:Option Addr} (r:F.eval s=ay (ag g (0)) xs.length xs.length) (t:F.eval x= .slice A ys.length c) (h:bN P w B (ay (ag g (0)) xs.length xs.length) xs) (a:fw ok w A ys) (K:∀b,b<w.heap.size->ok b->P b) (Y:xs.length+ys.length<=1000000) (L:B<=w.heap.size):
  aP prog (execOp F.eval o) w λv' w'=>bN P w' B v' (xs++ys)/\Below w.heap.size w w':=by
 obtain⟨u,i,M,N,O⟩:=Ck;obtain⟨css,l,m,z⟩:=h;obtain⟨Q,C,D,E⟩:=GI a;have Z:=Py C D
 by_cases R:ys.length=0
 ·obtain rfl:=eP.1 R;refine aP.value (v:=ay (ag g (0)) xs.length xs.length) (w':=w) ?_ ⟨by rw[bX];exact⟨css,l,m,z⟩,aL _ _⟩;unfold execOp;simp only[q,resolve,invoke,builtin,Sem.run_bind,Sem.run_pure,uh,ui,di,jl,r,t];cases A with
  |none=>simp[Builtin.append_,run_underlying underlying29,sizeOf,typeInfo,i,Builtin.lenOf,Builtin.firstCells,storeCells]
  |some n=>
   have S:=run_firstCells_some (P:=prog) w u.size 0 n 0 c [] aS aS;simp[Builtin.append_,run_underlying underlying29,sizeOf,typeInfo,i,Builtin.lenOf,S,storeCells]
 ·obtain⟨n,rfl,_,T⟩:=E.2 aa;have U:=World.ownsRow.cells l (g:=g) rfl;obtain⟨v',w',V,G,H⟩:=run_append_arg_grows (P:=prog) w 29 o.type 31 u (.agg bY) 4 56 underlying29 i M N O rfl aI (ag g (0)) xs.length xs.length _ l.1 U n ys.length c _ E.1 T aa gy aa;have p:=bA G;refine aP.value (v:=v') (w':=w') ?_ ⟨?_,(aL _ w).grown H (aH _) λk e=>by cases e⟩
  ·unfold execOp;simp only[q,resolve,invoke,builtin,Sem.run_bind,Sem.run_pure,uh,ui,di,jl,r,t,V]
  ·have I:∀{y:aG} {d:Array Value},bC P w y d->bC (λb=>v'.ownBlock≠some b/\P b) w' y d:=λh=>h.grown H (λ_ _ _ e=>by cases e) λb J W=>⟨λe=>av ((p b e).1),W⟩
   refine⟨css++Q,by rw[aO,fH];exact Sp.CO G L,by simp[m,C],λj d y f a=>?_⟩;rcases bu j css.length with p|X
   ·rw[dz p] at f;rw[dz aa] at a;exact I ((z j d y f a).any λb _ J=>J.2)
   ·rw[cO X] at f;rw[cO aa,<-m] at a;exact I ((D _ d y f a).any K)
def bN.blk {a:Array Value}(l:au w g 31 a)(m:B<=g)(d:css.length=xs.length)(f:a.toList=css.flatMap (·.toList))(h:∀(j:Nat) c x,css[j]?=some c->xs[j]?=some x->bC (λb=>b≠g/\P b) w x c)(q:xs.length<=1000000):bN P w B (ay (ag g (0)) xs.length xs.length) xs:=by
 have i:=fP.size d h;have n:a.size=xs.length*4:=by
  rw[<-qh,f,Dl _ i,d]
 refine⟨css,⟨by rw[Dl _ i,d],.inr ⟨g,xs.length,a,rfl,m,l,aH _,gy,n,?_⟩⟩,d,λj c x o p=>(h j c x o p).any λb _ k=>⟨λe=>k.1 (sj e).symm,k.2⟩⟩;rw[<-f,fA (by rw[qh];omega)]
def bN.zUh {v:Value}{row:Option Nat}(h:bN P w B v xs)(a:w.grownBy w' row)(d:∀b,v.ownBlock=some b->row≠some b)(f:∀b,P b->some b≠row):bN P w' B v xs:=by
 obtain⟨css,g,i,k⟩:=h;refine⟨css,gM g a ?_,i,λj c x l m=>(k j c x l m).grown a (λb _ n=>f b n.2) λ_ _ h=>h⟩;cases o:v.ownBlock with
 |none=>exact .inl rfl
 |some b=>exact .inr λe=>d b o e.symm
def bN.weak {P':Nat->Prop}{B':Nat}{v:Value}(h:bN P w B v xs)(c:B'<=B)(d:∀b,b<w.heap.size->P b->P' b):bN P' w B' v xs:=fP.more (fP.any h λb e a=>⟨a.1,d b e a.2⟩) c
def bN.one {c:Array Value}(f:au w g 31 c)(i:B<=g)(h:bC (λb=>b≠g/\P b) w x c):bN P w B (ay (ag g (0)) 1 1) [x]:=
 bN.blk (css:=[c]) f i rfl aS (λj d y a e=>by
  match j,a,e with
  |0,a,e=>cases a;cases e;exact h
  |j+1,a,_=>simp at a) (by show 1<=1000000;decide)
def bN.first {v:Value}(h:bN P w B v (x::xs)):∃g cap A c a,v=ay (ag g (0)) (xs.length+1) cap/\B<=g/\xs.length+1<=cap/\cap<=9223372036854775807/\au w g 31 a/\a[3]?=some (.slice A x.kids.length c)/\x.kids.length<=c/\c<=9223372036854775807/\fw (λb=>b≠g/\P b) w A x.kids/\
  ∀(w':World) (k:Option Addr) (i:Nat) (ks:List aG),Below w.heap.size w w'->ks.length<=i->i<=9223372036854775807->fw (λb=>b≠g/\P b) w' k ks->bN P (w'.setCell (ag g (3)) (.slice k ks.length i)) B v (.mk x.kind x.text x.cols ks::xs):=by
 obtain⟨css,s,m,n⟩:=h;have t:=fP.size m n;rcases s.2 with⟨_,G⟩|⟨g,cap,a,rfl,z,f,C,D,H,r⟩
 ·simp at G
 match css,m,n,t,r,s with
 |I::css,m,n,t,r,s=>
  have J:=n 0 I x rfl rfl;obtain⟨A,c,rfl,K,L,M,N⟩:=J.form;have u:au w g 31 a:=f;have Z:=u.lt;have O:xs.length+1<=cap:=C;have Q:(css.flatMap (·.toList)).length=xs.length*4:=by
   rw[Dl _ λc h=>t c (dP _ h)];simp at m;rw[m]
  have R:a[3]?=some (.slice A x.kids.length c):=by
   have E:=congrArg (λl=>l[3]?) r;rw[gU,gT,<-gF] at*;rw[ak (by simp;omega)] at E;rw[E];rfl
  refine⟨g,cap,A,c,a,rfl,z,O,by unfold maxLen at D;omega,u,R,L,M,N.any λb _ f=>⟨λe=>f.1 (by rw[e];rfl),f.2⟩,λw' k i ks F S T U=>?_⟩;have V:au w' g 31 a:=jL F u;have W:=Sp.xY w' (ag g (3)) (.slice k ks.length i);have X:∀{y:aG} {d:Array Value},bC (λb=>(Value.slice (some (ag g (0))) (xs.length+1) cap).ownBlock≠some b/\P b) w y d->bC (λb=>(Value.slice (some (ag g (0))) (xs.length+1) cap).ownBlock≠some b/\P b) (w'.setCell (ag g (3)) (.slice k ks.length i)) y d:=λh=>(h.keep F).grown W (λb _ f e=>f.1 (by rw[e];rfl)) λ_ _ h=>h
  refine⟨#[qI x.kind,af x.text,qI x.cols,.slice k ks.length i]::css,⟨by rw[gT,aO,Q];show 4+xs.length*4=(xs.length+1)*4;omega,.inr ⟨g,cap,a.setIfInBounds 3 (.slice k ks.length i),rfl,z,V.set_ 3 _,C,D,by rw[Array.size_setIfInBounds];exact H,?_⟩⟩,by simpa using m,λj d y o p=>?_⟩
  ·rw[oM,List.take_set];show(a.toList.take ((x::xs).length*4)).set 3 _=_;rw[r];rfl
  ·match j,o,p with
   |0,o,p=>
    cases o;cases p;exact bC.of K S T ((U.any λb _ f=>⟨λe=>f.1 (sj e).symm,f.2⟩).map (Nat.le_of_eq (by simp[World.setCell])) (λ_ _ h=>h) λq _ Y=>kZ w' _ q _ (λe=>Y.1 (by cases e;rfl)))
   |j+1,o,p=>exact X (n (j+1) d y o p)
def DV (A:Option Addr)(cap:Nat)(rs:List aD)(kind:Int)(s:ByteArray)(w:World)(n:fG w A rs)(u:rs.length<=1000000):Calls prog 78 #[.slice A rs.length cap,qI kind,af s] w λe w'=>e= .returned (.tuple #[qI (zx (rs.findIdx? (iH kind s))),.bool (rs.findIdx? (iH kind s)).isSome])/\Below w.heap.size w w':=by
 have q:=zh n;clear n;go_enter func78,ntmps78;go_wp2_with fail
 go_loopw [8] (λi wr=>∃k:Nat,k<=rs.length/\i=qI k/\Hy (∀(j:Nat) x,rs[j]?=some x->j<k->iH kind s x=false)/\Hy (Below w.heap.size w wr)) (λi _=>rs.length -(intOf i).toNat)
 case atStart=>exact⟨0,aa,rfl,(λj _ _ h=>aa),aL _ _⟩
 case round=>
  obtain⟨k,v,rfl,f,c⟩:=hrel
  by_cases r:k<rs.length
  ·obtain⟨x,g⟩:∃x,rs[k]?=some x:=⟨_,gE r⟩
   obtain⟨t,z,rfl,B,C,D,E,F,G,H⟩:=(q.o.keep c.o).at_ g;have l:=zh g;clear g t;cases m:(x.kind==kind)
   ·have b:Hy (iH kind s x=false):=by show iH kind s x=false;unfold iH;rw[m];rfl
    go_wp2;go_roundw
    case rel=>exact⟨k+1,aa,bi,(λj y a h=>by
     rcases bu j k with d|d
     ·exact f.o j y a d
     ·obtain rfl:j=k:=by omega
      rw[l.o] at a;obtain rfl:=sj a;exact b.o),c.o⟩
    case measure=>simp[intOf];omega
   ·cases o:(x.nam.toList==s.toList)
    ·have b:Hy (iH kind s x=false):=by show iH kind s x=false;unfold iH;rw[m,o];rfl
     go_wp2;go_roundw
     case rel=>exact⟨k+1,aa,bi,(λj y a h=>by
      rcases bu j k with d|d
      ·exact f.o j y a d
      ·obtain rfl:j=k:=by omega
       rw[l.o] at a;obtain rfl:=sj a;exact b.o),c.o⟩
     case measure=>simp[intOf];omega
    ·have b:=zh (FB l.o (show iH kind s x=true by unfold iH;rw[m,o];rfl) f.o);go_wp2_with fail
     go_ret2
     exact⟨GJ (by rw[b.o];rfl) (by rw[b.o];rfl),c.o⟩
  ·have b:=zh (FC (p:=iH kind s) λj y a=>f.o j y a (by
    have:=(bP.1 a).1;omega))
   go_wp2_with fail
   go_ret2
   exact⟨GJ (by rw[b.o];rfl) (by rw[b.o];rfl),c.o⟩
def uQ (l:List aG)(w:World)(e:Ending)(w':World):Prop:=(∃v,e= .returned v/\bN (λb=>w.heap.size<=b) w' w.heap.size v l)/\Below w.heap.size w w'
def EM (A:Option Addr)(cap:Nat)(rs:List aD)(f:Nat):Prop:=∀(m:aC) (c:Array Value) (w:World),fT m<f->fG w A rs->gK w m c->
 Calls prog 53 #[.slice A rs.length cap,.agg c] w (uQ (jr rs m) w)
def PD (kind:Int)(R:List (List aG))(w:World)(e:Ending)(w':World):Prop:=(∃v,e= .returned (.agg #[qI kind,qE,qI 0,v])/\bN (λb=>w.heap.size<=b) w' w.heap.size v (R.map aQ))/\Below w.heap.size w w'
def GM (rs:List aD){m:aC}{f:Nat}(h:fT m<f):(jr rs m).length<=8*f:=by
 have a:=Pt (jr rs m);have b:=Kn (rs:=rs) m;have c:bg m<=fT m:=fq _ _;omega
def PE (A:Option Addr)(cap:Nat)(rs:List aD)(f:Nat)(d0:EM A cap rs f)(kind:Int)(ts:List aC)(a4:Option Addr)(U:Nat)(w:World)(a5:lT ts<f)(m:f<=10000)(a6:fG w A rs)(a7:uf w a4 ts):
  Calls prog 116 #[.slice A rs.length cap,qI kind,.slice a4 ts.length U] w (PD kind (iq rs ts) w):=by
 have d1:=zh a7;have d2:=zh a6;have d3:=zh a5;have g8:ts.length<=10000:=av (Bp ts)
 have V:=aN w (.cells bY 31);have s1:(w.alloc (.cells bY 31)).heap.size=w.heap.size+1:=aS
 have W:=aN (w.alloc (.cells bY 31)) (.cells #[qI kind,qE,qI 0,qN] 31);have s:=zh (V.trans (W.mono V.size));have u:=zh (ae W (au.new w 31 bY));have q:=zh (au.new (w.alloc (.cells bY 31)) 31 #[qI kind,qE,qI 0,qN]);rw[s1] at q;clear a7 a6 a5 V W s1;go_enter func116,ntmps116;go_wp2_with fail
 go_loopw [8] (λi wr=>∃(k:Nat) (v:Value),k<=ts.length/\i=qI k/\Hy (au wr w.heap.size 31 bY)/\Hy (au wr (w.heap.size+1) 31 #[qI kind,qE,qI 0,v])/\Hy (bN (λb=>w.heap.size+2<=b) wr (w.heap.size+2) v (((iq rs ts).take k).map aQ))/\Hy (Below w.heap.size w wr)) (λi _=>ts.length -(intOf i).toNat)
 case atStart=>exact⟨0,_,aa,rfl,u,q,zh (bN.nil _ _ _),s⟩
 case round=>
  clear u q s;obtain⟨k,v,g9,rfl,u,q,z,s⟩:=hrel;obtain⟨xs,B⟩:∃xs,xs=((iq rs ts).take k).map aQ:=⟨_,rfl⟩
  rw[<-B] at z;have d4:=ah (xs.length<=10000) (by rw[B,dI,eU];omega);obtain⟨P,Q,rfl,-,-,-⟩:=z.o.form (λb g=>g);rcases bu k ts.length with d5|h0
  ·obtain⟨t,R⟩:∃t,ts[k]?=some t:=⟨_,gE d5⟩
   obtain⟨X,Y,Z,rfl,a8,a9⟩:=(d1.o.keep s.o).at_ R;have b0:=zh a9.whole;obtain⟨_,b1,b2,b3,b4,b5,_⟩:=a9;have d6:(k:Int)<(ts.length:Int):=aa
   have b6:=ah (fT t<f) (aV d3.o (Bq R));have h1:=zh (GM rs b6.o);have S:=ah (xs++[aQ (jr rs t)]=((iq rs ts).take (k+1)).map aQ) (by rw[Dn (show(iq rs ts)[k]?=some (jr rs t) by rw[EI,R];rfl),dX,<-B];rfl);have d7:=zh (d2.o.keep s.o);have n:=zh a8;clear R a8 B;go_upto_region 5 with(fail)
   generalize d8:jr rs t=L at*;generalize wr=x at*;refine qm [2,1,2,2,2,2,1,1,1,1,3,2,3] (List.replicate 13 false) (λc=>[aR (w.heap.size+1) (3),.slice P xs.length Q,.slice A rs.length cap,ay X ts.length U,qI (k:Int),az (X.add (k*5)),.agg (aA t.kind t.nam t.vr Y t.args.length Z t.form),c.v 24,c.v 25,ay ⟨c.n 26,0,none⟩ 1 1,undef,aR (w.heap.size+1) (3),undef]) [(7,λc r=>∃d a,c.v 24= .slice d L.length a/\L.length<=a/\a<=9223372036854775807/\fw (λb=>x.heap.size<=b) r d L),(8,λc r=>∃d a,c.v 25= .agg #[qI 1,qE,qI 0,.slice d L.length a]/\L.length<=a/\a<=9223372036854775807/\fw (λb=>x.heap.size<=b) r d L),(9,λc r=>∃d a,au r (c.n 26) 31 #[qI 1,qE,qI 0,.slice d L.length a]/\x.heap.size<=c.n 26/\L.length<=a/\a<=9223372036854775807/\fw (λb=>b≠c.n 26/\x.heap.size<=b) r d L)] (λ_ _=>True) (bV.cons (λc r b7 ⟨d,a,H,C,J,K⟩ g=>⟨d,a,H,C,J,K.keep g⟩) (bV.cons (λc r b7 ⟨d,a,H,C,J,K⟩ g=>⟨d,a,H,C,J,K.keep g⟩) (bV.cons (λc r b7 ⟨d,a,H,d9,C,J,K⟩ g=>⟨d,a,ae g H,d9,C,J,K.keep g⟩) bV.nil))) (trivial) ?_ ?_
   ·refine⟨jI,jR λc l j=>(ae j q.o).cell 3,jC,jC,jC,λc l=>?_,λc l j I m=>?_,λc l j I m=>?_,λc l j I m=>?_,λc l j I m=>?_,jI,trivial⟩
    ·exact jp (az (X.add (k*5))) (by simp[go_sem,evAct,d6];try omega) rfl
    ·have e0:=(j.cell (by first|exact n.o|(show(Addr.add _ _).block<_;rw[gX];exact n.o))).trans b1;have e1:=(j.cell (by first|exact n.o|(show(Addr.add _ _).block<_;rw[gX];exact n.o))).trans b2;have e2:=(j.cell (by first|exact n.o|(show(Addr.add _ _).block<_;rw[gX];exact n.o))).trans b3;have e3:=(j.cell (by first|exact n.o|(show(Addr.add _ _).block<_;rw[gX];exact n.o))).trans b4;have e4:=(j.cell (by first|exact n.o|(show(Addr.add _ _).block<_;rw[gX];exact n.o))).trans b5;exact gs (.agg (aA t.kind t.nam t.vr Y t.args.length Z t.form)) I aj (by simp[go_sem,evAct,e0,e1,e2,e3,e4,aA]) rfl
    ·refine jc 53 (#[.slice A rs.length cap,.agg (aA t.kind t.nam t.vr Y t.args.length Z t.form)]) l aj ((d0 t _ l b6.o (d7.o.keep j) (b0.o.keep j)).mono ?_);rintro e e5 ⟨⟨v,rfl,D⟩,g⟩;rw[d8] at D;obtain⟨d,a,rfl,E,F,y⟩:=D.form (λb g=>g);exact⟨_,rfl,c.setV 24 (.slice d L.length a),rfl,jD,g,⟨⟨d,a,rfl,E,F,y.any λb _ h=>ax j.size h⟩,jG,jG,trivial⟩,trivial⟩
    ·have b8:=jE m.1;obtain⟨d,a,a0,E,F,y⟩:=b8;refine jc 52 (#[.slice d L.length a]) l (bT a0) ((Ei d L.length a l).mono ?_);rintro e e5 ⟨rfl,g⟩;exact⟨_,rfl,c.setV 25 (.agg #[qI 1,qE,qI 0,.slice d L.length a]),rfl,jD,g,⟨jH,⟨d,a,rfl,E,F,y.keep g⟩,jG,trivial⟩,trivial⟩
    ·have b8:=jE m.1;have e6:=jE m.2.1;obtain⟨d,a,a0,E,F,y⟩:=e6;exact jv (ay (ag l.heap.size (0)) 1 1) (l.alloc (.cells #[qI 1,qE,qI 0,.slice d L.length a] 31)) (bT a0) ⟨c.setN 26 l.heap.size,rfl,jD,aN l _,⟨jH,jH,⟨d,a,au.new l _ _,j.size,E,F,(y.any λb H C=>⟨λe=>by have e:b=l.heap.size:=e;omega,C⟩).keep (aN l _)⟩,trivial⟩,trivial⟩
   ·refine λc l j I m=>?_
    dsimp only[ji] at m;change wpOps _ _ _ [10,12] _ _;obtain⟨-,-,⟨d,a,b9,c0,E,F,y⟩,-⟩:=m;have c1:=zh b9;have c2:=zh y;have e7:=zh c0;have c3:=ah (w.heap.size+1<x.heap.size) q.o.lt;have c4:=zh (z.o.keep j);have c5:=kp j u;have c6:=kp j q;have a1:=jt s j;have M:=ah (∀b,(Value.slice P xs.length Q).ownBlock=some b->w.heap.size+2<=b/\b<x.heap.size) (λb g=>z.o.lt b g);have e8:=zh j.size;clear b9 y c0 j I z u q s b0 b1 b2 b3 b4 b5;generalize c.n 26=e9 at*;generalize c.v 24=h2 at*;generalize c.v 25=h3 at*;clear c;generalize l=wc at*;refine wo (o:=_) rfl rfl (GL (.tmp 18) (.tmp 26) rfl (A:=some (ag e9 (0))) (ys:=[aQ L]) (ok:=λb=>x.heap.size<=b) rfl rfl c4.o (xu (ks:=L) c1.o aI E F (c2.o.any λb _ h=>h.2) e7.o) (λb _ (g:x.heap.size<=b)=>⟨λe=>av (M.o b e),by have:=c3.o;show w.heap.size+2<=b;omega⟩) (by have:=d4.o;simp;omega) (aV c3.o e8.o)) ?_;rintro h4 f0 ⟨D,T,f1⟩;obtain⟨G,a2⟩:∃G,G=((iq rs ts).take (k+1)).map aQ:=⟨_,rfl⟩
    rw[S.o,<-a2] at D;have f2:=zh a2;clear a2 S;obtain⟨N,O,rfl,-,-,-⟩:=D.form (λb g=>g);have f3:=zh D;have f4:=zh (c5.o.grown T λe=>by have:=(M.o _ e.symm).1;omega);have a3:=zh (c6.o.grown T λe=>by have:=(M.o _ e.symm).1;omega);have f5:=zh (a1.o.grown T a1.o.size λh5 e=>by have:=(M.o _ e).1;omega);have c7:=a3.o.cell 3;have c8:=a3.o.frozen 3;clear D T f1 c4 c1 c2 c5 c6 a1 M;refine oL (o:=_) rfl rfl (w':=f0.setCell ⟨w.heap.size+1,3,none⟩ (.slice N G.length O)) (ek c7 c8) ?_;refine jo ?_;clear c7 c8;have f6:=zh (f4.o.far (p:=ag (w.heap.size+1) (3)) (by show w.heap.size≠w.heap.size+1;omega) (.slice N G.length O));have f7:=zh (a3.o.set_ 3 (.slice N G.length O));have f8:=zh (f5.o.setCell (p:=ag (w.heap.size+1) (3)) (by show w.heap.size<=w.heap.size+1;omega) (.slice N G.length O));have f9:=zh (f3.o.set_ (p:=ag (w.heap.size+1) (3)) (by show ¬(w.heap.size+2<=w.heap.size+1);omega) (by show w.heap.size+1<w.heap.size+2;omega) (.slice N G.length O));go_wp2;go_roundw
    case rel=>exact⟨k+1,_,aa,bi,f6,f7,by rw[<-f2.o];exact f9,f8⟩
    case measure=>simp[intOf];omega
  ·obtain rfl:k=ts.length:=by omega
   rw[fA (Nat.le_of_eq (Br rs ts))] at B;have S:=zh B;clear B;obtain⟨h6,U,h7,h8⟩:=qb q;have h9:=u.o.cell;have i0:=u.o.frozen;go_wp2_with fail;obtain⟨i1,g0,g1,g2,g3⟩:=iY u.o s.o (aH _) (qI kind) qE (qI 0) (.slice P xs.length Q);rw[g0];obtain⟨g4,g5,g6,g7⟩:=qb g1;have c9:=zh ((z.o.zUh g3.o (λb g e=>aV (sj e) ((z.o.lt b g).1)) (λb g e=>av (sj e))).weak (P':=λb=>w.heap.size<=b) (B':=w.heap.size) aa λb _ g=>aa);exact aB (v:=.agg #[qI kind,qE,qI 0,.slice P xs.length Q]) (by simp[results,results116,go_sem,g4,g5,g6,g7]) rfl (show PD _ _ _ _ _ by rw[S.o] at c9⊢;exact⟨⟨_,rfl,c9.o⟩,g2.o⟩)
def PG (n:aG)(w:World)(e:Ending)(w':World):Prop:=(∃c,e= .returned (.agg c)/\bC (λb=>w.heap.size<=b) w' n c)/\Below w.heap.size w w'
def Kt (ok:Nat->Prop)(w:World)(s:ByteArray)(h:s.size<=9223372036854775807):bC ok w (dh s) #[qI 2,af s,qI 0,qN]:=bC.zero ok w 2 s 0 h
def Xj {a b:ByteArray}(f:au w g 31 #[qI 2,af a,qI 0,qN,qI 2,af b,qI 0,qN])(h:B<=g)(i:a.size<=9223372036854775807)(k:b.size<=9223372036854775807):bN P w B (ay (ag g (0)) 2 2) [dh a,dh b]:=
 bN.blk (css:=[#[qI 2,af a,qI 0,qN],#[qI 2,af b,qI 0,qN]]) f h rfl rfl (λj d y c e=>by
  match j,c,e with
  |0,c,e=>cases c;cases e;exact Kt _ w a i
  |1,c,e=>cases c;cases e;exact Kt _ w b k
  |j+2,c,_=>simp at c) (by show 2<=1000000;decide)
def Xk (A:Option Addr)(cap:Nat)(rs:List aD)(f:Nat)(j2:EM A cap rs f)(m:aC)(c:Array Value)(s:ByteArray)(e:Nat)(ts:List aC)(c5:Option Addr)(c6:Nat)(w:World)(m9:e<=9)(c7:e≠0->ts≠[])(f1:s.size<=9223372036854775807)(f2:lT ts<f)(y:f<=10000)(f3:fG w A rs)(f4:uf w c5 ts)(f5:gK w m c):
  Calls prog 79 #[.slice A rs.length cap,.agg c,af s,qI (e:Int),.slice c5 ts.length c6] w (PG (uN (decide (m.kind=5)) m.vr s e (iq rs ts)) w):=by
 obtain⟨N,O,rfl,j3,j4,j5,j6,j7,j8⟩:=f5.form;have c8:=aN w (.cells (aA m.kind m.nam m.vr N m.args.length O m.form) 25);have s1:(w.alloc (.cells (aA m.kind m.nam m.vr N m.args.length O m.form) 25)).heap.size=w.heap.size+1:=aS
 have c9:=aN (w.alloc (.cells (aA m.kind m.nam m.vr N m.args.length O m.form) 25)) (.cells bY 31);have G:=zh (c8.trans (c9.mono c8.size));have d0:=zh (ae c9 (au.new w 25 (aA m.kind m.nam m.vr N m.args.length O m.form)));have Q:=zh (au.new (w.alloc (.cells (aA m.kind m.nam m.vr N m.args.length O m.form) 25)) 31 bY);rw[s1] at Q;have j9:=zh f4;have k0:=zh f3;have d1:=zh f2;have k1:=zh j4;clear f4 f3 f2 c8 c9 s1 f5 j8 j6 j7 j3 j5;go_enter func79,ntmps79;go_upto_region 1 with(fail)
 generalize (w.alloc (.cells (aA m.kind m.nam m.vr N m.args.length O m.form) 25)).alloc (.cells bY 31)=b4 at*
 by_cases Y:e=0
 ·subst Y;go_wp2_with fail;refine(yD s b4).mono ?_;rintro d2 b5 ⟨rfl,d⟩;have k2:=jt G d;have d3:=kp d Q;clear d G d0 Q;have k3:=d3.o.cell;have k4:=d3.o.frozen;go_wp2_with fail;obtain⟨k5,S,Z,d4,n0⟩:=iY d3.o k2.o (dJ _) (qI 2) (af s) (qI 0) qN;rw[S];obtain⟨l,d5,d6,d7⟩:=qb Z;exact aB (v:=.agg #[qI 2,af s,qI 0,qN]) (by simp[results,results79,go_sem,l,d5,d6,d7]) rfl ⟨⟨_,rfl,Kt _ _ s f1⟩,d4.o⟩
 ·have n1:¬(e:Int)=0:=by omega
  go_wp2_with fail;refine(PE A cap rs f j2 e ts c5 c6 b4 d1.o y (k0.o.keep G.o) (j9.o.keep G.o)).mono ?_;rintro d2 I ⟨⟨v,rfl,D⟩,d⟩;obtain⟨l,R,a0⟩:∃l R,iq rs ts=l::R:=by
   cases d8:iq rs ts with
   |nil=>have:=Br rs ts;rw[d8] at this;exact absurd (eP.1 this.symm) (c7 Y)
   |cons l R=>exact⟨l,R,rfl⟩
  have f6:=ah (uN (decide (m.kind=5)) m.vr s e (iq rs ts)= .mk e ⟨#[]⟩ 0 (aQ [dh s]::(vN (decide (m.kind=5)) m.vr (l::R)).map aQ)) (by unfold uN;rw[ai Y,a0]);have d9:=zh (show l.length<=100000/\(l::R).length<=100000 by
   constructor
   ·have z:=EI rs ts 0;rw[a0] at z;cases ts with
    |nil=>exact absurd rfl (c7 Y)
    |cons e0 ts=>
     have C:some l=some (jr rs e0):=z;rw[sj C];have:=GM rs (m:=e0) (f:=f) (aV d1.o (Bq (ts:=e0::ts) (k:=0) rfl));omega
   ·rw[<-a0,Br];have:=Bp ts;have:=d1.o;omega)
  rw[a0] at D;obtain⟨b6,T,S,-,-,-⟩:=D.form (λb d=>d);obtain⟨H,e1⟩:∃H,H=((l::R).map aQ).length:=⟨_,rfl⟩
  rw[<-e1] at S;subst S;have f7:0<H:=by rw[e1];exact rP _
  have a1:=aN I (.cells #[qI e,qE,qI 0,.slice b6 H T] 31);have b7:=zh ((G.o.trans (d.mono G.o.size)).trans (a1.mono (G.o.trans (d.mono G.o.size)).size));have e2:=zh (ae a1 (ae d d0.o));have e3:=zh (ae a1 (ae d Q.o));have U:=zh (au.new I 31 #[qI e,qE,qI 0,.slice b6 H T]);have b8:=ah (w.heap.size+2<=b4.heap.size) Q.o.lt;have e4:=ah (∀b,(Value.slice b6 H T).ownBlock=some b->b<I.heap.size) (λb h=>(D.lt b h).2);have f8:=ah (b4.heap.size<=I.heap.size) d.size;have f9:=ah (w.heap.size+1<I.heap.size) (aV b8.o f8.o);have b9:=zh ((bN.weak (P':=λb=>w.heap.size+2<=b/\b≠I.heap.size) (B':=w.heap.size+2) D b8.o (λb z C=>⟨av b8.o,aa⟩)).keep a1);clear D a1 d G d0 Q a0 Y c7 e1;have g0:=e2.o.cell 0;go_upto_if 22 with(fail)
  generalize I.heap.size=n at*;generalize I.alloc (.cells #[qI e,qE,qI 0,.slice b6 H T] 31)=a2 at*
  go_cut [] (λwc=>∃v,Hy (au wc (w.heap.size+1) 31 bY)/\Hy (au wc n 31 #[qI e,qE,qI 0,v])/\Hy (bN (λb=>w.heap.size+2<=b/\b≠n) wc (w.heap.size+2) v ((vN (decide (m.kind=5)) m.vr (l::R)).map aQ))/\Hy (Below w.heap.size w wc)/\Hy (∀b,v.ownBlock=some b->b≠n/\w.heap.size+2<=b))
  case first=>
   by_cases g1:m.kind=5
   ·have e5:=zh (aJ g1);obtain⟨q,n2,e6,g2,n3,g3,g4,n4,n5,g5,g6,g7,g8,g9,h0⟩:=b9.o.first;have c0:=zh g5;have h1:=zh g6;have a3:=ah (fw (λb=>b≠q/\w.heap.size+2<=b/\b≠n) a2 e6 l) g9;have h2:=zh h0;have J:=ah (w.heap.size+2<=q/\q<n) ⟨g4,e4.o q (by rw[g3];rfl)⟩;have k6:=zh (And.intro g7 g8);injection g3 with k7 k8 k9;subst k7;subst k9;clear k8;have h3:(aQ l).kids=l:=rfl;rw[h3] at h1 k6;have h4:=ah (a2.cell? (ag q (3))=some (.slice e6 l.length g2)) (by rw[c0.o.cell];exact h1.o);clear g5 g6 g9 h0 g4 g7 g8 h3;have a4:=zh U.o.lt;obtain⟨r,V⟩:∃r,r=[dh m.vr,dh ⟨#[61]⟩]++l:=⟨_,rfl⟩
    have a5:=zh V;clear V;go_upto_region 5 with(fail)
    refine qm [2,1,2,1,1,1,1,2,1,2,2,1,1,2,2,3] (List.replicate 16 false) (λa=>[aR n (3),ay (ag q (0)) H T,aR w.heap.size (2),af m.vr,.agg #[qI 2,af m.vr,qI 0,qN],.agg #[qI 2,af ⟨#[61]⟩,qI 0,qN],ay ⟨a.n 29,0,none⟩ 2 2,aR n (3),ay (ag q (0)) H T,qP q,aR q (3),.slice e6 l.length g2,a.v 35,qP q,aR q (3),undef]) [(6,λa E=>au E (a.n 29) 31 #[qI 2,af m.vr,qI 0,qN,qI 2,af ⟨#[61]⟩,qI 0,qN]/\a2.heap.size<=a.n 29),(12,λa E=>∃u t,a.v 35= .slice u r.length t/\r.length<=t/\t<=9223372036854775807/\fw (λb=>b≠q/\w.heap.size+2<=b/\b≠n) E u r)] (λ_ _=>True) (bV.cons (λa E b5 ⟨z,C⟩ d=>⟨ae d z,C⟩) (bV.cons (λa E b5 ⟨u,t,z,C,a6,l0⟩ d=>⟨u,t,z,C,a6,l0.keep d⟩) bV.nil)) (trivial) ?_ ?_
    ·refine⟨jI,jR λa i j=>(ae j U.o).cell 3,jI,jR λa i j=>(ae j e2.o).cell 2,λa i j F y=>?_,λa i j F y=>?_,λa i j F y=>?_,jI,jR λa i j=>(ae j U.o).cell 3,λa i=>?_,jI,jR λa i j=>(j.cell (p:=ag q (3)) c0.o.lt).trans h4.o,λa i j F y=>?_,λa i=>?_,jI,trivial⟩
     ·refine jc 77 (#[af m.vr]) i aj ((yD m.vr i).mono ?_);rintro e c1 ⟨rfl,d⟩;exact⟨_,rfl,a,rfl,jD,d,⟨jG,jG,trivial⟩,trivial⟩
     ·refine jc 77 (#[af ⟨#[61]⟩]) i aj ((yD ⟨#[61]⟩ i).mono ?_);rintro e c1 ⟨rfl,d⟩;exact⟨_,rfl,a,rfl,jD,d,⟨jG,jG,trivial⟩,trivial⟩
     ·exact jv (ay (ag i.heap.size (0)) 2 2) (i.alloc (.cells #[qI 2,af m.vr,qI 0,qN,qI 2,af ⟨#[61]⟩,qI 0,qN] 31)) iw ⟨a.setN 29 i.heap.size,rfl,jD,aN i _,⟨⟨au.new i _ _,j.size⟩,jG,trivial⟩,trivial⟩
     ·exact jp (qP q) (gY f7) rfl
     ·have h5:=jE y.1;have l1:=j.size;refine Xh (Xi (.tmp 29) (.tmp 34) rfl (P:=λb=>b≠q/\w.heap.size+2<=b/\b≠n) (B:=a2.heap.size) (g:=a.n 29) (xs:=[dh m.vr,dh ⟨#[61]⟩]) (ys:=l) rfl rfl (Xj h5.1 h5.2 k1.o aI) (a3.o.keep j) (λb _ h=>h) (by have:=d9.o.1;simp;omega) l1) ?_;rintro l2 c1 ⟨D,l3⟩;rw[<-a5.o] at D;obtain⟨u,t,rfl,a7,a8,K⟩:=D.form (λb (d:a2.heap.size<=b)=>by have z:=J.o;have C:=a4.o;exact⟨aa,aa,aa⟩);exact⟨a.setV 35 (.slice u r.length t),rfl,jD,l3,⟨jH,⟨u,t,rfl,a7,a8,K.any λb _ h=>h⟩,trivial⟩,trivial⟩
     ·exact jp (qP q) (gY f7) rfl
    ·refine λa i j F y=>?_
     dsimp only[ji] at y;change wpOps _ _ _ [15] _ _;obtain⟨-,⟨u,t,h6,a7,a8,K⟩,-⟩:=y;have a9:=zh j;have l4:=zh (h2.o i u t r j a7 a8 K);rw[h6];generalize a.n 29=n6 at*;clear K h6 F j;clear a;generalize i=W at*;have b0:=(a9.o.cell (p:=ag q (3)) c0.o.lt).trans h4.o;have b1:=(ae a9.o c0.o).frozen 3;clear h2 a3;refine oL (o:=_) rfl rfl (w':=W.setCell (ag q (3)) (.slice u r.length t)) (ek b0 b1) ?_;refine jo ?_;clear b0 b1;have l5:=zh ((ae a9.o e3.o).far (p:=ag q (3)) (by have:=J.o;show w.heap.size+1≠q;omega) (.slice u r.length t));have l6:=zh ((ae a9.o U.o).far (p:=ag q (3)) (by have:=J.o;show n≠q;omega) (.slice u r.length t));have d4:=zh ((b7.o.trans (a9.o.mono b7.o.size)).setCell (p:=ag q (3)) (by have:=J.o;show w.heap.size<=q;omega) (.slice u r.length t));go_wp2;go_meet
     case rel=>
      rw[e5.o,show(vN true m.vr (l::R)).map aQ= .mk (aQ l).kind (aQ l).text (aQ l).cols r::R.map aQ by rw[a5.o];rfl];exact⟨_,l5,l6,l4,d4,zh λb d=>by have b2:q=b:=sj d;have:=J.o;omega⟩
   ·have e5:=zh (aK g1);go_wp2;go_meet
    case rel=>rw[e5.o,Kg];exact⟨_,e3,U,b9,b7,zh λb d=>aV (e4.o b d) ((b9.o.lt b d).1)⟩
  case rest=>
   obtain⟨v,Z,c2,e7,X,h7⟩:=hcut;clear b9 b7 e2 e3 U g0 e4 f8 b8;obtain⟨xs,e8⟩:∃xs,xs=(vN (decide (m.kind=5)) m.vr (l::R)).map aQ:=⟨_,rfl⟩
   rw[<-e8] at e7 f6;have l7:=ah (xs.length<=100000) (by rw[e8,dI];exact d9.o.2);have a4:=zh c2.o.lt;obtain⟨l8,l9,rfl,m0,m1,h8⟩:=fP.yIi (P:=λb=>w.heap.size+2<=b/\b≠n) e7.o (λb d=>(h7.o b d).symm) λb d=>d.2
   have h9:=zh h8;clear e8 m0 m1 h8 d9;go_upto_region 6 with(fail)
   refine qm [2,1,1,1,1,2,1,3,2,3] (List.replicate 10 false) (λa=>[af s,.agg #[qI 2,af s,qI 0,qN],ay ⟨a.n 40,0,none⟩ 1 1,.agg #[qI 1,qE,qI 0,ay ⟨a.n 40,0,none⟩ 1 1],ay ⟨a.n 42,0,none⟩ 1 1,aR n (3),.slice l8 xs.length l9,undef,aR n (3),undef]) [(2,λa E=>au E (a.n 40) 31 #[qI 2,af s,qI 0,qN]/\wc.heap.size<=a.n 40/\a.n 40<E.heap.size),(4,λa E=>au E (a.n 42) 31 #[qI 1,qE,qI 0,ay ⟨a.n 40,0,none⟩ 1 1]/\wc.heap.size<=a.n 42/\a.n 40≠a.n 42)] (λ_ _=>True) (bV.cons (λa E b5 ⟨z,C,a6⟩ d=>⟨ae d z,C,ll a6 d.size⟩) (bV.cons (λa E b5 ⟨z,C⟩ d=>⟨ae d z,C⟩) bV.nil)) (trivial) ?_ ?_
   ·refine⟨jC,λa i j F y=>?_,λa i j F y=>?_,λa i j F y=>?_,λa i j F y=>?_,jI,jR λa i j=>(ae j c2.o).cell 3,jI,trivial⟩
    ·refine jc 77 (#[af s]) i aj ((yD s i).mono ?_);rintro e c1 ⟨rfl,d⟩;exact⟨_,rfl,a,rfl,jD,d,⟨jG,jG,trivial⟩,trivial⟩
    ·exact jv (ay (ag i.heap.size (0)) 1 1) (i.alloc (.cells #[qI 2,af s,qI 0,qN] 31)) iw ⟨a.setN 40 i.heap.size,rfl,jD,aN i _,⟨⟨au.new i _ _,j.size,by simp[Gh.setN]⟩,jG,trivial⟩,trivial⟩
    ·have i0:=jE y.1;refine jc 52 (#[ay ⟨a.n 40,0,none⟩ 1 1]) i aj ((Ei (some ⟨a.n 40,0,none⟩) 1 1 i).mono ?_);rintro e c1 ⟨rfl,d⟩;exact⟨_,rfl,a,rfl,jD,d,⟨jH,jG,trivial⟩,trivial⟩
    ·have i0:=jE y.1;exact jv (ay (ag i.heap.size (0)) 1 1) (i.alloc (.cells #[qI 1,qE,qI 0,ay ⟨a.n 40,0,none⟩ 1 1] 31)) iw ⟨a.setN 42 i.heap.size,rfl,jD,aN i _,⟨jH,⟨au.new i _ _,j.size,λe=>by have e:a.n 40=i.heap.size:=e;have:=i0.2.2;omega⟩,trivial⟩,trivial⟩
   ·refine λa i j F y=>?_
    dsimp only[ji] at y;change wpOps _ _ _ [7,9] _ _;obtain⟨⟨i1,i2,i3⟩,⟨i4,i5,i6⟩,-⟩:=y;have i7:=zh i1;have i8:=zh i4;have L:=zh (And.intro i2 (And.intro i3 (And.intro i5 i6)));have M:=zh j;clear i1 i4 i2 i3 i5 i6 F j;generalize a.n 40=n7 at*;generalize a.n 42=b3 at*;clear a;generalize i=n8 at*;have e9:=ah (w.heap.size+1<wc.heap.size) Z.o.lt;refine wo (o:=_) rfl rfl (GL (.tmp 42) (.tmp 44) rfl (P:=λb=>w.heap.size+2<=b/\b≠n) (B:=wc.heap.size) (v:=ay (ag b3 (0)) 1 1) (xs:=[aQ [dh s]]) (ys:=xs) (ok:=λb=>(w.heap.size+2<=b/\b≠n)/\b<wc.heap.size) rfl rfl (bN.one i8.o L.o.2.2.1 (bC.of (k:=1) (s:=⟨#[]⟩) (c:=0) (ks:=[dh s]) (cap:=1) aI (aH _) aI (xu (k:=2) (c:=0) (ks:=[]) (A:=none) (cap:=0) i7.o f1 (aH _) aI (λn9 x h=>by simp at h) (by have z:=L.o;have C:=e9.o;have a6:=a4.o;exact⟨z.2.2.2,aa,aa⟩)))) ((h9.o.any λb z C=>⟨C,z⟩).keep M.o) (λb _ (d:(w.heap.size+2<=b/\b≠n)/\b<wc.heap.size)=>⟨λe=>by have b2:b3=b:=sj e;have:=L.o;omega,d.1⟩) (by have:=l7.o;simp;omega) M.o.size) ?_;rintro l2 W ⟨D,c3,m2⟩;obtain⟨r,V⟩:∃r,r=[aQ [dh s]]++xs:=⟨_,rfl⟩
    rw[<-V] at D;have a5:=zh V;obtain⟨u,t,rfl,a7,a8,K⟩:=D.form (λb (d:wc.heap.size<=b)=>by have C:=e9.o;have a6:=a4.o;exact⟨aa,aa⟩);have i9:=zh K;have j0:=zh ((ae M.o Z.o).grown c3 λe=>by have b2:w.heap.size+1=b3:=sj e;have:=L.o;have:=e9.o;omega);have c4:=zh ((ae M.o c2.o).grown c3 λe=>by have b2:n=b3:=sj e;have:=L.o;have:=a4.o;omega);have j1:=zh ((X.o.trans (M.o.mono X.o.size)).grown c3 (X.o.trans (M.o.mono X.o.size)).size λd2 e=>by have b2:b3=d2:=sj e;have:=L.o;have:=X.o.size;omega);have b0:=c4.o.cell 3;have b1:=c4.o.frozen 3;clear D c3 m2 K V i7 i8 h9 Z c2 X e7 h7 L M;refine oL (o:=_) rfl rfl (w':=W.setCell (ag n (3)) (.slice u r.length t)) (ek b0 b1) ?_;refine jo ?_;clear b0 b1;have f0:=zh (j0.o.far (p:=ag n (3)) (by have:=f9.o;show w.heap.size+1≠n;omega) (.slice u r.length t));have m3:=ah (au _ n 31 #[qI e,qE,qI 0,.slice u r.length t]) (c4.o.set_ 3 (.slice u r.length t));have m4:=zh (j1.o.setCell (p:=ag n (3)) (by have:=f9.o;show w.heap.size<=n;omega) (.slice u r.length t));have m5:=zh (i9.o.map (w':=W.setCell (ag n (3)) (.slice u r.length t)) (Nat.le_of_eq (by simp[World.setCell])) (λ_ _ h=>h) λm6 _ d8=>kZ W _ m6 _ (λe=>d8.2 (by cases e;rfl)));clear i9 j0 c4 j1;generalize W.setCell (ag n (3)) (.slice u r.length t)=o0 at*;obtain⟨g0,c6,o1,o2⟩:=qb m3;have k3:=f0.o.cell;have k4:=f0.o.frozen;go_wp2_with fail;obtain⟨k5,S,m7,m8,J⟩:=iY f0.o m4.o (dJ _) (qI e) qE (qI 0) (.slice u r.length t);rw[S];have a3:=zh ((bC.of (k:=e) (s:=⟨#[]⟩) (c:=0) aI a7 a8 m5.o).grown J.o (ok':=λb=>w.heap.size<=b) (λb _ d e=>by have b2:b=w.heap.size+1:=sj e;have:=d.1;omega) λb _ d=>av d.1);obtain⟨l,d5,d6,d7⟩:=qb m7;rw[a5.o] at a3;exact aB (v:=.agg #[qI e,qE,qI 0,.slice u r.length t]) (by simp[results,results79,go_sem,l,d5,d6,d7]) rfl (by rw[f6.o,a5.o];exact⟨⟨_,rfl,a3.o⟩,m8.o⟩)
end Rn
namespace El
open At Ch Sp Sy Go.RowKit
variable{w w':World}{B n:Nat}
def PH (l:List UInt8):(jy l).size=l.length:=by simp[jy,ByteArray.size]
def PI (h:n<10):Lib.decDigits n=[UInt8.ofNat (48+n)]:=by
 rw[Lib.decDigits,dif_pos h]
def Xl (h:10<=n):Lib.decDigits n=Lib.decDigits (n/10)++Lib.decDigits (n%10):=by
 rw[PI (n:=n%10) aa,Lib.decDigits,dif_neg aa]
def Xm:∀n:Nat,(Lib.decDigits n).length<=n+1:=by
 intro n
 induction n using Nat.strongRecOn with
 |_ n a=>
  rw[Lib.decDigits]
  split
  ·simp
  ·next h=>
   have:=a (n/10) aa;rw[aO];simp only[aY,gZ];omega
def PK (a:n<=1000000):(jy (Lib.decDigits n)).size<=1000001:=by
 have:=Xm n;rw[PH];omega
def Xn (a b:List UInt8):jy a++jy b=jy (a++b):=by
 apply ByteArray.ext
 simp[jy,ByteArray.data_append]
def GN (n:Int):ByteArray:=jy [UInt8.ofNat n.toNat]
def Xo (w:World)(n:Int):(convert 162 9 (ay (ag w.heap.size (0)) 1 1)).run prog (w.alloc (.cells #[.int .u8 n] 5))= .ok (af (GN n)) (w.alloc (.cells #[.int .u8 n] 5)):=
 run_convert_bytes_arg (P:=prog) _ 162 5 underlying162 underlying5 w.heap.size 0 1 1 [n] rfl (λi a=>by
  obtain rfl:i=0:=aa
  exact au.cell (au.new w 5 #[.int .u8 n]) 0) 9 underlying9
def Xp (n:Nat)(w:World)(h:n<10):Calls prog 117 #[qI (n:Int)] w λe w'=>e= .returned (af (GN (48+(n:Int))))/\Below w.heap.size w w':=by
 have a:=Xo w (48+(n:Int));have b:IntKind.u8.wrap (48+(n:Int))=48+(n:Int):=by unfold IntKind.wrap;simp[IntKind.signed,IntKind.bits];omega
 have c:(n:Int)<10:=aa
 go_enter func117,ntmps117;go_wp2;go_ret;exact⟨rfl,(aL _ _).alloc (aH _) _⟩
def Xq (k:Nat):∀(n:Nat) (w:World),n<k->n<=1000000->Calls prog 117 #[qI (n:Int)] w λe w'=>e= .returned (af (jy (Lib.decDigits n)))/\Below w.heap.size w w':=by
 induction k with
 |zero=>intro n w h;omega
 |succ k a=>
  intro n w j h;have b:=zh a;clear a
  by_cases c:n<10
  ·have e:jy (Lib.decDigits n)=GN (48+(n:Int)):=by rw[PI c];unfold GN;rw[show(48+(n:Int)).toNat=48+n by omega]
   rw[e];exact Xp n w c
  ·rw[Xl (n:=n) aa,<-Xn];have s1:=PK (n:=n/10) aa;have s2:=PK (n:=n%10) aa;have l:(n:Int).tdiv 10=((n/10:Nat):Int):=by rw[Int.tdiv_eq_ediv_of_nonneg aa];omega
   have m:(n:Int).tmod 10=((n%10:Nat):Int):=by rw[Int.tmod_eq_emod_of_nonneg aa];omega
   have o:¬(n:Int)<10:=aa
   go_enter func117,ntmps117;go_wp2_with fail;refine(b.o (n/10) w aa aa).mono ?_;rintro e p ⟨rfl,d⟩;have f:=zh d;clear d;go_wp2_with fail;refine(b.o (n%10) _ aa aa).mono ?_;rintro e q ⟨rfl,g⟩;have i:=jt f g;clear g f;go_wp2;go_ret;exact⟨rfl,i.o⟩
def PL (n:Nat)(w:World)(a:n<=1000000):Calls prog 117 #[qI (n:Int)] w λe w'=>e= .returned (af (jy (Lib.decDigits n)))/\Below w.heap.size w w':=
 Xq (n+1) n w aa a
end El
end Go.Proofs.YtlefbenkhgbifaaGreatDoor
