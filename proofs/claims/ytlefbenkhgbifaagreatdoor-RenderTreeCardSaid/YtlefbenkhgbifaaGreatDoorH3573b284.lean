/- newFinder: the rules that may apply to tokens. -/
import Derived.Test.YtlefbenkhgbifaaGreatDoorH15bbac61
import Derived.Laws.EntriesVeiled
import Derived.Maps.AppendAt
import Derived.Deep.AppendLies
import Derived.RegionTactic
set_option linter.all false
set_option maxRecDepth 100000
set_option maxHeartbeats 4000000
namespace Go.Proofs.YtlefbenkhgbifaaGreatDoor
open Tryz
namespace Ch
open Go.RowKit
variable{w w':World}{base n b B B' g k m:Nat}{e t:TypeId}{xs:List Int}{a:Act}{A:Option Addr}{ts:List ByteArray}{rs:List aD}{x:Rd}{cs:Array Value}{bs:List Nat}{p:Addr}{o:Oper}{Q:Exit->Act->World->Prop}{u:Value}
def own_below {size:Nat}{v:Value}{xs:List Value}(h:w.ownsRow base e size v n xs)(a:Below w.heap.size w w'):w'.ownsRow base e size v n xs:=
 h.kept (row:=none) ⟨a.os,a.tape,a.output,a.size,λi b _=>a.block i b⟩ (by cases v.ownBlock<;>simp)
def CO {a:Nat}{size:Nat}{v:Value}{xs:List Value}(h:w.ownsRow base e size v n xs)(b:a<=base):w.ownsRow a e size v n xs:=
 ⟨h.1,h.2.imp id λ⟨g,cap,c,d,f,i⟩=>⟨g,cap,c,d,ax b f,i⟩⟩
def Bb (w:World)(cs:List Value)(t:TypeId):∀j u,cs[j]?=some u->(w.alloc (.cells cs.toArray t)).cell? ((⟨w.heap.size,0,none⟩:Addr).add j)=some u:=by
 intro j u a;rw[show(⟨w.heap.size,0,none⟩:Addr).add j=(ag w.heap.size j) by unfold Addr.add;simp;omega,au.cell (au.new w t _)]
 simpa using a
def wP {k:IntKind}{a b:Int}(h:a=b):Ending.returned (.int k a)= .returned (.int k b):=by rw[h]
def uT (w:World)(A:Option Addr)(ts:List ByteArray):Prop:=∀(j:Nat) (s:ByteArray),ts[j]?=some s->s.size<=9223372036854775807/\∃ad:Addr,A=some ad/\ad.block<w.heap.size/\w.cell? (ad.add j)=some (af s)
def uT.keep (h:uT w A ts)(a:Below w.heap.size w w'):uT w' A ts:=λj s c=>by
 obtain⟨d,e,f,b,g⟩:=h j s c;exact⟨d,e,f,ll b a.size,(a.cell (by rw[add_block];exact b)).trans g⟩
def jg (w:World)(B:Nat)(v:Value)(xs:List Int):Prop:=w.ownsRow B 3 1 v xs.length (xs.map (Value.int .i64))
def jg.keep {v:Value}(h:jg w B v xs)(a:Below w.heap.size w w'):jg w' B v xs:=own_below h a
def jg.nil (w:World)(B:Nat):jg w B qN []:=iR _ _ _ _
def vD (w:World)(A:Option Addr)(xs:List Int):Prop:=∀(j:Nat) (x:Int),xs[j]?=some x->∃g:Nat,A=some (ag g (0))/\(∃cs,au w g 3 cs)/\w.cell? (ag g j)=some (qI x)
def jg.form {v:Value}(h:jg w B v xs):∃A cap,v= .slice A xs.length cap/\xs.length<=cap/\cap<=9223372036854775807/\vD w A xs:=by
 obtain⟨n,d⟩:=h;rcases d with⟨rfl,e⟩|⟨g,cap,f,rfl,o,i,k,l,q,m⟩
 ·obtain rfl:xs=[]:=eP.1 e;exact⟨none,0,rfl,aS,aa,λj p b=>by simp at b⟩
 ·have c:au w g 3 f:=i;refine⟨_,cap,rfl,k,by unfold maxLen at l;omega,λj p b=>⟨g,rfl,⟨_,c⟩,?_⟩⟩;rw[c.cell];have a:(xs.map (Value.int .i64))[j]?=some (qI p):=by simp[b]
  rw[<-m,gU] at a
  split at a
  ·simpa using a
  ·cases a
def vD.keep {w w':World}{A:Option Addr}{xs:List Int}(h:vD w A xs)(a:Below w.heap.size w w'):vD w' A xs:=λj p c=>by
 obtain⟨g,d,⟨cs,b⟩,e⟩:=h j p c;exact⟨g,d,⟨cs,_root_.Go.Proofs.YtlefbenkhgbifaaGreatDoor.ae a b⟩,(a.cell (p:=ag g j) b.lt).trans e⟩
def Iu {v:Value}{c:Int}(a:xs.length=n)(h:w.ownsRow B 3 1 v (n+1) ((xs.map (Value.int .i64))++[qI c])):jg w B v (xs++[c]):=by
 unfold jg;rw[aO,a,dX,di,jl];exact h
def BG:(prog.info? 3).map (λi=>(i.zero,i.size,i.bytes))=some (some (qI 0),1,8):=aj
def Fw:(prog.info? 174).map (λi=>(i.zero,i.size,i.bytes))=some (some (.pointer none),1,8):=aj
abbrev bB (g:Nat):Value:=qP g
abbrev uE (rs:List aD)(r a:Int)(k0 k1:Value):Array Value:= #[qI r,qI a,qI (qA rs r),k0,k1]
inductive jh (rs:List aD) (w:World):Nat->Rd->Prop
 |leaf (g:Nat) (r a:Int) (hb:au w g 212 (uE rs r a (.pointer none) (.pointer none))):jh rs w g (.mk r a [])
 |one (g:Nat) (r a:Int) (g0:Nat) (x:Rd) (hb:au w g 212 (uE rs r a (bB g0) (.pointer none))) (hx:jh rs w g0 x):jh rs w g (.mk r a [x])
 |two (g:Nat) (r a:Int) (g0 g1:Nat) (x y:Rd) (hb:au w g 212 (uE rs r a (bB g0) (bB g1))) (hx:jh rs w g0 x) (hy:jh rs w g1 y):jh rs w g (.mk r a [x,y])
def jh.map (c:∀g cs,au w g 212 cs->au w' g 212 cs)(h:jh rs w g x):jh rs w' g x:=by
 induction h with
 |leaf g r a b=>exact .leaf g r a (c _ _ b)
 |one g r a d x b _ e=>exact .one g r a d x (c _ _ b) e
 |two g r a d f x y b _ _ i j=>exact .two g r a d f x y (c _ _ b) i j
def jh.keep {rs:List aD}{w w':World}{g:Nat}{x:Rd}(h:jh rs w g x)(a:Below w.heap.size w w'):jh rs w' g x:=h.map λ_ _ h=>_root_.Go.Proofs.YtlefbenkhgbifaaGreatDoor.ae a h
def jh.blk (h:jh rs w g x):∃c d,au w g 212 (uE rs x.rule x.at_ c d):=by
 cases h with
 |leaf _ r a b=>exact⟨_,_,b⟩
 |one _ r a e x b _=>exact⟨_,_,b⟩
 |two _ r a e f x y b _ _=>exact⟨_,_,b⟩
def zH {b:TypeId}{c:Array Value}(h:au w g t cs)(a:au w g b c):t=b:=by
 unfold au at h a;rw[h] at a;simp only[gV,Obj.cells.injEq] at a;exact a.2.1
def jh.grown {rs:List aD}{w w':World}{row:Option Nat}{g:Nat}{x:Rd}(h:jh rs w g x)(c:w.grownBy w' row)(d:∀b,row=some b->∃t cs,au w b t cs/\t≠212):jh rs w' g x:=
 h.map λb cs a=>a.grown c λe=>by
  obtain⟨t,j,f,i⟩:=d b e.symm;exact i (zH f a)
def jm (rs:List aD)(w:World)(bs:List Nat)(xs:List Rd):Prop:=bs.length=xs.length/\∀(j b:Nat) (x:Rd),bs[j]?=some b->xs[j]?=some x->jh rs w b x
def jm.keep {rs:List aD}{w w':World}{bs:List Nat}{xs:List Rd}(h:jm rs w bs xs)(a:Below w.heap.size w w'):jm rs w' bs xs:=⟨h.1,λj b x c d=>(h.2 j b x c d).keep a⟩
def jm.map {rs:List aD}{w w':World}{bs:List Nat}{xs:List Rd}(h:jm rs w bs xs)(a:∀g cs,au w g 212 cs->au w' g 212 cs):jm rs w' bs xs:=⟨h.1,λj b x c d=>(h.2 j b x c d).map a⟩
def jm.nil :jm rs w [] []:=⟨rfl,λj b x h=>by simp at h⟩
def jm.snoc {xs:List Rd}(h:jm rs w bs xs)(i:jh rs w b x):jm rs w (bs++[b]) (xs++[x]):=by
 refine⟨by simp[h.1],λj f g a c=>?_⟩;rcases bu j bs.length with d|d
 ·rw[dz d] at a;rw[dz (by rw[<-h.1];exact d)] at c;exact h.2 j f g a c
 ·rw[cO d] at a;rw[cO (by rw[<-h.1];exact d),<-h.1] at c
  by_cases e:j -bs.length=0
  ·rw[e] at a c;obtain rfl:b=f:=by simpa using a
   obtain rfl:x=g:=by simpa using c
   exact i
  ·rw[ko (by simp;omega)] at a;cases a
def jm.append {cs:List Nat}{xs ys:List Rd}(h:jm rs w bs xs)(d:jm rs w cs ys):jm rs w (bs++cs) (xs++ys):=by
 refine⟨by simp[h.1,d.1],λj e f b c=>?_⟩;rcases bu j bs.length with a|a
 ·rw[dz a] at b;rw[dz (by rw[<-h.1];exact a)] at c;exact h.2 j e f b c
 ·rw[cO a] at b;rw[cO (by rw[<-h.1];exact a),<-h.1] at c;exact d.2 _ e f b c
def df (w:World)(B:Nat)(v:Value)(bs:List Nat):Prop:=w.ownsRow B 174 1 v bs.length (bs.map bB)
def df.keep {v:Value}(h:df w B v bs)(a:Below w.heap.size w w'):df w' B v bs:=own_below h a
def df.more {v:Value}(h:df w B v bs)(a:B'<=B):df w B' v bs:=CO h a
def df.nil (w:World)(B:Nat):df w B qN []:=iR _ _ _ _
def Fx {v:Value}(a:bs.length=n)(h:w.ownsRow B 174 1 v (n+1) ((bs.map bB)++[bB b])):df w B v (bs++[b]):=by
 unfold df;rw[aO,a,dX,di,jl];exact h
def uF (w:World)(A:Option Addr)(bs:List Nat):Prop:=∀(j b:Nat),bs[j]?=some b->∃g:Nat,A=some (ag g (0))/\(∃cs,au w g 174 cs)/\w.cell? (ag g j)=some (bB b)
def df.form {v:Value}(h:df w B v bs):∃A cap,v= .slice A bs.length cap/\bs.length<=cap/\cap<=9223372036854775807/\uF w A bs:=by
 obtain⟨n,d⟩:=h;rcases d with⟨rfl,e⟩|⟨g,cap,f,rfl,o,i,k,l,q,m⟩
 ·obtain rfl:bs=[]:=eP.1 e;exact⟨none,0,rfl,aS,aa,λj p b=>by simp at b⟩
 ·have c:au w g 174 f:=i;refine⟨_,cap,rfl,k,by unfold maxLen at l;omega,λj p b=>⟨g,rfl,⟨_,c⟩,?_⟩⟩;rw[c.cell];have a:(bs.map bB)[j]?=some (bB p):=by simp[b]
  rw[<-m,gU] at a
  split at a
  ·simpa using a
  ·cases a
def uF.keep {w w':World}{A:Option Addr}{bs:List Nat}(h:uF w A bs)(a:Below w.heap.size w w'):uF w' A bs:=λj p c=>by
 obtain⟨g,d,⟨cs,b⟩,e⟩:=h j p c;exact⟨g,d,⟨cs,_root_.Go.Proofs.YtlefbenkhgbifaaGreatDoor.ae a b⟩,(a.cell (p:=ag g j) b.lt).trans e⟩
def uF.set_ (h:uF w A bs)(d:au w p.block t cs)(f:t≠174)(u:Value):uF (w.setCell p u) A bs:=λj b i=>by
 obtain⟨g,k,⟨l,a⟩,m⟩:=h j b i;have c:g≠p.block:=λe=>by rw[e] at a;exact f (zH d a)
 exact⟨g,k,⟨l,a.far c u⟩,(kZ w p (ag g j) u (λe=>c (by rw[e]))).trans m⟩
def jm.set_ {xs:List Rd}(h:jm rs w bs xs)(b:au w p.block t cs)(c:t≠212)(u:Value):jm rs (w.setCell p u) bs xs:=
 h.map λg d a=>a.far (λe=>by rw[e] at a;exact c (zH b a)) u
def vD.set_ (h:vD w A xs)(d:au w p.block t cs)(f:t≠3)(u:Value):vD (w.setCell p u) A xs:=λj b i=>by
 obtain⟨g,k,⟨l,a⟩,m⟩:=h j b i;have c:g≠p.block:=λe=>by rw[e] at a;exact f (zH d a)
 exact⟨g,k,⟨l,a.far c u⟩,(kZ w p (ag g j) u (λe=>c (by rw[e]))).trans m⟩
structure pK where
 R:Option Addr
 cR:Nat
 T:Option Addr
 cT:Nat
 I:Option Addr
 cI:Nat
 P:Option Addr
 cP:Nat
 Q:Option Addr
 cQ:Nat
abbrev pK.c (F:pK)(n m:Nat)(jx:Int):Array Value:= #[.slice F.R n F.cR,.slice F.T m F.cT,.slice F.I m F.cI,.slice F.P m F.cP,.slice F.Q m F.cQ,qI jx]
def vE (rs:List aD)(ts:List ByteArray)(kind:Int):List Int:=ts.map λt=>eB rs kind t.toList
def Fy {kind:Int}:(vE rs ts kind).length=ts.length:=by unfold vE;simp
def DY {kind:Int}(a:k<ts.length):(vE rs ts kind)[k]?=some (eB rs kind (cZ ts k)):=by
 unfold vE cZ;rw[gL,rf,gE a];rfl
structure Ab (w:World)(F:pK)(rs:List aD)(ts:List ByteArray):Prop where
 rules:fG w F.R rs
 toks:uT w F.T ts
 inf:vD w F.I (vE rs ts 1)
 pre:vD w F.P (vE rs ts 2)
 post:vD w F.Q (vE rs ts 3)
def Ab.keep {w w':World}{F:pK}{rs:List aD}{ts:List ByteArray}(h:Ab w F rs ts)(a:Below w.heap.size w w'):Ab w' F rs ts:=⟨h.rules.keep a,h.toks.keep a,h.inf.keep a,h.pre.keep a,h.post.keep a⟩
def vD.num (h:vD w A xs){x:Int}(a:xs[k]?=some x):∃g:Nat,A=some (ag g (0))/\w.cell? (ag g k)=some (qI x):=by
 obtain⟨g,b,_,c⟩:=h k x a;exact⟨g,b,c⟩
def gX (a:Addr)(n:Nat):(a.add n).block=a.block:=by unfold Addr.add;split<;>rfl
def Sb (a:Addr)(i j:Nat):(a.add i).add j=a.add (i+j):=by
 unfold Addr.add
 by_cases b:i=0<;>by_cases c:j=0<;>simp[b,c,Nat.add_assoc]
def dL (w:World)(B size:Nat)(A:Option Addr)(n:Nat)(xs:List Value):Prop:=
 xs.length=n*size/\(0<n->∃ad,A=some ad/\ad.block<B/\∀j u,xs[j]?=some u->w.cell? (ad.add j)=some u)
section
variable {w w' : World} {B B' size n : Nat} {A : Option Addr} {xs : List Value}
def dL.keep (h:dL w B size A n xs)(b:∀p:Addr,p.block<B->w'.cell? p=w.cell? p):dL w' B size A n xs:=
 ⟨h.1,λc=>by
  obtain⟨d,e,a,f⟩:=h.2 c;exact⟨d,e,a,λj u g=>(b _ (by rw[gX];exact a)).trans (f j u g)⟩⟩
def dL.more (h:dL w B size A n xs)(d:B<=B'):dL w B' size A n xs:=
 ⟨h.1,λa=>by
  obtain⟨b,e,f,c⟩:=h.2 a;exact⟨b,e,aa,c⟩⟩
def dL.below (h:dL w B size A n xs)(a:Below B w w'):dL w' B size A n xs:=h.keep λ_ b=>a.cell b
def dL.zIi {c:Nat}(h:w.ownsRow base e size (.slice A n c) n xs):dL w w.heap.size size A n xs:=by
 refine⟨h.1,λa=>?_⟩;obtain⟨g,cap,b,_,d⟩:=h.form a;have f:A=some ⟨g,0,none⟩:=by injection b
 subst f;exact⟨_,rfl,d,h.cells (g:=g) rfl⟩
end
section
variable {P : Program} (w : World)
def Sc (base:Nat)(t d e:TypeId)(i:TypeInfo)(size:Nat)(a:P.underlying t=some (.slice e))(b:P.info? e=some i)
  (v:Value) (n:Nat) (xs:List Value) (f:w.ownsRow base e size v n xs) (c:Nat):(Builtin.append_ #[t,t] d #[v,.slice none 0 c]).run P w= .ok v w:=by
 rcases f.2 with⟨rfl,rfl⟩|⟨g,cap,j,rfl,_,_,h,_⟩
 ·simp[Builtin.append_,run_underlying a,sizeOf,typeInfo,b,Builtin.lenOf,Builtin.firstCells]
 ·simp[Builtin.append_,run_underlying a,sizeOf,typeInfo,b,Builtin.lenOf,Builtin.firstCells,h,storeCells]
def Mc (base:Nat)(t f e:TypeId)(i:TypeInfo)(z:Value)(size g:Nat)(p:P.underlying t=some (.slice e))(q:P.info? e=some i)(s:i.zero=some z)
  (x:i.size=size) (y:i.bytes=g) (C:z.cells.size=size) (D:0<size)
  (v:Value) (n:Nat) (xs:List Value) (k:w.ownsRow base e size v n xs)
  (B:Nat) (A:Option Addr) (m c:Nat) (a:List Value) (d:dL w B size A m a) (E:∀u∈a,u.oneCell'=true)
  (F:n+m<=maxLen) (G:(n+m)*g<=140737488355328) (H:base<=w.heap.size):
  ∃v' w',(Builtin.append_ #[t,t] f #[v,.slice A m c]).run P w= .ok v' w'/\w'.ownsRow base e size v' (n+m) (xs++a)/\w.grownBy w' v.ownBlock/\
   (v'.ownBlock=v.ownBlock\/v'.ownBlock=some w.heap.size):=by
 rcases A with _|l
 ·have I:m=0:=by
   rcases oP m with b|b
   ·exact b
   ·obtain⟨l,h,_⟩:=d.2 b;cases h
  subst I;have o:a=[]:=List.eq_nil_of_length_eq_zero (by simpa using d.1);subst o;exact⟨v,w,Sc w base t f e i size p q v n xs k c,by simpa using k,World.grownBy.refl w _,.inl rfl⟩
 ·have J:∀j u,a[j]?=some u->w.cell? (l.add j)=some u:=by
   intro j u r;rcases oP m with b|b
   ·subst b;have o:a=[]:=List.eq_nil_of_length_eq_zero (by simpa using d.1);subst o;simp at r
   ·obtain⟨Q,h,_,K⟩:=d.2 b;injection h with h;subst h;exact K j u r
  obtain⟨v',w',L,M,N,_,O⟩:=run_append_own_at (P:=P) w base t f e i z size g p q s x y C D v n xs k l m c a d.1 J E F G H;exact⟨v',w',L,M,N,O⟩
def Md {K:Act->World->Prop}(s x:Operand)(t:TypeId)
  (f:o.op= .call {callee:=.builtin .append,args:= #[s,x],argTypes:= #[t,t]})
  (base:Nat) (e:TypeId) (i:TypeInfo) (z:Value) (size d:Nat) (g:P.underlying t=some (.slice e)) (j:P.info? e=some i) (k:i.zero=some z)
  (l:i.size=size) (p:i.bytes=d) (q:z.cells.size=size) (r:0<size)
  (v:Value) (n:Nat) (xs:List Value) (y:a.eval s=v) (C:w.ownsRow base e size v n xs)
  (B:Nat) (A:Option Addr) (m c:Nat) (b:List Value) (D:a.eval x= .slice A m c) (E:dL w B size A m b) (F:∀u∈b,u.oneCell'=true)
  (G:n+m<=maxLen) (H:(n+m)*d<=140737488355328) (I:base<=w.heap.size)
  (h:∀v' w',w'.ownsRow base e size v' (n+m) (xs++b)->w.grownBy w' v.ownBlock->(v'.ownBlock=v.ownBlock\/v'.ownBlock=some w.heap.size)->K (a.put o.dst v') w'):o.wp P a w K Q:=by
 obtain⟨v',w',J,L,M,N⟩:=Mc (P:=P) w base t o.type e i z size d g j k l p q r v n xs C B A m c b E F G H I;unfold Oper.wp execOp;simp only[f,resolve,invoke,builtin,Sem.run_bind,Sem.run_pure,uh,ui,di,jl,y,D,J];exact h v' w' L M N
def uG {ops:Array Oper}{f:List Oper}(g:o.guard=none)(s x:Operand)(t:TypeId)
  (j:o.op= .call {callee:=.builtin .append,args:= #[s,x],argTypes:= #[t,t]})
  (base:Nat) (e:TypeId) (i:TypeInfo) (z:Value) (size d:Nat) (k:P.underlying t=some (.slice e)) (l:P.info? e=some i) (p:i.zero=some z)
  (q:i.size=size) (r:i.bytes=d) (y:z.cells.size=size) (C:0<size)
  (v:Value) (n:Nat) (xs:List Value) (D:a.eval s=v) (E:w.ownsRow base e size v n xs)
  (B:Nat) (A:Option Addr) (m c:Nat) (b:List Value) (F:a.eval x= .slice A m c) (G:dL w B size A m b) (H:∀u∈b,u.oneCell'=true)
  (I:n+m<=maxLen) (J:(n+m)*d<=140737488355328) (K:base<=w.heap.size)
  (h:∀v' w',w'.ownsRow base e size v' (n+m) (xs++b)->w.grownBy w' v.ownBlock->(v'.ownBlock=v.ownBlock\/v'.ownBlock=some w.heap.size)->wpList P ops Q f (a.put o.dst v') w'):wpList P ops Q (o::f) a w:=
 wpList_plain g λ_ L=>Md w s x t j base e i z size d k l p q r y C v n xs D E B A m c b F G H I J K λv' w' M N O=>L _ _ (h v' w' M N O)
end
section
variable {P : Program}
def wQ {F:Act}{R:Value->World->Prop}(s x:Operand)(t:TypeId)
  (d:o.op= .call {callee:=.builtin .append,args:= #[s,x],argTypes:= #[t,t]})
  (base:Nat) (e:TypeId) (i:TypeInfo) (z:Value) (size b:Nat) (f:P.underlying t=some (.slice e)) (g:P.info? e=some i) (j:i.zero=some z)
  (k:i.size=size) (l:i.bytes=b) (p:z.cells.size=size) (q:0<size)
  (v:Value) (n:Nat) (xs:List Value) (r:F.eval s=v) (y:w.ownsRow base e size v n xs)
  (B:Nat) (A:Option Addr) (m c:Nat) (a:List Value) (C:F.eval x= .slice A m c) (D:dL w B size A m a) (E:∀u∈a,u.oneCell'=true)
  (G:n+m<=maxLen) (H:(n+m)*b<=140737488355328) (I:base<=w.heap.size)
  (h:∀v' w',w'.ownsRow base e size v' (n+m) (xs++a)->w.grownBy w' v.ownBlock->(v'.ownBlock=v.ownBlock\/v'.ownBlock=some w.heap.size)->R v' w'):aP P (execOp F.eval o) w R:=by
 obtain⟨v',w',J,K,L,M⟩:=Mc (P:=P) w base t o.type e i z size b f g j k l p q v n xs y B A m c a D E G H I;refine aP.value (v:=v') (w':=w') ?_ (h v' w' K L M);unfold execOp;simp only[d,resolve,invoke,builtin,Sem.run_bind,Sem.run_pure,uh,ui,di,jl,r,C,J]
def Fz (h:au w g t #[u]):dL w w.heap.size 1 (some (ag g (0))) 1 [u]:=
 ⟨rfl,λ_=>⟨(ag g (0)),rfl,h.lt,λj v a=>by
  have e:(⟨g,0,none⟩:Addr).add j=⟨g,j,none⟩:=yR
  rw[e,h.cell]
  simpa using a⟩⟩
end
def qF (kind:Int)(s:List UInt8)(r:aD):Bool:=decide (r.kind=kind)&&r.sym.toList==s
def FB {kind:Int}{s:List UInt8}{x:aD}(a:rs[k]?=some x)(c:qF kind s x=true)(h:∀(j:Nat) y,rs[j]?=some y->j<k->qF kind s y=false):eB rs kind s=k:=by
 have b:=(bP.1 a).1;have:ny rs kind s=some k:=by
  unfold ny;rw[qY];refine⟨b,?_,λj d=>?_⟩
  ·have e:rs[k]=x:=by rw[gE b] at a;exact sj a
   rw[e];exact c
  ·have:=h j rs[j] (gE aa) d;unfold qF at this;rw[this];simp
 unfold eB;rw[this]
def FC {kind:Int}{s:List UInt8}(h:∀(j:Nat) y,rs[j]?=some y->qF kind s y=false):eB rs kind s= -1:=by
 have:ny rs kind s=none:=by
  unfold ny;rw[yX];intro y a;obtain⟨j,b⟩:=gz.1 a;exact h j y b
 unfold eB;rw[this]
def FD (g:Nat)(A:Option Addr)(cap:Nat)(rs:List aD)(kind:Int)(s:ByteArray)(w:World)(d:au w g 22 #[.slice A rs.length cap])(o:fG w A rs)(D:rs.length<=1000000):Calls prog 179 #[qI kind,af s,qP g] w λe w'=>e= .returned (qI (eB rs kind s.toList))/\Below w.heap.size w w':=by
 have b:=zh o;have E:=zh d;have p:=d.cell 0;clear d o;go_enter func179,ntmps179;go_wp2_with fail;clear p
 go_loopw [10] (λi wr=>∃k:Nat,k<=rs.length/\i=qI k/\Hy (∀(j:Nat) x,rs[j]?=some x->j<k->qF kind s.toList x=false)/\Hy (fG wr A rs)/\Hy (Below w.heap.size w wr)) (λi _=>rs.length -(intOf i).toNat)
 case atStart=>exact⟨0,aa,rfl,(λj _ _ h=>aa),b,aL _ _⟩
 case round=>
  clear b;obtain⟨k,F,rfl,f,b,l⟩:=hrel
  by_cases z:k<rs.length
  ·obtain⟨x,m⟩:∃x,rs[k]?=some x:=⟨_,gE z⟩
   obtain⟨B,G,rfl,H,p,I,J,K,L,M⟩:=b.o.at_ m;have q:=zh m;clear m B;have r:=zh (b.o.alloc (.cells x.c 41));have n:=zh (l.o.alloc l.o.size (.cells x.c 41));clear b;have step:Hy (qF kind s.toList x=false->∀(j:Nat) y,rs[j]?=some y->j<k+1->qF kind s.toList y=false):=λC j y c h=>by
    rcases bu j k with t|t
    ·exact f.o j y c t
    ·obtain rfl:j=k:=by omega
     rw[q.o] at c;obtain rfl:=sj c;exact C
   cases u:(x.kind==kind)
   ·have a:=ah (qF kind s.toList x=false) (by unfold qF;rw[show decide (x.kind=kind)=(x.kind==kind) from rfl,u];rfl);go_wp2;go_roundw
    case rel=>exact⟨k+1,aa,bi,zh (step.o a.o),r,n⟩
    case measure=>simp[intOf];omega
   ·cases v:(x.sym.toList==s.toList)
    ·have a:=ah (qF kind s.toList x=false) (by unfold qF;rw[v,bF]);go_wp2;go_roundw
     case rel=>exact⟨k+1,aa,bi,zh (step.o a.o),r,n⟩
     case measure=>simp[intOf];omega
    ·have a:=zh (FB (kind:=kind) (s:=s.toList) q.o (by unfold qF;rw[show decide (x.kind=kind)=(x.kind==kind) from rfl,u,v];rfl) f.o);go_wp2;go_ret;exact⟨wP a.o.symm,n.o⟩
  ·have a:=zh (FC (rs:=rs) (kind:=kind) (s:=s.toList) λj y c=>f.o j y c (av ((bP.1 c).1)));go_wp2;go_ret;exact⟨wP a.o.symm,l.o⟩
def dn {α:Type}(v:Nat->α)(c:Nat)(u:α):Nat->α:=λi=>if i=c then u else v i
def nA (w:World)(B:Nat)(v:Nat->Value)(xs:Nat->List Int):Prop:=(∀i,i<3->jg w B (v i) (xs i))/\∀i j,i<3->j<3->i≠j->∀b,(v i).ownBlock=some b->(v j).ownBlock≠some b
def nA.keep {w w':World}{B:Nat}{v:Nat->Value}{xs:Nat->List Int}(h:nA w B v xs)(a:Below w.heap.size w w'):nA w' B v xs:=⟨λi b=>(h.1 i b).keep a,h.2⟩
def nA.grow {c:Nat}{v:Nat->Value}{xs:Nat->List Int}{ys:List Int}(h:nA w B v xs)(l:c<3)(p:w.grownBy w' (v c).ownBlock)(q:jg w' B u ys)(a:u.ownBlock=(v c).ownBlock\/u.ownBlock=some w.heap.size):nA w' B (dn v c u) (dn xs c ys):=by
 have o:∀i,i<3->∀b,(v i).ownBlock=some b->b<w.heap.size:=λi f b d=>(bA (h.1 i f) b d).2
 refine⟨λi f=>?_,λi j f m n b d=>?_⟩
 ·unfold dn
  by_cases e:i=c
  ·rw[ak e,ak e];exact q
  ·rw[ai e,ai e];refine gM (h.1 i f) p ?_;cases r:(v i).ownBlock with
   |none=>exact .inl rfl
   |some b=>exact .inr λs=>h.2 i c f l e b r s.symm
 ·unfold dn at d⊢
  by_cases g:i=c
  ·rw[ak g] at d;rw[ai (λk=>n (g.trans k.symm))];rcases a with a|a
   ·rw[d] at a;exact h.2 c j l m (λe=>n (g.trans e)) b a.symm
   ·rw[d] at a;obtain rfl:=sj a;intro e;have:=o j m _ e;omega
  ·rw[ai g] at d
   by_cases k:j=c
   ·rw[ak k];rcases a with a|a
    ·rw[a];exact h.2 i c f l g b d
    ·rw[a];intro e;have:=o i f b d;obtain rfl:=sj e;omega
   ·rw[ai k];exact h.2 i j f m n b d
def xY (w:World)(p:Addr)(u:Value):w.grownBy (w.setCell p u) (some p.block):=by
 have a:(w.setCell p u).heap.size=w.heap.size:=by simp[World.setCell]
 refine⟨?_,?_,?_,Nat.le_of_eq a.symm,λi c b=>xD w p u i (λe=>b (by rw[e]))⟩<;>rfl
def nA.set_ {v:Nat->Value}{xs:Nat->List Int}(h:nA w B v xs)(d:p.block<B)(u:Value):nA (w.setCell p u) B v xs:=by
 refine⟨λi a=>gM (h.1 i a) (xY w p u) ?_,h.2⟩;cases c:(v i).ownBlock with
 |none=>exact .inl rfl
 |some b=>
  refine .inr λe=>?_
  have:=(bA (h.1 i a) b c).1;have:=sj e;omega
abbrev Ac (A:Option Addr)(n cap:Nat)(T:Option Addr)(m cT:Nat)(v:Nat->Value)(jx:Int):Array Value:= #[.slice A n cap,.slice T m cT,v 0,v 1,v 2,qI jx]
abbrev Ad:Array Value:= #[qN,qN,qN,qN,qN,qI 0]
def eG (w:World)(A:Option Addr)(n cap:Nat)(T:Option Addr)(m cT:Nat)(v:Nat->Value)(xs:Nat->List Int)(c:Nat)(x:Int):List Bool->Nat×Value->World->Prop
 |[bb,ba,bs],gx,wq=>au wq w.heap.size 22 #[.slice A n cap]/\au wq (w.heap.size+1) 203 Ad/\au wq (w.heap.size+2) 203 (Ac A n cap T m cT (if bs then dn v c gx.2 else v) (-1))/\
   nA wq (w.heap.size+3) (if ba then dn v c gx.2 else v) (if ba then dn xs c (xs c++[x]) else xs)/\(bb=true->ba=false->au wq gx.1 3 #[qI x])/\Below w.heap.size w wq
 |_,_,_=>False
section
variable {w : World} {A : Option Addr} {n cap : Nat} {T : Option Addr} {m cT : Nat} {v : Nat -> Value} {xs : Nat -> List Int} {c : Nat} {x : Int} {gx : Nat × Value} {wq w' : World} {bb ba bs : Bool}
def eG.keep (h:eG w A n cap T m cT v xs c x [bb,ba,bs] gx wq)(a:Below wq.heap.size wq w'):eG w A n cap T m cT v xs c x [bb,ba,bs] gx w':=by
 obtain⟨d,e,f,g,i,b⟩:=h;exact⟨_root_.Go.Proofs.YtlefbenkhgbifaaGreatDoor.ae a d,_root_.Go.Proofs.YtlefbenkhgbifaaGreatDoor.ae a e,_root_.Go.Proofs.YtlefbenkhgbifaaGreatDoor.ae a f,g.keep a,λj k=>_root_.Go.Proofs.YtlefbenkhgbifaaGreatDoor.ae a (i j k),b.trans (a.mono b.size)⟩
def eG.build (h:eG w A n cap T m cT v xs c x [bb,false,false] gx wq):eG w A n cap T m cT v xs c x [true,false,false] (wq.heap.size,gx.2) (wq.alloc (.cells #[qI x] 3)):=by
 obtain⟨d,e,f,g,_,b⟩:=h;have a:=aN wq (.cells #[qI x] 3);exact⟨_root_.Go.Proofs.YtlefbenkhgbifaaGreatDoor.ae a d,_root_.Go.Proofs.YtlefbenkhgbifaaGreatDoor.ae a e,_root_.Go.Proofs.YtlefbenkhgbifaaGreatDoor.ae a f,g.keep a,λ_ _=>au.new _ _ _,b.trans (a.mono b.size)⟩
def eG.append (h:eG w A n cap T m cT v xs c x [true,false,false] gx wq)(d:c<3)(l:jg w' (w.heap.size+3) u (xs c++[x]))(a:wq.grownBy w' (v c).ownBlock)(o:u.ownBlock=(v c).ownBlock\/u.ownBlock=some wq.heap.size):eG w A n cap T m cT v xs c x [true,true,false] (gx.1,u) w':=by
 obtain⟨p,q,r,f,_,g⟩:=h;have i:∀b,(v c).ownBlock=some b->w.heap.size+3<=b:=λb s=>(bA (f.1 c d) b s).1
 have far:∀k,k<w.heap.size+3->some k≠(v c).ownBlock:=λk j e=>av (i k e.symm)
 exact⟨p.grown a (far _ aa),q.grown a (far _ aa),r.grown a (far _ aa),f.grow d a l o,(λ_ h=>by cases h),g.grown a g.size (λk j=>av (i k j))⟩
def eG.store (h:eG w A n cap T m cT v xs c x [true,true,false] gx wq)(a:c<3):eG w A n cap T m cT v xs c x [true,true,true] gx (wq.setCell ⟨w.heap.size+2,2+c,none⟩ gx.2):=by
 obtain⟨b,d,e,f,_,g⟩:=h;refine⟨b.far (by show _≠w.heap.size+2;omega) _,d.far (by show _≠w.heap.size+2;omega) _,?_,f.set_ (by show w.heap.size+2<_;omega) _,(λ_ h=>by cases h),g.setCell (p:=ag (w.heap.size+2) (2+c)) (by show w.heap.size<=w.heap.size+2;omega) _⟩;have:=e.set_ (2+c) gx.2
 match c,a with
 |0,_=>exact this
 |1,_=>exact this
 |2,_=>exact this
def eG.done (h:eG w A n cap T m cT v xs c x [true,true,true] gx wq):eG w A n cap T m cT (dn v c gx.2) (dn xs c (xs c++[x])) 0 0 [false,false,false] (0,.nilFunc) wq:=by
 obtain⟨a,b,d,e,_,f⟩:=h;exact⟨a,b,d,e,(λh=>by cases h),f⟩
def eG.again (h:eG w A n cap T m cT v xs c x [false,false,false] gx wq)(a:Nat)(b:Int)(d:Nat×Value):eG w A n cap T m cT v xs a b [false,false,false] d wq:=by
 obtain⟨e,f,g,i,_,j⟩:=h;exact⟨e,f,g,i,(λh=>by cases h),j⟩
end
def Iw {v:Value}(h:jg w B v xs)(b:xs.length=m):∃I a,v= .slice I m a/\vD w I xs:=by
 obtain⟨I,a,c,_,_,d⟩:=h.form;exact⟨I,a,by rw[c,b],d⟩
def Iy {v:Value}{I:Option Addr}{b:Nat}(h:jg w B v xs)(c:v= .slice I m b):vD w I xs:=by
 obtain⟨f,g,a,_,_,d⟩:=h.form;rw[c] at a;injection a with e;rw[e];exact d
def Iz (A T:Option Addr)(rs:List aD)(ts:List ByteArray)(w:World)(e:Ending)(w':World):Prop:=∃F:pK,e= .returned (.agg (F.c rs.length ts.length (eB rs 4 [])))/\Ab w' F rs ts/\(F.R=A/\F.T=T)/\Below w.heap.size w w'
def IA {kind:Int}{t:ByteArray}(a:ts[k]?=some t):(vE rs ts kind).take (k+1)=(vE rs ts kind).take k++[eB rs kind t.toList]:=by
 unfold vE;rw[dA,gL,a];rfl
def iK (rs:List aD)(ts:List ByteArray)(k:Nat):Nat->List Int:=λi=>(vE rs ts (i+1:Nat)).take k
def CP {i:Nat}(a:k<=ts.length):(iK rs ts k i).length=k:=by unfold iK;rw[eU,Fy];omega
def Sd {t:ByteArray}(a:ts[k]?=some t):∀i,i<3->(dn (dn (dn (iK rs ts k) 0 (iK rs ts k 0++[eB rs 1 t.toList])) 1 (dn (iK rs ts k) 0 (iK rs ts k 0++[eB rs 1 t.toList]) 1++[eB rs 2 t.toList])) 2 (dn (dn (iK rs ts k) 0 (iK rs ts k 0++[eB rs 1 t.toList])) 1 (dn (iK rs ts k) 0 (iK rs ts k 0++[eB rs 1 t.toList]) 1++[eB rs 2 t.toList]) 2++[eB rs 3 t.toList])) i=iK rs ts (k+1) i:=by
 intro i b
 match i,b with
 |0,_=>exact(IA (kind:=1) a).symm
 |1,_=>exact(IA (kind:=2) a).symm
 |2,_=>exact(IA (kind:=3) a).symm
def nA.same {v:Nat->Value}{xs ys:Nat->List Int}(h:nA w B v xs)(b:∀i,i<3->xs i=ys i):nA w B v ys:=⟨λi a=>by rw[<-b i a];exact h.1 i a,h.2⟩
def eG.drew {w:World}{A:Option Addr}{n cap:Nat}{T:Option Addr}{m cT:Nat}{v:Nat->Value}{xs:Nat->List Int}{c:Nat}{x:Int}{gx:Nat×Value}{wq:World}{bb ba bs:Bool}(h:eG w A n cap T m cT v xs c x [bb,ba,bs] gx wq):eG w A n cap T m cT v xs c x [bb,ba,bs] gx wq.drew:=by
 obtain⟨a,b,d,e,f,g⟩:=h;exact⟨a,b,d,e,f,fC g⟩
def Sg (A T:Option Addr)(cap cT:Nat)(rs:List aD)(ts:List ByteArray)(w:World)(b5:fG w A rs)(b6:uT w T ts)(V:rs.length<=1000000)(d6:ts.length<=1000000):Calls prog 160 #[.slice A rs.length cap,.slice T ts.length cT] w (Iz A T rs ts w):=by
 obtain⟨Z,a0,a1,a2,a3⟩:=info_parts BG;have F:=zh b5;have b7:=zh b6;have c3:∀(b8:Fn) (first cap:Array Value) (w:World),(Instr.makeFunc b8 first cap).run prog w= .ok (.func b8 first cap) w:=λ_ _ _ _=>rfl
 clear b5 b6;go_enter func160,ntmps160;go_wp2_with fail;have m:Hy (eG w A rs.length cap T ts.length cT (λ_=>qN) (iK rs ts 0) 0 0 [false,false,false] (0,.nilFunc) (((w.alloc (.cells #[.slice A rs.length cap] 22)).alloc (.cells Ad 203)).alloc (.cells (Ac A rs.length cap T ts.length cT (λ_=>qN) (-1)) 203))):=by
  have c:=aN w (.cells #[.slice A rs.length cap] 22);refine⟨((au.new w _ _).alloc _).alloc _,?_,?_,⟨λi _=>?_,λi j _ _ _ b c=>by cases c⟩,(λh=>by cases h),(c.alloc c.size _).alloc (by simp;omega) _⟩
  ·have:=(au.new (w.alloc (.cells #[.slice A rs.length cap] 22)) 203 Ad).alloc (.cells (Ac A rs.length cap T ts.length cT (λ_=>qN) (-1)) 203)
   simpa using this
  ·have:=au.new ((w.alloc (.cells #[.slice A rs.length cap] 22)).alloc (.cells Ad 203)) 203 (Ac A rs.length cap T ts.length cT (λ_=>qN) (-1))
   simpa using this
  ·show jg _ _ qN (iK rs ts 0 i);rw[show iK rs ts 0 i=[] from eZ ..];exact jg.nil _ _
 generalize ((w.alloc (.cells _ 22)).alloc (.cells _ 203)).alloc (.cells _ 203)=d7 at*;clear c3
 go_loopw [15] (λi wr=>∃(k:Nat) (v:Nat->Value),k<=ts.length/\i=qI k/\Hy (eG w A rs.length cap T ts.length cT v (iK rs ts k) 0 0 [false,false,false] (0,.nilFunc) wr)) (λi _=>ts.length -(intOf i).toNat)
 case atStart=>exact⟨0,_,aa,rfl,m⟩
 case round=>
  clear m;obtain⟨k,v,a4,rfl,m⟩:=hrel
  by_cases c4:k<ts.length
  ·obtain⟨s,a5⟩:∃s,ts[k]?=some s:=⟨_,gE c4⟩
   obtain⟨c5,a6,rfl,d8,c6⟩:=(b7.o.keep m.o.2.2.2.2.2) k s a5;have c7:=zh (Sd (rs:=rs) a5);have c8:=zh (CP (rs:=rs) (ts:=ts) (k:=k) (i:=0) a4);have c9:=ah ((dn (iK rs ts k) 0 (iK rs ts k 0++[eB rs 1 s.toList]) 1).length=k) (CP (rs:=rs) (i:=1) a4);have d0:=ah ((dn (dn (iK rs ts k) 0 (iK rs ts k 0++[eB rs 1 s.toList])) 1 (dn (iK rs ts k) 0 (iK rs ts k 0++[eB rs 1 s.toList]) 1++[eB rs 2 s.toList]) 2).length=k) (CP (rs:=rs) (i:=2) a4);clear a5 c5;go_upto_region 6 with(fail)
   clear c6;refine xX (X:=Nat×Value) aj _ (λd=>[aR (w.heap.size+2) (2),(v 0),.func (.func 179) #[] #[qP w.heap.size],af s,qI (eB rs 1 s.toList),ay (ag d.1 (0)) 1 1,d.2,aR (w.heap.size+2) (2),undef]) [true,true,true,true,true,true,true,true,true] [5,6,8] (eG w A rs.length cap (some a6) ts.length cT v (iK rs ts k) 0 (eB rs 1 s.toList)) (0,.nilFunc) aj (λd=>by simp[fin,mX,fK,List.range,List.range.loop,Act.put];rfl) (λ_=>aj) aj (eG.drew (m.o.again _ _ _)) ?_ ?_
   ·refine⟨jT,λL d o g c f a=>?_,jS,jS,λL d o g c f a=>?_,λL d o g c f a=>?_,λL d o g c f a=>?_,jT,λL d o g c f a=>?_,trivial⟩
    ·have l:L 8=false:=f 8 aj;have x:o.cell? ⟨w.heap.size+2,2,none⟩=some (v 0):=by
      have h:=a.2.2.1.cell 2;simp only[l] at h;exact h
     exact jq (v 0) o (bE x) rfl a
    ·refine jc 179 (#[qI 1,af s,qP w.heap.size]) o aj ((FD w.heap.size A cap rs 1 s o a.1 (F.o.keep a.2.2.2.2.2) V).mono ?_);rintro e b9 ⟨rfl,G⟩;exact⟨_,rfl,d,rfl,lK.same,eG.keep a G⟩
    ·have r:L 5=false:=g;have t:L 6=false:=f 6 aj;have l:L 8=false:=f 8 aj;simp only[List.map,r,t,l] at a⊢;exact jv (ay (ag o.heap.size (0)) 1 1) (o.alloc (.cells #[qI (eB rs 1 s.toList)] 3)) ol ⟨(o.heap.size,d.2),rfl,jD,eG.build a⟩
    ·have r:L 5=true:=c 5 aj;have t:L 6=false:=g;have l:L 8=false:=f 8 aj;simp only[List.map,r,t,l] at a⊢;have z:jg o (w.heap.size+3) (v 0) ((iK rs ts k) 0):=a.2.2.2.1.1 0 aa;have B:=a.2.2.2.2.1 rfl rfl;have c0:=a.2.2.2.2.2.size;have C:=c8.o;have H:w.heap.size+3<=o.heap.size:=a.2.2.1.lt;exact wQ (.tmp 20) (.tmp 24) 32 rfl (w.heap.size+3) 3 Z (qI 0) 1 8 underlying32 a0 a1 a2 a3 rfl aI (v 0) _ _ rfl z o.heap.size (some (ag d.1 (0))) 1 1 [qI (eB rs 1 s.toList)] rfl (Fz B) (by intro u D;simp at D;subst D;rfl) (by rw[C];unfold maxLen;omega) (by rw[C];omega) H (λI w' J K M=>⟨(d.1,I),rfl,jD,eG.append a aa (Iu rfl J) K M⟩)
    ·have r:L 5=true:=c 5 aj;have t:L 6=true:=c 6 aj;have l:L 8=false:=g;simp only[List.map,r,t,l] at a⊢;have x:o.cell? ⟨w.heap.size+2,2,none⟩=some (v 0):=a.2.2.1.cell 2;have N:=a.2.2.1.frozen 2;obtain⟨c1,O⟩:=d;obtain⟨P,Q,R,_⟩:=(show jg o (w.heap.size+3) O ((iK rs ts k) 0++[(eB rs 1 s.toList)]) from a.2.2.2.1.1 0 aa).form;subst R;exact aP.skip (w':=o.setCell ⟨w.heap.size+2,2,none⟩ (.slice P ((iK rs ts k) 0++[(eB rs 1 s.toList)]).length Q)) (ek x N) ⟨_,rfl,lK.same,eG.store a aa⟩
   ·intro d o a;have m:=zh (eG.done a);clear a;go_upto_region 7 with(fail)
    refine xX (X:=Nat×Value) aj _ (λn=>[aR (w.heap.size+2) (3),((dn v 0 d.2) 1),.func (.func 179) #[] #[qP w.heap.size],af s,qI (eB rs 2 s.toList),ay (ag n.1 (0)) 1 1,n.2,aR (w.heap.size+2) (3),undef]) [true,true,true,true,true,true,true,true,true] [5,6,8] (eG w A rs.length cap (some a6) ts.length cT (dn v 0 d.2) (dn (iK rs ts k) 0 (iK rs ts k 0++[eB rs 1 s.toList])) 1 (eB rs 2 s.toList)) (0,.nilFunc) aj (λn=>by simp[fin,mX,fK,List.range,List.range.loop,Act.put];rfl) (λ_=>aj) aj (eG.drew (m.o.again _ _ _)) ?_ ?_
    ·refine⟨jT,λL n p g c f a=>?_,jS,jS,λL n p g c f a=>?_,λL n p g c f a=>?_,λL n p g c f a=>?_,jT,λL n p g c f a=>?_,trivial⟩
     ·have l:L 8=false:=f 8 aj;have x:p.cell? ⟨w.heap.size+2,3,none⟩=some ((dn v 0 d.2) 1):=by
       have h:=a.2.2.1.cell 3;simp only[l] at h;exact h
      exact jq ((dn v 0 d.2) 1) p (bE x) rfl a
     ·refine jc 179 (#[qI 2,af s,qP w.heap.size]) p aj ((FD w.heap.size A cap rs 2 s p a.1 (F.o.keep a.2.2.2.2.2) V).mono ?_);rintro e b9 ⟨rfl,G⟩;exact⟨_,rfl,n,rfl,lK.same,eG.keep a G⟩
     ·have r:L 5=false:=g;have t:L 6=false:=f 6 aj;have l:L 8=false:=f 8 aj;simp only[List.map,r,t,l] at a⊢;exact jv (ay (ag p.heap.size (0)) 1 1) (p.alloc (.cells #[qI (eB rs 2 s.toList)] 3)) ol ⟨(p.heap.size,n.2),rfl,jD,eG.build a⟩
     ·have r:L 5=true:=c 5 aj;have t:L 6=false:=g;have l:L 8=false:=f 8 aj;simp only[List.map,r,t,l] at a⊢;have z:jg p (w.heap.size+3) ((dn v 0 d.2) 1) ((dn (iK rs ts k) 0 (iK rs ts k 0++[eB rs 1 s.toList])) 1):=a.2.2.2.1.1 1 aa;have B:=a.2.2.2.2.1 rfl rfl;have c0:=a.2.2.2.2.2.size;have C:=c9.o;have H:w.heap.size+3<=p.heap.size:=a.2.2.1.lt;exact wQ (.tmp 28) (.tmp 32) 32 rfl (w.heap.size+3) 3 Z (qI 0) 1 8 underlying32 a0 a1 a2 a3 rfl aI ((dn v 0 d.2) 1) _ _ rfl z p.heap.size (some (ag n.1 (0))) 1 1 [qI (eB rs 2 s.toList)] rfl (Fz B) (by intro u D;simp at D;subst D;rfl) (by rw[C];unfold maxLen;omega) (by rw[C];omega) H (λI w' J K M=>⟨(n.1,I),rfl,jD,eG.append a aa (Iu rfl J) K M⟩)
     ·have r:L 5=true:=c 5 aj;have t:L 6=true:=c 6 aj;have l:L 8=false:=g;simp only[List.map,r,t,l] at a⊢;have x:p.cell? ⟨w.heap.size+2,3,none⟩=some ((dn v 0 d.2) 1):=a.2.2.1.cell 3;have N:=a.2.2.1.frozen 3;obtain⟨c1,O⟩:=n;obtain⟨P,Q,R,_⟩:=(show jg p (w.heap.size+3) O ((dn (iK rs ts k) 0 (iK rs ts k 0++[eB rs 1 s.toList])) 1++[(eB rs 2 s.toList)]) from a.2.2.2.1.1 1 aa).form;subst R;exact aP.skip (w':=p.setCell ⟨w.heap.size+2,3,none⟩ (.slice P ((dn (iK rs ts k) 0 (iK rs ts k 0++[eB rs 1 s.toList])) 1++[(eB rs 2 s.toList)]).length Q)) (ek x N) ⟨_,rfl,lK.same,eG.store a aa⟩
    ·intro n p a;have m:=zh (eG.done a);clear a;go_upto_region 8 with(fail)
     refine xX (X:=Nat×Value) aj _ (λy=>[aR (w.heap.size+2) (4),((dn (dn v 0 d.2) 1 n.2) 2),.func (.func 179) #[] #[qP w.heap.size],af s,qI (eB rs 3 s.toList),ay (ag y.1 (0)) 1 1,y.2,aR (w.heap.size+2) (4),undef]) [true,true,true,true,true,true,true,true,true] [5,6,8] (eG w A rs.length cap (some a6) ts.length cT (dn (dn v 0 d.2) 1 n.2) (dn (dn (iK rs ts k) 0 (iK rs ts k 0++[eB rs 1 s.toList])) 1 ((dn (iK rs ts k) 0 (iK rs ts k 0++[eB rs 1 s.toList])) 1++[eB rs 2 s.toList])) 2 (eB rs 3 s.toList)) (0,.nilFunc) aj (λy=>by simp[fin,mX,fK,List.range,List.range.loop,Act.put];rfl) (λ_=>aj) aj (eG.drew (m.o.again _ _ _)) ?_ ?_
     ·refine⟨jT,λL y q g c f a=>?_,jS,jS,λL y q g c f a=>?_,λL y q g c f a=>?_,λL y q g c f a=>?_,jT,λL y q g c f a=>?_,trivial⟩
      ·have l:L 8=false:=f 8 aj;have x:q.cell? ⟨w.heap.size+2,4,none⟩=some ((dn (dn v 0 d.2) 1 n.2) 2):=by
        have h:=a.2.2.1.cell 4;simp only[l] at h;exact h
       exact jq ((dn (dn v 0 d.2) 1 n.2) 2) q (bE x) rfl a
      ·refine jc 179 (#[qI 3,af s,qP w.heap.size]) q aj ((FD w.heap.size A cap rs 3 s q a.1 (F.o.keep a.2.2.2.2.2) V).mono ?_);rintro e b9 ⟨rfl,G⟩;exact⟨_,rfl,y,rfl,lK.same,eG.keep a G⟩
      ·have r:L 5=false:=g;have t:L 6=false:=f 6 aj;have l:L 8=false:=f 8 aj;simp only[List.map,r,t,l] at a⊢;exact jv (ay (ag q.heap.size (0)) 1 1) (q.alloc (.cells #[qI (eB rs 3 s.toList)] 3)) ol ⟨(q.heap.size,y.2),rfl,jD,eG.build a⟩
      ·have r:L 5=true:=c 5 aj;have t:L 6=false:=g;have l:L 8=false:=f 8 aj;simp only[List.map,r,t,l] at a⊢;have z:jg q (w.heap.size+3) ((dn (dn v 0 d.2) 1 n.2) 2) ((dn (dn (iK rs ts k) 0 (iK rs ts k 0++[eB rs 1 s.toList])) 1 ((dn (iK rs ts k) 0 (iK rs ts k 0++[eB rs 1 s.toList])) 1++[eB rs 2 s.toList])) 2):=a.2.2.2.1.1 2 aa;have B:=a.2.2.2.2.1 rfl rfl;have c0:=a.2.2.2.2.2.size;have C:=d0.o;have H:w.heap.size+3<=q.heap.size:=a.2.2.1.lt;exact wQ (.tmp 36) (.tmp 40) 32 rfl (w.heap.size+3) 3 Z (qI 0) 1 8 underlying32 a0 a1 a2 a3 rfl aI ((dn (dn v 0 d.2) 1 n.2) 2) _ _ rfl z q.heap.size (some (ag y.1 (0))) 1 1 [qI (eB rs 3 s.toList)] rfl (Fz B) (by intro u D;simp at D;subst D;rfl) (by rw[C];unfold maxLen;omega) (by rw[C];omega) H (λI w' J K M=>⟨(y.1,I),rfl,jD,eG.append a aa (Iu rfl J) K M⟩)
      ·have r:L 5=true:=c 5 aj;have t:L 6=true:=c 6 aj;have l:L 8=false:=g;simp only[List.map,r,t,l] at a⊢;have x:q.cell? ⟨w.heap.size+2,4,none⟩=some ((dn (dn v 0 d.2) 1 n.2) 2):=a.2.2.1.cell 4;have N:=a.2.2.1.frozen 4;obtain⟨c1,O⟩:=y;obtain⟨P,Q,R,_⟩:=(show jg q (w.heap.size+3) O ((dn (dn (iK rs ts k) 0 (iK rs ts k 0++[eB rs 1 s.toList])) 1 ((dn (iK rs ts k) 0 (iK rs ts k 0++[eB rs 1 s.toList])) 1++[eB rs 2 s.toList])) 2++[(eB rs 3 s.toList)]) from a.2.2.2.1.1 2 aa).form;subst R;exact aP.skip (w':=q.setCell ⟨w.heap.size+2,4,none⟩ (.slice P ((dn (dn (iK rs ts k) 0 (iK rs ts k 0++[eB rs 1 s.toList])) 1 ((dn (iK rs ts k) 0 (iK rs ts k 0++[eB rs 1 s.toList])) 1++[eB rs 2 s.toList])) 2++[(eB rs 3 s.toList)]).length Q)) (ek x N) ⟨_,rfl,lK.same,eG.store a aa⟩
     ·intro y q a;have m:=zh (eG.done a);clear a;go_wp2;go_roundw
      case rel=>exact⟨k+1,_,aa,bi,zh ⟨m.o.1,m.o.2.1,m.o.2.2.1,m.o.2.2.2.1.same c7.o,(λh=>by cases h),m.o.2.2.2.2.2⟩⟩
      case measure=>simp[intOf];omega
  ·obtain rfl:k=ts.length:=by omega
   have S:Hy (au wr (w.heap.size+1+1) 203 #[.slice A rs.length cap,.slice T ts.length cT,v 0,v 1,v 2,qI (-1)]):=zh m.o.2.2.1;have Y:=zh m.o.2.1;have c2:=zh m.o.1;have U:=zh m.o.2.2.2.2.2;have E:Hy (nA wr (w.heap.size+3) v (iK rs ts ts.length)):=zh m.o.2.2.2.1;clear m;obtain⟨a7,a8,a9,d1⟩:=Iw (show jg wr (w.heap.size+3) (v 0) (iK rs ts ts.length 0) from E.o.1 0 aa) (CP (aH _));obtain⟨b0,x,b1,d2⟩:=Iw (show jg wr (w.heap.size+3) (v 1) (iK rs ts ts.length 1) from E.o.1 1 aa) (CP (aH _));obtain⟨b2,b3,b4,d3⟩:=Iw (show jg wr (w.heap.size+3) (v 2) (iK rs ts ts.length 2) from E.o.1 2 aa) (CP (aH _));have d4:Hy (∀W,nA W (w.heap.size+3) v (iK rs ts ts.length)->Below w.heap.size w W->Ab W ⟨A,cap,T,cT,a7,a8,b0,x,b2,b3⟩ rs ts):=λW z B=>by
    refine⟨F.o.keep B,b7.o.keep B,?_,?_,?_⟩
    ·have:=Iy (z.1 0 aa) a9
     rwa [show iK rs ts ts.length 0=vE rs ts 1 from fA (by rw[Fy];omega)] at this
    ·have:=Iy (z.1 1 aa) b1
     rwa [show iK rs ts ts.length 1=vE rs ts 2 from fA (by rw[Fy];omega)] at this
    ·have:=Iy (z.1 2 aa) b4
     rwa [show iK rs ts ts.length 2=vE rs ts 3 from fA (by rw[Fy];omega)] at this
   rw[a9,b1,b4] at S;clear a9 b1 b4 d1 d2 d3;go_wp2_with fail;refine(FD w.heap.size A cap rs 4 ⟨#[]⟩ wr c2.o (F.o.keep U.o) V).mono ?_;rintro e d9 ⟨rfl,c⟩;have S:=kp c S;have Y:=kp c Y;have E:=zh (E.o.keep c);have U:=jt U c;clear c c2;rw[show(⟨#[]⟩:ByteArray).toList=[] from by rw[bz]];have e0:=S.o.frozen;have e1:=S.o.cell;have e2:=Y.o.frozen;have d5:=Y.o.cell;go_wp2_with fail;refine aB (v:=.agg #[.slice A rs.length cap,.slice T ts.length cT,.slice a7 ts.length a8,.slice b0 ts.length x,.slice b2 ts.length b3,qI (eB rs 4 [])]) (by simp[results,results160,go_sem,d5]) rfl ⟨⟨A,cap,T,cT,a7,a8,b0,x,b2,b3⟩,rfl,?_,⟨rfl,rfl⟩,?_⟩
   ·refine d4.o _ ?_ ?_
    ·repeat' (first|(with_reducible exact E.o)|(with_reducible refine nA.set_ ?_ ?_ _)|(show _<_;dsimp only;omega))
    ·repeat' (first|(with_reducible exact U.o)|(with_reducible refine Below.setCell ?_ ?_ _)|(show _<=_;dsimp only;omega))
   ·repeat' (first|(with_reducible exact U.o)|(with_reducible refine Below.setCell ?_ ?_ _)|(show _<=_;dsimp only;omega))
end Ch
namespace Ch
variable{rs:List aD}{l m:List Rd}{r a:Int}
def CQ {ts:List ByteArray}{i j:Nat}{x:Rd}(h:x∈aX rs ts i j): -1<=x.rule/\x.rule<(rs.length:Int):=by
 rcases(AX (sD h)).1 h with⟨_,_,rfl⟩|⟨n,u,a,h⟩
 ·show(-1:Int)<=-1/\(-1:Int)<_;omega
 ·rw[(Ib h).2];have:=(bP.1 a).1;omega
def DZ {α β:Type}{f:α->List β}{b:Nat}:∀{l:List α},(∀x∈l,(f x).length<=b)->(l.flatMap f).length<=l.length*b
 |[],_=>aS
 |a::l,h=>by
  rw[gT,aO,aY,Nat.add_mul,Nat.one_mul];have:=h a bZ;have:=DZ (l:=l) λx c=>h x (dP _ c)
  omega
def Si {p:Int}:(dx rs l p).length<=l.length:=List.length_filter_le ..
def Me :(kM r a l m).length=l.length*m.length:=by
 induction l with
 |nil=>simp[kM]
 |cons x l b=>
  unfold kM at b⊢;rw[gT,aO,b,dI,aY,Nat.add_mul,Nat.one_mul];omega
def Mf {b c:Nat}(h:l.length<=b)(d:m.length<=c):(kM r a l m).length<=b*c:=by rw[Me];exact Nat.mul_le_mul h d
end Ch
namespace Ch
open Go.RowKit
variable{rs:List aD}{ts:List ByteArray}{i j k:Nat}{xs:List Rd}{p:Int}
abbrev ja.c (a:ja):Array Value:= #[qI a.rule,qI a.frm,qI a.left,qI a.right,qI a.to,qI a.kids]
def Mg (F:pK)(rs:List aD)(ts:List ByteArray)(k:Int)(a:ja)(w:World)(l:Ab w F rs ts)(m:a.rule<rs.length):Calls prog 192 #[.agg (F.c rs.length ts.length k),.agg a.c] w λe w'=>e= .returned (.tuple #[qI (lv rs a.rule),qI (vz rs a.rule)])/\Below w.heap.size w w':=by
 obtain⟨x,b⟩:∃x,rs[a.rule]?=some x:=⟨_,gE m⟩
 have c:=zh (DT b);have d:=zh (HY b);obtain⟨R,n,T,cT,I,o,P,p,Q,q⟩:=F;obtain⟨r,s,left,right,t,kids⟩:=a;dsimp only at m b c d⊢;have g:=l.rules;dsimp only at g;clear l;have h:=aN w (.cells #[.slice R rs.length n,.slice T ts.length cT,.slice I ts.length o,.slice P ts.length p,.slice Q ts.length q,qI k] 203);have i:=h.alloc h.size (.cells #[qI r,qI s,qI left,qI right,qI t,qI kids] 229);obtain⟨_,u,rfl,v,y,z,A,B,C,D⟩:=(g.keep i).at_ b;have f:=zh i;clear h i b g;cases j:(x.kind==2)
 ·rw[ai (by rw[aZ] at j;exact j)] at c d;go_enter func192,ntmps192;go_wp2_with fail
  go_quiet (fail)
  go_wp2_with fail
  go_ret2
  exact⟨by rw[c.o,d.o];rfl,below_drewN (f.o.alloc f.o.size _) _⟩
 ·rw[ak (by simpa using j)] at c d;go_enter func192,ntmps192;go_wp2_with fail
  go_ret2
  exact⟨by rw[c.o,d.o];rfl,f.o.alloc f.o.size _⟩
structure iP (w:World)(g:Nat)(F:pK)(rs:List aD)(ts:List ByteArray)(gc:Nat)(rows:Nat->Nat)(fill:Nat->Nat->Bool):Prop where
 blk:au w g 207 #[.slice F.R rs.length F.cR,.slice F.T ts.length F.cT,.slice F.I ts.length F.cI,.slice F.P ts.length F.cP,.slice F.Q ts.length F.cQ,qI (eB rs 4 []),ay (ag gc (0)) ts.length ts.length]
 fin:Ab w F rs ts
 outer:∃cs,au w gc 208 cs/\∀i,i<ts.length->cs[i]?=some (ay ⟨rows i,0,none⟩ (ts.length+1) (ts.length+1))
 row:∀i,i<ts.length->∃cs,au w (rows i) 172 cs/\cs.size=ts.length+1/\∀j,fill i j=true->∃A cap bs,cs[j]?=some (.slice A bs.length cap)/\bs.length<=cap/\cap<=9223372036854775807/\uF w A bs/\jm rs w bs (vS rs ts i j)
def iP.keep {w w':World}{g:Nat}{F:pK}{rs:List aD}{ts:List ByteArray}{b:Nat}{c:Nat->Nat}{d:Nat->Nat->Bool}(h:iP w g F rs ts b c d)(a:Below w.heap.size w w'):iP w' g F rs ts b c d:=by
 obtain⟨e,f,⟨cs,k,l⟩,m⟩:=h;refine⟨_root_.Go.Proofs.YtlefbenkhgbifaaGreatDoor.ae a e,f.keep a,⟨cs,_root_.Go.Proofs.YtlefbenkhgbifaaGreatDoor.ae a k,l⟩,λi n=>?_⟩;obtain⟨cs,o,p,q⟩:=m i n;refine⟨cs,_root_.Go.Proofs.YtlefbenkhgbifaaGreatDoor.ae a o,p,λj r=>?_⟩;obtain⟨A,cap,bs,s,t,u,v,x⟩:=q j r;exact⟨A,cap,bs,s,t,u,v.keep a,x.keep a⟩
def iP.drew {w:World}{g:Nat}{F:pK}{rs:List aD}{ts:List ByteArray}{a:Nat}{b:Nat->Nat}{c:Nat->Nat->Bool}(h:iP w g F rs ts a b c):iP w.drew g F rs ts a b c:=h.keep (fC (aL _ _))
def iP.at_ {w:World}{g:Nat}{F:pK}{a:Nat}{b:Nat->Nat}{c:Nat->Nat->Bool}(h:iP w g F rs ts a b c)(d:i<ts.length)(e:c i j=true):
  w.cell? (ag g (6))=some (ay (ag a (0)) ts.length ts.length)/\w.cell? (ag a i)=some (ay ⟨b i,0,none⟩ (ts.length+1) (ts.length+1))/\∃A cap bs,w.cell? (ag (b i) j)=some (.slice A bs.length cap)/\bs.length<=cap/\cap<=9223372036854775807/\uF w A bs/\jm rs w bs (vS rs ts i j):=by
 obtain⟨f,_,⟨cs,k,l⟩,m⟩:=h;obtain⟨u,n,_,o⟩:=m i d;obtain⟨A,cap,bs,p,q,r,s,t⟩:=o j e;exact⟨(f.cell 6).trans rfl,(k.cell i).trans (l i d),A,cap,bs,(n.cell j).trans p,q,r,s,t⟩
def Mh (rs:List aD)(xs:List Rd)(w:World)(e:Ending)(w':World):Prop:=∃v bs,e= .returned v/\df w' w.heap.size v bs/\jm rs w' bs xs/\Below w.heap.size w w'
def Sj :dx rs xs p=dx rs (xs.take k) p++dx rs (xs.drop k) p:=by rw[<-CE,kw]
def Sk (a:i<j)(h:(dx rs ((vS rs ts i j).take k) p).length=2):tZ rs ts i j p=dx rs ((vS rs ts i j).take k) p:=by
 unfold tZ;rw[<-Lb a,Sj (k:=k),nH,h,fA aa];simp
def Sl (a:i<j)(h:(dx rs (vS rs ts i j) p).length<2):tZ rs ts i j p=dx rs (vS rs ts i j) p:=by
 unfold tZ;rw[<-Lb a,fA aa]
def Sm {x:Rd}(a:xs[k]?=some x):dx rs (xs.take (k+1)) p=dx rs (xs.take k) p++(if p<=qA rs x.rule then[x] else[]):=by
 rw[dA,a,CE]
 congr 1
 show dx rs [x] p=_;unfold dx
 by_cases h:p<=qA rs x.rule
 ·rw[ak h,List.filter_cons,ak (aJ h)];rfl
 ·rw[ai h,List.filter_cons,ai (by simpa using h)];rfl
def FE (g:Nat)(a4:pK)(rs:List aD)(ts:List ByteArray)(a5:Nat)(a6:Nat->Nat)(L:Nat->Nat->Bool)(i j:Nat)(p:Int)(w:World)(M:iP w g a4 rs ts a5 a6 L)(N:i<j)(c7:j<=ts.length)(O:L i j=true)(c8:rs.length<=1000000):Calls prog 133 #[bB g,qI i,qI j,qI p] w (Mh rs (tZ rs ts i j p) w):=by
 obtain⟨a7,a8,a9,b0,b1⟩:=info_parts Fw;obtain⟨b2,b3,A,cap,bs,b4,c9,d0,P,z⟩:=M.at_ (show i<ts.length from aa) O;have b5:=zh P;have b6:=zh z;have Q:=zh z.1;have b7:=zh (λk=>Sk (rs:=rs) (ts:=ts) (k:=k) (p:=p) N);have b8:=zh (Sl (rs:=rs) (ts:=ts) (p:=p) N);have b9:(i:Int)<(ts.length:Int):=aa
 have c0:(j:Int)<(ts.length:Int)+1:=aa
 have d1:bs.length<=3000000:=by
  rw[z.1];unfold vS;have a:(qB ts i j).length<=1:=by unfold qB;split<;>simp
  have q:=DZ (f:=λn=>(nu rs ts (aX rs ts) i j n).take 2) (b:=2) (l:=List.range rs.length) λn _=>by simp;omega
  rw[List.length_range] at q;rw[aO];omega
 clear P z M O;generalize vS rs ts i j=xs at*;go_enter func133,ntmps133;go_wp2_with fail;clear b2 b3 b4 b9 c0
 go_loopw [9,23] (λv n wr=>∃(k:Nat) (cs:List Nat),k<=bs.length/\n=qI k/\Hy (df wr w.heap.size v cs)/\Hy (jm rs wr cs (dx rs (xs.take k) p))/\(cs.length=0\/cs.length=1)/\Hy (Below w.heap.size w wr)) (λ_ n _=>bs.length -(intOf n).toNat)
 case atStart=>exact⟨0,[],aa,rfl,df.nil _ _,jm.nil,.inl rfl,aL _ _⟩
 case round=>
  obtain⟨k,cs,R,rfl,h,d,S,c⟩:=hrel
  by_cases T:k<bs.length
  ·obtain⟨b,m⟩:∃b,bs[k]?=some b:=⟨_,gE T⟩
   obtain⟨x,D⟩:∃x,xs[k]?=some x:=⟨_,gE (by rw[<-Q.o];exact T)⟩
   obtain⟨d2,rfl,_,c1⟩:=(b5.o.keep c.o) k b m;have U:=zh (((b6.o.keep c.o).2 k b x m D));obtain⟨d3,d4,V⟩:=U.o.blk;have c2:wr.cell? (ag b (2))=some (qI (qA rs x.rule)):=V.cell 2;have W:=zh (Sm (rs:=rs) (p:=p) D);clear m D V
   by_cases E:p<=qA rs x.rule
   ·have F:=ah (dx rs (xs.take (k+1)) p=dx rs (xs.take k) p++[x]) (by rw[W.o,ak E]);obtain⟨G,H,rfl,d5,d6,_⟩:=h.o.form;have I:=(show wr.ownsRow w.heap.size 174 1 (.slice G cs.length H) cs.length (cs.map bB) from h.o).alloc (.cells #[bB b] 174);have X:=zh (bA (show wr.ownsRow w.heap.size 174 1 (.slice G cs.length H) cs.length (cs.map bB) from h.o));have Y:=zh c.o.size;generalize qA rs x.rule=c3 at*;go_wp2_with (at_builtin;refine uj _ rfl (.tmp 33) (.tmp 35) 172 rfl w.heap.size 174 a7 (.pointer none) 1 8 underlying172 a8 a9 b0 b1 rfl aI _ _ _ rfl I (ag wr.heap.size (0)) 1 1 [bB b] rfl rfl (Bb _ _ _) ?c2a ?c3a ?c4a ?c5a ?_)
    case c2a=>intro u Z;simp at Z;subst Z;rfl
    case c3a=>unfold maxLen;omega
    case c4a=>omega
    case c5a=>have:=Y.o;simp;omega
    intro d7 d8 a0 J _ c4;have a1:=zh ((c.o.alloc c.o.size (.cells #[bB b] 174)).grown J (by have:=Y.o;simp;omega) (λk R=>(X.o k R).1));have s:=zh (Fx rfl a0);have a2:∀r,(Value.slice G cs.length H).ownBlock=some r->∃t a3,au (wr.alloc (.cells #[bB b] 174)) r t a3/\t≠212:=by
     intro r B;rcases I.2 with⟨a,_⟩|⟨c5,d9,e0,a,_,q,_⟩
     ·rw[a] at B;cases B
     ·rw[a] at B;obtain rfl:c5=r:=sj B;exact⟨_,_,q,aI⟩
    have y:=zh ((jm.snoc (d.o.keep (aN _ (.cells #[bB b] 174))) (U.o.keep (aN _ (.cells #[bB b] 174)))).map λg a3 m=>m.grown J λe=>by
     obtain⟨t,e1,a,q⟩:=a2 g e.symm;exact q (zH a m))
    rw[<-F.o] at y;clear I a0 J c4 a2 h c d X c1 c2;have C:(cs++[b]).length=cs.length+1:=aS
    obtain⟨e2,e3,rfl,_,_,_⟩:=s.o.form;have e4:=zh y.o.1;rcases S with c6|a
    ·have o:(cs++[b]).length=1:=by rw[C,c6]
     rw[o] at s⊢;clear C;go_wp2;go_roundw
     case rel=>exact⟨k+1,cs++[b],aa,bi,s,y,.inr o,a1⟩
     case measure=>simp[intOf];omega
    ·have o:(cs++[b]).length=2:=by rw[C,a]
     have K:=zh (b7.o (k+1) (by rw[<-y.o.1,o]));rw[o] at s⊢;clear C o;go_wp2;go_ret;exact⟨_,_,rfl,s.o,by rw[K.o];exact y.o,a1.o⟩
   ·have F:=ah (dx rs (xs.take (k+1)) p=dx rs (xs.take k) p) (by rw[W.o,ai E,bX]);have e5:¬p<=qA rs x.rule:=E;rw[<-F.o] at d;generalize qA rs x.rule=c3 at*;go_wp2;go_roundw
    case rel=>exact⟨k+1,cs,aa,bi,h,d,S,c⟩
    case measure=>simp[intOf];omega
  ·obtain rfl:k=bs.length:=by omega
   rw[Q.o,bW] at d;have K:=zh (b8.o (by rw[<-d.o.1];omega));go_wp2;go_ret;exact⟨_,_,rfl,h.o,by rw[K.o];exact d.o,c.o⟩
end Ch
end Go.Proofs.YtlefbenkhgbifaaGreatDoor
