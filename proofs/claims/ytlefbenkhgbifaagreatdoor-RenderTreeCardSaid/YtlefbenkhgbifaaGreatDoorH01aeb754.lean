/- Terms that a call has made: their cells lie in named blocks; worlds that only one block's turning tells apart. -/
import Derived.Test.YtlefbenkhgbifaaGreatDoorH68e318bf
import Derived.Lib.AppendZerosOnto
set_option linter.all false
set_option maxRecDepth 100000
set_option maxHeartbeats 4000000
namespace Go.Proofs.YtlefbenkhgbifaaGreatDoor
open Tryz
namespace El
open At Ch Sp Sy Go.RowKit
def BG:(prog.info? 3).map (λi=>(i.zero,i.size,i.bytes))=some (some (qI 0),1,8):=aj
def Nl (v:Value)(n:Nat):(Builtin.zeroCells #[v] n).size=n:=by
 simp[Builtin.zeroCells]
def Uq (n:Nat)(w:World)(f:0<n)(j:n<=1000000):Calls prog 72 #[qN,qI n] w λe w'=>∃v,e= .returned v/\w'.ownsRow w.heap.size 3 1 v 0 []/\Below w.heap.size w w':=by
 obtain⟨a,g,h,k,b⟩:=info_parts BG;have c:=Go.Lib.run_append_grow_zeros (P:=prog) w 32 3 32 3 a (qI 0) .i64 .i64 underlying32 underlying3 g h none 0 0 [] (run_firstCells_none w.drew a.size 0 0 0) n f aa aa aa (by rw[b];omega) (growslice_fits aa (by rw[b];omega));have i:0+n<=grownCap w (0+n) 0 3:=grownCap_ge w _ _ _;have d:grownCap w (0+n) 0 3<=maxLen:=grownCap_le_maxLen w (0+n) 0 3 gy;generalize grownCap w (0+n) 0 3=G at*;rw[fe] at c i;have l:G<=9223372036854775807:=by unfold maxLen at d;omega
 have m:¬((n:Int)<0):=aa
 have o:(n:Int)>0:=aa
 have p:(0:Int)<(n:Int):=aa
 have q:wrap64 (n:Int)=(n:Int):=ug
 go_enter func72,ntmps72;go_wp2_with (at_builtin;refine Lib.wpList_append_run _ rfl _ _ _ _ rfl _ _ rfl rfl _ _ c ?_)
 go_ret;refine⟨_,rfl,⟨rfl,.inr ⟨w.heap.size,G,Builtin.zeroCells #[qI 0] n++Builtin.zeroCells #[qI 0] (G -n),rfl,aH _,?_,dZ _,d,?_,aS⟩⟩,?_⟩
 ·exact au.new w 3 _
 ·rw[Array.size_append,Nl,Nl];omega
 ·exact fC (aN w _)
def Am (n m k:Nat):Nat:=if k=0 then 0 else if k=1 then n else n+m
def En (xs ys:List Value)(k:Nat):List Value:=if k=0 then[] else if k=1 then xs else xs++ys
def Ur (g:Nat)(f h:Option Addr)(n m t x:Nat)(xs ys:List Value)(w:World)(l:au w g 32 #[.slice f n t,.slice h m x])(G:dL w w.heap.size 1 f n xs)(H:dL w w.heap.size 1 h m ys)(I:∀u∈xs,u.oneCell'=true)(J:∀u∈ys,u.oneCell'=true)(Q:0<n+m)(R:n+m<=1000000):
  Calls prog 48 #[ay (ag g (0)) 2 2] w λe w'=>∃v,e= .returned v/\w'.ownsRow w.heap.size 3 1 v (n+m) (xs++ys)/\Below w.heap.size w w':=by
 obtain⟨K,L,M,N,O⟩:=info_parts BG;have y:=zh l;have S:=zh G;have T:=zh H;have U:=zh I;have V:=zh J;clear l G H I J;go_enter func48,ntmps48;go_wp2_with fail
 go_loopw [3,11] (λs i wr=>∃k:Nat,k<=2/\i=qI k/\s=qI (Am n m k:Nat)/\wr=w) (λ_ i _=>2 -(intOf i).toNat)
 case atStart=>exact⟨0,aa,rfl,rfl,rfl⟩
 case round=>
  obtain⟨k,W,rfl,rfl,rfl⟩:=hrel;have X:wr.cell? (ag g (0))=some (.slice f n t):=y.o.cell 0;have Y:wr.cell? (ag g (1))=some (.slice h m x):=y.o.cell 1;rcases(show k=0\/k=1\/k=2 from aa) with rfl|rfl|rfl
  ·have q:¬((n:Int)<0):=by omega
   have Z:wrap64 (n:Int)=(n:Int):=ug
   unfold Am;go_wp2;go_roundw
   case rel=>exact⟨1,aa,bi,rfl,trivial⟩
   case measure=>simp[intOf]
  ·have q:¬((n:Int)+(m:Int)<0):=by omega
   have Z:wrap64 ((n:Int)+(m:Int))=(n:Int)+(m:Int):=ug
   unfold Am;go_wp2;go_roundw
   case rel=>exact⟨2,aa,bi,aS,trivial⟩
   case measure=>simp[intOf]
  ·have a0:=ah (Am n m 2=n+m) rfl;rw[a0.o];clear X Y;obtain⟨a,a1⟩:∃a,a=wr:=⟨_,rfl⟩
   subst a1;go_wp2_with fail;refine(Uq (n+m) a Q R).mono ?_;rintro e a2 ⟨v,rfl,P,l⟩;have c:=zh P;have b:=zh l;clear P l;go_wp2_with fail
   go_loopw [6,27] (λv i wr=>∃k:Nat,k<=2/\i=qI k/\Hy (wr.ownsRow a.heap.size 3 1 v (Am n m k) (En xs ys k))/\Hy (Below a.heap.size a wr)) (λ_ i _=>2 -(intOf i).toNat)
   case atStart=>exact⟨0,aa,rfl,c,b⟩
   case round=>
    clear c b;obtain⟨k,W,rfl,c,b⟩:=hrel;rcases(show k=0\/k=1\/k=2 from aa) with rfl|rfl|rfl
    ·have d:=ah (wr.ownsRow a.heap.size 3 1 u6 0 []) c.o;have z:=zh (bA d.o);have A:=zh (S.o.below b.o);have o:=b.o.size;have B:wr.cell? (ag g (0))=some (.slice f n t):=(ae b.o y.o).cell 0;clear c;go_wp2_with (at_builtin;refine uG _ rfl (.tmp 31) (.tmp 32) 32 rfl a.heap.size 3 K (qI 0) 1 8 underlying32 L M N O rfl aI _ _ _ rfl d.o a.heap.size f n t xs rfl A.o U.o ?c63 ?cby o ?_)
     case c63=>unfold maxLen;omega
     case cby=>omega
     intro C w' p r _;have D:=ah (w'.ownsRow a.heap.size 3 1 C (Am n m 1) (En xs ys 1)) (by simpa [Am,En] using p);have E:=zh (b.o.grown r o (λj F=>(z.o j F).1));clear p r d b B;go_wp2;go_roundw
     case rel=>exact⟨1,aa,bi,D,E⟩
     case measure=>simp[intOf]
    ·have d:=ah (wr.ownsRow a.heap.size 3 1 u6 n xs) c.o;have z:=zh (bA d.o);have A:=zh (T.o.below b.o);have o:=b.o.size;have B:wr.cell? (ag g (1))=some (.slice h m x):=(ae b.o y.o).cell 1;clear c;go_wp2_with (at_builtin;refine uG _ rfl (.tmp 31) (.tmp 32) 32 rfl a.heap.size 3 K (qI 0) 1 8 underlying32 L M N O rfl aI _ _ _ rfl d.o a.heap.size h m x ys rfl A.o V.o ?c63 ?cby o ?_)
     case c63=>unfold maxLen;omega
     case cby=>omega
     intro C w' p r _;have D:=ah (w'.ownsRow a.heap.size 3 1 C (Am n m 2) (En xs ys 2)) (by simpa [Am,En] using p);have E:=zh (b.o.grown r o (λj F=>(z.o j F).1));clear p r d b B;go_wp2;go_roundw
     case rel=>exact⟨2,aa,bi,D,E⟩
     case measure=>simp[intOf]
    ·have d:=ah (wr.ownsRow a.heap.size 3 1 u6 (n+m) (xs++ys)) c.o;clear c;go_wp2;go_ret;exact⟨_,rfl,d.o,b.o⟩
def dG (p:List Int):List Value:=p.map (.int .i64)
def Eo (p:List Int):∀u∈dG p,u.oneCell'=true:=by
 intro u a;obtain⟨x,_,rfl⟩:=nM.1 a;rfl
def kK (w:World)(A:Option Addr)(p:List Int):Prop:=dL w w.heap.size 1 A p.length (dG p)
def kK.keep {w w':World}{A:Option Addr}{p:List Int}(h:kK w A p)(a:Below w.heap.size w w'):kK w' A p:=(h.below a).more a.size
def Ep (g h:Nat)(A:Option Addr)(p:List Int)(c:Nat)(i:Int)(w:World)(a:au w g 32 #[.slice A p.length c,ay (ag h (0)) 1 1])(n:au w h 3 #[qI i])(y:kK w A p)(K:p.length<=999999):
  Calls prog 48 #[ay (ag g (0)) 2 2] w λe w'=>(∃q b d,q=p++[i]/\e= .returned (.slice b q.length d)/\q.length<=d/\d<=9223372036854775807/\kK w' b q/\∀f,b=some f->w.heap.size<=f.block)/\Below w.heap.size w w':=by
 have z:dL w w.heap.size 1 (some (ag h (0))) 1 (dG [i]):=⟨rfl,λ_=>⟨(ag h (0)),rfl,n.lt,λj u k=>by
  cases j with
  |succ j=>simp[dG] at k
  |zero=>
   simp only[dG,di,jl,iD,gV] at k;rw[<-k];exact n.cell 0⟩⟩
 refine(Ur g A (some (ag h (0))) p.length 1 c 1 (dG p) (dG [i]) w a y z (Eo p) (Eo [i]) aa aa).mono ?_;rintro e w' ⟨v,rfl,o,a⟩;refine⟨?_,a⟩;obtain⟨L,cap,M,_,N⟩:=o.form aa;obtain⟨_,B⟩:=o;rcases B with⟨_,O⟩|⟨l,m,C,D,r,E,s,t,F,x⟩
 ·omega
 ·refine⟨_,some (ag l (0)),m,rfl,by rw[D,aO];rfl,by rw[aO];exact s,by unfold maxLen at t;omega,?_,λf G=>by rw[<-sj G];exact r⟩;have H:dG p++dG [i]=dG (p++[i]):=by simp[dG]
  rw[H] at x;have I:(p++[i]).length=p.length+1:=aS
  have J:w'.ownsRow w.heap.size 3 1 (ay (ag l (0)) (p.length+1) m) (p.length+1) (dG (p++[i])):=⟨by simp[dG],.inr ⟨l,m,C,rfl,r,E,s,t,F,x⟩⟩
  unfold kK;rw[I];exact dL.zIi J
def wY (ok:Nat->Prop)(w:World)(g:Nat)(e:Int)(p:List Int):Prop:=∃A c,au w g 98 #[.slice A p.length c,qI e]/\p.length<=c/\c<=9223372036854775807/\kK w A p/\ok g/\∀ad,A=some ad->0<p.length->ok ad.block
def wY.keep {ok:Nat->Prop}{w w':World}{g:Nat}{e:Int}{p:List Int}(h:wY ok w g e p)(a:Below w.heap.size w w'):wY ok w' g e p:=by
 obtain⟨A,c,b,d,f,i,j⟩:=h;exact⟨A,c,jL a b,d,f,i.keep a,j⟩
def wY.any {ok ok':Nat->Prop}{w:World}{g:Nat}{e:Int}{p:List Int}(h:wY ok w g e p)(a:∀b,b<w.heap.size->ok b->ok' b):wY ok' w g e p:=by
 obtain⟨A,c,d,l,m,f,n,o⟩:=h;refine⟨A,c,d,l,m,f,a _ d.lt n,λq i j=>a _ ?_ (o q i j)⟩;obtain⟨_,r⟩:=f;obtain⟨t,k,s,_⟩:=r j;rw[i] at k;rw[sj k];exact s
def wY.grown {ok:Nat->Prop}{w w':World}{g:Nat}{e:Int}{p:List Int}{q:Nat}(h:wY ok w g e p)(a:w.grownBy w' (some q))(b:¬ok q):wY ok w' g e p:=by
 obtain⟨A,c,o,r,s,t,d,f⟩:=h;refine⟨A,c,o.grown a (λe=>b (by rw[<-sj e];exact d)),r,s,?_,d,f⟩;obtain⟨v,x⟩:=t;refine⟨v,λi=>?_⟩;obtain⟨k,l,m,y⟩:=x i;refine⟨k,l,ll m a.size,λj u z=>?_⟩;rw[<-y j u z];refine dm (a.block _ (by rw[gX];exact m) λe=>?_);have n:=sj e;rw[gX] at n;exact b (by rw[<-n];exact f k l i)
def Er (A:Option Addr)(p:List Int)(c:Nat)(i e:Int)(w:World)(n:kK w A p)(x:p.length<=999999):
  Calls prog 95 #[.slice A p.length c,qI i,qI e] w λo w'=>∃g,o= .returned (qP g)/\wY (λb=>w.heap.size<=b) w' g e (p++[i])/\Below w.heap.size w w':=by
 have s1:(w.alloc (.cells #[qI i] 3)).heap.size=w.heap.size+1:=aS
 have d:=aN w (.cells #[qI i] 3);have f:=aN (w.alloc (.cells #[qI i] 3)) (.cells #[.slice A p.length c,ay (ag w.heap.size (0)) 1 1] 32);have y:=zh (ae f (au.new w 3 #[qI i]));have r:=zh (au.new (w.alloc (.cells #[qI i] 3)) 32 #[.slice A p.length c,ay (ag w.heap.size (0)) 1 1]);rw[s1] at r;have z:=zh ((n.keep d).keep f);have a:=zh (d.trans (f.mono d.size));clear n d f s1;go_enter func95,ntmps95;go_wp2_with fail;refine(Ep (w.heap.size+1) w.heap.size A p c i _ r.o y.o z.o x).mono ?_;rintro o h ⟨⟨q,j,k,s,rfl,B,C,t,u⟩,l⟩;have D:=zh s;clear s;have E:=zh u;have v:=zh a.o.size;replace a:=jt a l;have m:=aN h (.cells #[.slice j q.length k,qI e] 98);have F:=zh (au.new h 98 #[.slice j q.length k,qI e]);have G:=zh (t.keep m);replace a:=jt a m;have H:=ah (w.heap.size<=h.heap.size) (ax v.o l.size);clear t l m u;go_wp2;go_ret;rw[<-D.o];exact⟨h.heap.size,rfl,⟨j,k,F.o,B,C,G.o,H.o,λI J _=>ax v.o (E.o I J)⟩,a.o⟩
end El
namespace Ch
open Go.RowKit
variable{rs:List aD}{ts:List ByteArray}
def qJ (rs:List aD)(ts:List ByteArray):List Rd:=if fZ rs&&qQ ts then(aX rs ts 0 ts.length).take 2 else[]
def wm (rs:List aD)(ts:List ByteArray):Int:=if fZ rs&&qQ ts then 0 else 1
def Us (a:fZ rs=true)(b:qQ ts=true):qJ rs ts=tZ rs ts 0 ts.length 0:=by
 unfold qJ tZ;rw[a,b,Bool.and_self,ak rfl]
 congr 1
 unfold dx;rw[List.filter_eq_self.2 λx c=>aJ (Rl a c).1]
def Ut {rs:List aD}{ts:List ByteArray}:(qJ rs ts).length<=2:=by
 unfold qJ
 split
 ·rw[eU];omega
 ·simp
def Nn (h:(fZ rs&&qQ ts)=false):qJ rs ts=[]/\wm rs ts=1:=by
 unfold qJ wm;rw[h];exact⟨rfl,rfl⟩
def Uu (h:(fZ rs&&qQ ts)=true):wm rs ts=0:=by
 unfold wm;rw[h];rfl
def Uv :qJ rs []=[]:=by
 unfold qJ
 split
 ·rw[show aX rs [] 0 ([]:List ByteArray).length=[] by unfold aX;rfl];rfl
 ·rfl
def Uw {w:World}{B:Nat}{e:TypeId}{size:Nat}{v:Value}{n:Nat}{xs:List Value}(h:w.ownsRow B e size v n xs):∀b,v.ownBlock=some b->∃c,au w b e c:=λb a=>by
 rcases h.2 with⟨rfl,_⟩|⟨g,cap,d,rfl,_,f,_⟩
 ·cases a
 ·obtain rfl:g=b:=sj a;exact⟨d,f⟩
def uF.grown {w w':World}{row:Option Nat}{A:Option Addr}{bs:List Nat}(h:uF w A bs)(f:w.grownBy w' row)(i:∀b,row=some b->∃t a,au w b t a/\t≠174):uF w' A bs:=λj b k=>by
 obtain⟨g,l,⟨a,c⟩,m⟩:=h j b k;have d:=c.grown f λe=>by
  obtain⟨t,p,n,o⟩:=i g e.symm;exact o (zH n c)
 exact⟨g,l,⟨a,d⟩,by rw[d.cell,<-c.cell];exact m⟩
def jm.grown {rs:List aD}{w w':World}{row:Option Nat}{bs:List Nat}{xs:List Rd}(h:jm rs w bs xs)(a:w.grownBy w' row)(c:∀b,row=some b->∃t d,au w b t d/\t≠212):jm rs w' bs xs:=⟨h.1,λj b x e f=>(h.2 j b x e f).grown a c⟩
def FX (rs:List aD)(ts:List ByteArray)(w:World)(e:Ending)(w':World):Prop:=∃A cap,e= .returned (.tuple #[.slice A (qJ rs ts).length cap,.bool (((qJ rs ts).length:Int)==2),qI (wm rs ts)])/\(qJ rs ts).length<=cap/\cap<=9223372036854775807/\iE (λb=>w.heap.size<=b) w' A (qJ rs ts)/\Below w.heap.size w w'
def iE.nil (ok:Nat->Prop)(w:World)(A:Option Addr):iE ok w A []:=λi x h=>by simp at h
def Ux (A T:Option Addr)(cap K:Nat)(rs:List aD)(ts:List ByteArray)(w:World)(S:fG w A rs)(U:uT w T ts)(a6:rs.length<=cap)(a7:cap<=9223372036854775807):Calls prog 97 #[.slice A rs.length cap,.slice T ts.length K] w (FX rs ts w):=by
 obtain⟨a8,a9,b0,b1,b2⟩:=info_parts zJ;have n:=zh S;have o:=zh U;have b3:=zh (@Ut rs ts);clear S U;go_enter func97,ntmps97;go_wp2_with fail;refine(Aa A cap rs _ n.o a6 a7).mono ?_;rintro e c9 ⟨rfl,a⟩;have o:=zh (o.o.keep a);have n:=zh (n.o.keep a);have d:=zh a;clear a;cases m:fZ rs
 ·obtain⟨s,u⟩:=Nn (rs:=rs) (ts:=ts) (by rw[m];rfl);have L:=zh s;have r:=zh u;clear s u m;go_wp2_with fail
  go_returns
  unfold FX;rw[L.o,r.o];exact⟨none,0,rfl,aS,aa,iE.nil _ _ _,d.o⟩
 ·have D:=zh m;clear m;go_wp2_with fail;refine(Ed T K ts _ o.o).mono ?_;rintro e d0 ⟨rfl,a⟩;have o:=zh (o.o.keep a);have n:=zh (n.o.keep a);have d:=jt d a;clear a;cases m:qQ ts
  ·obtain⟨s,u⟩:=Nn (rs:=rs) (ts:=ts) (by rw[m,bF]);have L:=zh s;have r:=zh u;clear s u m;go_wp2_with fail
   go_returns
   unfold FX;rw[L.o,r.o];exact⟨none,0,rfl,aS,aa,iE.nil _ _ _,d.o⟩
  ·have V:=zh m;have r:=zh (Uu (rs:=rs) (ts:=ts) (by rw[D.o,m];rfl));clear m
   by_cases M:ts=[]
   ·subst M;go_wp2_with fail
    go_returns
    unfold FX;rw[Uv,r.o];exact⟨none,0,rfl,aS,aa,iE.nil _ _ _,d.o⟩
   ·have E:0<ts.length:=oU.2 M;have d1:ts.length<=200:=by have:=V.o;unfold qQ at this;rw[aM] at this;exact bD this.1
    have d2:rs.length<=64:=by have:=D.o;unfold fZ at this;rw[aM] at this;exact bD this.1
    clear M;go_wp2_with fail;refine(Ti A T cap K rs ts _ D.o n.o o.o aa aa).mono ?_;rintro e d3 ⟨g,b4,b5,b6,rfl,W,a⟩;have F:=zh W;have d:=jt d a;clear n o a W;go_wp2_with fail;have F:=F;refine(FE g b4 rs ts b5 b6 _ 0 ts.length 0 _ F.o E (aH _) (by simp[E]) aa).mono ?_;rintro e d4 ⟨v,G,rfl,X,H,a⟩;rw[<-Us D.o V.o] at H;obtain⟨b7,d5,rfl,d6,d7,Y⟩:=X.form;have f:=zh Y;have j:=zh H;have d:=jt d a;have d8:G.length=(qJ rs ts).length:=H.1;clear X Y H a F;go_wp2_with fail
    go_loopw [4,29] (λv i wr=>∃k:Nat,k<=(qJ rs ts).length/\i=qI k/\Hy (bM (λb=>w.heap.size<=b) wr w.heap.size v ((qJ rs ts).take k))/\Hy (uF wr b7 G)/\Hy (jm rs wr G (qJ rs ts))/\Hy (Below w.heap.size w wr)) (λ_ i _=>(qJ rs ts).length -(intOf i).toNat)
    case atStart=>exact⟨0,aa,rfl,by rw[eZ];exact bM.nil (λb=>w.heap.size<=b) _ _,f,j,d⟩
    case round=>
     clear f j d;obtain⟨k,d9,rfl,l,f,j,d⟩:=hrel
     by_cases b8:k<(qJ rs ts).length
     ·obtain⟨x,N⟩:∃x,(qJ rs ts)[k]?=some x:=⟨_,gE b8⟩
      obtain⟨O,P⟩:∃b,G[k]?=some b:=⟨_,gE aa⟩
      obtain⟨e0,rfl,⟨e1,b9⟩,c0⟩:=f.o k O P;have Z:=zh (j.o.2 k O x P N);have c1:=ah ((qJ rs ts).take (k+1)=(qJ rs ts).take k++[x]) (by rw[dA,N];rfl);clear N P b9;go_wp2_with fail;clear c0;refine(Tk rs (og x) O x _ (aH _) Z.o).mono ?_;rintro e I ⟨c,rfl,a0,y⟩;have f:=zh (f.o.keep y);have j:=zh (j.o.keep y);have z:=zh (a0.any (ok':=λb=>u4.ownBlock≠some b/\w.heap.size<=b) λb _ h=>⟨λc2=>by
       have:=(l.o.lt b c2).2;omega,av d.o.size⟩)
      have l:=zh (l.o.keep y);have d:=jt d y;clear a0 y Z;obtain⟨B,Q,rfl,_⟩:=z.o.form;have p:=aN I (.cells (dw x.rule x.at_ B x.kids.length Q) 139);have c3:=zh (au.new I 139 (dw x.rule x.at_ B x.kids.length Q));have f:=zh (f.o.keep p);have j:=zh (j.o.keep p);have z:=zh (z.o.keep p);obtain⟨css,J,a1,a2⟩:=l.o.keep p;have l:=zh (l.o.keep p);have d:=jt d p;have e2:(List.take k (qJ rs ts)).length<=2:=by rw[eU];have:=b3.o;omega
      clear p;go_wp2_with (at_builtin;refine uG _ rfl (.tmp 33) (.tmp 36) 119 rfl w.heap.size 139 a8 (.agg #[qI 0,qI 0,qN]) 3 40 underlying119 a9 b0 b1 b2 rfl aI _ _ _ rfl J (I.heap.size+1) (some (ag I.heap.size (0))) 1 1 (dw x.rule x.at_ B x.kids.length Q).toList rfl (by have:=vF c3.o rfl;rw[dY] at this;exact this) (Aj z.o) gy aa d.o.size ?_;intro e3 w' a3 C a4)
      have R:∀b,u4.ownBlock=some b->∃t q,au _ b t q/\t≠212/\t≠174:=λb a=>by
       obtain⟨q,h⟩:=Uw J b a;exact⟨_,q,h,aI,aI⟩
      have f:=zh (f.o.grown C λb a=>by obtain⟨t,q,h,_,c4⟩:=R b a;exact⟨t,q,h,c4⟩);have j:=zh (j.o.grown C λb a=>by obtain⟨t,q,h,E,_⟩:=R b a;exact⟨t,q,h,E⟩);have l:=zh (bM.push a1 a2 z.o a3 C a4);rw[<-c1.o] at l;have d:=zh (d.o.grown C d.o.size λb a=>(bA J b a).1);clear J a1 a2 a3 C a4 R;go_wp2;go_roundw
      case rel=>exact⟨k+1,aa,bi,l,f,j,d⟩
      case measure=>simp[intOf];omega
     ·obtain rfl:k=(qJ rs ts).length:=by omega
      rw[fA (aH _)] at l;obtain⟨B,c5,rfl,c6,c7,a5⟩:=l.o.form (λb h=>h);have c8:=zh a5;clear a5;go_wp2_with fail
      go_returns
      exact⟨B,c5,by rw[r.o];rfl,c6,c7,c8.o,d.o⟩
def iE.at_ {ok:Nat->Prop}{w:World}{A:Option Addr}{ks:List Rd}(h:iE ok w A ks){k:Nat}{x:Rd}(g:ks[k]?=some x):
  ∃a d b,A=some a/\a.block<w.heap.size/\dS ok w x (dw x.rule x.at_ d x.kids.length b)/\x.kids.length<=b/\b<=9223372036854775807/\iE ok w d x.kids/\w.cell? (a.add (k*3))=some (qI x.rule)/\w.cell? ⟨(a.add (k*3)).block,(a.add (k*3)).off+1,none⟩=some (qI x.at_)/\w.cell? ⟨(a.add (k*3)).block,(a.add (k*3)).off+2,none⟩=some (.slice d x.kids.length b):=by
 obtain⟨a,i,l,_,c,f,e⟩:=h k x g;obtain⟨d,b,rfl,m,n,o⟩:=f.form;exact⟨a,d,b,i,l,f,m,n,o,e 0 aa,BB (j:=0) (e 1 aa),BB (j:=1) (e 2 aa)⟩
end Ch
namespace El
open At Ch Sp Sy Go.RowKit
variable{w:World}{x y z:Rd}{rs:List aD}{n i k j:Nat}{u:aD}
abbrev zM (w:World)(B:Nat)(v:Value)(p:List Int):Prop:=w.ownsRow B 3 1 v p.length (dG p)
def FY (w:World)(p:List Int)(a:p.length<=1000000):zM (w.alloc (.cells (dG p).toArray 3)) w.heap.size (ay (ag w.heap.size (0)) p.length p.length) p:=
 ⟨by simp[dG],.inr ⟨w.heap.size,p.length,(dG p).toArray,rfl,aH _,au.new w _ _,aH _,gy,by simp[dG],by rw[fA (by simp[dG])]⟩⟩
def FZ {B B':Nat}{v:Value}{p:List Int}(h:B<=B')(b:zM w B' v p):zM w B v p:=by
 obtain⟨c,a⟩:=b;refine⟨c,?_⟩;rcases a with a|⟨g,cap,d,e,f,i⟩
 ·exact .inl a
 ·exact .inr ⟨g,cap,d,e,ax h f,i⟩
def Jf {ok:Nat->Prop}{A:Option Addr}{ks:List Rd}(h:iE ok w A ks)(c:ks[1]?=some x):∃a:Addr,A=some a/\w.cell? (ag a.block (a.off+3+1))=some (qI x.at_):=by
 obtain⟨a,f,g,d,_,_,_,_,_,_,b,_⟩:=iE.at_ h c;refine⟨a,d,?_⟩;have e:a.add (1*3)=⟨a.block,a.off+3,none⟩:=by unfold Addr.add;simp
 rw[e] at b;exact b
def Jg (rs:List aD)(x:Rd)(fin:Int)(w:World)(e:Ending)(w':World):Prop:=∃v,e= .returned (.tuple #[qI (eY rs x fin),v])/\zM w' w.heap.size v (iI rs x fin)/\Below w.heap.size w w'
def Np (ok:Nat->Prop)(g:Nat)(A:Option Addr)(cap:Nat)(rs:List aD)(x:Rd)(c:Array Value)(fin:Int)(r:Nat)(u:aD)(w:World)(t:wX w g A cap rs)(E:dS ok w x c)(y:x.rule=(r:Int))(z:rs[r]?=some u)
  (F:(u.kind≠2/\u.kind≠3)->∃a b ks,x.kids=a::b::ks/\1<=b.at_/\b.at_<=1000000) (a5:1<=fin) (a6:fin<=1000000):
  Calls prog 135 #[qP g,.agg c,qI fin] w (Jg rs x fin w):=by
 obtain⟨n,B,rfl,a7,a8,G⟩:=E.form;obtain⟨b,a9,b0,H,N,O⟩:=t.box;obtain⟨P,Q,rfl,R,I,S,T,U,V,W⟩:=t.rul.at_ z;have b1:r<rs.length:=(bP.1 z).1;have J:dF rs x.rule=u.kind:=by unfold dF;rw[y,fU,z]
 have o:=aN w (.cells (dw x.rule x.at_ n x.kids.length B) 139);have f:=zh o;have q:=zh (au.new w 139 (dw x.rule x.at_ n x.kids.length B));have K:=zh (ae o H);have C:=o.cell (p:=Q.add (r*6)) (by rw[gX];exact R);rw[I] at C;have L:=zh C;have D:=zh (G.keep o);have M:=zh F;have s:=zh J;clear t E G H N O P I S T U V W C F J o;rw[y] at q f K L D;go_enter func135,ntmps135;rw[y];go_upto_region 1 with(fail)
 generalize w.alloc (.cells (dw (r:Int) x.at_ n x.kids.length B) 139)=d at*;have b2:=q.o.cell 0;have b3:=K.o.cell 0;have b4:=L.o
 go_quiet (fail)
 have b5:=q.o.cell 1;have b6:=q.o.cell 2
 by_cases e:u.kind=1
 ·obtain⟨X,i,xs,k,Y,Z⟩:=M.o aa;obtain⟨l,rfl,a0⟩:∃l:Addr,n=some l/\d.cell? (ag l.block (l.off+3+1))=some (qI i.at_):=Jf D.o (by rw[k];rfl);have j:=zh (show eY rs x fin=i.at_ -1/\iI rs x fin=[i.at_ -1,fin] by
   unfold eY iI xL;rw[s.o,ak e,ak e,k];exact⟨rfl,rfl⟩)
  have b7:(u.kind==1)=true:=aT.2 e;have a1:wrap64 (i.at_ -1)=i.at_ -1:=ug
  have a2:(1:Int)<(x.kids.length:Int):=by rw[k,aY,aY];omega
  clear e k;go_wp2;exact aB (v:=.tuple #[qI (i.at_ -1),ay (ag d.heap.size (0)) 2 2]) (by simp[results,results135,go_sem]) rfl ⟨_,by rw[j.o.1],by rw[j.o.2];exact FZ f.o.size (FY (d.drewN nq) [i.at_ -1,fin] aS),f.o.trans (((below_drewN (aL d.heap.size d) nq).trans (aN (d.drewN nq) _)).mono f.o.size)⟩
 have b8:(u.kind==1)=false:=bn e
 by_cases h:u.kind=2
 ·have j:=zh (show eY rs x fin=x.at_/\iI rs x fin=[fin] by
   unfold eY iI;rw[s.o,ai e,ai e,ak h,ak h];exact⟨rfl,rfl⟩)
  have a3:(u.kind==2)=true:=aT.2 h;clear e h;go_wp2;exact aB (v:=.tuple #[qI (x.at_),ay (ag d.heap.size (0)) 1 1]) (by simp[results,results135,go_sem]) rfl ⟨_,by rw[j.o.1],by rw[j.o.2];exact FZ f.o.size (FY (d.drewN nq) [fin] aS),f.o.trans (((below_drewN (aL d.heap.size d) nq).trans (aN (d.drewN nq) _)).mono f.o.size)⟩
 have a3:(u.kind==2)=false:=bn h
 by_cases m:u.kind=3
 ·have j:=zh (show eY rs x fin=fin -1/\iI rs x fin=[fin -1] by
   unfold eY iI;rw[s.o,ai e,ai e,ai h,ai h,ak m,ak m];exact⟨rfl,rfl⟩)
  have a4:(u.kind==3)=true:=aT.2 m;have a1:wrap64 (fin -1)=fin -1:=ug
  clear e h m;go_wp2;exact aB (v:=.tuple #[qI (fin -1),ay (ag d.heap.size (0)) 1 1]) (by simp[results,results135,go_sem]) rfl ⟨_,by rw[j.o.1],by rw[j.o.2];exact FZ f.o.size (FY (d.drewN nq) [fin -1] aS),f.o.trans (((below_drewN (aL d.heap.size d) nq).trans (aN (d.drewN nq) _)).mono f.o.size)⟩
 have a4:(u.kind==3)=false:=bn m;obtain⟨X,i,xs,k,Y,Z⟩:=M.o ⟨h,m⟩;obtain⟨l,rfl,a0⟩:∃l:Addr,n=some l/\d.cell? (ag l.block (l.off+3+1))=some (qI i.at_):=Jf D.o (by rw[k];rfl);have j:=zh (show eY rs x fin= -1/\iI rs x fin=[i.at_,fin] by
  unfold eY iI xL;rw[s.o,ai e,ai e,ai h,ai h,ai m,ai m,k];exact⟨rfl,rfl⟩)
 have a2:(1:Int)<(x.kids.length:Int):=by rw[k,aY,aY];omega
 clear e h m k;go_upto_region 9 with(fail)
 go_region;go_wp2;exact aB (v:=.tuple #[qI (-1),ay (ag d.heap.size (0)) 2 2]) (by simp[results,results135,go_sem]) rfl ⟨_,by rw[j.o.1],by rw[j.o.2];exact FZ f.o.size (FY (d.drewN (nq+1)) [i.at_,fin] aS),f.o.trans (((below_drewN (aL d.heap.size d) (nq+1)).trans (aN (d.drewN (nq+1)) _)).mono f.o.size)⟩
inductive mf (rs:List aD):Rd->Nat->Nat->Prop
 |leaf (i:Nat):mf rs (.mk (-1) i []) i (i+1)
 |inf (n:Nat) (u:aD) (i k j:Nat) (y z:Rd) (hu:rs[n]?=some u) (hk:u.kind=1) (h1:i<k) (h2:k+1<j) (hz:z.at_=((k+1:Nat):Int)) (a:mf rs y i k) (b:mf rs z (k+1) j):mf rs (.mk n i [y,z]) i j
 |pre (n:Nat) (u:aD) (i j:Nat) (y:Rd) (hu:rs[n]?=some u) (hk:u.kind=2) (h1:i+1<j) (a:mf rs y (i+1) j):mf rs (.mk n i [y]) i j
 |pos (n:Nat) (u:aD) (i j:Nat) (y:Rd) (hu:rs[n]?=some u) (hk:u.kind=3) (h1:i<j -1) (a:mf rs y i (j -1)):mf rs (.mk n i [y]) i j
 |jux (n:Nat) (u:aD) (i k j:Nat) (y z:Rd) (hu:rs[n]?=some u) (hk:u.kind=4) (h1:i<k) (h2:k<j) (hz:z.at_=(k:Int)) (a:mf rs y i k) (b:mf rs z k j):mf rs (.mk n i [y,z]) i j
def yH {rs:List aD}{ts:List ByteArray}:∀(m i j:Nat) (x:Rd),j -i<=m->x∈aX rs ts i j->mf rs x i j
 |0,i,j,x,g,h=>av (sD h)
 |m+1,i,j,x,g,h=>by
  have l:=sD h;rcases(AX l).1 h with⟨rfl,_,rfl⟩|⟨n,u,d,o⟩
  ·exact .leaf i
  ·rcases o with⟨b,k,y,z,e,f,_,a,c,rfl⟩|⟨b,y,_,a,rfl⟩|⟨b,y,_,a,rfl⟩|⟨b,k,y,z,e,f,a,c,rfl⟩
   ·exact .inf n u i k j y z d b e f (xH c).1 (yH m i k y aa (lW.1 a).1) (yH m (k+1) j z aa (lW.1 c).1)
   ·exact .pre n u i j y d b (xH a).2 (yH m (i+1) j y aa (lW.1 a).1)
   ·exact .pos n u i j y d b (xH a).2 (yH m i (j -1) y aa (lW.1 a).1)
   ·exact .jux n u i k j y z d b e f (xH c).1 (yH m i k y aa (lW.1 a).1) (yH m k j z aa (lW.1 c).1)
def mZ (a:rs[n]?=some u):dF rs (n:Int)=u.kind:=by
 unfold dF;rw[fU,a]
def BN (rs:List aD)(r a:Int)(ks:List Rd)(fin:Int):eQ rs (.mk r a ks) fin=if r<0 then[] else(if 0<=eY rs (.mk r a ks) fin then[(eY rs (.mk r a ks) fin,r)] else[])++nC rs ks (iI rs (.mk r a ks) fin):=by
 rw[eQ]
def Jh (rs:List aD)(i:Nat)(fin:Int):eQ rs (.mk (-1) i []) fin=[]:=by
 rw[BN];rfl
def CU (a:rs[n]?=some u)(b:u.kind=1)(c:z.at_=((k+1:Nat):Int)):
  eQ rs (.mk n i [y,z]) (j:Int)=((k:Int),(n:Int))::(eQ rs y (k:Int)++eQ rs z (j:Int)):=by
 have d:eY rs (.mk n i [y,z]) (j:Int)=(k:Int):=by
  unfold eY xL;rw[show Rd.rule (.mk n i [y,z])=(n:Int) from rfl,mZ a,ak b];show z.at_ -1=_;rw[c];omega
 have e:iI rs (.mk n i [y,z]) (j:Int)=[(k:Int),(j:Int)]:=by
  unfold iI xL;rw[show Rd.rule (.mk n i [y,z])=(n:Int) from rfl,mZ a,ak b];show[z.at_ -1,_]=_;rw[c,show(((k+1:Nat):Int) -1)=(k:Int) by omega]
 rw[BN,d,e,ai aa,ak aa];simp[nC]
def CV (a:rs[n]?=some u)(b:u.kind=2):
  eQ rs (.mk n i [y]) (j:Int)=((i:Int),(n:Int))::eQ rs y (j:Int):=by
 have c:¬u.kind=1:=aa
 have d:eY rs (.mk n i [y]) (j:Int)=(i:Int):=by
  unfold eY;rw[show Rd.rule (.mk n i [y])=(n:Int) from rfl,mZ a,ai c,ak b];rfl
 have e:iI rs (.mk n i [y]) (j:Int)=[(j:Int)]:=by
  unfold iI;rw[show Rd.rule (.mk n i [y])=(n:Int) from rfl,mZ a,ai c,ak b]
 rw[BN,d,e,ai aa,ak aa];simp[nC]
def CW (a:rs[n]?=some u)(b:u.kind=3)(h:0<j):
  eQ rs (.mk n i [y]) (j:Int)=(((j -1:Nat):Int),(n:Int))::eQ rs y ((j -1:Nat):Int):=by
 have c:¬u.kind=1:=aa
 have d:¬u.kind=2:=aa
 have e:(j:Int) -1=((j -1:Nat):Int):=aa
 have f:eY rs (.mk n i [y]) (j:Int)=((j -1:Nat):Int):=by
  unfold eY;rw[show Rd.rule (.mk n i [y])=(n:Int) from rfl,mZ a,ai c,ai d,ak b,e]
 have g:iI rs (.mk n i [y]) (j:Int)=[((j -1:Nat):Int)]:=by
  unfold iI;rw[show Rd.rule (.mk n i [y])=(n:Int) from rfl,mZ a,ai c,ai d,ak b,e]
 rw[BN,f,g,ai aa,ak aa];simp[nC]
def CX (a:rs[n]?=some u)(h:u.kind=4)(e:z.at_=(k:Int)):
  eQ rs (.mk n i [y,z]) (j:Int)=eQ rs y (k:Int)++eQ rs z (j:Int):=by
 have b:¬u.kind=1:=aa
 have c:¬u.kind=2:=aa
 have d:¬u.kind=3:=aa
 have f:eY rs (.mk n i [y,z]) (j:Int)= -1:=by
  unfold eY;rw[show Rd.rule (.mk n i [y,z])=(n:Int) from rfl,mZ a,ai b,ai c,ai d]
 have g:iI rs (.mk n i [y,z]) (j:Int)=[(k:Int),(j:Int)]:=by
  unfold iI xL;rw[show Rd.rule (.mk n i [y,z])=(n:Int) from rfl,mZ a,ai b,ai c,ai d];show[z.at_,_]=_;rw[e]
 rw[BN,f,g,ai aa,ai aa];simp[nC]
def CY (h:mf rs x i j):i<j:=by
 cases h<;>omega
def BO (h:mf rs x i j):∀p∈eQ rs x (j:Int),∃q n:Nat,p=((q:Int),(n:Int))/\i<=q/\q<j/\n<rs.length:=by
 induction h with
 |leaf i=>rw[Jh];intro p c;cases c
 |inf n u i k j y z f o s w t a b r v=>
  rw[CU f o t];intro p c;rcases dD.1 c with rfl|c
  ·exact⟨k,n,rfl,aa,aa,(bP.1 f).1⟩
  ·rcases iZ.1 c with c|c
   ·obtain⟨q,m,e,g,l,d⟩:=r p c;exact⟨q,m,e,g,aa,d⟩
   ·obtain⟨q,m,e,g,l,d⟩:=v p c;exact⟨q,m,e,aa,l,d⟩
 |pre n u i j y f o s a r=>
  rw[CV f o];intro p c;rcases dD.1 c with rfl|c
  ·exact⟨i,n,rfl,aa,aa,(bP.1 f).1⟩
  ·obtain⟨q,m,e,g,l,d⟩:=r p c;exact⟨q,m,e,aa,l,d⟩
 |pos n u i j y f o s a r=>
  rw[CW f o aa];intro p c;rcases dD.1 c with rfl|c
  ·exact⟨j -1,n,rfl,aa,aa,(bP.1 f).1⟩
  ·obtain⟨q,m,e,g,l,d⟩:=r p c;exact⟨q,m,e,g,aa,d⟩
 |jux n u i k j y z f o s w t a b r v=>
  rw[CX f o t];intro p c;rcases iZ.1 c with c|c
  ·obtain⟨q,m,e,g,l,d⟩:=r p c;exact⟨q,m,e,g,aa,d⟩
  ·obtain⟨q,m,e,g,l,d⟩:=v p c;exact⟨q,m,e,aa,l,d⟩
def Uy (h:mf rs x i j):((eQ rs x (j:Int)).map Prod.fst).Nodup:=by
 have o:∀{x:Rd} {i j:Nat},mf rs x i j->∀a:Nat,(a:Int)∈(eQ rs x (j:Int)).map Prod.fst->i<=a/\a<j:=by
  intro x i j h a c;obtain⟨p,t,e⟩:=nM.1 c;obtain⟨q,m,rfl,A,B,_⟩:=BO h p t;have:(q:Int)=(a:Int):=e;omega
 have w:∀{y z:Rd} {i k l j:Nat},mf rs y i k->mf rs z l j->k<=l->∀a∈(eQ rs y (k:Int)).map Prod.fst,∀b∈(eQ rs z (j:Int)).map Prod.fst,a≠b:=by
  intro y z i k l j C r E a c b s e;subst e;obtain⟨p,t,e⟩:=nM.1 c;obtain⟨q,m,rfl,A,B,_⟩:=BO C p t;subst e;have:=o r q s;omega
 induction h with
 |leaf i=>rw[Jh];exact List.nodup_nil
 |inf n u i k j y z f g v D r a b c s=>
  rw[CU f g r,di,dX,ut,List.nodup_append];refine⟨λd=>?_,c,s,w a b aa⟩;rcases iZ.1 d with d|d
  ·have:=o a k d;omega
  ·have:=o b k d;omega
 |pre n u i j y f g v a c=>
  rw[CV f g,di,ut];exact⟨λd=>av (o a i d),c⟩
 |pos n u i j y f g v a c=>
  rw[CW f g aa,di,ut];exact⟨λd=>av (o a (j -1) d),c⟩
 |jux n u i k j y z f g v D r a b c s=>
  rw[CX f g r,dX,List.nodup_append];exact⟨c,s,w a b aa⟩
end El
namespace Sp
open At Go.RowKit
variable{w:World}{t:aC}{ts:List aC}{A:Option Addr}{cap:Nat}
abbrev aA (k:Int)(a v:ByteArray)(A:Option Addr)(n cap:Nat)(f:ByteArray):Array Value:= #[qI k,af a,af v,.slice A n cap,af f]
inductive gK (w:World):aC->Array Value->Prop
 |mk (k:Int) (a v f:ByteArray) (ts:List aC) (A:Option Addr) (cap:Nat) (ad:Addr) (cs:Nat->Array Value) (ha:a.size<=9223372036854775807) (hv:v.size<=9223372036854775807) (hf:f.size<=9223372036854775807) (hn:ts.length<=cap) (hc:cap<=9223372036854775807)
   (hA:ts=[]\/(A=some ad/\ad.block<w.heap.size)) (hcell:∀i,i<ts.length->∀j,j<5->w.cell? (ad.add (i*5+j))=(cs i)[j]?)
   (hk:∀(i:Nat) (h:i<ts.length),gK w ts[i] (cs i)):gK w (.mk k a v f ts) (aA k a v A ts.length cap f)
def uf (w:World)(A:Option Addr)(ts:List aC):Prop:=∀(i:Nat) (t:aC),ts[i]?=some t->∃ad:Addr,A=some ad/\ad.block<w.heap.size/\∃c,gK w t c/\∀j,j<5->w.cell? (ad.add (i*5+j))=c[j]?
def yG (a:Addr)(n:Nat):(a.add n).block=a.block:=by unfold Addr.add;split<;>rfl
def gK.keep {w':World}(d:Below w.heap.size w w'){c:Array Value}(h:gK w t c):gK w' t c:=by
 induction h with
 |mk k a v f ts A cap m n o p q r s e u z x=>
  refine .mk k a v f ts A cap m n o p q r s (e.imp id λ⟨g,b⟩=>⟨g,bf b d.size⟩) (λi l j y=>?_) x;rcases e with h|⟨g,b⟩
  ·subst h;simp at l
  ·rw[d.cell (by rw[yG];exact b)];exact u i l j y
def uf.keep {w w':World}(a:Below w.heap.size w w'){A:Option Addr}{ts:List aC}(h:uf w A ts):uf w' A ts:=λi t d=>by
 obtain⟨e,f,b,c,g,k⟩:=h i t d;exact⟨e,f,bf b a.size,c,g.keep a,λj l=>by rw[a.cell (by rw[yG];exact b)];exact k j l⟩
def gK.form {w:World}{t:aC}{c:Array Value}(h:gK w t c):∃A cap,c=aA t.kind t.nam t.vr A t.args.length cap t.form/\t.nam.size<=9223372036854775807/\t.vr.size<=9223372036854775807/\t.form.size<=9223372036854775807/\t.args.length<=cap/\cap<=9223372036854775807/\uf w A t.args:=by
 cases h with
 |mk k a v f ts A cap d e g j l m n o p q=>
  refine⟨A,cap,rfl,g,j,l,m,n,λi t r=>?_⟩;obtain⟨b,rfl⟩:=bP.1 r;rcases o with h|⟨s,u⟩
  ·rw[show(aC.mk k a v f ts).args=ts from rfl] at b;subst h;simp at b
  ·exact⟨d,s,u,e i,q i b,p i b⟩
def gK.of {k:Int}{a v f:ByteArray}(e:a.size<=9223372036854775807)(g:v.size<=9223372036854775807)(l:f.size<=9223372036854775807)(m:ts.length<=cap)(n:cap<=9223372036854775807)(h:uf w A ts):gK w (.mk k a v f ts) (aA k a v A ts.length cap f):=by
 cases ts with
 |nil=>exact .mk k a v f [] A cap ⟨0,0,none⟩ (λ_=> #[]) e g l m n (.inl rfl) (λi b=>by simp at b) (λi b=>by simp at b)
 |cons t ts=>
  obtain⟨o,p,q,_⟩:=h 0 t rfl;have d:∀i,∃c:Array Value,∀(b:i<(t::ts).length),gK w (t::ts)[i] c/\∀j,j<5->w.cell? (o.add (i*5+j))=c[j]?:=λi=>by
   by_cases b:i<(t::ts).length
   ·obtain⟨x,r,_,c,s,u⟩:=h i _ (gE b);obtain rfl:=sj (p.symm.trans r);exact⟨c,λ_=>⟨s,u⟩⟩
   ·exact⟨#[],λh=>absurd h b⟩
  exact .mk k a v f (t::ts) A cap o (λi=>(d i).choose) e g l m n (.inr ⟨p,q⟩) (λi b=>((d i).choose_spec b).2) (λi b=>((d i).choose_spec b).1)
def uU {a:Addr}{n j:Nat}{v:Option Value}(h:w.cell? (a.add (n+(j+1)))=v):w.cell? ⟨(a.add n).block,(a.add n).off+(j+1),none⟩=v:=by
 rw[<-oO] at h;unfold Addr.add at h⊢
 simpa using h
def sH (w:World)(p:Addr)(t:aC)(A:Option Addr)(cap:Nat):Prop:=
 p.block<w.heap.size/\w.cell? p=some (qI t.kind)/\w.cell? (aF p 1)=some (af t.nam)/\w.cell? (aF p 2)=some (af t.vr)/\w.cell? (aF p 3)=some (.slice A t.args.length cap)/\w.cell? (aF p 4)=some (af t.form)
  /\t.nam.size<=9223372036854775807/\t.vr.size<=9223372036854775807/\t.form.size<=9223372036854775807/\t.args.length<=cap/\cap<=9223372036854775807/\uf w A t.args
def sH.keep {w w':World}(a:Below w.heap.size w w'){p:Addr}{t:aC}{A:Option Addr}{cap:Nat}(h:sH w p t A cap):sH w' p t A cap:=by
 obtain⟨b,c,d,e,f,g,i,j,k,l,m,n⟩:=h;exact⟨bf b a.size,(a.cell b).trans c,(a.cell (p:=aF p 1) b).trans d,(a.cell (p:=aF p 2) b).trans e,(a.cell (p:=aF p 3) b).trans f,(a.cell (p:=aF p 4) b).trans g,i,j,k,l,m,n.keep a⟩
def sH.box {g:Nat}(a:au w g 25 (aA t.kind t.nam t.vr A t.args.length cap t.form))(b:t.nam.size<=9223372036854775807)(c:t.vr.size<=9223372036854775807)(d:t.form.size<=9223372036854775807)(e:t.args.length<=cap)(f:cap<=9223372036854775807)(h:uf w A t.args):sH w (ag g (0)) t A cap:=
 ⟨a.lt,a.cell 0,a.cell 1,a.cell 2,a.cell 3,a.cell 4,b,c,d,e,f,h⟩
def sH.whole {p:Addr}(h:sH w p t A cap):gK w t (aA t.kind t.nam t.vr A t.args.length cap t.form):=by
 obtain⟨j,l,m,n,o,q,b,c,d,e,g,i⟩:=h;obtain⟨k,a,v,f,ts⟩:=t;exact gK.of b c d e g i
def uf.at_ (h:uf w A ts){i:Nat}(g:ts[i]?=some t):
  ∃a d e,A=some a/\a.block<w.heap.size/\sH w (a.add (i*5)) t d e:=by
 obtain⟨a,k,f,c,l,b⟩:=h i t g;obtain⟨d,e,rfl,m,n,o,p,q,r⟩:=l.form;exact⟨a,d,e,k,f,by rw[yG];exact f,b 0 aa,uU (j:=0) (b 1 aa),uU (j:=1) (b 2 aa),uU (j:=2) (b 3 aa),uU (j:=3) (b 4 aa),m,n,o,p,q,r⟩
def wP {k:IntKind}{a b:Int}(h:a=b):Ending.returned (.int k a)= .returned (.int k b):=by rw[h]
end Sp
section
open Go.RowKit
structure jX (w:World) where
 val:World
 bel:Below w.heap.size w val
instance (w:World):Inhabited (jX w):=⟨⟨w,aL _ _⟩⟩
def jX.cell {w:World}(e:jX w){p:Addr}{v:Value}(a:p.block<w.heap.size)(h:w.cell? p=some v):e.val.cell? p=some v:=by
 rw[e.bel.cell a];exact h
def Be {P:Program}{id:Nat}{Q:Exit->Act->World->Prop}{a:Act}{w:World}{l:List Oper}(b:P.follows .mixedOrders=true)(c:Region.lexB .any l.toArray=true)
  (h:wpQuiet P l.toArray (λw'=>∃e:jX w,w'=e.val) (λd=>∀w',(∃e:jX w,w'=e.val)->Q .normal d w') l a):(Code.region id l.toArray true).wp P Q a w:=
 wp_region_quiet (C:=λw'=>∃e:jX w,w'=e.val) b c ⟨⟨_,fC (aL _ _)⟩,rfl⟩ (by simpa using h)
def Calls.ext {P:Program}{f:FuncId}{args:Array Value}{w:World}{e:jX w}{v:Value}
  (h:Calls P f args e.val λr w'=>r= .returned v/\Below e.val.heap.size e.val w'):Calls P f args e.val λr b=>r= .returned v/\∃c:jX w,b=c.val:=
 h.mono λ_ w' a=>⟨a.1,⟨w',e.bel.trans (a.2.mono e.bel.size)⟩,rfl⟩
end
namespace Sp
open At Ch Go.RowKit
variable{w w' a b:World}{base n gp g B:Nat}{e t:TypeId}{xs ks:List aC}{P ok':Nat->Prop}{p:Addr}{x:aC}{A:Option Addr}{css:List (Array Value)}
def own_below {size:Nat}{v:Value}{xs:List Value}(h:w.ownsRow base e size v n xs)(a:Below w.heap.size w w'):w'.ownsRow base e size v n xs:=
 h.kept (row:=none) ⟨a.os,a.tape,a.output,a.size,λi b _=>a.block i b⟩ (by cases v.ownBlock<;>simp)
def CO {a:Nat}{size:Nat}{v:Value}{xs:List Value}(h:w.ownsRow base e size v n xs)(b:a<=base):w.ownsRow a e size v n xs:=
 ⟨h.1,h.2.imp id λ⟨g,cap,c,d,f,i⟩=>⟨g,cap,c,d,ax b f,i⟩⟩
def xY (w:World)(p:Addr)(u:Value):w.grownBy (w.setCell p u) (some p.block):=
 ⟨rfl,rfl,rfl,by simp[World.setCell],λk _ a=>xD _ _ _ _ (λe=>a (by simp[e]))⟩
def info_parts {P:Program}{z:Value}{a b:Nat}(h:(P.info? t).map (λi=>(i.zero,i.size,i.bytes))=some (some z,a,b)):∃i,P.info? t=some i/\i.zero=some z/\i.size=a/\i.bytes=b:=by
 cases c:P.info? t with
 |none=>rw[c] at h;cases h
 |some i=>
  rw[c] at h;simp only[je,gV,nP] at h;exact⟨i,rfl,h.1,h.2.1,h.2.2⟩
structure Gr (gp:Nat)(w w':World):Prop where
 os:w'.os=w.os
 tape:w'.tape=w.tape
 output:w'.output=w.output
 size:w.heap.size<=w'.heap.size
 block:∀k,k<w.heap.size->k≠gp->w'.heap[k]?=w.heap[k]?
def Gr.refl (gp:Nat)(w:World):Gr gp w w:=⟨rfl,rfl,rfl,aH _,λ_ _ _=>rfl⟩
def Gr.trans {gp:Nat}{a b c:World}(h:Gr gp a b)(k:Gr gp b c):Gr gp a c:=
 ⟨k.os.trans h.os,k.tape.trans h.tape,k.output.trans h.output,ax h.size k.size,λi d e=>(k.block i (ll d h.size) e).trans (h.block i d e)⟩
def Gr.below {c:World}(h:Gr gp a b)(k:Below b.heap.size b c):Gr gp a c:=
 ⟨k.os.trans h.os,k.tape.trans h.tape,k.output.trans h.output,ax h.size k.size,λi d e=>(k.block i (ll d h.size)).trans (h.block i d e)⟩
def Gr.grown {c:World}{row:Option Nat}(h:Gr gp a b)(k:b.grownBy c row)(f:∀r,row=some r->a.heap.size<=r\/r=gp):Gr gp a c:=
 ⟨k.os.trans h.os,k.tape.trans h.tape,k.output.trans h.output,ax h.size k.size,λi d g=>(k.block i (ll d h.size) (λe=>by rcases f i e.symm with j|j<;>omega)).trans (h.block i d g)⟩
def Gr.set (h:Gr gp a b)(c:a.heap.size<=p.block\/p.block=gp)(u:Value):Gr gp a (b.setCell p u):=
 h.grown (xY b p u) λr e=>av (sj e)
def Gr.own (h:Gr gp a b):a.grownBy b (some gp):=⟨h.os,h.tape,h.output,h.size,λi c d=>h.block i c (λe=>d (by rw[e]))⟩
def Gr.blk (h:Gr gp a b){c:Array Value}(d:au a g t c)(e:g≠gp):au b g t c:=(h.block g d.lt e).trans d
def Gr.down (h:Gr gp a b)(c:B<=a.heap.size)(d:B<=gp):Below B a b:=⟨h.os,h.tape,h.output,h.size,λi e=>h.block i aa aa⟩
inductive bH (ok:Nat->Prop) (w:World):aC->Array Value->Prop
 |mk (k:Int) (a v f:ByteArray) (ks:List aC) (A:Option Addr) (cap:Nat) (ad:Addr) (cs:Nat->Array Value) (ha:a.size<=9223372036854775807) (hv:v.size<=9223372036854775807) (hf:f.size<=9223372036854775807) (hn:ks.length<=cap) (hc:cap<=9223372036854775807)
   (hA:ks=[]\/(A=some ad/\ad.block<w.heap.size/\ok ad.block)) (hcell:∀i,i<ks.length->∀j,j<5->w.cell? (ad.add (i*5+j))=(cs i)[j]?)
   (hk:∀(i:Nat) (h:i<ks.length),bH ok w ks[i] (cs i)):bH ok w (.mk k a v f ks) (aA k a v A ks.length cap f)
def qw (ok:Nat->Prop)(w:World)(A:Option Addr)(ks:List aC):Prop:=∀(i:Nat) (x:aC),ks[i]?=some x->∃ad:Addr,A=some ad/\ad.block<w.heap.size/\ok ad.block/\∃c,bH ok w x c/\∀j,j<5->w.cell? (ad.add (i*5+j))=c[j]?
def bH.map {ok:Nat->Prop}(n:w.heap.size<=w'.heap.size)(o:∀b,b<w.heap.size->ok b->ok' b)(q:∀p:Addr,p.block<w.heap.size->ok p.block->w'.cell? p=w.cell? p){c:Array Value}(h:bH ok w x c):bH ok' w' x c:=by
 induction h with
 |mk k a v f ks A cap r s t u y z B g C F D=>
  refine .mk k a v f ks A cap r s t u y z B (g.imp id λ⟨l,d,e⟩=>⟨l,ll d n,o _ d e⟩) (λi m j E=>?_) D;rcases g with h|⟨l,d,e⟩
  ·subst h;simp at m
  ·rw[q _ (by rw[yG];exact d) (by rw[yG];exact e)];exact C i m j E
def bH.keep {ok:Nat->Prop}{c:Array Value}(h:bH ok w x c)(a:Below w.heap.size w w'):bH ok w' x c:=h.map a.size (λ_ _ h=>h) λ_ b _=>a.cell b
def bH.any {ok:Nat->Prop}{c:Array Value}(h:bH ok w x c)(a:∀b,b<w.heap.size->ok b->ok' b):bH ok' w x c:=h.map (aH _) a λ_ _ _=>rfl
def bH.grown {ok:Nat->Prop}{row:Option Nat}{c:Array Value}(h:bH ok w x c)(a:w.grownBy w' row)(e:∀b,b<w.heap.size->ok b->some b≠row)(f:∀b,b<w.heap.size->ok b->ok' b):bH ok' w' x c:=
 h.map a.size f λ_ d g=>dm (a.block _ d (e _ d g))
def qw.map {ok ok':Nat->Prop}{w w':World}(d:w.heap.size<=w'.heap.size)(e:∀b,b<w.heap.size->ok b->ok' b)(f:∀p:Addr,p.block<w.heap.size->ok p.block->w'.cell? p=w.cell? p){A:Option Addr}{ks:List aC}(h:qw ok w A ks):qw ok' w' A ks:=λi x k=>by
 obtain⟨l,m,a,g,c,n,o⟩:=h i x k;exact⟨l,m,ll a d,e _ a g,c,n.map d e f,λj q=>by rw[f _ (by rw[yG];exact a) (by rw[yG];exact g)];exact o j q⟩
def qw.keep {ok:Nat->Prop}(h:qw ok w A ks)(a:Below w.heap.size w w'):qw ok w' A ks:=h.map a.size (λ_ _ h=>h) λ_ b _=>a.cell b
def qw.any {ok:Nat->Prop}(h:qw ok w A ks)(a:∀b,b<w.heap.size->ok b->ok' b):qw ok' w A ks:=h.map (aH _) a λ_ _ _=>rfl
def bH.size {ok:Nat->Prop}{w:World}{x:aC}{c:Array Value}(h:bH ok w x c):c.size=5:=by cases h;rfl
def bH.form {ok:Nat->Prop}{w:World}{x:aC}{c:Array Value}(h:bH ok w x c):∃A cap,c=aA x.kind x.nam x.vr A x.args.length cap x.form/\x.nam.size<=9223372036854775807/\x.vr.size<=9223372036854775807/\x.form.size<=9223372036854775807/\x.args.length<=cap/\cap<=9223372036854775807/\qw ok w A x.args:=by
 cases h with
 |mk k a v f ks A cap d e g j l m n o p q=>
  refine⟨A,cap,rfl,g,j,l,m,n,λi x r=>?_⟩;obtain⟨b,rfl⟩:=bP.1 r;have b:i<ks.length:=b;rcases o with h|⟨s,t,u⟩
  ·subst h;simp at b
  ·exact⟨d,s,t,u,e i,q i b,p i b⟩
def bH.of {ok:Nat->Prop}{k:Int}{a v f:ByteArray}{cap:Nat}(e:a.size<=9223372036854775807)(g:v.size<=9223372036854775807)(l:f.size<=9223372036854775807)(m:ks.length<=cap)(n:cap<=9223372036854775807)(o:qw ok w A ks):bH ok w (.mk k a v f ks) (aA k a v A ks.length cap f):=by
 by_cases p:ks=[]
 ·subst p;exact .mk k a v f [] A cap ⟨0,0,none⟩ (λ_=> #[]) e g l m n (.inl rfl) (λi b=>by simp at b) (λi b=>by simp at b)
 ·have t:0<ks.length:=oU.2 p;obtain⟨d,q,u,x,_⟩:=o 0 ks[0] (gE t);have y:∀i,∃c,∀h:i<ks.length,bH ok w ks[i] c/\∀j,j<5->w.cell? (d.add (i*5+j))=c[j]?:=λi=>by
   by_cases h:i<ks.length
   ·obtain⟨z,r,_,_,c,B,C⟩:=o i ks[i] (gE h);obtain rfl:d=z:=by rw[q] at r;exact sj r
    exact⟨c,λ_=>⟨B,C⟩⟩
   ·exact⟨#[],λD=>absurd D h⟩
  obtain⟨E,s⟩:=rG y;exact .mk k a v f ks A cap d E e g l m n (.inr ⟨q,u,x⟩) (λi b=>(s i b).2) (λi b=>(s i b).1)
def bH.mat {ok:Nat->Prop}{c:Array Value}(h:bH ok w x c):gK w x c:=by
 induction h with
 |mk k a v f ks A cap b d e g i j l m n r o=>
  exact .mk k a v f ks A cap b d e g i j l (m.imp id λ⟨p,q,_⟩=>⟨p,q⟩) n o
def bH.zero (ok:Nat->Prop)(w:World)(k:Int)(a:ByteArray)(b:a.size<=9223372036854775807):bH ok w (.mk k a ⟨#[]⟩ ⟨#[]⟩ []) (aA k a ⟨#[]⟩ none 0 0 ⟨#[]⟩):=
 bH.of (ks:=[]) b aI aI (aH _) aa λi x h=>by simp at h
def kG (ok:Nat->Prop)(w:World)(B:Nat)(v:Value)(xs:List aC):Prop:=∃css:List (Array Value),w.ownsRow B 25 5 v xs.length (css.flatMap (·.toList))/\css.length=xs.length/\(∀(j:Nat) c x,css[j]?=some c->xs[j]?=some x->bH ok w x c)
def zi:∀(l:List (Array Value)) (k j:Nat) (c:Array Value),(∀c∈l,c.size=5)->l[k]?=some c->j<5->(l.flatMap (·.toList))[k*5+j]?=c[j]?
 |[],k,j,c,_,h,_=>by simp at h
 |x::r,0,j,c,a,h,b=>by
  obtain rfl:x=c:=by simpa using h
  have:=a x bZ;rw[gT,dz (by simp;omega)];simp
 |x::r,k+1,j,c,a,h,b=>by
  have d:=zi r k j c (λc e=>a c (dP _ e)) (by simpa using h) b;have:=a x bZ;rw[gT,cO (by simp;omega),<-d]
  congr 1
  simp;omega
def kG.nil (ok:Nat->Prop)(w:World)(B:Nat):kG ok w B qN []:=⟨[],iR _ _ _ _,rfl,λj c x h=>by simp at h⟩
def kG.size {ok:Nat->Prop}{w:World}{xs:List aC}{css:List (Array Value)}(d:css.length=xs.length)(h:∀(j:Nat) c x,css[j]?=some c->xs[j]?=some x->bH ok w x c):∀c∈css,c.size=5:=λc b=>by
 obtain⟨j,a⟩:=gz.1 b;have e:=(bP.1 a).1;exact(h j c xs[j] a (gE aa)).size
def kG.keep {ok:Nat->Prop}{w w':World}{B:Nat}{v:Value}{xs:List aC}(h:kG ok w B v xs)(a:Below w.heap.size w w'):kG ok w' B v xs:=by
 obtain⟨css,b,d,e⟩:=h;exact⟨css,own_below b a,d,λj c x f g=>(e j c x f g).keep a⟩
def kG.any {ok ok':Nat->Prop}{w:World}{B:Nat}{v:Value}{xs:List aC}(h:kG ok w B v xs)(a:∀b,b<w.heap.size->ok b->ok' b):kG ok' w B v xs:=by
 obtain⟨css,d,e,f⟩:=h;exact⟨css,d,e,λj c x g i=>(f j c x g i).any a⟩
def kG.zP9 {ok:Nat->Prop}{v:Value}(h:kG ok w B v xs)(n:∀b,B<=b->P b)(o:∀b,ok b->P b):∃A cap,v= .slice A xs.length cap/\xs.length<=cap/\cap<=9223372036854775807/\qw P w A xs:=by
 obtain⟨css,q,r,f⟩:=h;have k:=kG.size r f;rcases q.2 with⟨rfl,s⟩|⟨g,cap,t,rfl,u,y,z,C,G,D⟩
 ·obtain rfl:xs=[]:=eP.1 s;exact⟨none,0,rfl,aS,aa,λj p d=>by simp at d⟩
 ·have l:au w g 25 t:=y;refine⟨_,cap,rfl,z,by unfold maxLen at C;omega,λi x m=>⟨(ag g (0)),rfl,l.lt,n g u,?_⟩⟩;have H:=(bP.1 m).1;obtain⟨c,e⟩:∃c,css[i]?=some c:=⟨_,gE aa⟩
  refine⟨c,(f i c x e m).any λb _ h=>o b h,λj d=>?_⟩;have a:=zi css i j c k e d;have E:j<c.size:=by rw[k c (dQ e)];exact d
  have F:c[j]?=some c[j]:=cB E;rw[show(⟨g,0,none⟩:Addr).add (i*5+j)=(ag g (i*5+j)) by unfold Addr.add;split<;>simp_all,l.cell];rw[F] at a⊢;rw[<-D,gU] at a
  split at a
  ·rw[<-gF];exact a
  ·cases a
def kG.lt {ok:Nat->Prop}{w:World}{B:Nat}{v:Value}{xs:List aC}(h:kG ok w B v xs):∀r,v.ownBlock=some r->B<=r/\r<w.heap.size:=by
 obtain⟨css,a,_⟩:=h;exact bA a
def kG.snoc {ok:Nat->Prop}{v v':Value}{c:Array Value}(g:css.length=xs.length)(h:∀(j:Nat) c x,css[j]?=some c->xs[j]?=some x->bH ok w x c)(m:bH ok w x c)(n:w'.ownsRow B 25 5 v' (xs.length+1) (css.flatMap (·.toList)++c.toList))(i:w.grownBy w' v.ownBlock)(k:∀b,b<w.heap.size->ok b->some b≠v.ownBlock)(l:∀b,b<w.heap.size->ok b->ok' b):kG ok' w' B v' (xs++[x]):=by
 refine⟨css++[c],?_,by simp[g],λj d y a f=>?_⟩
 ·rw[aO,fH]
  simpa using n
 ·rcases bu j css.length with o|p
  ·rw[dz o] at a;rw[dz aa] at f;exact(h j d y a f).grown i k l
  ·rw[cO p] at a;rw[cO aa,<-g] at f
   by_cases e:j -css.length=0
   ·rw[e] at a f;obtain rfl:c=d:=by simpa using a
    obtain rfl:x=y:=by simpa using f
    exact m.grown i k l
   ·rw[ko (by simp;omega)] at a;cases a
def dU (P:Nat->Prop)(w:World)(B:Nat)(v:Value)(xs:List aC):Prop:=kG (λb=>v.ownBlock≠some b/\P b) w B v xs
def dU.nil (P:Nat->Prop)(w:World)(B:Nat):dU P w B qN []:=kG.nil _ _ _
def dU.keep {P:Nat->Prop}{w w':World}{B:Nat}{v:Value}{xs:List aC}(h:dU P w B v xs)(a:Below w.heap.size w w'):dU P w' B v xs:=kG.keep h a
def dU.push {v v':Value}{c:Array Value}(f:css.length=xs.length)(h:∀(j:Nat) c x,css[j]?=some c->xs[j]?=some x->bH (λb=>v.ownBlock≠some b/\P b) w x c)(g:bH (λb=>v.ownBlock≠some b/\P b) w x c)(i:w'.ownsRow B 25 5 v' (xs.length+1) (css.flatMap (·.toList)++c.toList))(k:w.grownBy w' v.ownBlock)(l:v'.ownBlock=v.ownBlock\/v'.ownBlock=some w.heap.size):dU P w' B v' (xs++[x]):=
 kG.snoc f h g i k (λb _ a e=>a.1 e.symm) (λb a d=>⟨by
  rcases l with e|e
  ·rw[e];exact d.1
  ·rw[e];intro m;have:=sj m;omega,d.2⟩)
def dU.set_ {v:Value}(h:dU P w B v xs)(d:¬P p.block)(n:p.block<B)(u:Value):dU P (w.setCell p u) B v xs:=by
 obtain⟨css,a,f,g⟩:=h;refine⟨css,gM a (xY w p u) ?_,f,λj c x i k=>(g j c x i k).map (xY w p u).size (λ_ _ h=>h) λq _ l=>kZ w p q u (λe=>d (by rw[e];exact l.2))⟩;cases m:v.ownBlock with
 |none=>exact .inl rfl
 |some b=>
  refine .inr λe=>?_
  have:=(bA a b m).1;have:=sj e;omega
def dU.form {v:Value}(h:dU P w B v xs)(a:∀b,B<=b->P b):∃A cap,v= .slice A xs.length cap/\xs.length<=cap/\cap<=9223372036854775807/\qw P w A xs:=kG.zP9 h a λ_ c=>c.2
def vF {c:Array Value}(h:au w g t c)(a:c.size=n):dL w w.heap.size n (some (ag g (0))) 1 c.toList:=
 ⟨by simp[a],λ_=>⟨(ag g (0)),rfl,h.lt,λj v b=>by
  have e:(⟨g,0,none⟩:Addr).add j=⟨g,j,none⟩:=yR
  rw[e,h.cell]
  simpa using b⟩⟩
def yI {ok:Nat->Prop}{c:Array Value}(h:bH ok w x c):∀u∈c.toList,u.oneCell'=true:=by
 obtain⟨A,cap,rfl,_⟩:=h.form;intro u a;simp at a;rcases a with rfl|rfl|rfl|rfl|rfl<;>rfl
def zN:(prog.info? 25).map (λi=>(i.zero,i.size,i.bytes))=some (some (.agg qT),5,80):=aj
def bH.ext {ok:Nat->Prop}{c:Array Value}(h:bH ok w x c):∃k a v A n cap f,c= #[qI k,af a,af v,.slice A n cap,af f]:=by
 obtain⟨A,cap,rfl,_⟩:=h.form;exact⟨_,_,_,_,_,_,_,rfl⟩
end Sp
end Go.Proofs.YtlefbenkhgbifaaGreatDoor
