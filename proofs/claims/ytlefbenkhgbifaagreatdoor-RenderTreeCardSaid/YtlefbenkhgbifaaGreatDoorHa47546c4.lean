/- The reference's pairs. -/
import Derived.Test.YtlefbenkhgbifaaGreatDoorHc70af8eb
set_option linter.all false
set_option maxRecDepth 100000
set_option maxHeartbeats 8000000
namespace Go.Proofs.YtlefbenkhgbifaaGreatDoor
open Tryz
namespace El
open At Ch Sp Sy Go.RowKit
def qV (rs:List aD)(n:aG):Option ByteArray:=if n.kind=7\/n.kind=9 then(match n.kids with
 |_::s::_=>vY rs s
 |_=>none) else none
def YA (rs:List aD)(n:aG)(w:World)(e:Ending)(w':World):Prop:=∃s b,e= .returned (.tuple #[af s,.bool b])/\qV rs n=(if b=true then some s else none)/\Below w.heap.size w w'
def Qi (A:Option Addr)(cap:Nat)(rs:List aD)(n:aG)(c:Array Value)(w:World)(P:fG w A rs)(Q:rs.length<=1000000)(R:lX w n c)(S:n.kind=7\/n.kind=9->∃a s r,n.kids=a::s::r):
  Calls prog 169 #[.slice A rs.length cap,.agg c] w (YA rs n w):=by
 obtain⟨F,G,rfl,Y,c3,c4,T⟩:=R.form;have d:=zh (aN w (qO n F G));have U:=zh (au.new w 31 (qC n F G));have H:=zh (P.keep d.o);have I:=zh (T.keep d.o);have V:=zh S;clear P R S T Y;go_enter func169,ntmps169;go_upto_region 1 with(fail)
 generalize w.alloc (qO n F G)=Z at*;have a0:=U.o.cell 0;have a1:=U.o.cell 3
 go_cut [15] (λb wc=>b= .bool (decide (n.kind≠7/\n.kind≠9))/\wc=Z)
 case first=>
  by_cases l:n.kind=7
  ·have x:=ah (decide (n.kind≠7/\n.kind≠9)=false) (aK (λh=>h.1 l));have a2:(n.kind !=7)=false:=by rw[l];rfl
   clear l;go_wp2;go_meet;exact⟨by rw[x.o],rfl⟩
  have a2:(n.kind !=7)=true:=by rw[bne,bn l];rfl
  by_cases p:n.kind=9
  ·have x:=ah (decide (n.kind≠7/\n.kind≠9)=false) (aK (λh=>h.2 p));have a3:(n.kind !=9)=false:=by rw[p];rfl
   clear l p;go_wp2;go_meet;exact⟨by rw[x.o],rfl⟩
  have x:=ah (decide (n.kind≠7/\n.kind≠9)=true) (aJ ⟨l,p⟩);have a3:(n.kind !=9)=true:=by rw[bne,bn p];rfl
  clear l p;go_wp2;go_meet;exact⟨by rw[x.o],rfl⟩
 obtain⟨a4,rfl⟩:=hcut;subst a4
 by_cases j:n.kind=7\/n.kind=9
 case neg=>
  have z:=ah (qV rs n=none) (by unfold qV;rw[ai j]);rw[show decide (n.kind≠7/\n.kind≠9)=true from aJ ⟨λh=>j (.inl h),λh=>j (.inr h)⟩];clear j;go_wp2;exact aB (v:=.tuple #[qE,.bool false]) (by simp[results,results169,go_sem]) rfl ⟨_,_,rfl,by rw[z.o];rfl,d.o⟩
 rw[show decide (n.kind≠7/\n.kind≠9)=false from aK (λh=>by rcases j with e|e;exact h.1 e;exact h.2 e)];obtain⟨c5,s,c6,B⟩:=V.o j;have z:=ah (qV rs n=vY rs s) (by unfold qV;rw[ak j,B]);rw[B] at I;obtain⟨W,c7,c8,rfl,c9,_,_,_,_,_,_⟩:=Gc I.o;obtain⟨d0,d1,d2,a5,_,_,_,_,a6,_,J,K,L,M⟩:=I.o.at_ (i:=1) (t:=s) rfl;obtain rfl:=sj a5;rw[show W.add (1*4)=(aF W 4) by unfold Addr.add;simp] at J K L M;have d3:(1:Int)<(n.kids.length:Int):=by rw[B,aY,aY];omega
 have N:=zh a6;clear B j V;go_upto_region 4 with(fail)
 clear J K L M a0 a1;obtain⟨m,y⟩:∃m,m=s.kids.length:=⟨_,rfl⟩
 rw[<-y]
 match hs:s.kids with
 |[]|[_]|[_,_]=>
  all_goals
   have f:=ah (qV rs n=none) (by rw[z.o];unfold vY;rw[hs]);have a7:(m:Int)<3:=by rw[y,hs];simp
   clear hs y;go_wp2;exact aB (v:=.tuple #[qE,.bool false]) (by simp[results,results169,go_sem]) rfl ⟨_,_,rfl,by rw[f.o];rfl,d.o⟩
 |a::b::d4::r=>
 rw[hs] at N;obtain⟨d5,d6,d7,rfl,d8,a8,a9,d9,e0,e1,e2⟩:=Gc N.o;obtain⟨e3,e4,b0,b1,J,K,L,M⟩:=Jk N.o;have b2:3<=m:=by rw[y,hs,aY,aY,aY];omega
 have a7:¬((m:Int)<3):=aa
 have e5:(0:Int)<(m:Int):=aa
 have e6:(1:Int)<(m:Int):=aa
 have C:=ah (qV rs n=if(a.kind=2/\mY a.text.data.toList=true/\mD rs a.text.data.toList=false)/\b.kind=2/\b.text.data.toList=[61] then some a.text else none) (by rw[z.o];unfold vY;rw[hs]);have b3:=zh a9;clear hs a8 b0 b1 b2 y
 by_cases k:a.kind=2
 case neg=>
  have b4:(a.kind !=2)=true:=by rw[bne,bn k];rfl
  have f:=ah (qV rs n=none) (by rw[C.o,ai (λh=>k h.1.1)]);clear k;go_wp2;exact aB (v:=.tuple #[qE,.bool false]) (by simp[results,results169,go_sem]) rfl ⟨_,_,rfl,by rw[f.o];rfl,d.o⟩
 have b4:(a.kind !=2)=false:=by rw[k];rfl
 by_cases o:b.kind=2
 case neg=>
  have b5:(b.kind !=2)=true:=by rw[bne,bn o];rfl
  have f:=ah (qV rs n=none) (by rw[C.o,ai (λh=>o h.2.1)]);clear k o;go_wp2;exact aB (v:=.tuple #[qE,.bool false]) (by simp[results,results169,go_sem]) rfl ⟨_,_,rfl,by rw[f.o];rfl,d.o⟩
 have b5:(b.kind !=2)=false:=by rw[o];rfl
 by_cases q:b.text.data.toList=[61]
 case neg=>
  have b6:(b.text.toList==[61])=false:=by rw[bz];exact bn q
  have f:=ah (qV rs n=none) (by rw[C.o,ai (λh=>q h.2.2)]);clear k o q;go_wp2;exact aB (v:=.tuple #[qE,.bool false]) (by simp[results,results169,go_sem]) rfl ⟨_,_,rfl,by rw[f.o];rfl,d.o⟩
 have b6:(b.text.toList==[61])=true:=by rw[bz,q];rfl
 have X:=zh (show qV rs n=if mY a.text.data.toList=true/\mD rs a.text.data.toList=false then some a.text else none by
  rw[C.o]
  by_cases g:mY a.text.data.toList=true/\mD rs a.text.data.toList=false
  ·rw[ak g,ak ⟨⟨k,g⟩,o,q⟩]
  ·rw[ai g,ai (λh=>g h.1.2)])
 clear k o q;go_wp2_with fail;refine(FT a.text wc b3.o).mono ?_;rintro e b7 ⟨rfl,u⟩;rw[bz];replace d:=jt d u;replace H:=zh (H.o.keep u);clear u;cases D:mY a.text.data.toList with
 |false=>
  have f:=ah (qV rs n=none) (by rw[X.o,D,ai (λh=>by cases h.1)]);clear D;go_wp2;exact aB (v:=.tuple #[af a.text,.bool false]) (by simp[results,results169,go_sem]) rfl ⟨_,_,rfl,by rw[f.o];rfl,d.o⟩
 |true=>
 have f:=zh (show qV rs n=if mD rs a.text.data.toList=false then some a.text else none by
  rw[X.o,D]
  by_cases g:mD rs a.text.data.toList=false
  ·rw[ak g,ak ⟨rfl,g⟩]
  ·rw[ai g,ai (λh=>g h.2)])
 clear D;go_wp2_with fail;refine(MN A cap rs b7 H.o Q).mono ?_;rintro e b8 ⟨e7,rfl,b9,u⟩;replace d:=jt d u;obtain⟨c0,c1,rfl,_,_,c2⟩:=b9.form;clear u;go_wp2_with fail;refine(IP c0 c1 (qp rs) a.text b8 c2 (Qh rs Q)).mono ?_;rintro e e8 ⟨rfl,rfl⟩;rw[Qg];cases E:mD rs a.text.data.toList with
 |false=>
  have O:=ah (qV rs n=some a.text) (by rw[f.o,E,ak rfl]);clear E;go_wp2;exact aB (v:=.tuple #[af a.text,.bool true]) (by simp[results,results169,go_sem]) rfl ⟨_,_,rfl,by rw[O.o];rfl,d.o⟩
 |true=>
  have O:=ah (qV rs n=none) (by rw[f.o,E,ai aS]);clear E;go_wp2;exact aB (v:=.tuple #[af a.text,.bool false]) (by simp[results,results169,go_sem]) rfl ⟨_,_,rfl,by rw[O.o];rfl,d.o⟩
def Kz {w w':World}{size n:Nat}{A:Option Addr}{xs:List Value}(h:dL w w.heap.size size A n xs)(b:Below w.heap.size w w'):dL w' w.heap.size size A n xs:=by
 obtain⟨c,d⟩:=h;refine⟨c,λe=>?_⟩;obtain⟨f,g,a,i⟩:=d e;exact⟨f,g,a,λj v k=>by rw[<-i j v k];exact b.cell (by rw[gX];exact a)⟩
def KA (A B:Option Addr)(k m:Nat)(p l:List Int)(w:World)(n:kK w A p)(o:kK w B l)(q:p.length+l.length<=1000000):Calls prog 147 #[.slice A p.length k,.slice B l.length m] w λe w'=>∃v,e= .returned v/\zM w' w.heap.size v (p++l)/\Below w.heap.size w w':=by
 obtain⟨s,t,u,x,y⟩:=Sp.info_parts BG;have f:=aN w (.cells #[] 3);have z:=ah ((w.alloc (.cells #[] 3)).ownsRow w.heap.size 3 1 (ay (ag w.heap.size (0)) 0 0) 0 []) (World.ownsRow_made w #[] 0 (aH _) aI rfl);have C:=zh (Kz n f);have D:=zh o;have d:=zh q;have g:=zh f;clear n o q f;go_enter func147,ntmps147;go_wp2_with (at_builtin;refine Ch.uG _ rfl (.tmp 5) (.tmp 6) 32 rfl w.heap.size 3 s (qI 0) 1 8 underlying32 t u x y rfl aI _ _ _ rfl z.o _ A p.length k (dG p) rfl C.o (Eo p) (by have:=d.o;unfold maxLen;omega) (av d.o) aS ?_)
 intro G H a b h;have c:=ah (Below w.heap.size w H) (g.o.grown b g.o.size λr e=>av (sj (show some w.heap.size=some r from e)));have i:=zh a;have E:=zh (Kz D.o c.o);clear a b h g z C D;go_wp2_with (at_builtin;refine Ch.uG _ rfl (.tmp 7) (.tmp 8) 32 rfl w.heap.size 3 s (qI 0) 1 8 underlying32 t u x y rfl aI G p.length (dG p) rfl i.o _ B l.length m (dG l) rfl E.o (Eo l) (by have:=d.o;unfold maxLen;omega) (av d.o) (av c.o.size) ?_)
 intro F j a b h;have I:=ah (Below w.heap.size w j) (c.o.grown b c.o.size λr e=>(bA i.o r e).1);have J:=zh (show zM j w.heap.size F (p++l) by
  show j.ownsRow _ _ _ _ _ _;rw[aO,show dG (p++l)=dG p++dG l by simp[dG]];exact a)
 clear a b h c i E;go_wp2;exact aB (v:=F) (by simp[results,results147,go_sem]) rfl ⟨_,rfl,J.o,I.o⟩
end El
namespace Ch
open Go.RowKit
variable{rs:List aD}{l m:List Rd}{p r a:Int}{k i:Nat}{x y:Rd}
def YB (ok:Nat->Prop)(A:Option Addr)(cap:Nat)(rs:List aD)(x:Rd)(c:Array Value)(w:World)(i:fG w A rs)(j:dS ok w x c)(r:x.rule<(rs.length:Int)):Calls prog 193 #[.slice A rs.length cap,.agg c] w λe w'=>e= .returned (qI (qA rs x.rule))/\Below w.heap.size w w':=by
 obtain⟨a,b,rfl,s,t,p⟩:=j.form;have d:=aN w (.cells (dw x.rule x.at_ a x.kids.length b) 139);have k:=zh d;have q:=zh (i.keep d);have l:=zh (au.new w 139 (dw x.rule x.at_ a x.kids.length b));clear i j p d;have m:=l.o.cell 0
 by_cases o:x.rule<0
 ·have f:=ah (qA rs x.rule=101) (by unfold qA;rw[ak o]);go_enter func193,ntmps193;go_wp2;go_ret;exact⟨wP f.o.symm,k.o⟩
 ·obtain⟨n,g⟩:∃n:Nat,x.rule=n:=⟨x.rule.toNat,aa⟩
  obtain⟨u,h⟩:∃u,rs[n]?=some u:=⟨_,gE aa⟩
  have f:=ah (qA rs x.rule=u.prec) (by rw[g];exact Fb h);obtain⟨_,v,rfl,_,y,z,B,C,D,E⟩:=q.o.at_ h;have F:(n:Int)<(rs.length:Int):=aa
  clear m;have m:(w.alloc (.cells (dw x.rule x.at_ a x.kids.length b) 139)).cell? (ag w.heap.size (0))=some (qI (n:Int)):=by rw[<-g];exact l.o.cell 0
  clear h g o;go_enter func193,ntmps193;go_upto_region 1 with(fail)
  generalize w.alloc (.cells (dw x.rule x.at_ a x.kids.length b) 139)=G at*;go_wp2;go_ret;exact⟨wP f.o.symm,k.o⟩
def YC (a:l[k]?=some x):dx rs (l.take (k+1)) p=dx rs (l.take k) p++(if p<=qA rs x.rule then[x] else[]):=by
 rw[dA,a,CE]
 congr 1
 unfold dx
 by_cases h:p<=qA rs x.rule
 ·rw[ak h];simp[h]
 ·rw[ai h];simp[h]
def AQ :(dx rs l p).length<=l.length:=List.length_filter_le ..
def Dz (ok:Nat->Prop)(A L:Option Addr)(cap O:Nat)(rs:List aD)(l:List Rd)(p:Int)(w:World)(C:fG w A rs)(D:iE ok w L l)(E:∀x∈l,x.rule<(rs.length:Int))(a5:l.length<=100000000):Calls prog 189 #[.slice A rs.length cap,.slice L l.length O,qI p] w λe w'=>∃v,e= .returned v/\bM (λb=>ok b/\b<w.heap.size) w' w.heap.size v (dx rs l p)/\Below w.heap.size w w':=by
 obtain⟨P,Q,R,S,T⟩:=info_parts zJ;have U:=zh C;have V:=zh (D.any (ok':=λb=>ok b/\b<w.heap.size) λb W X=>⟨X,W⟩);have Y:=zh E;clear C D E;go_enter func189,ntmps189;go_wp2_with fail
 go_loopw [7,8] (λv i wr=>∃k:Nat,k<=l.length/\i=qI k/\Hy (bM (λb=>ok b/\b<w.heap.size) wr w.heap.size v (dx rs (l.take k) p))/\Hy (Below w.heap.size w wr)) (λ_ i _=>l.length -(intOf i).toNat)
 case atStart=>exact⟨0,aa,rfl,bM.nil (λb=>ok b/\b<w.heap.size) _ _,aL _ _⟩
 case round=>
  obtain⟨k,a6,rfl,c,a⟩:=hrel;have q:=zh (U.o.keep a.o);have j:=zh (V.o.keep a.o)
  by_cases Z:k<l.length
  ·obtain⟨x,f⟩:∃x,l[k]?=some x:=⟨_,gE Z⟩
   obtain⟨a7,a8,a9,rfl,_,g,_,_,_,r,s,t⟩:=j.o.at_ f;have m:=zh (YC (rs:=rs) (p:=p) f);have h:=zh g;have a0:=zh (Y.o x (dQ f));have a1:=zh f;clear f g;go_wp2_with fail;clear r s t;refine(YB _ A cap rs x _ _ q.o h.o a0.o).mono ?_;rintro e n ⟨rfl,d⟩;have c:=zh (c.o.keep d);have q:=zh (q.o.keep d);have j:=zh (j.o.keep d);have h:=zh (h.o.keep d);have a:=jt a d;clear d
   by_cases F:p<=qA rs x.rule
   ·rw[ak F] at m;obtain⟨b0,u,y,G,_,g,_,_,_,r,s,t⟩:=j.o.at_ a1.o;obtain rfl:=sj G;have h:=zh g;clear g G;have o:=aN n (.cells (dw x.rule x.at_ u x.kids.length y) 139);have a2:=zh (au.new n 139 (dw x.rule x.at_ u x.kids.length y));have H:=zh ((h.o.keep o).any (ok':=λb=>u7.ownBlock≠some b/\(ok b/\b<w.heap.size)) λb _ a3=>⟨λa4=>by
     have:=(c.o.lt b a4).1;omega,a3⟩)
    obtain⟨css,z,I,J⟩:=c.o.keep o;have a:=jt a o;have b1:(dx rs (List.take k l) p).length<=100000000:=by
     have:=AQ (rs:=rs) (l:=List.take k l) (p:=p);rw[eU] at this;omega
    clear o;go_wp2_with (at_builtin;refine uG _ rfl (.tmp 23) (.tmp 28) 119 rfl w.heap.size 139 P (.agg #[qI 0,qI 0,qN]) 3 40 underlying119 Q R S T rfl aI _ _ _ rfl z (n.heap.size+1) (some (ag n.heap.size (0))) 1 1 (dw x.rule x.at_ u x.kids.length y).toList rfl (by have:=vF a2.o rfl;rw[dY] at this;exact this) (Aj H.o) gy aa a.o.size ?_;intro b2 w' K B M)
    have c:=zh (bM.push I J H.o K B M);rw[<-m.o] at c;have N:∀b,u7.ownBlock=some b->w.heap.size<=b:=λb d=>(bA z b d).1
    have a:=zh (a.o.grown B a.o.size N);clear z I J K B M N r s t;go_wp2;go_roundw
    case rel=>exact⟨k+1,aa,bi,c,a⟩
    case measure=>simp[intOf];omega
   ·rw[ai F,bX] at m;rw[<-m.o] at c;go_wp2;go_roundw
    case rel=>exact⟨k+1,aa,bi,c,a⟩
    case measure=>simp[intOf];omega
  ·obtain rfl:k=l.length:=by omega
   rw[fA (aH _)] at c;go_wp2;go_ret;exact⟨_,rfl,c.o,a.o⟩
def YD {P:Nat->Prop}{w:World}{g:Nat}{b c:Array Value}(e:dS P w x b)(f:dS P w y c)(h:P g)(d:au w g 139 (b++c)):iE P w (some (ag g (0))) [x,y]:=λi z a=>by
 have l:=e.size;have m:=f.size;refine⟨(ag g (0)),rfl,d.lt,h,?_⟩
 match i,a with
 |0,a=>
  obtain rfl:x=z:=by simpa using a
  refine⟨b,e,λj k=>?_⟩;rw[show(⟨g,0,none⟩:Addr).add (0*3+j)=(ag g j) by unfold Addr.add;split<;>simp_all,d.cell,Array.getElem?_append_left aa]
 |1,a=>
  obtain rfl:y=z:=by simpa using a
  refine⟨c,f,λj k=>?_⟩;rw[show(⟨g,0,none⟩:Addr).add (1*3+j)=(ag g (3+j)) by unfold Addr.add;split<;>simp_all,d.cell,Array.getElem?_append_right aa]
  congr 1
  omega
def YE (m:List Rd)(b:l[i]?=some x):kM r a (l.take (i+1)) m=kM r a (l.take i) m++m.map λy=>.mk r a [x,y]:=by
 rw[dA,b];unfold kM;rw[fH];simp
def su (r a:Int)(l m:List Rd)(i k:Nat):List Rd:=kM r a (l.take i) m++(match l[i]? with
 |none=>[]
 |some x=>(m.take k).map λy=>.mk r a [x,y])
def mid_zero :su r a l m i 0=kM r a (l.take i) m:=by
 unfold su;cases l[i]?<;>simp
def YF (b:l[i]?=some x)(c:m[k]?=some y):su r a l m i (k+1)=su r a l m i k++[.mk r a [x,y]]:=by
 unfold su;rw[b,cu]
 congr 1
 show(m.take (k+1)).map _=(m.take k).map _++_;rw[dA,c,dX];rfl
def YG (b:l[i]?=some x):su r a l m i m.length=kM r a (l.take (i+1)) m:=by
 unfold su;rw[YE m b,b,fA (aH _)]
def YH :(su r a l m i k).length<=l.length*m.length+m.length:=by
 unfold su;rw[aO,Me,eU];have b:min i l.length*m.length<=l.length*m.length:=Nat.mul_le_mul_right _ aa;cases l[i]? with
 |none=>simp;omega
 |some x=>simp only[dI,eU];omega
def Qj (ok:Nat->Prop)(L M:Option Addr)(V W:Nat)(r a:Int)(l m:List Rd)(w:World)(X:iE ok w L l)(Y:iE ok w M m)(Z:l.length*m.length+m.length<=3000000000000)(e9:l.length<=100000000):Calls prog 188 #[qI r,qI a,.slice L l.length V,.slice M m.length W] w λe w'=>∃v,e= .returned v/\bM (λb=>(ok b/\b<w.heap.size)\/w.heap.size<=b) w' w.heap.size v (kM r a l m)/\Below w.heap.size w w':=by
 obtain⟨c6,c7,c8,c9,d0⟩:=info_parts zJ;have d1:=zh (X.any (ok':=λb=>ok b/\b<w.heap.size) λb u C=>⟨C,u⟩);have d2:=zh (Y.any (ok':=λb=>ok b/\b<w.heap.size) λb u C=>⟨C,u⟩);have d3:=zh Z;have f0:m.length<=3000000000000:=aa
 clear X Y Z;go_enter func188,ntmps188;go_wp2_with fail
 go_loopw [9,10] (λv j wr=>∃i:Nat,i<=l.length/\j=qI i/\Hy (bM (λb=>(ok b/\b<w.heap.size)\/w.heap.size<=b) wr w.heap.size v (kM r a (l.take i) m))/\Hy (Below w.heap.size w wr)) (λ_ j _=>l.length -(intOf j).toNat)
 case atStart=>exact⟨0,aa,rfl,by rw[eZ];exact bM.nil (λb=>(ok b/\b<w.heap.size)\/w.heap.size<=b) _ _,aL _ _⟩
 case round=>
  obtain⟨i,f1,rfl,q,o⟩:=hrel
  by_cases d4:i<l.length
  ·obtain⟨x,D⟩:∃x,l[i]?=some x:=⟨_,gE d4⟩
   have a0:=zh D;have d5:=zh (YG (r:=r) (a:=a) (m:=m) D);rw[<-mid_zero] at q;clear D;go_wp2_with fail
   go_loopw [9,11] (λv j wr=>∃k:Nat,k<=m.length/\j=qI k/\Hy (bM (λb=>(ok b/\b<w.heap.size)\/w.heap.size<=b) wr w.heap.size v (su r a l m i k))/\Hy (Below w.heap.size w wr)) (λ_ j _=>m.length -(intOf j).toNat)
   case atStart=>exact⟨0,aa,rfl,q,o⟩
   case round=>
    clear q o;obtain⟨k,f2,rfl,q,o⟩:=hrel
    by_cases d6:k<m.length
    ·obtain⟨y,E⟩:∃y,m[k]?=some y:=⟨_,gE d6⟩
     obtain⟨s,d,f,rfl,a1,a2,_,_,_,a3,a4,a5⟩:=(d1.o.keep o.o).at_ a0.o;obtain⟨t,g,n,rfl,a6,a7,_,_,_,a8,a9,b0⟩:=(d2.o.keep o.o).at_ E;have d7:=zh (YF (r:=r) (a:=a) a0.o E);have d8:=zh a2;have d9:=zh a7;have F:=zh a1;have G:=zh a6;have e0:=zh q.o;have e1:=ah ((su r a l m i k).length<=3000000000000) (ax YH d3.o);have e2:(0:Int)<=(i:Int):=aa
     have e3:(i:Int)<(l.length:Int):=aa
     have e4:(0:Int)<=(k:Int):=aa
     have e5:(k:Int)<(m.length:Int):=aa
     clear E a2 a7 a1 a6;go_upto_region 8 with(fail)
     refine RZ aj (λ_ _ _ e6 _ h=>by cases e6<;>exact h) [(0,u9),(1,qI r),(2,qI a)] 11 _ [u9,qI r,qI a,ay s l.length V,qI (↑i),az (s.add (i*3)),.agg (dw x.rule x.at_ d x.kids.length f),ay t m.length W,qI (↑k),az (t.add (k*3)),.agg (dw y.rule y.at_ g y.kids.length n)] [true,true,true,true,true,true,true,true,true,true,true] (λwq=>True/\Below wr.heap.size wr wq) aj ⟨⟨_,rfl,aj,aj,.inl ⟨aj,λ_=>aj⟩⟩,⟨⟨_,rfl,aj,aj,.inl ⟨aj,λ_=>aj⟩⟩,⟨⟨_,rfl,aj,aj,.inl ⟨aj,λ_=>aj⟩⟩,trivial⟩⟩⟩ aj aj aj aj aj aj aj aj (by simp[rW,fin,mX,fK,List.range,List.range.loop,Act.put];rfl) aj ⟨trivial,fC (aL _ _)⟩ ?_ ?_
     ·refine⟨jA,jA,jA,jA,jA,λwq c=>?_,λwq c=>?_,jA,jA,λwq c=>?_,λwq c=>?_,trivial⟩
      ·skip
       exact jv (az (s.add (i*3))) wq (yU e2 e3) ⟨rfl,c⟩
      ·have H:=(c.2.cell (p:=s.add (i*3)) (by rw[add_block];exact F.o)).trans a3;have I:=(c.2.cell (p:=⟨(s.add (i*3)).block,(s.add (i*3)).off+1,none⟩) (by show(s.add (i*3)).block<_;rw[add_block];exact F.o)).trans a4;have J:=(c.2.cell (p:=⟨(s.add (i*3)).block,(s.add (i*3)).off+2,none⟩) (by show(s.add (i*3)).block<_;rw[add_block];exact F.o)).trans a5;exact jv (.agg (dw x.rule x.at_ d x.kids.length f)) wq (yV H I J) ⟨rfl,c⟩
      ·skip
       exact jv (az (t.add (k*3))) wq (yU e4 e5) ⟨rfl,c⟩
      ·have H:=(c.2.cell (p:=t.add (k*3)) (by rw[add_block];exact G.o)).trans a8;have I:=(c.2.cell (p:=⟨(t.add (k*3)).block,(t.add (k*3)).off+1,none⟩) (by show(t.add (k*3)).block<_;rw[add_block];exact G.o)).trans a9;have J:=(c.2.cell (p:=⟨(t.add (k*3)).block,(t.add (k*3)).off+2,none⟩) (by show(t.add (k*3)).block<_;rw[add_block];exact G.o)).trans b0;exact jv (.agg (dw y.rule y.at_ g y.kids.length n)) wq (yV H I J) ⟨rfl,c⟩
     ·intro wq c;have u:=c.2;clear c;show wpOps _ _ _ [11,12,13,14,15] _ _;refine CK rfl rfl (aP.wp (R:=λv w'=>v=ay (ag wq.heap.size (0)) 2 2/\w'=wq.alloc (.cells #[qI x.rule,qI x.at_,.slice d x.kids.length f,qI y.rule,qI y.at_,.slice g y.kids.length n] 139)) (aP.value (v:=ay (ag wq.heap.size (0)) 2 2) (w':=wq.alloc (.cells #[qI x.rule,qI x.at_,.slice d x.kids.length f,qI y.rule,qI y.at_,.slice g y.kids.length n] 139)) jY ⟨rfl,rfl⟩) ?_);rintro v w' ⟨rfl,rfl⟩;refine CK rfl rfl (aP.wp (R:=λv w'=>v= .agg #[qI r,qI a,ay (ag wq.heap.size (0)) 2 2]/\w'=wq.alloc (.cells #[qI x.rule,qI x.at_,.slice d x.kids.length f,qI y.rule,qI y.at_,.slice g y.kids.length n] 139)) (aP.value (v:=.agg #[qI r,qI a,ay (ag wq.heap.size (0)) 2 2]) (w':=wq.alloc (.cells #[qI x.rule,qI x.at_,.slice d x.kids.length f,qI y.rule,qI y.at_,.slice g y.kids.length n] 139)) jY ⟨rfl,rfl⟩) ?_);rintro v w' ⟨rfl,rfl⟩;refine CK rfl rfl (aP.wp (R:=λv w'=>v=ay ⟨wq.heap.size+1,0,none⟩ 1 1/\w'=(wq.alloc (.cells #[qI x.rule,qI x.at_,.slice d x.kids.length f,qI y.rule,qI y.at_,.slice g y.kids.length n] 139)).alloc (.cells #[qI r,qI a,ay (ag wq.heap.size (0)) 2 2] 139)) (aP.value (v:=ay ⟨wq.heap.size+1,0,none⟩ 1 1) (w':=(wq.alloc (.cells #[qI x.rule,qI x.at_,.slice d x.kids.length f,qI y.rule,qI y.at_,.slice g y.kids.length n] 139)).alloc (.cells #[qI r,qI a,ay (ag wq.heap.size (0)) 2 2] 139)) jY ⟨rfl,rfl⟩) ?_);rintro v w' ⟨rfl,rfl⟩;have e7:=u.size;have K:=aN wq (.cells #[qI x.rule,qI x.at_,.slice d x.kids.length f,qI y.rule,qI y.at_,.slice g y.kids.length n] 139);have N:=aN (wq.alloc (.cells #[qI x.rule,qI x.at_,.slice d x.kids.length f,qI y.rule,qI y.at_,.slice g y.kids.length n] 139)) (.cells #[qI r,qI a,ay (ag wq.heap.size (0)) 2 2] 139);have b1:(wq.alloc (.cells #[qI x.rule,qI x.at_,.slice d x.kids.length f,qI y.rule,qI y.at_,.slice g y.kids.length n] 139)).heap.size=wq.heap.size+1:=dY _ _;have z:=(u.trans (K.mono u.size)).trans (N.mono (ax u.size K.size));have b2:=zh (q.o.keep z);have b3:=ae N (au.new wq 139 #[qI x.rule,qI x.at_,.slice d x.kids.length f,qI y.rule,qI y.at_,.slice g y.kids.length n]);have b4:au ((wq.alloc (.cells #[qI x.rule,qI x.at_,.slice d x.kids.length f,qI y.rule,qI y.at_,.slice g y.kids.length n] 139)).alloc (.cells #[qI r,qI a,ay (ag wq.heap.size (0)) 2 2] 139)) (wq.heap.size+1) 139 #[qI r,qI a,ay (ag wq.heap.size (0)) 2 2]:=by have:=au.new (wq.alloc (.cells #[qI x.rule,qI x.at_,.slice d x.kids.length f,qI y.rule,qI y.at_,.slice g y.kids.length n] 139)) 139 #[qI r,qI a,ay (ag wq.heap.size (0)) 2 2];rw[b1] at this;exact this
      have B:∀b,u9.ownBlock=some b->w.heap.size<=b/\b<wr.heap.size:=λb O=>e0.o.lt b O
      have P:∀b,b<wr.heap.size->(ok b/\b<w.heap.size)->u9.ownBlock≠some b/\((ok b/\b<w.heap.size)\/w.heap.size<=b):=λb _ h=>⟨λQ=>av ((B b Q).1),.inl h⟩
      have b5:=(d8.o.any (ok':=λb=>u9.ownBlock≠some b/\((ok b/\b<w.heap.size)\/w.heap.size<=b)) P).keep z;have b6:=(d9.o.any (ok':=λb=>u9.ownBlock≠some b/\((ok b/\b<w.heap.size)\/w.heap.size<=b)) P).keep z;have S:=dS.of (r:=r) (a:=a) (ks:=[x,y]) (A:=some (ag wq.heap.size (0))) (cap:=2) (aH _) aa (YD b5 b6 ⟨λQ=>by have:=(B _ Q).2;omega,.inr (av o.o.size)⟩ b3);obtain⟨css,b7,b8,b9⟩:=b2.o;have f3:=e1.o;have T:w.heap.size<=((wq.alloc (.cells #[qI x.rule,qI x.at_,.slice d x.kids.length f,qI y.rule,qI y.at_,.slice g y.kids.length n] 139)).alloc (.cells #[qI r,qI a,ay (ag wq.heap.size (0)) 2 2] 139)).heap.size:=ax o.o.size (z.size);refine CK rfl rfl (Md _ (.tmp 24) (.tmp 37) 119 rfl w.heap.size 139 c6 (.agg #[qI 0,qI 0,qN]) 3 40 underlying119 c7 c8 c9 d0 rfl aI u9 _ _ rfl b7 _ (some ⟨wq.heap.size+1,0,none⟩) 1 1 #[qI r,qI a,ay (ag wq.heap.size (0)) 2 2].toList rfl (vF b4 rfl) (Aj S) gy aa T ?_);intro c0 w' c1 U c2;refine CK rfl rfl (aP.wp (R:=λv c3=>v=c0/\c3=w') (aP.value (v:=c0) (w':=w') jY ⟨rfl,rfl⟩) ?_);rintro v c3 ⟨rfl,rfl⟩;have c4:=zh (bM.push b8 b9 S c1 U c2);rw[<-d7.o] at c4;have e8:=zh ((o.o.trans (z.mono o.o.size)).grown U T λb O=>(B b O).1);clear b7 b8 b9 c1 U c2 S b4 b3 K N b1 z b5 b6 P T e7 u B a3 a4 a5 a8 a9 b0 q o b2
      rename_i c5
      refine c5 _ _ ?_;clear c5;go_wp2;go_roundw
      case rel=>exact⟨k+1,aa,bi,c4,e8⟩
      case measure=>simp[intOf];omega
    ·obtain rfl:k=m.length:=by omega
     rw[d5.o] at q;go_wp2;go_roundw
     case rel=>exact⟨i+1,aa,bi,q,o⟩
     case measure=>simp[intOf];omega
  ·obtain rfl:i=l.length:=by omega
   rw[fA (aH _)] at q;go_wp2;go_ret;exact⟨_,rfl,q.o,o.o⟩
end Ch
namespace Ch
variable{rs:List aD}{ts:List ByteArray}{i j n:Nat}{u:aD}
def DC {g:Nat->List Rd}(a t:Nat):(List.range' a (t+1)).flatMap g=(List.range' a t).flatMap g++g (a+t):=by
 rw[List.range'_1_concat,fH];simp
def uW (rs:List aD)(ts:List ByteArray)(i j n:Nat)(u:aD)(k:Nat):List Rd:=if ed ts k u.sym.toList=true then kM n i (dx rs (aX rs ts i k) u.left) (dx rs (aX rs ts (k+1) j) u.right) else[]
def sw (rs:List aD)(ts:List ByteArray)(i j n:Nat)(u:aD)(k:Nat):List Rd:=kM n i (dx rs (aX rs ts i k) u.left) (dx rs (aX rs ts k j) u.right)
def YI (a:rs[n]?=some u)(b:u.kind=1):nu rs ts (aX rs ts) i j n=(List.range' (i+1) (j -1 -(i+1))).flatMap (uW rs ts i j n u):=by
 unfold nu;rw[a];simp only[b,if_true];rfl
def YJ (a:rs[n]?=some u)(b:u.kind=2):nu rs ts (aX rs ts) i j n=if ed ts i u.sym.toList=true then kI n i (dx rs (aX rs ts (i+1) j) u.right) else[]:=by
 unfold nu;rw[a];simp[b]
def YK (a:rs[n]?=some u)(b:u.kind=3):nu rs ts (aX rs ts) i j n=if ed ts (j -1) u.sym.toList=true then kI n i (dx rs (aX rs ts i (j -1)) u.left) else[]:=by
 unfold nu;rw[a];simp[b]
def YL (a:rs[n]?=some u)(b:u.kind=4):nu rs ts (aX rs ts) i j n=(List.range' (i+1) (j -(i+1))).flatMap (sw rs ts i j n u):=by
 unfold nu;rw[a];simp only[b];rfl
def YM (a:rs[n]?=some u)(b:u.kind≠1)(c:u.kind≠2)(d:u.kind≠3)(e:u.kind≠4):nu rs ts (aX rs ts) i j n=[]:=by
 unfold nu;rw[a];simp[b,c,d,e]
def Qk {r a:Int}{l:List Rd}{k:Nat}{x:Rd}(b:l[k]?=some x):kI r a (l.take (k+1))=kI r a (l.take k)++[.mk r a [x]]:=by
 unfold kI;rw[dA,b,dX];rfl
end Ch
namespace Ch
open Go.RowKit
variable{P:Nat->Prop}{w w':World}{B a i j n:Nat}{xs l:List Rd}{css:List (Array Value)}{rs:List aD}{ts:List ByteArray}
def bM.any {P Q:Nat->Prop}{w:World}{B:Nat}{v:Value}{xs:List Rd}(h:bM P w B v xs)(a:∀b,b<w.heap.size->P b->Q b):bM Q w B v xs:=iU.any h λb c h=>⟨h.1,a b c h.2⟩
def bM.more {P:Nat->Prop}{w:World}{B B':Nat}{v:Value}{xs:List Rd}(h:bM P w B v xs)(a:B'<=B):bM P w B' v xs:=iU.more h a
def bM.lt {P:Nat->Prop}{w:World}{B:Nat}{v:Value}{xs:List Rd}(h:bM P w B v xs):∀r,v.ownBlock=some r->B<=r/\r<w.heap.size:=iU.lt h
def bM.zF8 {v v':Value}{ys:List Rd}{dss:List (Array Value)}(k:css.length=xs.length)(h:∀(j:Nat) c x,css[j]?=some c->xs[j]?=some x->dS (λb=>v.ownBlock≠some b/\P b) w x c)(o:dss.length=ys.length)(i:∀(j:Nat) c x,dss[j]?=some c->ys[j]?=some x->dS (λb=>v.ownBlock≠some b/\P b) w x c)(p:w'.ownsRow B 139 3 v' (xs.length+ys.length) (css.flatMap (·.toList)++dss.flatMap (·.toList)))(l:w.grownBy w' v.ownBlock)(q:v'.ownBlock=v.ownBlock\/v'.ownBlock=some w.heap.size):bM P w' B v' (xs++ys):=by
 have a:∀b,b<w.heap.size->(v.ownBlock≠some b/\P b)->(v'.ownBlock≠some b/\P b):=λb m a=>⟨by
  rcases q with e|e
  ·rw[e];exact a.1
  ·rw[e];intro i;have:=sj i;omega,a.2⟩
 have n:∀b,b<w.heap.size->(v.ownBlock≠some b/\P b)->some b≠v.ownBlock:=λb _ m e=>m.1 e.symm
 refine⟨css++dss,?_,by simp[k,o],λj d y f g=>?_⟩
 ·rw[aO,fH];exact p
 ·rcases bu j css.length with r|s
  ·rw[dz r] at f;rw[dz aa] at g;exact(h j d y f g).grown l n a
  ·rw[cO s] at f;rw[cO aa,<-k] at g;exact(i _ d y f g).grown l n a
def YN {ok:Nat->Prop}(e:css.length=xs.length)(h:∀(j:Nat) c x,css[j]?=some c->xs[j]?=some x->dS ok w x c):∀u∈css.flatMap (·.toList),u.oneCell'=true:=by
 intro u a;obtain⟨c,d,a⟩:=oo.1 a;obtain⟨j,b⟩:=gz.1 d;have f:=(bP.1 b).1;exact Aj (h j c xs[j] b (gE aa)) u a
structure GA where
 a:Value
 b:Value
 c:Value
 d:Value
 e:Value
 f:Value
def dC (w0 w5:World)(u9:Value)(X1 X2 X3 X4 X5 X0:List Rd)(L:List Bool)(g:GA)(wq:World):Prop:=
 (L[5]?=some false->Below w5.heap.size w5 wq/\(L[0]?=some true->bM (λb=>w5.heap.size<=b) wq w5.heap.size g.a X1)/\(L[1]?=some true->bM (λb=>w5.heap.size<=b) wq w5.heap.size g.b X2)/\(L[2]?=some true->bM (λb=>w5.heap.size<=b) wq w5.heap.size g.c X3)/\(L[3]?=some true->bM (λb=>w5.heap.size<=b) wq w5.heap.size g.d X4)/\(L[4]?=some true->bM (λb=>w5.heap.size<=b) wq w5.heap.size g.e X5))/\
 (L[5]?=some true->bM (λb=>w0.heap.size<=b) wq w0.heap.size g.f (X0++X5)/\Below w0.heap.size w0 wq/\∀b t c,au w5 b t c->u9.ownBlock≠some b->au wq b t c/\g.f.ownBlock≠some b)
section
variable {w0 w5 wq wa : World} {X1 X2 X3 X4 X5 X0 : List Rd} {l0 l1 l2 l3 l4 l5 : Bool} {g : GA} {v u9 : Value}
def dC.start:dC w0 w5 u9 X1 X2 X3 X4 X5 X0 [false,false,false,false,false,false] g w5.drew:=
 ⟨λ_=>⟨fC (aL _ _),λh=>(by cases h),λh=>(by cases h),λh=>(by cases h),λh=>(by cases h),λh=>(by cases h)⟩,λh=>by cases h⟩
def dC.below {L:List Bool}(h:dC w0 w5 u9 X1 X2 X3 X4 X5 X0 L g wq)(a:L[5]?=some false):Below w5.heap.size w5 wq:=(h.1 a).1
def dC.s0 (i:l5=false)(h:dC w0 w5 u9 X1 X2 X3 X4 X5 X0 [l0,l1,l2,l3,l4,l5] g wq)(c:Below wq.heap.size wq wa)(j:bM (λb=>wq.heap.size<=b) wa wq.heap.size v X1):dC w0 w5 u9 X1 X2 X3 X4 X5 X0 [true,l1,l2,l3,l4,l5] {g with a:=v} wa:=by
 subst i;obtain⟨f,_,k,l,m,n⟩:=h.1 rfl;have d:=f.size;exact⟨λ_=>⟨f.trans (c.mono d),λ_=>(j.any λb _ h=>ax d h).more d,λe=>(k e).keep c,λe=>(l e).keep c,λe=>(m e).keep c,λe=>(n e).keep c⟩,λe=>by cases e⟩
def dC.s1 (f:l5=false)(h:dC w0 w5 u9 X1 X2 X3 X4 X5 X0 [l0,l1,l2,l3,l4,l5] g wq)(a:Below wq.heap.size wq wa)(i:bM (λb=>w5.heap.size<=b/\b<wq.heap.size) wa wq.heap.size v X2):dC w0 w5 u9 X1 X2 X3 X4 X5 X0 [l0,true,l2,l3,l4,l5] {g with b:=v} wa:=by
 subst f;obtain⟨c,j,_,k,l,m⟩:=h.1 rfl;have d:=c.size;exact⟨λ_=>⟨c.trans (a.mono d),λe=>(j e).keep a,λ_=>(i.any λb _ h=>h.1).more d,λe=>(k e).keep a,λe=>(l e).keep a,λe=>(m e).keep a⟩,λe=>by cases e⟩
def dC.s2 (i:l5=false)(h:dC w0 w5 u9 X1 X2 X3 X4 X5 X0 [l0,l1,l2,l3,l4,l5] g wq)(a:Below wq.heap.size wq wa)(j:bM (λb=>wq.heap.size<=b) wa wq.heap.size v X3):dC w0 w5 u9 X1 X2 X3 X4 X5 X0 [l0,l1,true,l3,l4,l5] {g with c:=v} wa:=by
 subst i;obtain⟨f,k,l,_,m,n⟩:=h.1 rfl;have d:=f.size;exact⟨λ_=>⟨f.trans (a.mono d),λe=>(k e).keep a,λe=>(l e).keep a,λ_=>(j.any λb _ h=>ax d h).more d,λe=>(m e).keep a,λe=>(n e).keep a⟩,λe=>by cases e⟩
def dC.s3 (i:l5=false)(h:dC w0 w5 u9 X1 X2 X3 X4 X5 X0 [l0,l1,l2,l3,l4,l5] g wq)(a:Below wq.heap.size wq wa)(j:bM (λb=>w5.heap.size<=b/\b<wq.heap.size) wa wq.heap.size v X4):dC w0 w5 u9 X1 X2 X3 X4 X5 X0 [l0,l1,l2,true,l4,l5] {g with d:=v} wa:=by
 subst i;obtain⟨c,k,l,m,_,n⟩:=h.1 rfl;have f:=c.size;exact⟨λ_=>⟨c.trans (a.mono f),λe=>(k e).keep a,λe=>(l e).keep a,λe=>(m e).keep a,λ_=>(j.any λb _ h=>h.1).more f,λe=>(n e).keep a⟩,λe=>by cases e⟩
def dC.s4 (f:l5=false)(h:dC w0 w5 u9 X1 X2 X3 X4 X5 X0 [l0,l1,l2,l3,l4,l5] g wq)(a:Below wq.heap.size wq wa)(i:bM (λb=>(w5.heap.size<=b/\b<wq.heap.size)\/wq.heap.size<=b) wa wq.heap.size v X5):dC w0 w5 u9 X1 X2 X3 X4 X5 X0 [l0,l1,l2,l3,true,l5] {g with e:=v} wa:=by
 subst f;obtain⟨d,j,k,l,m,_⟩:=h.1 rfl;have c:=d.size;exact⟨λ_=>⟨d.trans (a.mono c),λe=>(j e).keep a,λe=>(k e).keep a,λe=>(l e).keep a,λe=>(m e).keep a,λ_=>(i.any λb _ h=>h.elim (·.1) (ax c)).more c⟩,λe=>by cases e⟩
def dC.list {a:Value}{X:List Rd}{ok:Nat->Prop}(h:bM ok wq B a X)(c:∀b,B<=b->ok b):∃A cap,a= .slice A X.length cap/\iE ok wq A X:=by
 obtain⟨A,cap,d,_,_,e⟩:=h.form c;exact⟨A,cap,d,e⟩
def dC.append {F:Act}{o:Oper}{R:Value->World->Prop}{a:TypeInfo}(s x:Operand)(C:o.op= .call {callee:=.builtin .append,args:= #[s,x],argTypes:= #[119,119]})
  (D:prog.info? 139=some a) (E:a.zero=some (.agg #[qI 0,qI 0,qN])) (G:a.size=3) (H:a.bytes=40)
  (I:F.eval s=u9) (l:F.eval x=g.e)
  (h:dC w0 w5 u9 X1 X2 X3 X4 X5 X0 [true,true,true,true,true,false] g wq) (m:bM (λb=>w0.heap.size<=b) w5 w0.heap.size u9 X0) (n:Below w0.heap.size w0 w5) (V:X0.length+X5.length<=3000000000000)
  (J:∀v' w',dC w0 w5 u9 X1 X2 X3 X4 X5 X0 [true,true,true,true,true,true] {g with f:=v'} w'->R v' w'):aP prog (execOp F.eval o) wq R:=by
 obtain⟨d,_,_,_,_,K⟩:=h.1 rfl;have p:=K rfl;obtain⟨A,L,M,W,X,_⟩:=p.form (λb h=>h);obtain⟨Y,q,r,t⟩:=p;obtain⟨css,N,O,P⟩:=m.keep d;have Q:=n.size;have Z:=d.size;have u:=m.lt;rw[M] at l q;refine wQ s x 119 C w0.heap.size 139 a (.agg #[qI 0,qI 0,qN]) 3 40 underlying119 D E G H rfl aI u9 _ _ I N wq.heap.size A X5.length L _ l (dL.zIi q) (YN r t) gy aa aa ?_;intro v' w' S i v;refine J v' w' ⟨λe=>(by cases e),λ_=>⟨bM.zF8 O P r (λj c y T U=>(t j c y T U).any λb w h=>⟨λe=>?_,?_⟩) S i v,(n.trans (d.mono Q)).grown i aa λb w=>(u b w).1,λb a0 c z B=>⟨(ae d z).grown i (λe=>B e.symm),λe=>?_⟩⟩⟩
 ·have:=(u b e).2;have:=h.2;omega
 ·have:=h.2;omega
 ·rcases v with k|k
  ·rw[k] at e;exact B e
  ·rw[k] at e;have:=sj e;have:=z.lt;omega
end
def Ql {b:Nat}(c:a<=1376256)(d:b<=1376256):a*b+b<=3000000000000:=by
 have:=Nat.mul_le_mul c d;omega
def Qm {g:Nat->List Rd}{t N:Nat}(h:t<=N):((List.range' a t).flatMap g).length<=((List.range' a N).flatMap g).length:=by
 obtain⟨d,rfl⟩:∃d,N=t+d:=⟨N -t,aa⟩
 induction d with
 |zero=>simp
 |succ d b=>
  rw[<-Nat.add_assoc,DC,aO];have:=b aa;omega
def iE.one {b:Addr}{k:Nat}{x:Rd}(h:iE P w (some b) l)(d:l[k]?=some x):iE P w (some (b.add (k*3))) [x]:=λi z a=>by
 obtain⟨p,e,f,g,c,m,n⟩:=h k x d;obtain rfl:=sj e
 match i,a with
 |0,a=>
  obtain rfl:x=z:=by simpa using a
  refine⟨_,rfl,by rw[add_block];exact f,by rw[add_block];exact g,c,m,λj o=>?_⟩;rw[Sb,Nat.zero_mul,fe];exact n j o
def iE.push {v v':Value}{A:Option Addr}(h:iE (λb=>v.ownBlock≠some b/\P b) w A l)(a:w.grownBy w' v.ownBlock)(d:v'.ownBlock=v.ownBlock\/v'.ownBlock=some w.heap.size):iE (λb=>v'.ownBlock≠some b/\P b) w' A l:=
 h.map a.size (λb j c=>⟨by
  rcases d with e|e
  ·rw[e];exact c.1
  ·rw[e];intro f;have:=sj f;omega,c.2⟩) λp g i=>dm (a.block _ g λe=>i.1 e.symm)
def KC (rs:List aD)(ts:List ByteArray)(i j:Nat)(w:World)(e:Ending)(w':World):Prop:=∃v,e= .returned v/\bM (λb=>w.heap.size<=b) w' w.heap.size v (aX rs ts i j)/\Below w.heap.size w w'
def dH (rs:List aD)(ts:List ByteArray)(i j n:Nat):List Rd:=qB ts i j++(List.range n).flatMap (nu rs ts (aX rs ts) i j)
def Qn :dH rs ts i j 0=qB ts i j:=by unfold dH;simp
def YO :dH rs ts i j (n+1)=dH rs ts i j n++nu rs ts (aX rs ts) i j n:=by
 unfold dH;rw[oQ,fH,cu];simp
def xV (a:fZ rs=true)(b:ts.length<=7)(c:j<=ts.length):(aX rs ts i j).length<=1376256:=XF a b c
def Qo (h:i<j):aX rs ts i j=dH rs ts i j rs.length:=by
 rw[Fa h];rfl
def Ho (h:i<j)(a:n<=rs.length):(dH rs ts i j n).length<=(aX rs ts i j).length:=by
 rw[Qo h];unfold dH;rw[aO,aO];have:((List.range n).flatMap (nu rs ts (aX rs ts) i j)).length<=((List.range rs.length).flatMap (nu rs ts (aX rs ts) i j)).length:=by
  rw[show rs.length=n+(rs.length -n) from aa,List.range_add,fH,aO];omega
 omega
def AR (A T:Option Addr)(cap cT:Nat)(rs:List aD)(ts:List ByteArray)(m:Nat):Prop:=∀(i j:Nat) (w:World),j -i<=m->j<=ts.length->fG w A rs->uT w T ts->Calls prog 168 #[.slice A rs.length cap,.slice T ts.length cT,qI i,qI j] w (KC rs ts i j w)
structure Qp (M:Prop) where
 a:Prop
 o:(Unit->a)->M
structure Qq (M:Prop) where
 a:Prop
 b:Prop
 c:Prop
 d:Prop
 o:(Unit->a)->(Unit->b)->(Unit->c)->(Unit->d)->M
def YP (A T:Option Addr)(cap a:Nat)(rs:List aD)(ts:List ByteArray):AR A T cap a rs ts 0:=by
 intro i j w b c d e;have f:=ah (aX rs ts i j=[]) (by unfold aX;rw[show j -i=0 from aa];rfl);have g:(j:Int)<=(i:Int):=aa
 clear d e b c;go_enter func168,ntmps168;go_wp2;go_ret;exact⟨_,rfl,by rw[f.o];exact bM.nil _ _ _,aL _ _⟩
noncomputable def Qr:Qp (∀(A T:Option Addr) (cap cT:Nat) (rs:List aD) (ts:List ByteArray) (_HV8:Hy (fZ rs=true)) (_hr8:rs.length<=64) (_ht6:ts.length<=7) (m:Nat) (_ih:AR A T cap cT rs ts m),AR A T cap cT rs ts (m+1)):=by
 apply Qp.mk
 intro hr A T cap cT rs ts HV8 hr8 ht6 m ih;obtain⟨i0,hi,hz0,hz1,hz2⟩:=info_parts zJ;intro i j w hm hj hR hT
 by_cases hij:j<=i
 ·have HE:=ah (aX rs ts i j=[]) (by unfold aX;rw[show j -i=0 from aa];rfl);have hij:(j:Int)<=(i:Int):=by omega
  clear hR hT hm hj ih;go_enter func168,ntmps168;go_wp2;go_ret;exact⟨_,rfl,by rw[HE.o];exact bM.nil _ _ _,aL _ _⟩
 ·have IH:=zh ih;have HR0:=zh hR;have HT0:=zh hT;have HIJ:=ah (i<j) aa;have HJ:=zh hj;have HM:=zh hm;obtain⟨s,hs⟩:∃s,ts[i]?=some s:=⟨_,gE aa⟩
  obtain⟨hf,ad,rfl,hadl,c0⟩:=hT i s hs;have HTB:=ah (ed ts i oD=(s.toList==oD)) (by unfold ed;rw[hs]);have j1:(0:Int)<=(i:Int):=aa
  have j2:(i:Int)<(ts.length:Int):=aa
  have j3:(j:Int)<=7:=aa
  have j4:(i:Int)<(j:Int):=aa
  have HS:=zh hs;clear ih hR hT hm hj hs hf hadl hij;go_enter func168,ntmps168;have HBB:=zh (show qB ts i j=if(decide (j=i+1)&&(s.toList==[35]))=true then[.mk (-1) i []] else[] by
   unfold qB;rw[HTB.o];unfold oD
   by_cases h1:j=i+1<;>by_cases h2:(s.toList==[35])=true<;>simp[h1,h2])
  have e24:((j:Int)==(i:Int)+1)=decide (j=i+1):=by
   rw[fI,aT,rq];omega
  go_upto_region 4 with(fail)
  go_cut [31] (λb wc=>b= .bool (decide (j=i+1)&&(s.toList==[35]))/\w=wc)
  case first=>
   by_cases h1:j=i+1
   ·have e25:((j:Int)==(i:Int)+1)=true:=by rw[e24,aJ h1]
    have H1:=zh (aJ h1);clear h1 e24;go_wp2;go_meet
    case rel=>exact⟨by rw[H1.o,aW],rfl⟩
   ·have e25:((j:Int)==(i:Int)+1)=false:=by rw[e24,aK h1]
    have H1:=zh (aK h1);clear h1 e24;go_wp2;go_meet
    case rel=>exact⟨by rw[H1.o,bL],rfl⟩
  case rest=>
   obtain⟨rfl,rfl⟩:=hcut;clear e24 c0;go_upto_if 31 with(fail)
   go_cut [9] (λv w1=>Hy (bM (λb=>w.heap.size<=b) w1 w.heap.size v (dH rs ts i j 0))/\Hy (Below w.heap.size w w1))
   case first=>
    cases hb:(decide (j=i+1)&&(s.toList==[35]))
    ·rw[hb] at HBB;have HZ:=ah (dH rs ts i j 0=[]) (Qn.trans HBB.o);clear hb;go_wp2;go_meet
     case rel=>exact⟨by rw[HZ.o];exact bM.nil (λb=>w.heap.size<=b) _ _,aL _ _⟩
    ·rw[hb] at HBB;have HZ:=ah (dH rs ts i j 0=[]++[.mk (-1) i []]) (Qn.trans HBB.o);clear hb;have hba:=aN w (.cells (dw (-1) i none 0 0) 139);have K6:=zh (au.new w 139 (dw (-1) i none 0 0));have hE:=dS.of (ok:=λb=>(Value.slice none 0 0).ownBlock≠some b/\w.heap.size<=b) (w:=w.alloc (.cells (dw (-1) i none 0 0) 139)) (r:= -1) (a:=i) (ks:=[]) (A:=none) (cap:=0) (aH _) aa (iE.nil _ _ _);have ho:=bM.nil (λb=>w.heap.size<=b) (w.alloc (.cells (dw (-1) i none 0 0) 139)) w.heap.size;obtain⟨css,ho,hl,hrr⟩:=ho;have HB:=zh (hba);go_wp2_with (at_builtin;refine uG _ rfl (.tmp 32) (.tmp 35) 119 rfl w.heap.size 139 i0 (.agg #[qI 0,qI 0,qN]) 3 40 underlying119 hi hz0 hz1 hz2 rfl aI _ _ _ rfl ho (w.heap.size+1) (some (ag w.heap.size (0))) 1 1 (dw (-1) i none 0 0).toList rfl (by have:=vF K6.o rfl;rw[dY] at this;exact this) (Aj hE) (by unfold maxLen;simp) aS HB.o.size ?_;intro v' w' g2 g3 g4)
     have HO:=zh (bM.push hl hrr hE g2 g3 g4);rw[<-HZ.o] at HO;have HB:=zh (HB.o.grown g3 HB.o.size λb hb=>by cases hb);clear ho hl hrr g2 g3 g4 hE hba;go_wp2;go_meet
     case rel=>exact⟨HO,HB⟩
   case rest=>
    obtain⟨HO,HB⟩:=hcut;clear HBB HTB;go_wp2_with fail
    go_loopw [9,10] (λv t wr=>∃n:Nat,n<=rs.length/\t=qI n/\Hy (bM (λb=>w.heap.size<=b) wr w.heap.size v (dH rs ts i j n))/\Hy (Below w.heap.size w wr)) (λ_ t _=>rs.length -(intOf t).toNat)
    case atStart=>exact⟨0,aa,rfl,HO,HB⟩
    case round=>
     clear HO HB
     rename_i K0 e0
     revert A cap cT rs ts m i j w s ad wc u18 u19 u20 u21 u22 u23 u24 u25 u26 u27 u28 u29 u30 u31 u32 u33 u34 u35 u36 u195 K0 wr u9 u10 u11 u12 u13 u14 u15 u16 u17 u37 u38 u39 u40 u41 u42 u43 u44 u45 u46 u47 u48 u49 u50 u51 u52 u53 u54 u55 u56 u57 u58 u59 u60 u61 u62 u63 u64 u65 u66 u67 u68 u69 u70 u71 u72 u73 u74 u75 u76 u77 u78 u79 u80 u81 u82 u83 u84 u85 u86 u87 u88 u89 u90 u91 u92 u93 u94 u95 u96 u97 u98 u99 u100 u101 u102 u103 u104 u105 u106 u107 u108 u109 u110 u111 u112 u113 u114 u115 u116 u117 u118 u119 u120 u121 u122 u123 u124 u125 u126 u127 u128 u129 u130 u131 u132 u133 u134 u135 u136 u137 u138 u139 u140 u141 u142 u143 u144 u145 u146 u147 u148 u149 u150 u151 u152 u153 u154 u155 u156 u157 u158 u159 u160 u161 u162 u163 u164 u165 u166 u167 u168 u169 u170 u171 u172 u173 u174 u175 u176 u177 u178 u179 u180 u181 u182 u183 u184 u185 u186 u187 u188 u189 u190 u191 u192 u193 u194;exact hr ()
noncomputable def ER:Qq Qr.a:=by
 apply Qq.mk
 intro ha hb hc hd A cap cT rs ts HV8 hr8 ht6 m i j w HR0 HIJ HJ HM s ad IH HT0 j1 j2 j3 j4 HS _ wc u18 u19 u20 u21 u22 u23 u24 u25 u26 u27 u28 u29 u30 u31 u32 u33 u34 u35 u36 u195 K0 e0 wr u9 u10 u11 u12 u13 u14 u15 u16 u17 u37 u38 u39 u40 u41 u42 u43 u44 u45 u46 u47 u48 u49 u50 u51 u52 u53 u54 u55 u56 u57 u58 u59 u60 u61 u62 u63 u64 u65 u66 u67 u68 u69 u70 u71 u72 u73 u74 u75 u76 u77 u78 u79 u80 u81 u82 u83 u84 u85 u86 u87 u88 u89 u90 u91 u92 u93 u94 u95 u96 u97 u98 u99 u100 u101 u102 u103 u104 u105 u106 u107 u108 u109 u110 u111 u112 u113 u114 u115 u116 u117 u118 u119 u120 u121 u122 u123 u124 u125 u126 u127 u128 u129 u130 u131 u132 u133 u134 u135 u136 u137 u138 u139 u140 u141 u142 u143 u144 u145 u146 u147 u148 u149 u150 u151 u152 u153 u154 u155 u156 u157 u158 u159 u160 u161 u162 u163 u164 u165 u166 u167 u168 u169 u170 u171 u172 u173 u174 u175 u176 u177 u178 u179 u180 u181 u182 u183 u184 u185 u186 u187 u188 u189 u190 u191 u192 u193 u194 hrel;obtain⟨i0,hi,hz0,hz1,hz2⟩:=info_parts zJ;obtain⟨n,hn,rfl,HO,HB⟩:=hrel
 by_cases hlt:n<rs.length
 ·obtain⟨u,hu⟩:∃u,rs[n]?=some u:=⟨_,gE hlt⟩
  obtain⟨_,ad2,rfl,hadl9,d0,d1,d2,d3,d4,d5⟩:=(HR0.o.keep HB.o).at_ hu;have HU:=zh hu;have HPN:=zh (YO (rs:=rs) (ts:=ts) (i:=i) (j:=j) (n:=n));clear hadl9;clear hu;go_upto_region 10 with(fail)
  have hba:=aN wr (.cells u.c 41);have KU:=zh (au.new wr 41 u.c);have HXG:=ah (w.heap.size<=wr.heap.size) HB.o.size;have HFAR:=ah (u9.ownBlock≠some wr.heap.size) (λe=>by have:=(bM.lt HO.o _ e).2;omega);have HO:=zh (HO.o.keep hba);have HB:=jt HB hba;clear hba d0 d1 d2 d3 d4 d5;generalize wr.alloc (.cells #[qI u.kind,af u.sym,af u.nam,qI u.prec,qI u.left,qI u.right] 41)=w5 at*;have k0:=KU.o.cell 0;generalize wr.heap.size=g0 at*
  by_cases q1:u.kind=1
  ·rename_i Q1 K1 e1 K2 e2
   revert cap cT rs ts m i j w s ad wc u18 u19 u20 u21 u22 u23 u24 u25 u26 u27 u28 u29 u30 u31 u32 u33 u34 u35 u36 u195 K0 wr u9 u11 u12 u13 u14 u15 u16 u17 u37 u38 u39 u40 u41 u42 u43 u44 u45 u46 u47 u48 u49 u50 u51 u52 u53 u54 u55 u56 u57 u58 u59 u60 u61 u62 u63 u64 u65 u66 u67 u68 u69 u70 u71 u72 u73 u74 u75 u76 u77 u78 u79 u80 u81 u82 u83 u84 u85 u86 u87 u88 u89 u90 u91 u92 u93 u94 u95 u96 u97 u98 u99 u100 u101 u102 u103 u104 u105 u106 u107 u108 u109 u110 u111 u112 u113 u114 u115 u116 u117 u118 u119 u120 u121 u122 u123 u124 u125 u126 u127 u128 u129 u130 u131 u132 u133 u134 u135 u136 u137 u138 u139 u140 u141 u142 u143 u144 u145 u146 u147 u148 u149 u150 u151 u152 u153 u154 u155 u156 u157 u158 u159 u160 u161 u162 u163 u164 u165 u166 u167 u168 u169 u170 u171 u172 u173 u174 u175 u176 u177 u178 u179 u180 u181 u182 u183 u184 u185 u186 u187 u188 u189 u190 u191 u192 u193 u194 n u ad2 Q1 K1 K2 w5 g0;exact ha ()
  by_cases q2:u.kind=2
  ·rename_i Q1 K1 e1 K2 e2
   revert cap cT rs ts m i j w s ad wc u18 u19 u20 u21 u22 u23 u24 u25 u26 u27 u28 u29 u30 u31 u32 u33 u34 u35 u36 u195 K0 wr u9 u11 u12 u13 u14 u15 u16 u17 u37 u38 u39 u40 u41 u42 u43 u44 u45 u46 u47 u48 u49 u50 u51 u52 u53 u54 u55 u56 u57 u58 u59 u60 u61 u62 u63 u64 u65 u66 u67 u68 u69 u70 u71 u72 u73 u74 u75 u76 u77 u78 u79 u80 u81 u82 u83 u84 u85 u86 u87 u88 u89 u90 u91 u92 u93 u94 u95 u96 u97 u98 u99 u100 u101 u102 u103 u104 u105 u106 u107 u108 u109 u110 u111 u112 u113 u114 u115 u116 u117 u118 u119 u120 u121 u122 u123 u124 u125 u126 u127 u128 u129 u130 u131 u132 u133 u134 u135 u136 u137 u138 u139 u140 u141 u142 u143 u144 u145 u146 u147 u148 u149 u150 u151 u152 u153 u154 u155 u156 u157 u158 u159 u160 u161 u162 u163 u164 u165 u166 u167 u168 u169 u170 u171 u172 u173 u174 u175 u176 u177 u178 u179 u180 u181 u182 u183 u184 u185 u186 u187 u188 u189 u190 u191 u192 u193 u194 n u ad2 Q1 K1 K2 w5 g0;exact hb ()
  by_cases q3:u.kind=3
  ·rename_i Q1 K1 e1 K2 e2
   revert cap cT rs ts m i j w s ad wc u18 u19 u20 u21 u22 u23 u24 u25 u26 u27 u28 u29 u30 u31 u32 u33 u34 u35 u36 u195 K0 wr u9 u11 u12 u13 u14 u15 u16 u17 u37 u38 u39 u40 u41 u42 u43 u44 u45 u46 u47 u48 u49 u50 u51 u52 u53 u54 u55 u56 u57 u58 u59 u60 u61 u62 u63 u64 u65 u66 u67 u68 u69 u70 u71 u72 u73 u74 u75 u76 u77 u78 u79 u80 u81 u82 u83 u84 u85 u86 u87 u88 u89 u90 u91 u92 u93 u94 u95 u96 u97 u98 u99 u100 u101 u102 u103 u104 u105 u106 u107 u108 u109 u110 u111 u112 u113 u114 u115 u116 u117 u118 u119 u120 u121 u122 u123 u124 u125 u126 u127 u128 u129 u130 u131 u132 u133 u134 u135 u136 u137 u138 u139 u140 u141 u142 u143 u144 u145 u146 u147 u148 u149 u150 u151 u152 u153 u154 u155 u156 u157 u158 u159 u160 u161 u162 u163 u164 u165 u166 u167 u168 u169 u170 u171 u172 u173 u174 u175 u176 u177 u178 u179 u180 u181 u182 u183 u184 u185 u186 u187 u188 u189 u190 u191 u192 u193 u194 n u ad2 Q1 K1 K2 w5 g0;exact hc ()
  by_cases q4:u.kind=4
  ·rename_i Q1 K1 e1 K2 e2
   revert cap cT rs ts m i j w s ad wc u18 u19 u20 u21 u22 u23 u24 u25 u26 u27 u28 u29 u30 u31 u32 u33 u34 u35 u36 u195 K0 wr u9 u11 u12 u13 u14 u15 u16 u17 u37 u38 u39 u40 u41 u42 u43 u44 u45 u46 u47 u48 u49 u50 u51 u52 u53 u54 u55 u56 u57 u58 u59 u60 u61 u62 u63 u64 u65 u66 u67 u68 u69 u70 u71 u72 u73 u74 u75 u76 u77 u78 u79 u80 u81 u82 u83 u84 u85 u86 u87 u88 u89 u90 u91 u92 u93 u94 u95 u96 u97 u98 u99 u100 u101 u102 u103 u104 u105 u106 u107 u108 u109 u110 u111 u112 u113 u114 u115 u116 u117 u118 u119 u120 u121 u122 u123 u124 u125 u126 u127 u128 u129 u130 u131 u132 u133 u134 u135 u136 u137 u138 u139 u140 u141 u142 u143 u144 u145 u146 u147 u148 u149 u150 u151 u152 u153 u154 u155 u156 u157 u158 u159 u160 u161 u162 u163 u164 u165 u166 u167 u168 u169 u170 u171 u172 u173 u174 u175 u176 u177 u178 u179 u180 u181 u182 u183 u184 u185 u186 u187 u188 u189 u190 u191 u192 u193 u194 n u ad2 Q1 K1 K2 w5 g0;exact hd ()
  have HN:=zh (YM (ts:=ts) (i:=i) (j:=j) HU.o q1 q2 q3 q4);rw[HN.o,bX] at HPN;rw[<-HPN.o] at HO;have b1:(u.kind==1)=false:=bn q1;have b2:(u.kind==2)=false:=bn q2;have b3:(u.kind==3)=false:=bn q3;have b4:(u.kind==4)=false:=bn q4;clear q1 q2 q3 q4;go_wp2;go_roundw
  case rel=>exact⟨n+1,aa,bi,HO,HB⟩
  case measure=>simp[intOf];omega
 ·obtain rfl:n=rs.length:=by omega
  have HA:=zh (Qo (rs:=rs) (ts:=ts) HIJ.o);rw[<-HA.o] at HO;go_wp2;go_ret;exact⟨_,rfl,HO.o,HB.o⟩
end Ch
end Go.Proofs.YtlefbenkhgbifaaGreatDoor
