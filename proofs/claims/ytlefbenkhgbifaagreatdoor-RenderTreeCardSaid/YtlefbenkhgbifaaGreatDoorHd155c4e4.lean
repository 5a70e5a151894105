/- awake of the laws of render. -/
import Derived.Test.YtlefbenkhgbifaaGreatDoorH37c72380
set_option linter.all false
set_option maxRecDepth 100000
set_option maxHeartbeats 8000000
namespace Go.Proofs.YtlefbenkhgbifaaGreatDoor.Rn
open At Ch Sp Sy El Go.RowKit Tryz
variable{w w':World}{e:Ending}
def EX:aC:=.mk 2 ⟨#[120]⟩ ⟨#[]⟩ ⟨#[]⟩ []
def DJ:aC:=.mk 4 ⟨#[112,108,117,115]⟩ ⟨#[]⟩ ⟨#[105,110,102,105,120]⟩ [EX,EX]
def KI:aG:=aQ [dh ⟨#[120]⟩,dh ⟨#[43]⟩,dh ⟨#[120]⟩]
def KJ:(fZ [Cj]&&nV DJ)=true/\qz [Cj] 80 DJ=some KI/\fT DJ=3:=⟨aj,aj,aj⟩
def yHv {g:Nat}(h:au w g 25 #[qI 2,af ⟨#[120]⟩,qE,qN,qE,qI 2,af ⟨#[120]⟩,qE,qN,qE]):gK w DJ (aA 4 ⟨#[112,108,117,115]⟩ ⟨#[]⟩ (some (ag g (0))) 2 2 ⟨#[105,110,102,105,120]⟩):=by
 have leaf:gK w EX #[qI 2,af ⟨#[120]⟩,qE,qN,qE]:=gK.of (ts:=[]) (A:=none) (cap:=0) aI aI aI (aH _) aa λi t a=>by simp at a
 refine gK.of (ts:=[EX,EX]) aI aI aI (aH _) aa λi t a=>?_
 match i,a with
 |0,a=>
  obtain rfl:=sj a;exact⟨_,rfl,h.lt,_,leaf,λj b=>by
   rw[xh,h.cell]
   match j,b with
   |0,_|1,_|2,_|3,_|4,_=>rfl
   |j+5,b=>omega⟩
 |1,a=>
  obtain rfl:=sj a;exact⟨_,rfl,h.lt,_,leaf,λj b=>by
   rw[xh,h.cell]
   match j,b with
   |0,_|1,_|2,_|3,_|4,_=>rfl
   |j+5,b=>omega⟩
 |i+2,a=>simp at a
def yHi (h:lC [Cj] 80 DJ w e w'):∃c d,e= .returned (.tuple #[.agg #[qI 1,qE,qI 0,.slice c 3 d],qN,qI 0])/\bC (λb=>w.heap.size<=b/\b<w'.heap.size) w' KI #[qI 1,qE,qI 0,.slice c 3 d]/\Below w.heap.size w w':=by
 obtain⟨h,a⟩:=h;rw[ak KJ.1,KJ.2.1] at h;obtain⟨A,f,rfl,g⟩:=h;exact⟨A,f,rfl,g.any λb a h=>⟨h,a⟩,a⟩
def zSc (w:World)(K:mU w 0)(L:mU w 1):Calls prog 4 #[] w λe w'=>e= .returned (.bool true)/\Below w.heap.size w w':=by
 have C:=aN w (.cells #[qI 2,af ⟨#[120]⟩,qE,qN,qE] 25);have G:=zh C;have k:=zh (au.new w 25 #[qI 2,af ⟨#[120]⟩,qE,qN,qE]);have M:=zh (K.keep C);have N:=zh (L.keep C);clear C K L;go_enter func4,ntmps4;go_upto_region 2 with(fail)
 generalize w.alloc (.cells #[qI 2,af ⟨#[120]⟩,qE,qN,qE] 25)=D at*;refine qm [1,1,1,1,2,1,2,2,2,2,1,3,2,2] (List.replicate 14 false) (λa=>[ay ⟨a.n 7,0,none⟩ 1 1,.agg #[qI 2,af ⟨#[120]⟩,qE,qN,qE],.agg #[qI 2,af ⟨#[120]⟩,qE,qN,qE],ay ⟨a.n 10,0,none⟩ 2 2,.agg #[qI 4,af ⟨#[112,108,117,115]⟩,qE,ay ⟨a.n 10,0,none⟩ 2 2,af ⟨#[105,110,102,105,120]⟩],.tuple #[a.v 13,qN,qI 0],.tuple #[a.v 13,qN,qI 0],a.v 13,qN,qI 0,qP (a.n 2),undef,qN,qI 0]) [(0,λa i=>au i (a.n 7) 41 Gq),(3,λa i=>au i (a.n 10) 25 #[qI 2,af ⟨#[120]⟩,qE,qN,qE,qI 2,af ⟨#[120]⟩,qE,qN,qE]),(5,λa i=>(∃l m,a.v 13= .agg #[qI 1,qE,qI 0,.slice l 3 m]/\bC (λb=>a.n 29<=b/\b<a.n 30) i KI #[qI 1,qE,qI 0,.slice l 3 m])/\D.heap.size<=a.n 29/\a.n 29<=a.n 30),(10,λa i=>au i (a.n 2) 31 bY/\D.heap.size<=a.n 2)] (λa i=>(a.n 2=0\/a.n 2<i.heap.size)/\a.n 30<=i.heap.size/\(a.n 2=0\/a.n 30=0\/a.n 2<a.n 29\/a.n 30<=a.n 2)) (bV.cons (λa i H h g=>ae g h) (bV.cons (λa i H h g=>ae g h) (bV.cons (λa i H ⟨⟨l,m,u,I⟩,a6⟩ g=>⟨⟨l,m,u,I.keep g⟩,a6⟩) (bV.cons (λa i H h g=>⟨ae g h.1,h.2⟩) bV.nil)))) (⟨.inl rfl,dZ _,.inl rfl⟩) ?_ ?_
 ·refine⟨λa d f j n=>?_,λa d f j n=>?_,λa d f j n=>?_,λa d f j n=>?_,jI,λa d f j n=>?_,jC,jC,jC,jC,λa d f j n=>?_,jC,jC,trivial⟩
  ·refine jc 11 (#[]) d aj ((zYb d).mono ?_);rintro e O ⟨rfl,rfl⟩;have g:=aN d (.cells Gq 41);exact⟨_,rfl,a.setN 7 d.heap.size,rfl,jD,g,⟨au.new d _ _,jH,jG,jH,trivial⟩,(by obtain⟨p,q,r⟩:=j;have s:=g.size;exact⟨p.imp id (λh=>ll h s),ax q s,r⟩)⟩
  ·have x:=(ae f k.o).cell 0;have t:=(ae f k.o).cell 1;have y:=(ae f k.o).cell 2;have z:=(ae f k.o).cell 3;have J:=(ae f k.o).cell 4;exact gs (.agg #[qI 2,af ⟨#[120]⟩,qE,qN,qE]) j aj (tq x t y z J) rfl
  ·have x:=(ae f k.o).cell 0;have t:=(ae f k.o).cell 1;have y:=(ae f k.o).cell 2;have z:=(ae f k.o).cell 3;have J:=(ae f k.o).cell 4;exact gs (.agg #[qI 2,af ⟨#[120]⟩,qE,qN,qE]) j aj (tq x t y z J) rfl
  ·exact jv (ay (ag d.heap.size (0)) 2 2) (d.alloc (.cells #[qI 2,af ⟨#[120]⟩,qE,qN,qE,qI 2,af ⟨#[120]⟩,qE,qN,qE] 25)) iw ⟨a.setN 10 d.heap.size,rfl,jD,aN d _,⟨jH,au.new d _ _,jG,jH,trivial⟩,(by obtain⟨p,q,r⟩:=j;have s:=(aN d (.cells #[qI 2,af ⟨#[120]⟩,qE,qN,qE,qI 2,af ⟨#[120]⟩,qE,qN,qE] 25)).size;exact⟨p.imp id (λh=>ll h s),ax q s,r⟩)⟩
  ·have a7:=jE n.1;have a8:=jE n.2.1;refine jc 7 (#[ay ⟨a.n 7,0,none⟩ 1 1,.agg #[qI 4,af ⟨#[112,108,117,115]⟩,qE,ay ⟨a.n 10,0,none⟩ 2 2,af ⟨#[105,110,102,105,120]⟩]]) d aj ((Qf (some ⟨a.n 7,0,none⟩) 1 [Cj] 80 10 aI (aH _) aI aI aI DJ _ d (by rw[KJ.2.2];decide) (zXw a7) (yHv a8) (M.o.keep f) (N.o.keep f)).mono ?_);rintro e O a9;obtain⟨l,m,rfl,E,g⟩:=yHi a9;exact⟨_,rfl,((a.setV 13 (.agg #[qI 1,qE,qI 0,.slice l 3 m])).setN 29 d.heap.size).setN 30 O.heap.size,rfl,jD,g,⟨jH,jH,⟨⟨l,m,rfl,E⟩,f.size,g.size⟩,jH,trivial⟩,(by obtain⟨p,q,r⟩:=j;have s:=g.size;exact⟨p.imp id (λh=>ll h s),aH _,p.imp id (λh=>.inr (.inl h))⟩)⟩
  ·exact jv (qP d.heap.size) (d.alloc (.cells bY 31)) ol ⟨a.setN 2 d.heap.size,rfl,jD,aN d _,⟨jH,jH,jH,⟨au.new d _ _,f.size⟩,trivial⟩,(by obtain⟨p,q,r⟩:=j;exact⟨.inr (by show d.heap.size<_;simp),ax q (aN d (.cells bY 31)).size,.inr (.inr (.inr q))⟩)⟩
 ·refine λa d f j n=>?_
  dsimp only[ji] at n;change wpOps _ _ _ [11] _ _;obtain⟨-,-,⟨⟨l,m,P,E⟩,b0,b1⟩,⟨Q,R⟩,-⟩:=n;rw[P];have F:=zh Q;have S:=zh R;have T:=zh E;have U:=jt G f;have V:=zh (show a.n 2<a.n 29\/a.n 30<=a.n 2\/D.heap.size=0 by
   obtain⟨p,q,r⟩:=j;rcases r with h|h|h
   ·omega
   ·omega
   ·omega)
  have W:=ah (0<D.heap.size) (Nat.lt_of_le_of_lt (dZ _) k.o.lt);clear P E b0 b1 Q R f j;generalize a.n 2=A at*;generalize a.n 29=b9 at*;generalize a.n 30=c0 at*;generalize a.n 7=c1 at*;generalize a.n 10=c2 at*;clear a;generalize d=b2 at*;have X:=F.o.cell;have Y:=F.o.frozen;obtain⟨b3,Z,b4,b5,a0⟩:=iY F.o U.o (ax G.o.size S.o) (qI 1) qE (qI 0) (.slice l 3 m);refine oL (o:=_) rfl rfl (w':=(((b2.setCell (ag A (0)) (qI 1)).setCell (ag A (1)) qE).setCell (ag A (2)) (qI 0)).setCell (ag A (3)) (.slice l 3 m)) (by simp[go_sem,X,Y,bY]) ?_;rw[Z];refine jo ?_;have a1:=zh (T.o.grown (ok':=λ_=>True) a0.o (λb _ g e=>by have c3:b=A:=sj e;have:=V.o;have:=W.o;omega) λ_ _ _=>trivial);clear X Y Z F T U a0 V M N k G S W;obtain⟨b6,b7,a2,-,c4,c5,a3⟩:=a1.o.form;obtain⟨-,u,-⟩:True/\(Value.slice l 3 m= .slice b6 3 b7)/\True:=⟨trivial,by have:=congrArg (λc=>c[3]?) a2;exact sj this,trivial⟩
  injection u with u _ I;subst u I;obtain⟨a4,b8,c6,-,c7,a5,B⟩:=a3 1 (dh ⟨#[43]⟩) rfl;subst b8;obtain⟨c8,c9,rfl,-⟩:=a5.form;have x:=B 0 aa;have t:=B 1 aa;have y:=B 2 aa;have z:=B 3 aa;clear a2 a3 B a5 a1;dsimp only[dh,aG.kind,aG.text,aG.cols,aG.kids,Addr.add] at x t y z;have t:b3.cell? (ag a4.block (a4.off+4+1))=some (af ⟨#[43]⟩):=t;obtain⟨d0,d1,d2,d3⟩:=qb b4;go_wp2;exact aB (v:=.bool true) (by simp[results,results4,go_sem]) rfl ⟨rfl,b5.o⟩
def QO (z:Nat):Prop:=∀(t:aG) (c d:Array Value) (w:World),dK t<=z->lX w t c->lX w t d->Calls prog 10 #[.agg c,.agg d] w λe w'=>e= .returned (.bool true)/\Below w.heap.size w w'
def QP:∀{ks:List aG} {j:Nat} {x:aG},ks[j]?=some x->dK x<=bK ks
 |[],j,x,h=>by simp at h
 |y::ks,0,x,h=>by
  obtain rfl:=sj h;rw[bK];omega
 |y::ks,j+1,x,h=>by
  have:=QP (ks:=ks) (j:=j) h;rw[bK];omega
def zZw (t:aG):bK t.kids<dK t:=by
 obtain⟨k,s,c,a⟩:=t;rw[dK];show bK a<_;omega
def zO7 (z:Nat)(m:QO z)(A B:Option Addr)(K L:Nat)(ks:List aG)(w:World)(n:bK ks<=z)(o:mO w A ks)(q:mO w B ks)(a1:ks.length<=9223372036854775807):Calls prog 23 #[.slice A ks.length K,.slice B ks.length L] w λe w'=>e= .returned (.bool true)/\Below w.heap.size w w':=by
 have M:=zh m;have a:=zh o;have b:=zh q;have N:=zh n;have c:=zh (aL w.heap.size w);clear m o q n;have a2:((ks.length:Int) !=(ks.length:Int))=false:=by rw[uy]
 go_enter func23,ntmps23;go_wp2_with fail
 go_loopw [5] (λi wr=>∃j:Nat,j<=ks.length/\i=qI j/\Hy (mO wr A ks)/\Hy (mO wr B ks)/\Hy (Below w.heap.size w wr)) (λi _=>ks.length -(intOf i).toNat)
 case atStart=>exact⟨0,aa,rfl,a,b,c⟩
 case round=>
  clear a b c;obtain⟨j,a3,rfl,a,b,c⟩:=hrel
  by_cases O:j<ks.length
  ·obtain⟨x,k⟩:∃x,ks[j]?=some x:=⟨_,gE O⟩
   obtain⟨d,a4,a5,rfl,P,-,-,-,-,r,s,t,u,v⟩:=a.o.at_ k;obtain⟨f,a6,a7,rfl,Q,-,-,-,-,y,C,D,E,F⟩:=b.o.at_ k;have G:=zh r;have H:=zh y;have R:=ah (dK x<=z) (ax (QP k) N.o);have g:(d.add (j*4)).block<wr.heap.size:=by rw[gX];exact P
   have h:(f.add (j*4)).block<wr.heap.size:=by rw[gX];exact Q
   clear k r y;go_wp2_with fail;go_upto_region 6 with(fail)
   refine Be aj aj ?_;have S:=λe:jX wr=>e.cell g s
   have T:=λe:jX wr=>e.cell (p:=⟨(d.add (j*4)).block,(d.add (j*4)).off+1,none⟩) g t
   have U:=λe:jX wr=>e.cell (p:=⟨(d.add (j*4)).block,(d.add (j*4)).off+2,none⟩) g u
   have V:=λe:jX wr=>e.cell (p:=⟨(d.add (j*4)).block,(d.add (j*4)).off+3,none⟩) g v
   have W:=λe:jX wr=>e.cell h C
   have X:=λe:jX wr=>e.cell (p:=⟨(f.add (j*4)).block,(f.add (j*4)).off+1,none⟩) h D
   have Y:=λe:jX wr=>e.cell (p:=⟨(f.add (j*4)).block,(f.add (j*4)).off+2,none⟩) h E
   have Z:=λe:jX wr=>e.cell (p:=⟨(f.add (j*4)).block,(f.add (j*4)).off+3,none⟩) h F
   have I:=zh (λe:jX wr=>Calls.ext (M.o x _ _ e.val R.o (G.o.keep e.bel) (H.o.keep e.bel)));clear s t u v C D E F
   repeat (go_big_quiet_step (fail))
   go_big_quiet_step ((rename_i e;exact I.o e))
   repeat (go_big_quiet_step (fail))
   refine wpQuiet_nil ?_;intro a8 a0;obtain⟨⟨a9,l⟩,J⟩:=a0;dsimp only at J;subst J;replace a:=zh (a.o.keep l);replace b:=zh (b.o.keep l);replace c:=jt c l;clear S T U V W X Y Z I l g h G H;go_wp2;go_roundw
   case rel=>exact⟨j+1,aa,bi,a,b,c⟩
   case measure=>simp[intOf];omega
  ·obtain rfl:j=ks.length:=by omega
   go_wp2;go_ret;exact⟨rfl,c.o⟩
def zT1:∀z:Nat,QO z:=by
 intro z
 induction z with
 |zero=>intro t c d w h;have:=zZw t;omega
 |succ z o=>
  intro t c d w p q r;obtain⟨A,f,rfl,x,y,C,j⟩:=q.form;obtain⟨B,g,rfl,-,-,S,l⟩:=r.form;obtain⟨k,s,a,b⟩:=t;dsimp only[qC,aG.kind,aG.text,aG.cols,aG.kids] at x y C j l⊢;have D:=ah (bK b<=z) (by rw[dK] at p;omega);have u:=ah ((w.alloc (.cells #[qI k,af s,qI a,.slice A b.length f] 31)).heap.size=w.heap.size+1) (by simp);have m:=aN w (.cells #[qI k,af s,qI a,.slice A b.length f] 31);have n:=aN (w.alloc (.cells #[qI k,af s,qI a,.slice A b.length f] 31)) (.cells #[qI k,af s,qI a,.slice B b.length g] 31);have i:=zh (m.trans (n.mono m.size));have E:=zh (j.keep i.o);have F:=zh (l.keep i.o);have G:=zh (ae n (au.new w 31 #[qI k,af s,qI a,.slice A b.length f]));have H:Hy (au ((w.alloc (.cells #[qI k,af s,qI a,.slice A b.length f] 31)).alloc (.cells #[qI k,af s,qI a,.slice B b.length g] 31)) (w.heap.size+1) 31 #[qI k,af s,qI a,.slice B b.length g]):=by
   show au _ _ _ _;rw[<-u.o];exact au.new _ _ _
  have I:=zh o;clear q r j l m n u p o;go_enter func10,ntmps10;go_upto_region 1 with(fail)
  generalize (w.alloc (.cells #[qI k,af s,qI a,.slice A b.length f] 31)).alloc (.cells #[qI k,af s,qI a,.slice B b.length g] 31)=J at*;have T:(k==k)=true:=lh k;have U:(s.toList==s.toList)=true:=lh _;have V:(a==a)=true:=lh a;obtain⟨K,L,M,N⟩:=qb G;obtain⟨O,P,Q,R⟩:=qb H;go_wp2_with fail;refine(zO7 z I.o A B f g b J D.o E.o F.o aa).mono ?_;rintro e W ⟨rfl,v⟩;replace i:=jt i v;clear K L M N O P Q R v;go_wp2;go_ret;exact⟨rfl,i.o⟩
def zW3 (t:aG)(c d:Array Value)(w:World)(a:lX w t c)(b:lX w t d):Calls prog 10 #[.agg c,.agg d] w λe w'=>e= .returned (.bool true)/\Below w.heap.size w w':=zT1 _ t c d w (aH _) a b
def at_len:∀(q:List Int) (m s:aC),Bn m q=some s->q.length+1<=bg m
 |[],m,_,_=>vW m
 |i::q,m,s,h=>by
  rw[Bn] at h
  split at h
  ·split at h
   ·next t ht=>
    have a:=at_len q t s h;have b:bg t<=bq m.args:=Ak ht;have c:=Dv m;rw[aY];omega
   ·cases h
  ·cases h
def vQ (rs:List aD)(f:Nat)(m:aC):aG×List Int×Int:=if(fZ rs&&nV m)=true then(match qz rs f m with
 |some n=>(n,[],0)
 |none=>(kR,(gW rs f m []).getD [],19)) else(kR,[],1)
def yCw (rs:List aD)(f:Nat)(m:aC)(h:bg m<=1000):(vQ rs f m).2.1.length<=1000000:=by
 unfold vQ
 split
 ·split
  ·exact dZ _
  ·cases a:gW rs f m [] with
   |none=>exact dZ _
   |some p=>
    obtain⟨q,s,b,c,-⟩:=OE m [] p a;have:=at_len q m s c;rw[b];show q.length<=1000000;omega
 ·exact dZ _
def lC.flat {rs:List aD}{f:Nat}{m:aC}(h:lC rs f m w e w'):∃g A a,e= .returned (.tuple #[.agg g,.slice A (vQ rs f m).2.1.length a,qI (vQ rs f m).2.2])/\lX w' (vQ rs f m).1 g/\kK w' A (vQ rs f m).2.1/\Below w.heap.size w w':=by
 obtain⟨h,b⟩:=h;unfold vQ
 split at h
 ·next hv=>
  rw[ak hv]
  split at h
  ·next n hn=>
   rw[hn];obtain⟨A,a,c,d⟩:=h;exact⟨_,none,0,c,d.nod,zS,b⟩
  ·next hn=>
   rw[hn];obtain⟨p,A,a,c,d,_,_,i⟩:=h;rw[c];exact⟨_,A,a,d,(bC.zero (λ_=>True) w' 0 ⟨#[]⟩ 0 aI).nod,i,b⟩
 ·next hv=>
  rw[ai hv];exact⟨_,none,0,h,(bC.zero (λ_=>True) w' 0 ⟨#[]⟩ 0 aI).nod,zS,b⟩
def rendert_walk (A:Option Addr)(cap:Nat)(rs:List aD)(m:aC)(c:Array Value)(w:World)(O:fG w A rs)(a2:rs.length<=cap)(a3:cap<=9223372036854775807)(x:gK w m c)(P:mU w 0)(Q:mU w 1):Calls prog 3 #[.slice A rs.length cap,.agg c] w λe w'=>e= .returned (.bool true)/\Below w.heap.size w w':=by
 have B:=x;obtain⟨R,S,rfl,-⟩:=x.form;dsimp only[aA] at x B⊢;have d:=aN w (.cells #[qI m.kind,af m.nam,af m.vr,.slice R m.args.length S,af m.form] 25);have b:=zh d;have g:=zh (au.new w 25 #[qI m.kind,af m.nam,af m.vr,.slice R m.args.length S,af m.form]);have C:=zh O;have D:=zh B;have T:=zh P;have U:=zh Q;clear O x B P Q d;go_enter func3,ntmps3;go_wp2_with fail;refine(zSc _ (T.o.keep b.o) (U.o.keep b.o)).mono ?_;rintro e V ⟨rfl,a⟩;replace b:=jt b a;replace g:=kp a g;clear a;go_wp2_with fail;refine(zPs A cap rs V (C.o.keep b.o) aa).mono ?_;rintro e W ⟨rfl,rfl⟩;cases E:Bl rs with
 |false=>
  clear E;go_wp2;exact aB (v:=.bool true) (by simp[results,results3,go_sem]) rfl ⟨rfl,b.o⟩
 |true=>
  have X:=zh (Wd E);clear E;obtain⟨j,k,l,q,r⟩:=qc g;go_wp2_with fail;refine(zSr m _ V (D.o.keep b.o)).mono ?_;rintro e W ⟨a4,rfl,Y,a⟩;replace b:=jt b a;replace g:=kp a g;have i:=zh Y;clear a Y j k l q r;cases a4 with
  |false=>
   go_wp2;exact aB (v:=.bool true) (by simp[results,results3,go_sem]) rfl ⟨rfl,b.o⟩
  |true=>
   replace i:=zh (i.o rfl);obtain⟨j,k,l,q,r⟩:=qc g;go_wp2_with fail;refine(Qf A cap rs 1608 201 aI a2 a3 (av X.o) aI m _ W (av i.o.1) (C.o.keep b.o) (D.o.keep b.o) (T.o.keep b.o) (U.o.keep b.o)).mono ?_;intro e y s;obtain⟨a5,a6,a7,rfl,f,h,a⟩:=s.flat;obtain⟨F,G,rfl,-,-,-,-⟩:=f.form;have H:=zh (yCw rs 1608 m (by have:=i.o.1;have:bg m<=fT m:=fq _ _;omega));obtain⟨o,I⟩:∃o,o=vQ rs 1608 m:=⟨_,rfl⟩
   have Z:=zh I;rw[<-I] at f h H⊢;obtain⟨n,p,a0⟩:=o;dsimp only at f h H⊢;have d:=aN y (qO n F G);have t:=zh (au.new y 31 (qC n F G));have u:=zh (f.keep d);have J:=zh (h.keep d);replace b:=zh ((b.o.trans (a.mono b.o.size)).trans (d.mono (b.o.trans (a.mono b.o.size)).size));replace g:=zh (ae d (ae a g.o));clear a j k l q r s f h d I;go_upto_region 6 with(fail)
   generalize y.heap.size=b3 at*;generalize y.alloc (qO n F G)=a8 at*;obtain⟨j,k,l,q,r⟩:=qc g;go_wp2_with fail;refine(ZY A cap rs 1608 aI (av X.o) m _ a8 i.o.1 i.o.2 (C.o.keep b.o) (D.o.keep b.o)).mono ?_;intro e z s;obtain⟨a5,a9,qc,rfl,f,h,a⟩:=s.flat;rw[<-Z.o] at f h⊢;dsimp only at f h⊢;obtain⟨K,L,rfl,-,-,-,-⟩:=f.form;have d:=aN z (qO n K L);have M:=zh (au.new z 31 (qC n K L));have N:=zh (f.keep d);have b0:=zh (h.keep d);replace a:=a.trans (d.mono a.size);replace b:=jt b a;replace t:=kp a t;replace u:=zh (u.o.keep a);replace J:=zh (J.o.keep a);clear a j k l q r s f h d g Z;go_upto_region 7 with(fail)
   generalize z.heap.size=b4 at*;generalize z.alloc (qO n K L)=b1 at*;have b5:(a0==a0)=true:=lh _;go_wp2_with fail;refine(zYl a6 a9 a7 qc p p b1 J.o b0.o H.o).mono ?_;rintro e b2 ⟨a1,a⟩;rw[aJ rfl] at a1;subst a1;replace b:=jt b a;replace t:=kp a t;replace M:=kp a M;replace u:=zh (u.o.keep a);replace N:=zh (N.o.keep a);clear a;obtain⟨b6,b7,b8,b9⟩:=qb t;obtain⟨c0,c1,c2,c3⟩:=qb M;go_wp2_with fail;refine(zW3 n _ _ b2 u.o N.o).mono ?_;rintro e c4 ⟨rfl,a⟩;replace b:=jt b a;clear a;go_wp2;exact aB (v:=.bool true) (by simp[results,results3,go_sem]) rfl ⟨rfl,b.o⟩
end Go.Proofs.YtlefbenkhgbifaaGreatDoor.Rn
