/- assign: the rule of each operator of a reading. -/
import Derived.Test.YtlefbenkhgbifaaGreatDoorH01aeb754
import Derived.StillTailTactics
set_option linter.all false
set_option maxRecDepth 100000
set_option maxHeartbeats 4000000
namespace Go.Proofs.YtlefbenkhgbifaaGreatDoor
open Tryz
namespace El
open At Ch Sp Sy Go.RowKit
variable{x:Rd}{w:World}{a:aG}{ts:List aG}
def yf (L:List Int)(ws:List (Int×Int)):List Int:=ws.foldl (λl p=>l.set p.1.toNat p.2) L
def Nq (L:List Int)(a b:List (Int×Int)):yf L (a++b)=yf (yf L a) b:=by
 unfold yf;rw[List.foldl_append]
def Ji (L:List Int):∀a:List (Int×Int),(yf L a).length=L.length:=by
 intro a
 induction a generalizing L with
 |nil=>rfl
 |cons p a b=>
  show(yf (L.set p.1.toNat p.2) a).length=_;rw[b,uu]
def Nr {rs:List aD}:∀{ks:List Rd} {es:List Int} {t:Nat} {y:Rd} {e:Int},ks[t]?=some y->es[t]?=some e->nC rs (ks.take (t+1)) (es.take (t+1))=nC rs (ks.take t) (es.take t)++eQ rs y e
 |[],_,_,_,_,h,_=>by simp at h
 |_::_,[],_,_,_,_,h=>by simp at h
 |k::ks,b::es,0,y,e,h,a=>by
  simp only[iD,gV] at h a;subst h a;simp[nC]
 |k::ks,b::es,t+1,y,e,h,a=>by
  simp only[eD] at h a;rw[fo,fo,fo,fo,nC,nC,Nr h a,cu]
def Ga {rs:List aD}{i j:Nat}(h:mf rs x i j)(B:j<=1000000):(x.rule= -1/\x.kids=[]/\x.at_=i/\j=i+1)\/∃(n:Nat) (u:aD),x.rule=(n:Int)/\rs[n]?=some u/\((u.kind≠2/\u.kind≠3)->∃a b ks,x.kids=a::b::ks/\1<=b.at_/\b.at_<=1000000)/\(eY rs x j= -1\/∃q:Nat,eY rs x j=q/\q<j)/\(iI rs x j).length=x.kids.length/\(∀(t:Nat) (y:Rd),x.kids[t]?=some y->∃w o:Nat,(iI rs x j)[t]?=some (o:Int)/\mf rs y w o/\o<=j/\1<=o):=by
 cases h with
 |leaf i=>exact .inl ⟨rfl,rfl,rfl,rfl⟩
 |inf n u i k j y z d e r A p a b=>
  have l:eY rs (.mk n i [y,z]) (j:Int)=(k:Int):=by
   unfold eY xL;rw[show Rd.rule (.mk n i [y,z])=(n:Int) from rfl,mZ d,ak e];show z.at_ -1=_;rw[p];omega
  have f:iI rs (.mk n i [y,z]) (j:Int)=[(k:Int),(j:Int)]:=by
   unfold iI xL;rw[show Rd.rule (.mk n i [y,z])=(n:Int) from rfl,mZ d,ak e];show[z.at_ -1,_]=_;rw[p,show(((k+1:Nat):Int) -1)=(k:Int) by omega]
  refine .inr ⟨n,u,rfl,d,λ_=>⟨y,z,[],rfl,aa,aa⟩,.inr ⟨k,l,aa⟩,by rw[f];rfl,λt x c=>?_⟩;rw[f];change[y,z][t]?=some x at c
  match t,c with
  |0,c=>
        obtain rfl:y=x:=by simpa using c
        exact⟨i,k,rfl,a,aa,aa⟩
  |1,c=>
        obtain rfl:z=x:=by simpa using c
        exact⟨k+1,j,rfl,b,aa,aa⟩
  |t+2,c=>simp at c
 |pre n u i j y d e r a=>
  have g:¬u.kind=1:=aa
  have l:eY rs (.mk n i [y]) (j:Int)=(i:Int):=by
   unfold eY;rw[show Rd.rule (.mk n i [y])=(n:Int) from rfl,mZ d,ai g,ak e];rfl
  have f:iI rs (.mk n i [y]) (j:Int)=[(j:Int)]:=by
   unfold iI;rw[show Rd.rule (.mk n i [y])=(n:Int) from rfl,mZ d,ai g,ak e]
  refine .inr ⟨n,u,rfl,d,λh=>absurd e h.1,.inr ⟨i,l,aa⟩,by rw[f];rfl,λt x c=>?_⟩;rw[f];change[y][t]?=some x at c
  match t,c with
  |0,c=>
        obtain rfl:y=x:=by simpa using c
        exact⟨i+1,j,rfl,a,aa,aa⟩
  |t+1,c=>simp at c
 |pos n u i j y d e r a=>
  have g:¬u.kind=1:=aa
  have m:¬u.kind=2:=aa
  have s:(j:Int) -1=((j -1:Nat):Int):=aa
  have l:eY rs (.mk n i [y]) (j:Int)=((j -1:Nat):Int):=by
   unfold eY;rw[show Rd.rule (.mk n i [y])=(n:Int) from rfl,mZ d,ai g,ai m,ak e,s]
  have f:iI rs (.mk n i [y]) (j:Int)=[((j -1:Nat):Int)]:=by
   unfold iI;rw[show Rd.rule (.mk n i [y])=(n:Int) from rfl,mZ d,ai g,ai m,ak e,s]
  refine .inr ⟨n,u,rfl,d,λh=>absurd e h.2,.inr ⟨j -1,l,aa⟩,by rw[f];rfl,λt x c=>?_⟩;rw[f];change[y][t]?=some x at c
  match t,c with
  |0,c=>
        obtain rfl:y=x:=by simpa using c
        exact⟨i,j -1,rfl,a,aa,aa⟩
  |t+1,c=>simp at c
 |jux n u i k j y z d e r A p a b=>
  have g:¬u.kind=1:=aa
  have m:¬u.kind=2:=aa
  have v:¬u.kind=3:=aa
  have l:eY rs (.mk n i [y,z]) (j:Int)= -1:=by
   unfold eY;rw[show Rd.rule (.mk n i [y,z])=(n:Int) from rfl,mZ d,ai g,ai m,ai v]
  have f:iI rs (.mk n i [y,z]) (j:Int)=[(k:Int),(j:Int)]:=by
   unfold iI xL;rw[show Rd.rule (.mk n i [y,z])=(n:Int) from rfl,mZ d,ai g,ai m,ai v];show[z.at_,_]=_;rw[p]
  refine .inr ⟨n,u,rfl,d,λ_=>⟨y,z,[],rfl,aa,aa⟩,.inl l,by rw[f];rfl,λt x c=>?_⟩;rw[f];change[y,z][t]?=some x at c
  match t,c with
  |0,c=>
        obtain rfl:y=x:=by simpa using c
        exact⟨i,k,rfl,a,aa,aa⟩
  |1,c=>
        obtain rfl:z=x:=by simpa using c
        exact⟨k,j,rfl,b,aa,aa⟩
  |t+2,c=>simp at c
def Gb (x:Rd):1<=og x:=by obtain⟨r,a,b⟩:=x;rw[og];omega
def zf {y:Rd}{t:Nat}(h:x.kids[t]?=some y):og y+1<=og x:=by
 obtain⟨r,a,b⟩:=x;rw[og];change b[t]?=some y at h;have c:∀(b:List Rd) (t:Nat),b[t]?=some y->og y<=Cx b:=by
  intro b
  induction b with
  |nil=>intro t h;simp at h
  |cons k b d=>
   intro t h;rw[Cx];cases t with
   |zero=>
        obtain rfl:k=y:=by simpa using h
        omega
   |succ t=>have:=d t (by simpa using h);omega
 have:=c b t h;omega
def Ns {B:Nat}{v:Value}{p:List Int}(h:zM w B v p)(m:0<p.length):∃a cap b,v=ay (ag a (0)) p.length cap/\B<=a/\au w a 3 b/\p.length<=cap/\cap<=9223372036854775807/\∀(t:Nat) e,p[t]?=some e->b[t]?=some (qI e):=by
 obtain⟨n,d⟩:=h;rcases d with⟨_,o⟩|⟨a,cap,b,rfl,f,g,i,j,q,k⟩
 ·omega
 ·refine⟨a,cap,b,rfl,f,g,i,by unfold maxLen at j;omega,λt e l=>?_⟩;have c:(dG p)[t]?=some (qI e):=by unfold dG;rw[gL,l];rfl
  rw[<-k,gU] at c
  split at c
  ·rw[<-gF];exact c
  ·cases c
def ints_set (L:List Int)(q:Nat)(r:Int):(dG L).toArray.setIfInBounds q (qI r)=(dG (L.set q r)).toArray:=by
 unfold dG;rw[List.setIfInBounds_toArray,List.map_set]
abbrev yJ (w:World)(gr:Nat)(L:List Int):Prop:=au w gr 3 (dG L).toArray
def Jj (rs:List aD)(x:Rd)(j gr:Nat)(L:List Int)(w:World)(e:Ending)(w':World):Prop:=e= .returned (.tuple #[])/\yJ w' gr (yf L (eQ rs x j))/\Gr gr w w'
def Nt (ok:Nat->Prop)(g:Nat)(A:Option Addr)(cap:Nat)(rs:List aD)(b n:Nat)(e1:n<=1000000):∀(m:Nat) (x:Rd) (i j:Nat) (c:Array Value) (L:List Int) (d w:World),og x<=m->mf rs x i j->wX d g A cap rs->dS ok d x c->Below d.heap.size d w->d.heap.size<=b->yJ w b L->L.length=n->j<=n->
  Calls prog 98 #[qP g,.agg c,qI (j:Int),ay (ag b (0)) n n] w (Jj rs x j b L w)
 |0,x,i,j,c,L,d,w,J,_,_,_,_,_,_,_,_=>absurd (Gb x) aa
 |m+1,x,i,j,c,L,d,w,J,K,M,N,z,a0,O,a1,i7=>by
  have b2:=zh (Nt ok g A cap rs b n e1 m);obtain⟨P,Q,rfl,i8,i9,a2⟩:=N.form;have a3:=M.keep z;have B:=aN w (.cells (dw x.rule x.at_ P x.kids.length Q) 139);have a4:=zh B;have f:=zh (au.new w 139 (dw x.rule x.at_ P x.kids.length Q));have s:=zh (ae B O);have e2:=zh (N.keep (z.trans (B.mono z.size)));have e3:=zh (a3.keep B);have e4:=zh M;have e5:=zh a2;have b3:=zh z;have R:=zh a0;have b4:=zh (O.lt);have e6:=zh J;have b5:=zh a1;rcases Ga K aa with⟨h,e7,e8,e9⟩|⟨r,f0,a5,b6,C,b7,b8,b9⟩
  ·have f1:=zh (show eQ rs x j=[] by
    cases x with
    |mk r a f2=>
     rw[BN,ak (show r<0 by rw[show r= -1 from h];omega)])
   have f3:x.rule<0:=aa
   clear h e7 e8 e9 K M N z O a1 a2 a3 B J a0 b2;go_enter func98,ntmps98;go_wp2;exact aB (v:=.tuple #[]) (by simp[results,results98,go_sem]) rfl ⟨rfl,by rw[f1.o];exact s.o,(Gr.refl b w).below a4.o⟩
  ·have D:=zh b7;have a6:=zh b8;have f4:=zh b9;have f5:=zh a5;have f6:=zh b6;have f7:=zh C;have f3:0<=x.rule:=by omega
   have c0:=ah (1<=(j:Int)/\(j:Int)<=1000000) (av (CY K));have c1:=zh (show eQ rs x j=(if 0<=eY rs x j then[(eY rs x j,x.rule)] else[])++nC rs x.kids (iI rs x j) by
    cases x with
    |mk r a f2=>
     rw[BN,ai (show ¬r<0 by have:r=_:=a5;omega)];rfl)
   clear K M N z O a1 a2 a3 B J a0 a5 b6 C b7 b8 b9;go_enter func98,ntmps98;go_upto_region 2 with(fail)
   have u:=zh ((Gr.refl b w).below a4.o);have f8:=ah (w.heap.size<(w.alloc (.cells (dw x.rule x.at_ P x.kids.length Q) 139)).heap.size) aS;clear a4;generalize w.alloc (.cells (dw x.rule x.at_ P x.kids.length Q) 139)=f9 at*;have S:=f.o.cell;go_wp2_with fail;refine(Np ok g A cap rs x _ (j:Int) r f0 f9 e3.o e2.o f5.o f6.o f7.o c0.o.1 c0.o.2).mono ?_;rintro g0 T ⟨v,rfl,c2,E⟩;have g1:=zh c2;replace s:=kp E s;replace u:=zh (u.o.below E);have j0:=zh E.size;replace f:=kp E f;clear c2 E S;generalize eY rs x (j:Int)=k at*;go_upto_if 23 with(fail)
   go_cut [] (λwc=>Hy (yJ wc b (yf L (if 0<=k then[(k,x.rule)] else[])))/\Hy (Gr b T wc))
   case first=>
    rcases D.o with rfl|⟨q,rfl,g2⟩
    ·clear D;go_wp2;go_meet;exact⟨s,zh (Gr.refl _ _)⟩
    ·have j1:=ah (q<n) aa;have g3:(0:Int)<=(q:Int):=by omega
     have j2:(q:Int)<(n:Int):=aa
     obtain⟨a7,c3⟩:∃a7,L[q]?=some a7:=⟨_,gE (by rw[b5.o];omega)⟩
     have j3:T.cell? (ag b q)=some (qI a7):=by
      have h:T.cell? (ag b q)=(dG L).toArray[q]?:=s.o.cell q;rw[h];unfold dG;simp[c3]
     have j4:=s.o.frozen q;have S:=f.o.cell 0;clear D c3 g2;go_wp2;go_meet;refine⟨zh ?_,zh ((Gr.refl b T).set (p:=ag b q) (.inr rfl) _)⟩;have h:=au.set_ s.o q (qI x.rule);rw[ints_set] at h;rw[ak g3];exact h
   case rest=>
    obtain⟨c4,a8⟩:=hcut;have j5:=zh D.o;clear D;replace f:=zh (a8.o.blk f.o (av b4.o));replace u:=zh (u.o.trans a8.o)
    by_cases F:x.kids.length=0
    ·have c5:x.kids=[]:=eP.1 F;have g4:=ah (eQ rs x j=if 0<=k then[(k,x.rule)] else[]) (by rw[c1.o,c5];simp[nC]);have C:(x.kids.length:Int)=0:=by omega
     have G:=f.o.cell 2;dsimp only[dw] at G;replace F:=zh F;replace C:=zh C;clear c5;go_wp2_with fail
     go_loopw [32] (λi wr=>i=qI 0/\wr=wc) (λi _=>0)
     case atStart=>exact⟨rfl,rfl⟩
     case round=>
      obtain⟨rfl,rfl⟩:=hrel;have j6:¬((0:Int)<(x.kids.length:Int)):=av C.o
      go_wp2;exact aB (v:=.tuple #[]) (by simp[results,results98,go_sem]) rfl ⟨rfl,by rw[g4.o];exact c4.o,u.o⟩
    ·obtain⟨g5,j7,j8,rfl,g6,c6,g7,j9,c7⟩:=Ns g1.o (by rw[a6.o];omega);have c8:=ah (g5≠b) (aV b4.o f8.o);have g8:=zh (a8.o.blk c6 c8.o);have g9:=zh c7;have G:=f.o.cell 2;dsimp only[dw] at G;replace F:=zh F;clear c6 c7 g6;rw[a6.o] at g7⊢;have U:=ah (Below d.heap.size d wc) (b3.o.trans (u.o.down b3.o.size R.o));go_wp2_with fail
     go_loopw [32] (λi wr=>∃t:Nat,t<=x.kids.length/\i=qI t/\Hy (yJ wr b (yf (yf L (if 0<=k then[(k,x.rule)] else[])) (nC rs (x.kids.take t) ((iI rs x j).take t))))/\Hy (Gr b wc wr)) (λi _=>x.kids.length -(intOf i).toNat)
     case atStart=>exact⟨0,aa,rfl,by rw[eZ,eZ];exact c4,zh (Gr.refl _ _)⟩
     case round=>
      obtain⟨t,k0,rfl,l,e⟩:=hrel
      by_cases h0:t<x.kids.length
      ·obtain⟨y,H⟩:∃y,x.kids[t]?=some y:=⟨_,gE h0⟩
       obtain⟨h1,h2,a9,c9,d0,d1⟩:=f4.o t y H;have V:=U.o.trans (e.o.down U.o.size R.o);obtain⟨I,W,X,rfl,d2,d3,k1,k2,h3,d4,d5,d6⟩:=iE.at_ e5.o H;have b0:∀o,(⟨(I.add (t*3)).block,o,none⟩:Addr).block<d.heap.size:=λo=>by show(I.add (t*3)).block<_;rw[gX];exact d2
       have h4:=(V.cell (p:=I.add (t*3)) (by rw[gX];exact d2)).trans d4;have h5:=(V.cell (b0 ((I.add (t*3)).off+1))).trans d5;have h6:=(V.cell (b0 ((I.add (t*3)).off+2))).trans d6;have h7:=zh d3;have h8:=zh (Nr (rs:=rs) H a9);have h9:=zh (g9.o t _ a9);have i0:=zh c9;have i1:=zh (And.intro d0 d1);have i2:=zh (show og y<=m by
        have h:=zf H;have:=e6.o;omega)
       have Y:=zh (e.o.blk g8.o c8.o);have k3:=ah (b<wr.heap.size) l.o.lt;clear V d4 d5 d6 d3 h3 c9 d0 d1 a9 b0 H;go_upto_region 8 with(fail)
       have Z:=aN wr (.cells (dw y.rule y.at_ W y.kids.length X) 139);have d7:=zh (au.new wr 139 (dw y.rule y.at_ W y.kids.length X));replace e:=zh (e.o.below Z);replace l:=kp Z l;replace Y:=kp Z Y;clear Z h4 h5 h6;generalize wr.alloc (.cells (dw y.rule y.at_ W y.kids.length X) 139)=b1 at*;obtain⟨S,i3,G⟩:=qa d7;have i4:=(Y.o.cell t).trans h9.o;have k4:(t:Int)<((x.kids.length:Nat):Int):=aa
       go_still_tail 7,aj
       change wpList _ _ _ _ _ b1.drew;replace e:=zh (e.o.below (fC (aL _ _)));replace l:=ah (yJ b1.drew b _) l.o;generalize b1.drew=i5 at*;clear S i3 G i4 d7 Y;have i6:=ah ((yf (yf L (if 0<=k then[(k,x.rule)] else[])) (nC rs (x.kids.take t) ((iI rs x j).take t))).length=n) (by rw[Ji,Ji];exact b5.o);go_wp2_with fail;refine(b2.o y h1 h2 (dw y.rule y.at_ W y.kids.length X) _ d i5 i2.o i0.o e4.o h7.o (U.o.trans (e.o.down U.o.size R.o)) R.o l.o i6.o (av i1.o.1)).mono ?_;rintro g0 k5 ⟨rfl,d8,d9⟩;have e0:=zh d8;replace e:=zh (e.o.trans d9);clear d8 d9;rw[<-Nq,<-h8.o] at e0;go_wp2;go_roundw
       case rel=>exact⟨t+1,aa,bi,e0,e⟩
       case measure=>simp[intOf];omega
      ·obtain rfl:t=x.kids.length:=by omega
       rw[bW,fA (by rw[a6.o];exact aH _),<-Nq,<-c1.o] at l;go_wp2;exact aB (v:=.tuple #[]) (by simp[results,results98,go_sem]) rfl ⟨rfl,l.o,u.o.trans e.o⟩
def Uz (n:aG)(c:Array Value)(w:World)(B:lX w n c)(C:n.kind=6->n.kids≠[])(D:n.kind=12->0<=n.cols/\n.cols<100)(a2:n.text.size<=1000000):
  Calls prog 136 #[.agg c] w λe w'=>e= .returned (.tuple #[af (mo n).1,af (mo n).2])/\Below w.heap.size w w':=by
 obtain⟨s,u,rfl,a3,a4,a5,E⟩:=B.form;have x:=aN w (.cells #[qI n.kind,af n.text,qI n.cols,.slice s n.kids.length u] 31);have j:=zh x;have I:=zh (au.new w 31 #[qI n.kind,af n.text,qI n.cols,.slice s n.kids.length u]);have J:=zh (E.keep x);have K:=zh C;have F:=zh D;clear B E x C D;go_enter func136,ntmps136;go_upto_region 1 with(fail)
 generalize w.alloc (.cells #[qI n.kind,af n.text,qI n.cols,.slice s n.kids.length u] 31)=L at*;obtain⟨a6,a7,M,a8⟩:=qb I
 by_cases a:n.kind=5
 ·have N:(n.kind==5)=true:=aT.2 a;have b:=ah (mo n=(wU,mM)) (by unfold mo;rw[ak a]);clear a;go_wp2;exact aB (v:=.tuple #[af ⟨#[100,105,118,105,100,101]⟩,af ⟨#[102,114,97,99]⟩]) (by simp[results,results136,go_sem]) rfl ⟨by rw[b.o];rfl,j.o⟩
 have N:(n.kind==5)=false:=bn a
 by_cases f:n.kind=6
 ·have O:(n.kind==6)=true:=aT.2 f;obtain⟨d,G,r⟩:∃d G,n.kids=d::G:=List.exists_cons_of_ne_nil (K.o f);obtain⟨a9,b0,b1,rfl,b2,b3,b4,b5,P,Q,R,S,T,U⟩:=J.o.at_ (i:=0) (t:=d) (by rw[r];rfl);have b:=ah (mo n=((if d.kids.isEmpty then vG else jW),jW)) (by unfold mo;rw[ai a,ak f,r]);rw[add_zero'] at R S T U;have b6:(0:Int)<(n.kids.length:Int):=by rw[r,aY];omega
  clear a f r Q P
  by_cases p:d.kids.length=0
  ·have V:((d.kids.length:Int)==0)=true:=by rw[p];rfl
   have y:=ah (d.kids.isEmpty=true) (lG.2 (eP.1 p));replace p:=zh p;go_wp2;exact aB (v:=.tuple #[af ⟨#[115,113,114,116]⟩,af ⟨#[114,111,111,116]⟩]) (by simp[results,results136,go_sem]) rfl ⟨by rw[b.o,y.o];rfl,j.o⟩
  ·have V:((d.kids.length:Int)==0)=false:=by rw[aZ];omega
   have y:=ah (d.kids.isEmpty=false) (uX.2 λe=>p (by rw[e];rfl));replace p:=zh p;go_wp2;exact aB (v:=.tuple #[af ⟨#[114,111,111,116]⟩,af ⟨#[114,111,111,116]⟩]) (by simp[results,results136,go_sem]) rfl ⟨by rw[b.o,y.o];rfl,j.o⟩
 have O:(n.kind==6)=false:=bn f
 by_cases g:n.kind=7
 ·have W:(n.kind==7)=true:=aT.2 g;have b:=ah (mo n=(wV,dM)) (by unfold mo;rw[ai a,ai f,ak g]);clear a f g;go_wp2;exact aB (v:=.tuple #[af ⟨#[105,110,100,101,120]⟩,af ⟨#[115,117,98]⟩]) (by simp[results,results136,go_sem]) rfl ⟨by rw[b.o];rfl,j.o⟩
 have W:(n.kind==7)=false:=bn g
 by_cases h:n.kind=8
 ·have X:(n.kind==8)=true:=aT.2 h;have b:=ah (mo n=(wW,dV)) (by unfold mo;rw[ai a,ai f,ai g,ak h]);clear a f g h;go_wp2;exact aB (v:=.tuple #[af ⟨#[112,111,119,101,114]⟩,af ⟨#[115,117,112]⟩]) (by simp[results,results136,go_sem]) rfl ⟨by rw[b.o];rfl,j.o⟩
 have X:(n.kind==8)=false:=bn h
 by_cases k:n.kind=9
 ·have Y:(n.kind==9)=true:=aT.2 k;have b:=ah (mo n=(BL,jU)) (by unfold mo;rw[ai a,ai f,ai g,ai h,ak k]);clear a f g h k;go_wp2;exact aB (v:=.tuple #[af ⟨#[105,110,100,101,120,112,111,119,101,114]⟩,af ⟨#[98,111,116,104]⟩]) (by simp[results,results136,go_sem]) rfl ⟨by rw[b.o];rfl,j.o⟩
 have Y:(n.kind==9)=false:=bn k
 by_cases l:n.kind=10
 ·have Z:(n.kind==10)=true:=aT.2 l;have b:=ah (mo n=(n.text,jb)) (by unfold mo;rw[ai a,ai f,ai g,ai h,ai k,ak l]);clear a f g h k l;go_wp2;exact aB (v:=.tuple #[af n.text,af ⟨#[97,99,99,101,110,116]⟩]) (by simp[results,results136,go_sem]) rfl ⟨by rw[b.o];rfl,j.o⟩
 have Z:(n.kind==10)=false:=bn l
 by_cases m:n.kind=12
 ·have a0:(n.kind==12)=true:=aT.2 m;obtain⟨o,z⟩:∃o:Nat,n.cols=(o:Int):=⟨n.cols.toNat,av ((F.o m).1)⟩
  have H:=ah (o<100) (av ((F.o m).2));have b:=ah (mo n=(eX,eX++jy (Lib.decDigits o))) (by unfold mo;rw[ai a,ai f,ai g,ai h,ai k,ai l,ak m,z,fU]);have a1:=zh (Tryz.strconv_Itoa_small o H.o L);rw[z] at M;clear a f g h k l m z;go_wp2_with fail;refine a1.o.mono ?_;rintro e b7 ⟨rfl,rfl⟩;have b8:(Lib.decDigits o).length<=20:=by rw[Lib.decDigits_length];exact Lib.nDigits_le20 o (av H.o)
  go_wp2;exact aB (v:=.tuple #[af ⟨#[109,97,116,114,105,120]⟩,af ((⟨#[109,97,116,114,105,120]⟩:ByteArray)++(⟨(Lib.decDigits o).toArray⟩:ByteArray))]) (by simp[results,results136,go_sem]) rfl ⟨by rw[b.o];rfl,j.o⟩
 have a0:(n.kind==12)=false:=bn m;have b:=ah (mo n=((if n.text.data.toList=[124,124] then vH else uH),ik++n.text)) (by unfold mo;rw[ai a,ai f,ai g,ai h,ai k,ai l,ai m]);clear a f g h k l m
 by_cases q:n.text.data.toList=[124,124]
 ·have A:=zh q;have qb:(n.text.toList==[124,124])=true:=by rw[bz,q];rfl
  clear q;go_upto_region 19 with(fail)
  go_quiet (fail)
  go_wp2;exact aB (v:=.tuple #[af ⟨#[97,98,115]⟩,af ((⟨#[102,101,110,99,101]⟩:ByteArray)++n.text)]) (by simp[results,results136,go_sem]) rfl ⟨by rw[b.o,ak A.o];rfl,below_drewN j.o _⟩
 ·have A:=zh q;have qb:(n.text.toList==[124,124])=false:=by rw[aZ,bz];exact q
  clear q;go_upto_region 20 with(fail)
  go_quiet (fail)
  go_wp2;exact aB (v:=.tuple #[af ⟨#[103,114,111,117,112]⟩,af ((⟨#[102,101,110,99,101]⟩:ByteArray)++n.text)]) (by simp[results,results136,go_sem]) rfl ⟨by rw[b.o,ai A.o];rfl,below_drewN j.o _⟩
def yg (rs:List aD)(a:aG):Bool:=decide (a.kind=2)&&(mY a.text.data.toList&& !mD rs a.text.data.toList)
def wZ (rs:List aD)(sub:aG):ByteArray:=match sub.kids with
 |a::_::_::_=>if yg rs a=true then a.text else⟨#[]⟩
 |_=>⟨#[]⟩
def Ao (rs:List aD)(sub:aG):Bool:=match sub.kids with
 |a::b::_::_=>yg rs a&&(decide (b.kind=2)&&decide (b.text.data.toList=[61]))
 |_=>false
def UA (rs:List aD)(sub:aG):vY rs sub=if Ao rs sub=true then some (wZ rs sub) else none:=by
 unfold vY Ao wZ yg
 match sub.kids with
 |[]=>rfl
 |[_]=>rfl
 |[_,_]=>rfl
 |a::b::_::_=>
  dsimp only
  by_cases c:a.kind=2<;>by_cases d:mY a.text.data.toList=true<;>by_cases e:mD rs a.text.data.toList=true<;>simp_all
def Gc {A:Option Addr}(h:mO w A (a::ts)):∃b c d,A=some b/\b.block<w.heap.size/\lX w a #[qI a.kind,af a.text,qI a.cols,.slice c a.kids.length d]/\a.text.size<=9223372036854775807/\w.cell? b=some (qI a.kind)/\w.cell? (aF b 1)=some (af a.text)/\w.cell? (aF b 2)=some (qI a.cols)/\w.cell? (aF b 3)=some (.slice c a.kids.length d):=by
 obtain⟨b,c,d,k,l,m,_,_,_,n,e,f,g,j⟩:=h.at_ (i:=0) (t:=a) rfl;rw[add_zero'] at e f g j;exact⟨b,c,d,k,l,n,m,e,f,g,j⟩
def Jk {c:Addr}{b:aG}(h:mO w (some c) (a::b::ts)):∃d f,lX w b #[qI b.kind,af b.text,qI b.cols,.slice d b.kids.length f]/\b.text.size<=9223372036854775807/\w.cell? (aF c 4)=some (qI b.kind)/\w.cell? (ag c.block (c.off+4+1))=some (af b.text)/\w.cell? (ag c.block (c.off+4+2))=some (qI b.cols)/\w.cell? (ag c.block (c.off+4+3))=some (.slice d b.kids.length f):=by
 obtain⟨p,d,f,m,q,n,_,_,_,o,g,j,k,l⟩:=h.at_ (i:=1) (t:=b) rfl;obtain rfl:=sj m;have e:c.add (1*4)=⟨c.block,c.off+4,none⟩:=by unfold Addr.add;simp
 rw[e] at g j k l;exact⟨d,f,o,n,g,j,k,l⟩
def UB (g:Nat)(A:Option Addr)(cap:Nat)(rs:List aD)(sub:aG)(c:Array Value)(w:World)(a2:wX w g A cap rs)(a3:lX w sub c):
  Calls prog 137 #[qP g,.agg c] w λe w'=>e= .returned (.tuple #[af (wZ rs sub),.bool (Ao rs sub)])/\Below w.heap.size w w':=by
 obtain⟨O,P,rfl,d3,d4,d5,a4⟩:=a3.form;have K:=aN w (.cells #[qI sub.kind,af sub.text,qI sub.cols,.slice O sub.kids.length P] 31);have d:=zh K;have Q:=zh (au.new w 31 #[qI sub.kind,af sub.text,qI sub.cols,.slice O sub.kids.length P]);have R:=zh (a2.keep K);have L:=zh (a4.keep K);clear a2 a3 a4 K;go_enter func137,ntmps137;go_upto_region 1 with(fail)
 generalize w.alloc (.cells #[qI sub.kind,af sub.text,qI sub.cols,.slice O sub.kids.length P] 31)=f at*;have a5:=Q.o.cell 3
 match hks:sub.kids with
 |[]|[_]|[_,_]=>
  all_goals
   have h:=ah (wZ rs sub=⟨#[]⟩/\Ao rs sub=false) (by unfold wZ Ao;rw[hks];exact⟨rfl,rfl⟩);rw[hks] at a5;clear hks;go_wp2;exact aB (v:=.tuple #[qE,.bool false]) (by simp[results,results137,go_sem]) rfl ⟨by rw[h.o.1,h.o.2],d.o⟩
 |a::b::d6::d7=>
  have h:=ah (wZ rs sub=(if yg rs a=true then a.text else⟨#[]⟩)/\Ao rs sub=(yg rs a&&(decide (b.kind=2)&&decide (b.text.data.toList=[61])))) (by unfold wZ Ao;rw[hks];exact⟨rfl,rfl⟩);rw[hks] at L;obtain⟨d8,n,o,rfl,b4,a6,S,b5,b6,b7,b8⟩:=Gc L.o;obtain⟨p,r,a7,b9,c0,c1,c2,c3⟩:=Jk L.o;have d9:3<=sub.kids.length:=by rw[hks,aY,aY,aY];omega
  have e0:(0:Int)<(sub.kids.length:Int):=aa
  have e1:(1:Int)<(sub.kids.length:Int):=aa
  have e2:¬((sub.kids.length:Int)<3):=aa
  have c4:=Q.o.lt;have c5:=zh (And.intro a7 b9);have c6:=zh (And.intro a6 S);clear hks a6 a7;go_upto_region 3 with(fail)
  go_cut [6,7] (λc7 c8 wc=>∃T U,c7=qP T/\c8=qP U/\Hy (au wc T 31 #[qI a.kind,af a.text,qI a.cols,.slice n a.kids.length o])/\Hy (au wc U 31 #[qI b.kind,af b.text,qI b.cols,.slice p b.kids.length r])/\Hy (Below f.heap.size f wc))
  case first=>
   go_region
   all_goals
    first
     |(
      have G:=aN f (.cells #[qI a.kind,af a.text,qI a.cols,.slice n a.kids.length o] 31);have H:=aN (f.alloc (.cells #[qI a.kind,af a.text,qI a.cols,.slice n a.kids.length o] 31)) (.cells #[qI b.kind,af b.text,qI b.cols,.slice p b.kids.length r] 31);have s1:(f.alloc (.cells #[qI a.kind,af a.text,qI a.cols,.slice n a.kids.length o] 31)).heap.size=f.heap.size+1:=aS
      have V:=ae (fC H) (au.new f 31 #[qI a.kind,af a.text,qI a.cols,.slice n a.kids.length o]);have I:=(au.new (f.alloc (.cells #[qI a.kind,af a.text,qI a.cols,.slice n a.kids.length o] 31)) 31 #[qI b.kind,af b.text,qI b.cols,.slice p b.kids.length r]).drew;rw[s1] at I;go_wp2;go_meet;exact⟨f.heap.size,f.heap.size+1,rfl,rfl,zh V,zh I,zh (fC (G.trans (H.mono G.size)))⟩)
     |(
      have G:=aN f (.cells #[qI b.kind,af b.text,qI b.cols,.slice p b.kids.length r] 31);have H:=aN (f.alloc (.cells #[qI b.kind,af b.text,qI b.cols,.slice p b.kids.length r] 31)) (.cells #[qI a.kind,af a.text,qI a.cols,.slice n a.kids.length o] 31);have s1:(f.alloc (.cells #[qI b.kind,af b.text,qI b.cols,.slice p b.kids.length r] 31)).heap.size=f.heap.size+1:=aS
      have V:=ae (fC H) (au.new f 31 #[qI b.kind,af b.text,qI b.cols,.slice p b.kids.length r]);have I:=(au.new (f.alloc (.cells #[qI b.kind,af b.text,qI b.cols,.slice p b.kids.length r] 31)) 31 #[qI a.kind,af a.text,qI a.cols,.slice n a.kids.length o]).drew;rw[s1] at I;go_wp2;go_meet;exact⟨f.heap.size+1,f.heap.size,rfl,rfl,zh I,zh V,zh (fC (G.trans (H.mono G.size)))⟩)
  obtain⟨T,U,rfl,rfl,y,t,W⟩:=hcut;replace d:=zh (d.o.trans (W.o.mono d.o.size));replace R:=zh (R.o.keep W.o);clear a5 b5 b6 b7 b8 c0 c1 c2 c3 c4 b4 c6 c5 L Q W;obtain⟨j,c9⟩:∃j,j=wc:=⟨_,rfl⟩
  subst c9
  by_cases u:a.kind=2
  case neg=>
   have m:=ah (yg rs a=false) (by unfold yg;rw[aK u];rfl);have q:(a.kind==2)=false:=bn u;have a8:(a.kind !=2)=true:=by rw[bne,q];rfl
   clear u;go_upto_region 4 with(fail)
   refine Be aj aj ?_;have z:=λ(e:jX j) (i:Nat)=>(ae e.bel y.o).cell i
   have B:=λ(e:jX j) (i:Nat)=>(ae e.bel t.o).cell i
   repeat (go_big_quiet_step (fail))
   refine wpQuiet_nil ?_;intro X C;obtain⟨⟨Y,l⟩,k⟩:=C;dsimp only at k;subst k;replace d:=jt d l;clear z B;go_wp2;exact aB (v:=.tuple #[qE,.bool false]) (by simp[results,results137,go_sem]) rfl ⟨by rw[h.o.1,h.o.2,m.o];rfl,d.o⟩
  have q:(a.kind==2)=true:=aT.2 u;have a8:(a.kind !=2)=false:=by rw[bne,q];rfl
  have M:=zh (λe:jX j=>Calls.ext (e:=e) (FR a.text e.val S));obtain⟨e3,e4,e5,a9,b0,b1⟩:=R.o.box;have b2:=zh a9;have d0:=zh b0;have d1:=zh b1;clear a9 b0 b1;have J:=zh (λe:jX j=>FQ (Jc d0.o e.bel) d1.o (s:=a.text) S);cases x:mY a.text.data.toList
  case false=>
   have m:=ah (yg rs a=false) (by unfold yg;rw[x];simp);have b3:mY a.text.toList=false:=by rw[bz];exact x
   clear u x;go_upto_region 4 with(fail)
   refine Be aj aj ?_;have z:=λ(e:jX j) (i:Nat)=>(ae e.bel y.o).cell i
   have B:=λ(e:jX j) (i:Nat)=>(ae e.bel t.o).cell i
   repeat (go_big_quiet_step (fail))
   go_big_quiet_step ((rename_i e;exact M.o e))
   repeat (go_big_quiet_step (fail))
   refine wpQuiet_nil ?_;intro X C;obtain⟨⟨Y,l⟩,k⟩:=C;dsimp only at k;subst k;replace d:=jt d l;clear z B;go_wp2;exact aB (v:=.tuple #[qE,.bool false]) (by simp[results,results137,go_sem]) rfl ⟨by rw[h.o.1,h.o.2,m.o];rfl,d.o⟩
  have b3:mY a.text.toList=true:=by rw[bz];exact x
  cases D:mD rs a.text.data.toList
  case true=>
   have m:=ah (yg rs a=false) (by unfold yg;rw[x,D];simp);rw[D] at J;clear u x D;go_upto_region 4 with(fail)
   refine Be aj aj ?_;have z:=λ(e:jX j) (i:Nat)=>(ae e.bel y.o).cell i
   have B:=λ(e:jX j) (i:Nat)=>(ae e.bel t.o).cell i
   have Z:=λ(e:jX j) (i:Nat)=>(ae e.bel b2.o).cell i
   have a0:=J.o
   repeat (go_big_quiet_step (fail))
   go_big_quiet_step ((rename_i e;exact M.o e))
   repeat (go_big_quiet_step (fail))
   refine wpQuiet_nil ?_;intro X C;obtain⟨⟨Y,l⟩,k⟩:=C;dsimp only at k;subst k;replace d:=jt d l;clear z B;clear Z a0;go_wp2;exact aB (v:=.tuple #[qE,.bool false]) (by simp[results,results137,go_sem]) rfl ⟨by rw[h.o.1,h.o.2,m.o];rfl,d.o⟩
  have m:=ah (yg rs a=true) (by unfold yg;rw[x,D,aJ u];rfl);rw[D] at J;clear u x D;go_upto_region 4 with(fail)
  refine Be aj aj ?_;have z:=λ(e:jX j) (i:Nat)=>(ae e.bel y.o).cell i
  have B:=λ(e:jX j) (i:Nat)=>(ae e.bel t.o).cell i
  have Z:=λ(e:jX j) (i:Nat)=>(ae e.bel b2.o).cell i
  have a0:=J.o
  repeat (go_big_quiet_step (fail))
  go_big_quiet_step ((rename_i e;exact M.o e))
  repeat (go_big_quiet_step (fail))
  refine wpQuiet_nil ?_;intro X C;obtain⟨⟨Y,l⟩,k⟩:=C;dsimp only at k;subst k;replace d:=jt d l;replace y:=kp l y;replace t:=kp l t;clear l z B;clear Z a0 J M b3 q a8;have e6:=y.o.cell 1;have e7:=t.o.cell 0;have e8:=t.o.cell 1
  by_cases E:b.kind=2
  case neg=>
   have N:=zh (aK E);have q:(b.kind==2)=false:=bn E;clear E;go_upto_region 6 with(fail)
   go_quiet (fail)
   go_wp2;exact aB (v:=.tuple #[af a.text,.bool false]) (by simp[results,results137,go_sem]) rfl ⟨by rw[h.o.1,h.o.2,m.o,N.o];rfl,below_drewN d.o _⟩
  have N:=zh (aJ E);have q:(b.kind==2)=true:=aT.2 E;clear E
  by_cases F:b.text.data.toList=[61]
  ·have a1:=zh (aJ F);have d2:(b.text.toList==[61])=true:=by rw[bz,F];rfl
   clear F;go_upto_region 6 with(fail)
   go_quiet (fail)
   go_wp2;exact aB (v:=.tuple #[af a.text,.bool true]) (by simp[results,results137,go_sem]) rfl ⟨by rw[h.o.1,h.o.2,m.o,N.o,a1.o];rfl,below_drewN d.o _⟩
  ·have a1:=zh (aK F);have d2:(b.text.toList==[61])=false:=by rw[aZ,bz];exact F
   clear F;go_upto_region 6 with(fail)
   go_quiet (fail)
   go_wp2;exact aB (v:=.tuple #[af a.text,.bool false]) (by simp[results,results137,go_sem]) rfl ⟨by rw[h.o.1,h.o.2,m.o,N.o,a1.o];rfl,below_drewN d.o _⟩
end El
section
section
variable {P : Program} {ops : Array Oper} {Q : Exit -> Act -> World -> Prop} {X : Type}
@[reducible] def evAct (es:List Bool) (a0 F:Act) (i:Nat):Act:=if es.getD i false=true then a0 else F
def Gd (ops:Array Oper)(i:Nat)(o:Oper):Bool:=
 o.guard.isNone&&
 (o.op.operands.all fun| .tmp t=>(List.range ops.size).all λj=>fK ops j !=some t||((ops[j]?).map λoj=>kC oj i).getD true |_=>true)
def BP (ops:Array Oper)(es:List Bool)(i:Nat)(o:Oper):Bool:=if es.getD i false=true then Gd ops i o else xI ops o
def CZ (ops:Array Oper)(es:List Bool):Bool:=Region.noSelect ops&&yZ ops&&((List.range ops.size).all λi=>match ops[i]? with
 |some o=>BP ops es i o
 |none=>true)&&(List.range ops.size).all λi=>match ops[i]? with
 |some o=>o.after.all λe=> !Region.binds .any e||decide (e.on<i)
 |none=>true
def rV.early {vals:Nat->Value}{a0 F:Act}{L:Nat->Bool}{a:Act}(h:rV ops vals a0 L a){i:Nat}{o:Oper}(c:Gd ops i o=true)(g:∀j d,ops[j]?=some d->kC d i=true->L j=false):
  (∀x∈o.op.operands,a.eval x=a0.eval x)/\Region.wanted o (yielded ops a.tmps)=Region.wanted o (yielded ops F.tmps):=by
 unfold Gd at c;rw[aM] at c;obtain⟨f,k⟩:=c;refine⟨λx l=>?_,?_⟩
 ·cases x with
  |tmp t=>
   have m:=kU.1 k _ l;have e:a.tmps[t]?=a0.tmps[t]?:=h.rest t λj n b=>by
    have:=cz.1 m j (eu.2 (vC b));rw[b,cB (vC b)] at this;have p:kC (ops[j]'(vC b)) i=true:=by simpa using this
    have:=g j _ (cB (vC b)) p;rw[n] at this;cases this
   simp only[Act.eval,bR,e]
  |_=>rfl
 ·unfold Region.wanted;cases q:o.guard with
  |none=>rfl
  |some r=>rw[q] at f;cases f
def UC {es:List Bool}{vals:X->Nat->Value}{a0:Act}{Inv:(Nat->Bool)->X->World->Prop}(G:CZ ops es=true)(Y:∀L x w,Inv L x w->fM ops L)
  (Z:∀(i:Nat) (o:Oper) (L:Nat->Bool) (x:X) (w:World),ops[i]?=some o->L i=false->(∀e∈o.after,Region.binds .any e=true->L e.on=true)->Inv L x w->
   if Region.wanted o (yielded ops (fin ops (vals x) a0).tmps)=true then aP P (execOp (evAct es a0 (fin ops (vals x) a0) i).eval o) w (λv w'=>∃b,v=vals b i/\(∀j,L j=true->vals b j=vals x j)/\Inv (λj=>L j||j==i) b w') else vals x i=undef/\Inv (λj=>L j||j==i) x w)
  (a1:∀(L:Nat->Bool) (x:X) (w:World),(∀i,i<ops.size->L i=true)->Inv L x w->Q .normal (fin ops (vals x) a0) w):
  ∀(fuel:Nat) (listed:Array Bool) (x:X) (a:Act) (w:World),listed.size=ops.size->(listed.toList.countP (·==false))<=fuel->rV ops (vals x) a0 (λj=>listed.getD j false) a->Inv (λj=>listed.getD j false) x w->wpAny P .any ops Q fuel listed a w:=by
 simp only[CZ,aM] at G;obtain⟨⟨⟨a2,H⟩,a3⟩,a4⟩:=G;have I:∀(listed:Array Bool) (x:X) (a:Act) (w:World),listed.size=ops.size->rV ops (vals x) a0 (λj=>listed.getD j false) a->Inv (λj=>listed.getD j false) x w->Region.ready .any ops listed=[]->Q .normal a w:=by
  intro listed x a w f c d n;have J:∀i,i<ops.size->listed.getD i false=true:=by
   intro i
   induction i using Nat.strongRecOn with
   |_ i t=>
    intro g;refine oC λK=>?_
    have M:i∈Region.ready .any ops listed:=by
     rw[kr];refine⟨?_,ops[i],cB g,λe u p=>?_⟩
     ·have q:i<listed.size:=by omega
      simp only[bR,cB q,fB] at K⊢
      simpa using K
     ·have k:=cz.1 a4 i (eu.2 g);rw[cB g] at k;have N:=kU.1 k e u;rw[p] at N;have a5:e.on<i:=by simpa using N
      exact t e.on a5 aa
    rw[n] at M;cases M
  rw[c.end J];exact a1 _ x w J d
 intro fuel
 induction fuel with
 |zero=>
  intro listed x a w f a6 c d;have n:Region.ready .any ops listed=[]:=by
   rw[vv];intro j O;rw[kr] at O;obtain⟨z,o,A,_⟩:=O;have a7:j<listed.size:=by rw[f];exact(gD.1 A).1
   have r:listed[j]=false:=by simpa [bR,cB a7] using z
   have:0<listed.toList.countP (·==false):=rC.2 ⟨false,by rw[<-r];simp,rfl⟩;omega
  exact⟨n,I listed x a w f c d n⟩
 |succ fuel t=>
  intro listed x a w f a6 c d;refine⟨I listed x a w f c d,λi g=>?_⟩;rw[kr] at g;obtain⟨z,o,h,p⟩:=g;have q:i<ops.size:=(gD.1 h).1;have s:i<listed.size:=aa
  have r:listed[i]=false:=by simpa [bR,cB s] using z
  have B:listed.getD i false=false:=by simp[bR,cB s,r]
  have S:(λj=>(listed.setIfInBounds i true).getD j false)=λj=>listed.getD j false||j==i:=by
   funext j
   by_cases C:j=i
   ·subst C;simp[bR,s]
   ·rw[kv false (ou C)];simp[C]
  have a8:(listed.setIfInBounds i true).toList.countP (·==false)<=fuel:=by
   rw[oM];have a9:i<listed.toList.length:=by simpa using s
   have b9:listed.toList.countP (·==false)=(listed.toList.set i true).countP (·==false)+1:=by
    exact CJ _ _ (by rw[nJ a9];simpa using r)
   omega
  have b0:=Y _ x w d;have l:BP ops es i o=true:=by
   have k:=cz.1 a3 i (eu.2 q);rw[h] at k;exact k
  obtain⟨b1,b2⟩:(∀y∈o.op.operands,a.eval y=(evAct es a0 (fin ops (vals x) a0) i).eval y)/\Region.wanted o (yielded ops a.tmps)=Region.wanted o (yielded ops (fin ops (vals x) a0).tmps):=by
   unfold BP at l;unfold evAct
   by_cases T:es.getD i false=true
   ·rw[ak T] at l⊢;exact c.early l λj b3 A U=>by
     cases b4:listed.getD j false with
     |false=>rfl
     |true=>
      unfold kC at U;obtain⟨e,u,D⟩:=vo.1 U;rw[aM,aT] at D;have:=b0 j b3 A b4 e u D.2;rw[D.1] at this;have V:listed.getD i false=true:=this;rw[B] at V;cases V
   ·rw[ai T] at l⊢;exact c.eval l p
  have b5:execOp a.eval o=execOp (evAct es a0 (fin ops (vals x) a0) i).eval o:=nN o (λb6 b7=>nO a2 i o b6 b7 h) b1;have m:=Z i o _ x w h B p d;have b8:o.dst=fK ops i:=by unfold fK;rw[h];rfl
  have next:∀b w',(∀j,listed.getD j false=true->vals b j=vals x j)->Inv (λj=>listed.getD j false||j==i) b w'->wpAny P .any ops Q fuel (listed.setIfInBounds i true) (a.put o.dst (vals b i)) w':=by
   intro b w' E F;refine t _ b _ w' (by simpa using f) a8 ?_ (by rw[S];exact F);rw[S,b8];exact(c.swap H E).put H i q B
  unfold wpOp;simp only[h];rw[b2]
  by_cases W:Region.wanted o (yielded ops (fin ops (vals x) a0).tmps)=true
  ·rw[ak W] at m⊢;refine .inl (aP.wp (R:=λv w'=>∃b,v=vals b i/\(∀j,listed.getD j false=true->vals b j=vals x j)/\Inv (λj=>listed.getD j false||j==i) b w') (by rw[b5];exact m) ?_);rintro v w' ⟨b,rfl,E,F⟩;exact next b w' E F
  ·rw[ai W] at m⊢;rw[<-m.1];exact next x w (λ_ _=>rfl) m.2
def BQ (P:Program)(F:Nat->X->Act)(ops:Array Oper)(tr:List Nat)(vs:X->List Value)(Inv:List Bool->X->World->Prop):Nat->List Oper->List Bool->Prop
 |i,o::os,true::bs=>(∀(L:Nat->Bool) (x:X) (w:World),L i=false->(∀j,dR ops j ops.size i=true->L j=true)->(∀j,dR ops i ops.size j=true->L j=false)->Inv (tr.map L) x w->aP P (execOp (F i x).eval o) w λu w'=>∃x',u=(vs x').getD i undef/\lK ops i (vs x) (vs x')/\Inv (tr.map λj=>j==i||L j) x' w')/\BQ P F ops tr vs Inv (i+1) os bs
 |i,_::os,false::bs=>((∀x,(vs x).getD i undef=undef)/\∀(L:Nat->Bool) (x:X) (w:World),Inv (tr.map L) x w->Inv (tr.map λj=>j==i||L j) x w)/\BQ P F ops tr vs Inv (i+1) os bs
 |_,[],[]=>True
 |_,_,_=>False
def BQ.at_ {F:Nat->X->Act}{c:List Nat}{d:X->List Value}{Inv:List Bool->X->World->Prop}:∀{n:Nat} {os:List Oper} {bs:List Bool},BQ P F ops c d Inv n os bs->∀{i:Nat} {o:Oper},os[i]?=some o->∃b,bs[i]?=some b/\
  if b=true then(∀(L:Nat->Bool) (x:X) (w:World),L (n+i)=false->(∀j,dR ops j ops.size (n+i)=true->L j=true)->(∀j,dR ops (n+i) ops.size j=true->L j=false)->Inv (c.map L) x w->aP P (execOp (F (n+i) x).eval o) w λu w'=>∃k,u=(d k).getD (n+i) undef/\lK ops (n+i) (d x) (d k)/\Inv (c.map λj=>j==(n+i)||L j) k w')
  else(∀x,(d x).getD (n+i) undef=undef)/\∀(L:Nat->Bool) (x:X) (w:World),Inv (c.map L) x w->Inv (c.map λj=>j==(n+i)||L j) x w
 |n,[],[],_,i,o,h=>by simp at h
 |n,o::os,true::bs,⟨e,f⟩,0,a,h=>by
  obtain rfl:o=a:=by simpa using h
  exact⟨true,rfl,by rw[ak rfl];exact e⟩
 |n,o::os,false::bs,⟨e,f⟩,0,a,h=>⟨false,rfl,by rw[ai aS];exact e⟩
 |n,o::os,true::bs,⟨e,f⟩,i+1,a,h=>by
  obtain⟨b,l,g⟩:=BQ.at_ f (i:=i) (o:=a) (by simpa using h);rw[show n+1+i=n+(i+1) from aa] at g;exact⟨b,by simpa using l,g⟩
 |n,o::os,false::bs,⟨e,f⟩,i+1,a,h=>by
  obtain⟨b,l,g⟩:=BQ.at_ f (i:=i) (o:=a) (by simpa using h);rw[show n+1+i=n+(i+1) from aa] at g;exact⟨b,by simpa using l,g⟩
 |_,[],_::_,h,_,_,_=>h.elim
 |_,_::_,[],h,_,_,_=>h.elim
def Nu {id:Nat}{a0:Act}{B:World}(M:P.follows .mixedOrders=true)(es:List Bool)(F:X->Act)(a:X->List Value)(bs:List Bool)(b:List Nat)(Inv:List Bool->X->World->Prop)(C:X)(N:CZ ops es=true)(D:∀x,fin ops (λi=>(a x).getD i undef) a0=F x)
  (O:∀x,((List.range ops.size).map λi=>((ops[i]?).map λo=>Region.wanted o (yielded ops (F x).tmps)).getD true)=bs) (R:(b.all λi=>decide (i<ops.size))=true) (S:Inv (b.map λ_=>false) C B.drew) (T:BQ P (λi x=>evAct es a0 (F x) i) ops b a Inv 0 ops.toList bs) (E:∀(x:X) (w:World),Inv (b.map λ_=>true) x w->Q .normal (F x) w):(Code.region id ops true).wp P Q a0 B:=by
 refine oN M ?_;refine UC (es:=es) (vals:=λx i=>(a x).getD i undef) (a0:=a0) (Inv:=λL x w=>fM ops L/\Inv (b.map L) x w) N (λL x w h=>h.1) (λi o L x w k n G f=>?_) (λL x w U f=>?_) ops.size (Array.replicate ops.size false) C a0 _ aS (by
  refine ax (rD) ?_;simp) ⟨rfl,rfl,λi a2 _ h=>?_,λ_ _=>rfl⟩ ⟨λi o _ h=>?_,?_⟩
 ·obtain⟨m,f⟩:=f;have p:i<ops.size:=(gD.1 k).1;obtain⟨a3,q,g⟩:=T.at_ (i:=i) (o:=o) (by rw[gF];exact k);rw[fe] at g;rw[<-O x,gL,kX p] at q;simp only[je,k,fB,gV] at q;have H:=BC m k G;have s:fin ops (λi=>(a x).getD i undef) a0=F x:=D x;rw[s,q];have I:∀j,dR ops i ops.size j=true->L j=false:=λj c=>by
   cases V:L j with
   |false=>rfl
   |true=>
    obtain⟨W,J⟩:=Fv c;have:=yE m J (m j W J V) c;rw[n] at this;cases this
  split
  ·rename_i t
   rw[ak t] at g;have K:aP P (execOp (evAct es a0 (F x) i).eval o) w _:=g L x w n (λj c=>yE m k G c) I f;unfold aP at K⊢;revert K;have y:∀u l,(∃d,u=(a d).getD i undef/\lK ops i (a x) (a d)/\Inv (b.map λj=>j==i||L j) d l)->∃d,u=(a d).getD i undef/\(∀j,L j=true->(a d).getD j undef=(a x).getD j undef)/\fM ops (λj=>L j||j==i)/\Inv (b.map λj=>L j||j==i) d l:=by
    rintro u l ⟨d,z,A,Y⟩;refine⟨d,z,λj c=>A j (λe=>by subst e;rw[n] at c;cases c) ?_,H,by rw[Ba];exact Y⟩;cases Z:dR ops i ops.size j with
    |false=>rfl
    |true=>rw[I j Z] at c;cases c
   generalize (execOp (evAct es a0 (F x) i).eval o).run P w=r;cases r with
   |halt e l=>exact λh=>h
   |ok a1 l=>
    cases a1 with
    |value v=>exact λh=>y _ _ h
    |skip=>exact λh=>y _ _ h
    |enter a4 args=>exact λh=>rA h λe a5 ⟨v,z,A⟩=>⟨v,z,y _ _ A⟩
    |_=>exact λh=>h
  ·rename_i t
   rw[ai t] at g;exact⟨g.1 x,H,by rw[Ba];exact g.2 L x w f⟩
 ·have e:b.map L=b.map λ_=>true:=rE λi p=>by
   have:=cz.1 R i p;exact U i (by simpa using this)
  rw[<-e] at E;have s:fin ops (λi=>(a x).getD i undef) a0=F x:=D x;show Q .normal (fin ops (λi=>(a x).getD i undef) a0) w;rw[s];exact E x w f.2
 ·rw[bR,iC] at h
  split at h<;>simp at h
 ·dsimp only at h;rw[bR,iC] at h
  split at h<;>simp at h
 ·have e:(λj=>(Array.replicate ops.size false).getD j false)=λ_=>false:=by
   funext j
   rw[bR,iC]
   split<;>rfl
  rw[e];exact S
end
end
end Go.Proofs.YtlefbenkhgbifaaGreatDoor
