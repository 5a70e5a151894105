/- The array of the parts, the array of the rules; the parts of items, plain. -/
import Derived.Test.YtlefbenkhgbifaaGreatDoorH1c8d5872
import Derived.Laws.MakeOwn
set_option linter.all false
set_option maxHeartbeats 800000
namespace Go.Proofs.YtlefbenkhgbifaaGreatDoor.El
open At Ch Sp Sy Go.RowKit Tryz
variable{n:aG}{w:World}{B q gp k m:Nat}{ts:List ByteArray}{ad:Addr}{ks:List aC}{ps xs:List gP}{p:gP}{rs:List aD}{path:List Int}{kd:Nat->Int}{l:List aG}
def Jw:∀{ts:List aG} {i:Nat} {n:aG},ts[i]?=some n->dK n<=bK ts
 |[],i,n,h=>by simp at h
 |t::ts,0,n,h=>by
  obtain rfl:t=n:=by simpa using h
  rw[bK];omega
 |t::ts,i+1,n,h=>by
  have:=Jw (ts:=ts) (i:=i) (n:=n) (by simpa using h);rw[bK];omega
def Jy {rs:List aD}:∀{l:List aG} {i:Nat},jP rs l= .inr i->i<l.length
 |[],i,h=>by simp[jP] at h
 |x::l,i,h=>by
  simp only[jP] at h;rw[aY];cases b:xZ rs x with
  |none=>rw[b] at h;simp only[Sum.inr.injEq] at h;omega
  |some t=>
   rw[b] at h;dsimp only at h;cases a:jP rs l with
   |inl us=>rw[a] at h;cases h
   |inr j=>
    rw[a] at h;simp only[Sum.inr.injEq] at h;have:=Jy a;omega
def Ew {k:Int}:∀{ts:List aG},nz k ts=true->∀t∈ts,fJ t=true/\sF k t.kind=false
 |[],_,t,h=>by cases h
 |x::ts,a,t,h=>by
  rw[nz] at a;simp only[aM,nI] at a;rcases dD.1 h with rfl|h
  ·exact⟨a.2.1,a.1⟩
  ·exact Ew a.2.2 t h
def UW (h:fJ n=true):(eH n).text.size<=1000:=by
 unfold eH
 split
 ·split
  ·next b ks hks=>
   split
   ·next x hx=>
    have a:=(Aq (s:=0) (d:=b) h (by rw[hks];rfl)).1;exact Au (Aq (s:=0) (d:=x) a (by rw[hx];rfl)).1
   ·exact Au h
  ·exact Au h
 ·exact Au h
def Jz {rs:List aD}:∀{l:List aG} {ts:List ByteArray},(∀n∈l,fJ n=true)->jP rs l= .inl ts->∀t∈ts,t.size<=1000
 |[],ts,_,h,t,a=>by
  simp only[jP,rJ] at h;rw[<-h] at a;cases a
 |x::l,ts,c,h,t,a=>by
  simp only[jP,FU] at h;cases d:ma rs x with
  |false=>rw[d] at h;simp at h
  |true=>
   rw[d,ak rfl] at h;dsimp only at h;cases b:jP rs l with
   |inr j=>rw[b] at h;cases h
   |inl us=>
    rw[b] at h;simp only[rJ] at h;rw[<-h] at a;rcases dD.1 a with rfl|a
    ·unfold iM
     split
     ·exact UW (c x bZ)
     ·decide
    ·exact Jz (λn e=>c n (dP _ e)) b t a
def uJ.at_ {v:Value}(h:uJ w B v ts)(g:∀t∈ts,t.size<=1000):∃f e,v= .slice f ts.length e/\ts.length<=e/\e<=9223372036854775807/\uT w f ts:=by
 obtain⟨r,j⟩:=h;rcases j with⟨rfl,k⟩|⟨a,l,m,rfl,s,b,n,o,u,p⟩
 ·obtain rfl:ts=[]:=eP.1 k;exact⟨none,0,rfl,aH _,aa,λi t c=>by simp at c⟩
 ·have b:au w a 9 m:=b;refine⟨_,l,rfl,n,by unfold maxLen at o;omega,λi t c=>⟨av (g t (dQ c)),(ag a (0)),rfl,b.lt,?_⟩⟩;have q:=b.cell i;have d:(ts.map Value.string)[i]?=some (af t):=by rw[gL,c];rfl
  rw[<-p,gU] at d
  split at d
  ·rw[show(⟨a,0,none⟩:Addr).add i=(ag a i) by unfold Addr.add;split<;>simp_all,q,<-gF];exact d
  ·cases d
def JA:∀ts:List aG,ts.length<=bK ts
 |[]=>aH _
 |t::ts=>by
  obtain⟨k,a,b,ks⟩:=t;rw[aY,bK,dK];have:=JA ts;omega
def NG {ts:List aG}(h:mO w (some ad) ts)(k:Nat):mO w (some (ad.add (k*4))) (ts.drop k):=λi t a=>by
 rw[rO] at a;obtain⟨l,b,d,c,e,f⟩:=h (k+i) t a;obtain rfl:=sj b;refine⟨_,rfl,by rw[gX];exact d,c,e,λj g=>?_⟩;rw[Ch.Sb,<-f j g]
 congr 2
 omega
def NH {ok:Nat->Prop}{A:Option Addr}(h:qw ok w A ks):∃css:List (Array Value),css.length=ks.length/\(∀(j:Nat) c x,css[j]?=some c->ks[j]?=some x->bH ok w x c)/\dL w w.heap.size 5 A ks.length (css.flatMap (·.toList)):=by
 have z:∀i:Nat,∃c:Array Value,∀x,ks[i]?=some x->bH ok w x c/\∃ad:Addr,A=some ad/\ad.block<w.heap.size/\∀j,j<5->w.cell? (ad.add (i*5+j))=c[j]?:=λi=>by
  cases m:ks[i]? with
  |none=>exact⟨#[],λx h=>by cases h⟩
  |some x=>
   obtain⟨ad,f,B,_,c,C,g⟩:=h i x m;refine⟨c,λy D=>?_⟩;cases D;exact⟨C,ad,f,B,g⟩
 obtain⟨b,k⟩:=rG z;have n:((List.range ks.length).map b).length=ks.length:=aS
 have r:∀(j:Nat) c,((List.range ks.length).map b)[j]?=some c->j<ks.length/\c=b j:=λj c a=>by
  rw[gL] at a;rcases bu j ks.length with d|d
  ·rw[kX d] at a;exact⟨d,(sj a).symm⟩
  ·rw[ko (by simpa using d)] at a;cases a
 have o:∀c∈(List.range ks.length).map b,c.size=5:=λc e=>by
  obtain⟨j,a⟩:=gz.1 e;obtain⟨d,rfl⟩:=r j c a;exact(k j _ (gE d)).1.size
 refine⟨(List.range ks.length).map b,n,λj c x a m=>?_,?_,λE=>?_⟩
 ·obtain⟨_,rfl⟩:=r j c a;exact(k j x m).1
 ·have p:∀l:List (Array Value),(∀c∈l,c.size=5)->(l.flatMap (·.toList)).length=l.length*5:=by
   intro l
   induction l with
   |nil=>intro _;rfl
   |cons c l q=>
    intro h;rw[gT,aO,q λc e=>h c (dP _ e),aY,qh,h c bZ];omega
  rw[p _ o,n]
 ·obtain⟨_,ad,s,F,_⟩:=k 0 _ (gE E);refine⟨ad,s,F,λj u a=>?_⟩;have G:j<((List.range ks.length).map b).length*5:=by
   have f:=(bP.1 a).1;have p:∀l:List (Array Value),(∀c∈l,c.size=5)->(l.flatMap (·.toList)).length=l.length*5:=by
    intro l
    induction l with
    |nil=>intro _;rfl
    |cons c l q=>
     intro h;rw[gT,aO,q λc e=>h c (dP _ e),aY,qh,h c bZ];omega
   rw[p _ o] at f;exact f
  rw[n] at G;have t:j/5<ks.length:=aa
  obtain⟨_,H,I,_,J⟩:=k (j/5) _ (gE t);obtain rfl:ad=H:=sj (s.symm.trans I);have g:=J (j%5) (Nat.mod_lt _ aa);have K:((List.range ks.length).map b)[j/5]?=some (b (j/5)):=by rw[gL,kX t];rfl
  have v:=Sp.zi _ (j/5) (j%5) (b (j/5)) o K (Nat.mod_lt _ aa);rw[show j/5*5+j%5=j from aa] at g v;rw[g,<-v,a]
def _root_.Go.Proofs.YtlefbenkhgbifaaGreatDoor.Sp.dU.copy {ok P:Nat->Prop}{w':World}{v:Value}{css:List (Array Value)}(d:css.length=ks.length)(f:∀(j:Nat) c x,css[j]?=some c->ks[j]?=some x->bH ok w x c)(a:w'.ownsRow B 25 5 v ks.length (css.flatMap (·.toList)))(g:Below w.heap.size w w')(i:∀b,b<w.heap.size->ok b->P b/\b<B):dU P w' B v ks:=by
 refine⟨css,a,d,λj c x k l=>((f j c x k l).any (ok':=λb=>P b/\b<B) i|>.keep g).any λb _ h=>⟨λe=>?_,h.1⟩⟩;have:=(bA a b e).1;omega
def gH (ok:Nat->Prop)(w:World)(ad:Addr)(ps:List gP):Prop:=ad.block<w.heap.size/\∀(q:Nat) (p:gP),ps[q]?=some p->∃c,uV ok w p c/\∀j,j<8->w.cell? (ad.add (q*8+j))=c[j]?
def uV.keep {ok:Nat->Prop}{w w':World}{p:gP}{c:Array Value}(h:uV ok w p c)(b:Below w.heap.size w w'):uV ok w' p c:=by
 obtain⟨k,a,v,f,d,e,g,A,i,rfl,j,l,m,n,o⟩:=h;exact⟨k,a,v,f,d,e,g,A,i,rfl,j.keep b,l,m,n.keep b,o⟩
def uV.any {ok ok':Nat->Prop}{w:World}{p:gP}{c:Array Value}(h:uV ok w p c)(d:∀b,b<w.heap.size->ok b->ok' b):uV ok' w p c:=by
 obtain⟨k,a,v,f,e,g,i,A,j,rfl,l,m,n,o,q⟩:=h;exact⟨k,a,v,f,e,g,i,A,j,rfl,l.any d,m,n,o.any d,q⟩
def gH.keep {ok:Nat->Prop}{w w':World}{ad:Addr}{ps:List gP}(h:gH ok w ad ps)(a:Below w.heap.size w w'):gH ok w' ad ps:=
 ⟨ll h.1 a.size,λq p b=>by
  obtain⟨c,d,e⟩:=h.2 q p b;exact⟨c,d.keep a,λj f=>by rw[a.cell (by rw[gX];exact h.1)];exact e j f⟩⟩
def gH.grown {ok:Nat->Prop}{w w':World}{ad:Addr}{ps:List gP}{g:Nat}(h:gH ok w ad ps)(d:w.grownBy w' (some g))(m:ad.block≠g)(l:∀b,ok b->b≠g):gH ok w' ad ps:=
 ⟨ll h.1 d.size,λq p n=>by
  obtain⟨c,⟨k,a,v,f,o,r,s,A,t,rfl,u,x,y,z,B⟩,C⟩:=h.2 q p n;refine⟨_,⟨k,a,v,f,o,r,s,A,t,rfl,u.grown d (λb _ i e=>l b i (sj e)) (λ_ _ h=>h),x,y,z.map d.size (λ_ _ h=>h) (λp _ i=>dm (d.block _ ‹_› λe=>l _ i (sj e))),B⟩,λj D=>?_⟩;rw[<-C j D];exact dm (d.block _ (by rw[gX];exact h.1) λe=>m (by rw[gX] at e;exact sj e))⟩
def gH.at_ {ok:Nat->Prop}(h:gH ok w ad ps)(i:ps[q]?=some p):∃k a v f d e g A cap,
  bH ok w p.opnd #[qI k,af a,af v,.slice d e g,af f]/\p.scr.length<=cap/\cap<=9223372036854775807/\qw ok w A p.scr/\p.fin.size<=1000/\p.vr.size<=1000/\p.scr.length<=1000/\
  w.cell? (ad.add (q*8))=some (qI k)/\w.cell? ⟨(ad.add (q*8)).block,(ad.add (q*8)).off+1,none⟩=some (af a)/\w.cell? ⟨(ad.add (q*8)).block,(ad.add (q*8)).off+2,none⟩=some (af v)/\w.cell? ⟨(ad.add (q*8)).block,(ad.add (q*8)).off+3,none⟩=some (.slice d e g)/\w.cell? ⟨(ad.add (q*8)).block,(ad.add (q*8)).off+4,none⟩=some (af f)/\w.cell? ⟨(ad.add (q*8)).block,(ad.add (q*8)).off+5,none⟩=some (.slice A p.scr.length cap)/\w.cell? ⟨(ad.add (q*8)).block,(ad.add (q*8)).off+6,none⟩=some (af p.fin)/\w.cell? ⟨(ad.add (q*8)).block,(ad.add (q*8)).off+7,none⟩=some (af p.vr):=by
 obtain⟨c,⟨k,a,v,f,d,e,g,A,cap,rfl,l,m,n,o,r,s,t⟩,b⟩:=h.2 q p i;exact⟨k,a,v,f,d,e,g,A,cap,l,m,n,o,r,s,t,b 0 aa,Sp.uU (j:=0) (b 1 aa),Sp.uU (j:=1) (b 2 aa),Sp.uU (j:=2) (b 3 aa),Sp.uU (j:=3) (b 4 aa),Sp.uU (j:=4) (b 5 aa),Sp.uU (j:=5) (b 6 aa),Sp.uU (j:=6) (b 7 aa)⟩
def NI {rs:List aD}{ps:List gP}:∀{ks:List Rd} {es:List Int} {t:Nat} {y:Rd} {e:Int},ks[t]?=some y->es[t]?=some e->iF rs ps (ks.take (t+1)) (es.take (t+1))=iF rs ps (ks.take t) (es.take t)++[mi rs ps y e]
 |[],_,_,_,_,h,_=>by simp at h
 |_::_,[],_,_,_,_,h=>by simp at h
 |k::ks,b::es,0,y,e,h,a=>by
  simp only[iD,gV] at h a;subst h a;simp[iF]
 |k::ks,b::es,t+1,y,e,h,a=>by
  simp only[eD] at h a;rw[fo,fo,fo,fo,iF,iF,NI h a,iB]
def NJ {rs:List aD}{ps:List gP}:∀{ks:List Rd} {es:List Int},(iF rs ps ks es).length<=ks.length
 |[],es=>by cases es<;>simp[iF]
 |_::_,[]=>by simp[iF]
 |k::ks,e::es=>by
  rw[iF,aY,aY];have:=NJ (rs:=rs) (ps:=ps) (ks:=ks) (es:=es);omega
def NK (rs:List aD)(ps:List gP)(r a:Int)(ks:List Rd)(e:Int):mi rs ps (.mk r a ks) e=if r<0 then(match ps[a.toNat]? with
   |some p=>p.opnd
   |none=>pO) else pQ (vX rs r) (dF rs r) (if 0<=eY rs (.mk r a ks) e then ps[(eY rs (.mk r a ks) e).toNat]? else none) (iF rs ps ks (iI rs (.mk r a ks) e)):=by
 rw[mi];rfl
def zO (w:World)(g:Nat):Nat->List Value->World
 |_,[]=>w
 |b,u::us=>zO (w.setCell (ag g b) u) g (b+1) us
def Bi (cs:Array Value):Nat->List Value->Array Value
 |_,[]=>cs
 |b,u::us=>Bi (cs.setIfInBounds b u) (b+1) us
def NM:∀(us:List Value) (a:Array Value) (b:Nat),(Bi a b us).size=a.size
 |[],_,_=>rfl
 |u::us,a,b=>by rw[Bi,NM us];simp
def JB:∀(us:List Value) (a:Array Value) (b i:Nat),b+us.length<=a.size->(Bi a b us)[i]?=if b<=i/\i<b+us.length then us[i -b]? else a[i]?
 |[],a,b,i,h=>by
  rw[Bi,ai];simp
 |u::us,a,b,i,h=>by
  rw[aY] at h;rw[Bi,JB us _ _ i (by simp;omega),aY]
  by_cases c:b+1<=i/\i<b+1+us.length
  ·rw[ak c,ak aa,show i -b=(i -(b+1))+1 from aa,eD]
  ·rw[ai c]
   by_cases d:i=b
   ·subst d;rw[ak aa,oq,iD,Array.getElem?_setIfInBounds_self_of_lt aa]
   ·rw[ai aa,wG aa]
def NN {t:TypeId}:∀(us:List Value) (w:World) (g b:Nat) (a:Array Value),au w g t a->au (zO w g b us) g t (Bi a b us)
 |[],_,_,_,_,h=>h
 |u::us,_,g,b,_,h=>NN us _ g (b+1) _ (h.set_ b u)
def Dc:∀(us:List Value) (w:World) (g b:Nat),w.grownBy (zO w g b us) (some g)
 |[],_,_,_=>⟨rfl,rfl,rfl,aH _,λ_ _ _=>rfl⟩
 |u::us,w,g,b=>vJ (kJ w (ag g b) u) (Dc us _ g (b+1))
def kP (ok:Nat->Prop)(w:World)(gp:Nat)(ps:List gP):Prop:=∃cs,au w gp 143 cs/\cs.size=ps.length*8/\∀(q:Nat) (p:gP),ps[q]?=some p->∃c,uV ok w p c/\∀j,j<8->cs[q*8+j]?=c[j]?
def kP.keep {ok:Nat->Prop}{w w':World}{gp:Nat}{ps:List gP}(h:kP ok w gp ps)(a:Below w.heap.size w w'):kP ok w' gp ps:=by
 obtain⟨b,d,e,f⟩:=h;refine⟨b,jL a d,e,λq p g=>?_⟩;obtain⟨c,i,j⟩:=f q p g;exact⟨c,i.keep a,j⟩
def kP.any {ok ok':Nat->Prop}{w:World}{gp:Nat}{ps:List gP}(h:kP ok w gp ps)(a:∀b,b<w.heap.size->ok b->ok' b):kP ok' w gp ps:=by
 obtain⟨d,e,f,g⟩:=h;refine⟨d,e,f,λq p i=>?_⟩;obtain⟨c,j,k⟩:=g q p i;exact⟨c,j.any a,k⟩
def kP.at_ {ok:Nat->Prop}(h:kP ok w gp ps):gH ok w (ag gp (0)) ps:=by
 obtain⟨i,a,k,b⟩:=h;refine⟨a.lt,λq p d=>?_⟩;obtain⟨c,e,f⟩:=b q p d;refine⟨c,e,λj g=>?_⟩;rw[show(⟨gp,0,none⟩:Addr).add (q*8+j)=(ag gp (q*8+j)) by unfold Addr.add;split<;>simp_all,a.cell,f j g]
def uV.grown {ok:Nat->Prop}{w w':World}{g:Nat}{p:gP}{c:Array Value}(h:uV ok w p c)(d:w.grownBy w' (some g))(j:∀b,ok b->b≠g):uV ok w' p c:=by
 obtain⟨k,a,v,f,l,m,n,A,o,rfl,q,r,s,t,u⟩:=h;exact⟨k,a,v,f,l,m,n,A,o,rfl,q.grown d (λb _ i e=>j b i (sj e)) (λ_ _ h=>h),r,s,t.map d.size (λ_ _ h=>h) (λp _ i=>dm (d.block _ ‹_› λe=>j _ i (sj e))),u⟩
def kP.put {ok:Nat->Prop}(h:kP ok w gp ps)(k:q<ps.length)(us:List Value)(H:us.length<=8)(y:∀a f,ps[q]?=some a->uV ok w a f->∃c,uV ok w p c/\∀j,j<8->c[j]?=if j<us.length then us[j]? else f[j]?)(l:∀b,ok b->b≠gp):kP ok (zO w gp (q*8) us) gp (ps.set q p):=by
 obtain⟨d,z,m,n⟩:=h;have o:=Dc us w gp (q*8);have s:q*8+us.length<=d.size:=by rw[m];omega
 refine⟨Bi d (q*8) us,NN us w gp (q*8) d z,by rw[NM,m,uu],λr x g=>?_⟩;obtain⟨a,t⟩:∃a,ps[q]?=some a:=⟨_,gE k⟩
 obtain⟨f,A,B⟩:=n q a t
 by_cases u:r=q
 ·subst u;rw[wH k] at g;obtain rfl:=sj g;obtain⟨c,C,D⟩:=y a f t A;refine⟨c,C.grown o l,λj i=>?_⟩;rw[JB us d _ _ s,D j i]
  by_cases v:j<us.length
  ·rw[ak aa,ak v,show r*8+j -r*8=j from aa]
  ·rw[ai aa,ai v,B j i]
 ·rw[wI (λe=>u e.symm)] at g;obtain⟨E,F,G⟩:=n r x g;refine⟨E,F.grown o l,λj i=>?_⟩;rw[JB us d _ _ s,ai aa,G j i]
def kP.putT {ok:Nat->Prop}(h:kP ok w gp ps)(c:ps[q]?=some lZ){t:aC}{tk:Int}{ta tv tf:ByteArray}{tA:Option Addr}{tn tc:Nat}(g:bH ok w t #[qI tk,af ta,af tv,.slice tA tn tc,af tf])(i:∀b,ok b->b≠gp):kP ok (zO w gp (q*8) [qI tk,af ta,af tv,.slice tA tn tc,af tf]) gp (ps.set q ⟨t,[],⟨#[]⟩,⟨#[]⟩⟩):=by
 refine h.put (bP.1 c).1 _ aS (λs u d l=>?_) i;rw[c] at d;obtain rfl:=sj d;obtain⟨k,a,v,f,x,y,z,A,m,rfl,_,n,o,p,r⟩:=l;refine⟨_,⟨tk,ta,tv,tf,tA,tn,tc,A,m,rfl,g,n,o,p,r⟩,λj e=>?_⟩
 match j,e with
 |0,_|1,_|2,_|3,_|4,_|5,_|6,_|7,_=>rfl
 |j+8,e=>omega
def kP.putP {ok:Nat->Prop}(h:kP ok w gp ps)(m:q<ps.length){a c d e f g i k:Value}(n:uV ok w p #[a,c,d,e,f,g,i,k])(o:∀b,ok b->b≠gp):kP ok (zO w gp (q*8) [a,c,d,e,f,g,i,k]) gp (ps.set q p):=by
 refine h.put m _ aS (λr s _ _=>⟨_,n,λj l=>?_⟩) o
 match j,l with
 |0,_|1,_|2,_|3,_|4,_|5,_|6,_|7,_=>rfl
 |j+8,l=>omega
def ww (tot:bO (List gP))(xs:List gP)(rest:bO (List gP)):Prop:=tot=rest.then_ λts=>.ok (xs++ts)
def ww.start (m:bO (List gP)):ww m [] m:=by
 unfold ww;cases m<;>rfl
def ww.bad {a:bO (List gP)}{xs:List gP}{m:bO gP}{F:gP->bO (List gP)}{b:Int}{p:List Int}(h:ww a xs (m.then_ F))(c:m= .bad b p):a= .bad b p:=by
 unfold ww at h;rw[h,c];rfl
def ww.next {a:bO (List gP)}{m:bO gP}{r:bO (List gP)}{t:gP}(h:ww a xs (m.then_ λt=>r.then_ λts=>.ok (t::ts)))(b:m= .ok t):ww a (xs++[t]) r:=by
 unfold ww at*;rw[h,b];cases r with
 |ok ts=>simp[bO.then_]
 |bad e p=>rfl
def ww.end {a:bO (List gP)}(h:ww a xs (.ok [])):a= .ok xs:=by
 unfold ww at h;rw[h];simp[bO.then_]
def UX {M:List aG->List Int->Nat->bO aC}{i:Nat}{t:ByteArray}(a:l[i]?=some n)(b:ts[i]?=some t):pR rs M path kd k (l.drop i) (ts.drop i) i=(if t.data.toList=[35] then qH M n (path++[((k+i:Nat):Int)]) else lL rs M n (path++[((k+i:Nat):Int)]) (decide (kd i=2))).then_ λp=>(pR rs M path kd k (l.drop (i+1)) (ts.drop (i+1)) (i+1)).then_ λps=>.ok (p::ps):=by
 obtain⟨c,rfl⟩:=bP.1 a;obtain⟨d,rfl⟩:=bP.1 b;rw[ib c,ib d,pR]
def UY {M:List aG->List Int->Nat->bO aC}:pR rs M path kd k (l.drop l.length) (ts.drop l.length) l.length= .ok []:=by
 rw[nQ];cases ts.drop l.length<;>simp[pR]
def NP {done:List gP}:(done++List.replicate (m+1) lZ).set done.length p=(done++[p])++List.replicate m lZ:=by
 rw[List.replicate_succ,List.set_append_right _ _ (aH _),oq,List.set_cons_zero,cu];rfl
def UZ {done:List gP}:(done++List.replicate (m+1) lZ)[done.length]?=some lZ:=by
 rw[cO (aH _),oq];rfl
def Va (n:Nat):madeCells #[qI 0] n=(dG (List.replicate n 0)).toArray:=by
 refine Array.ext (by simp[madeCells,dG]) λi a b=>?_
 simp[madeCells,dG,Nat.mod_one]
def Vb (ok:Nat->Prop)(w:World)(n:Nat):kP ok (w.alloc (.cells (madeCells qU (n*8)) 143)) w.heap.size (List.replicate n lZ):=by
 refine⟨_,au.new w _ _,by rw[size_madeCells,mG],λq p a=>?_⟩;have c:q<n:=by have:=(bP.1 a).1;simpa using this
 have d:p=lZ:=by
  rw[List.getElem?_replicate,ak c] at a;exact(sj a).symm
 subst d;refine⟨qU,⟨_,_,_,_,_,_,_,_,_,rfl,Jp _ _,aH _,aI,(λi x h=>by simp[lZ] at h),aI,aI,aI⟩,λj e=>?_⟩;have f:q*8+j<(madeCells qU (n*8)).size:=by rw[size_madeCells];omega
 rw[cB f];have b:qU.size=8:=rfl;have g:(q*8+j)%8=j:=aa
 have k:qU[j]?=some qU[j]!:=by
  rw[cB (by rw[b];exact e),getElem!_pos]
 rw[k]
 congr 1
 simp only[madeCells,Array.getElem_map,Array.getElem_range,b,g]
def Vd (k:Int)(w:World):Calls prog 138 #[qI k] w λe w'=>e= .returned (af (iW k))/\w'=w:=by
 by_cases a:k=1
 ·subst a;go_enter func138,ntmps138;go_wp2;go_ret;exact⟨rfl,rfl⟩
 have f:(k==1)=false:=bn a
 by_cases b:k=2
 ·subst b;go_enter func138,ntmps138;go_wp2;go_ret;exact⟨rfl,rfl⟩
 have g:(k==2)=false:=bn b
 by_cases c:k=3
 ·subst c;go_enter func138,ntmps138;go_wp2;go_ret;exact⟨rfl,rfl⟩
 have h:(k==3)=false:=bn c;have d:=ah (iW k=kE) (by unfold iW;rw[ai a,ai b,ai c]);clear a b c;go_enter func138,ntmps138;go_wp2;go_ret;exact⟨by rw[d.o];rfl,rfl⟩
end Go.Proofs.YtlefbenkhgbifaaGreatDoor.El
