/- A region that draws its order and only adds memory, but for a tail that waits for all. -/
import Derived.Test.YtlefbenkhgbifaaGreatDoorH9da07cda
set_option linter.all false
namespace Go.Proofs.YtlefbenkhgbifaaGreatDoor
section
open Go.RowKit
variable{listed:Array Bool}{i id:Nat}{V:Nat->Value}{a0 A a:Act}{ks l:List Nat}{L:Nat->Bool}{o:Oper}{Q:Exit->Act->World->Prop}{es:List Bool}{w w' w0:World}{P:Program}{ops:Array Oper}
section
variable {P : Program} {ops : Array Oper} {Q : Exit -> Act -> World -> Prop} {X : Type}
def dB (k:Nat):Nat->List Nat->List Nat
 |_,[]=>[]
 |i,q::ks=>if q=k then i::dB k (i+1) ks else dB k (i+1) ks
abbrev rY (ks:List Nat)(i:Nat):Bool:=ks.getD i 1==3
abbrev qx (ks:List Nat)(i:Nat):Bool:=ks.getD i 1==2||ks.getD i 1==0
def Jl (ops:Array Oper)(ks:List Nat)(o:Oper):Bool:=
 (o.op.operands.all fun| .tmp t=>(List.range ops.size).all λj=>fK ops j !=some t|| !rY ks j |_=>true)&&
 (match o.guard with|none=>true|some (g,_)=> !rY ks g)
def BR (ops:Array Oper)(ks:List Nat)(es:List Bool):Bool:=CZ ops es&&decide (ks.length=ops.size)&&
 ((List.range ops.size).all λi=>match ops[i]? with
  |some o=>(!qx ks i||es.getD i false||Jl ops ks o)&&(!rY ks i||(o.guard.isNone&& !es.getD i false))
  |none=>true)&&
 ((dB 3 0 ks).all λt=>(List.range ops.size).all λi=>qx ks i||decide (t<=i&&rY ks i)||dR ops i ops.size t)
def Nv (h:listed.getD i true=false):listed.getD i false=false:=by
 rcases bu i listed.size with a|a
 ·simp[a] at h⊢;exact h
 ·simp[ig a] at h
def UD (d:yZ ops=true){j t:Nat}(a:fK ops i=some t)(b:fK ops j=some t):i=j:=by
 have e:=cz.1 d i (eu.2 (vC a));have c:=cz.1 e j (eu.2 (vC b));rw[a,b] at c
 simpa using c
structure vK (ops:Array Oper)(V:Nat->Value)(a0:Act)(ks:List Nat)(L:Nat->Bool)(A a:Act):Prop where
 size:a.tmps.size=a0.tmps.size
 sizeA:A.tmps.size=a0.tmps.size
 defers:a.defers=A.defers
 done:∀i t,fK ops i=some t->L i=true->a.tmps[t]?=A.tmps[t]?
 rest:∀t,(∀i,L i=true->fK ops i≠some t)->a.tmps[t]?=a0.tmps[t]?
 outer:∀t,(∀i,fK ops i≠some t)->A.tmps[t]?=a0.tmps[t]?
 head:∀i t,rY ks i=false->fK ops i=some t->A.tmps[t]?=(fin ops V a0).tmps[t]?
def vK.end (h:vK ops V a0 ks L A a)(f:∀i,i<ops.size->L i=true):a=A:=by
 have d:a.tmps=A.tmps:=by
  refine tX λt=>?_
  by_cases c:∃i,fK ops i=some t
  ·obtain⟨i,b⟩:=c;exact h.done i t b (f i (vC b))
  ·rw[h.rest t λi _ b=>c ⟨i,b⟩,h.outer t λi b=>c ⟨i,b⟩]
 have e:=h.defers;cases a;cases A;simp only at d e;rw[d,e]
def vK.start (h:rV ops V a0 L a):vK ops V a0 ks L (fin ops V a0) a:=
 ⟨h.size,(zb V _ a0).1,h.defers.trans (zb V _ a0).2.symm,h.done,h.rest,λt b=>BA V t _ a0 λi _ c=>b i c,λ_ _ _ _=>rfl⟩
def vK.eval {V:Nat->Value}{a0:Act}{ks:List Nat}{L:Nat->Bool}{A a:Act}(h:vK ops V a0 ks L A a){o:Oper}(c:xI ops o=true)(f:∀e∈o.after,Region.binds .any e=true->L e.on=true):
  (∀x∈o.op.operands,a.eval x=A.eval x):=by
 unfold xI at c;rw[aM] at c;intro x g;cases x with
 |tmp t=>
  have j:=kU.1 c.1 _ g;have e:a.tmps[t]?=A.tmps[t]?:=by
   by_cases d:∃i,fK ops i=some t
   ·obtain⟨i,b⟩:=d;have:=cz.1 j i (eu.2 (vC b));rw[b] at this;exact h.done i t b (DX (by simpa using this) f)
   ·rw[h.rest t λi _ b=>d ⟨i,b⟩,h.outer t λi b=>d ⟨i,b⟩]
  simp only[Act.eval,bR,e]
 |_=>rfl
def vK.yIl (h:vK ops V a0 ks L A a)(d:xI ops o=true)(n:∀e∈o.after,Region.binds .any e=true->L e.on=true)(f:Jl ops ks o=true):
  (∀x∈o.op.operands,a.eval x=(fin ops V a0).eval x)/\Region.wanted o (yielded ops a.tmps)=Region.wanted o (yielded ops (fin ops V a0).tmps):=by
 unfold Jl at f;rw[aM] at f;have u:∀{t},((List.range ops.size).all λj=>fK ops j !=some t||kC o j)=true->((List.range ops.size).all λj=>fK ops j !=some t|| !rY ks j)=true->a.tmps[t]?=(fin ops V a0).tmps[t]?:=by
  intro t v w
  by_cases k:∃i,fK ops i=some t
  ·obtain⟨i,b⟩:=k;have:=cz.1 v i (eu.2 (vC b));rw[b] at this;have l:kC o i=true:=by simpa using this
   have c:=cz.1 w i (eu.2 (vC b));rw[b] at c;rw[h.done i t b (DX l n),h.head i t (by simpa using c) b]
  ·rw[h.rest t λi _ b=>k ⟨i,b⟩];exact(BA V t _ a0 λi _ b=>k ⟨i,b⟩).symm
 have G:=d;unfold xI at d;rw[aM] at d;obtain⟨y,c⟩:=d;refine⟨λx p=>?_,?_⟩
 ·cases x with
  |tmp t=>
   have e:=u (kU.1 y _ p) (kU.1 f.1 _ p);simp only[Act.eval,bR,e]
  |_=>rfl
 ·unfold Region.wanted;cases q:o.guard with
  |none=>rfl
  |some z=>
   obtain⟨g,H⟩:=z;rw[q] at c;have r:=f.2;rw[q] at r;have B:rY ks g=false:=by simpa using r
   have l:kC o g=true:=c;have C:=DX l n;have D:yielded ops a.tmps g=yielded ops (fin ops V a0).tmps g:=by
    unfold yielded;cases E:ops[g]? with
    |none=>rfl
    |some F=>
     cases m:F.dst with
     |none=>simp[m]
     |some t=>
      have s:fK ops g=some t:=by unfold fK;rw[E];exact m
      have e:=h.done g t s C;rw[h.head g t B s] at e;simp[m,e]
   simp only[D]
def vK.put {V:Nat->Value}{a0:Act}{ks:List Nat}{L:Nat->Bool}{A a:Act}(o:yZ ops=true)(h:vK ops V a0 ks L A a)(i:Nat)(p:rY ks i=true)(v:Value)(g:List Deferred):vK ops V a0 ks (λj=>L j||j==i) (({A with defers:=g}).put (fK ops i) v) (({a with defers:=g}).put (fK ops i) v):=by
 have e:=h.size;have f:=h.sizeA;refine⟨(CG _ _ _).trans e,(CG _ _ _).trans f,by rw[put_defers,put_defers],λj t c q=>?_,λt d=>?_,λt d=>?_,λj t c k=>?_⟩
 ·rw[za,za]
  by_cases b:fK ops i=some t/\t<a.tmps.size
  ·rw[ak b,ak ⟨b.1,by rw[f,<-e];exact b.2⟩]
  ·rw[ai b,ai (λl=>b ⟨l.1,by rw[e,<-f];exact l.2⟩)]
   by_cases m:j=i
   ·subst m;have n:¬t<a.tmps.size:=λr=>b ⟨c,r⟩
    rw[ig (lH n),ig (by rw[f,<-e];exact lH n)]
   ·exact h.done j t c (by simpa [m] using q)
 ·rw[za,ai (λb=>d i aS b.1)];exact h.rest t λj c=>d j (by simp[c])
 ·rw[za,ai (λb=>d i b.1)];exact h.outer t d
 ·rw[za,ai (λb=>by
   have:=UD o k b.1;subst this;rw[p] at c;cases c)]
  exact h.head j t c k
def vK.putP (k:yZ ops=true)(h:vK ops V a0 ks L A a)(i:Nat)(l:rY ks i=false):vK ops V a0 ks (λj=>L j||j==i) A (a.put (fK ops i) (V i)):=by
 have d:=h.size;refine⟨(CG _ _ _).trans d,h.sizeA,by rw[put_defers];exact h.defers,λj t c m=>?_,λt e=>?_,h.outer,h.head⟩
 ·rw[za]
  by_cases b:fK ops i=some t/\t<a.tmps.size
  ·rw[ak b,h.head i t l b.1,fin_at k b.1 (by have:=b.2;rwa [d] at this)]
  ·rw[ai b]
   by_cases f:j=i
   ·subst f;have g:¬t<a.tmps.size:=λn=>b ⟨c,n⟩
    rw[ig (lH g),ig (by rw[h.sizeA,<-d];exact lH g)]
   ·exact h.done j t c (by simpa [f] using m)
 ·rw[za,ai (λb=>e i aS b.1)];exact h.rest t λj c=>e j (by simp[c])
abbrev Bf (Q:Exit->Act->World->Prop):Exit->Act->World->Prop:=λe a w=>e= .normal/\Q .normal a w
def UE {r:Result Next}{K d:Act->World->Prop}(g:a.defers=A.defers)(i:∀v w' j,K (({A with defers:=j}).put o.dst v) w'->d (({a with defers:=j}).put o.dst v) w')(h:o.upon P A K (Bf Q) r):o.upon P a d Q r:=by
 have b:∀v w',K (A.put o.dst v) w'->d (a.put o.dst v) w':=λv w' h=>by
  have:=i v w' A.defers (by cases A;exact h);rw[<-g] at this;cases a;exact this
 unfold Oper.upon at h⊢
 split at h
 ·exact b _ _ h
 ·exact b _ _ h
 ·rw[g];exact i _ _ _ h
 ·refine rA h λe l f=>?_
  cases e with
  |returned v=>exact b _ _ f
  |panicked c=>exact absurd f.1 aS
  |outgrown=>obtain⟨a,w,k,_⟩:=f;cases k
 ·exact Rows.mono h λv w' h=>b _ _ h
 ·exact absurd h.1 aS
 ·exact h.elim
def UF :¬LetsOut (Bf Q):=by
 rintro⟨a,w,h,_⟩;cases h
def Nw (i:Nat)(b:i<listed.size):(λj=>(listed.setIfInBounds i true).getD j false)=λj=>listed.getD j false||j==i:=by
 have c:(listed.setIfInBounds i true).getD i false=true:=by simp[bR,b]
 funext j
 by_cases a:j=i
 ·subst a;rw[c];simp
 ·rw[kv false (ou a)];simp[a]
def Ny {fuel:Nat}(a:i<listed.size)(b:listed.getD i true=false)(e:listed.toList.countP (·==false)<=fuel+1):(listed.setIfInBounds i true).toList.countP (·==false)<=fuel:=by
 have c:listed[i]=false:=by simpa [bR,cB a] using b
 rw[oM];have d:i<listed.toList.length:=by simpa using a
 have f:listed.toList.countP (·==false)=(listed.toList.set i true).countP (·==false)+1:=by
  exact CJ _ _ (by rw[gE d];simpa using c)
 omega
def Nz (b:listed.size=ops.size)(g:listed.toList.countP (·==false)<=0):Region.ready .any ops listed=[]:=by
 rw[vv];intro j a;rw[kr] at a;obtain⟨c,o,d,_⟩:=a;have e:j<listed.size:=by rw[b];exact(gD.1 d).1
 have f:listed[j]=false:=by simpa [bR,cB e] using c
 have:0<listed.toList.countP (·==false):=rC.2 ⟨false,by rw[<-f];simp,rfl⟩;omega
def NA (h:CZ ops es=true):Region.noSelect ops=true/\yZ ops=true/\Fq ops=true/\∀i o,ops[i]?=some o->BP ops es i o=true:=by
 simp only[CZ,aM] at h;obtain⟨⟨⟨c,d⟩,e⟩,f⟩:=h;refine⟨c,d,f,λi o a=>?_⟩;have b:=cz.1 e i (eu.2 (gD.1 a).1);rw[a] at b;exact b
def NB (P:Program)(ops:Array Oper)(ks:List Nat)(es:List Bool)(V:Nat->Value)(a0:Act):Prop:=∀i o w,ops[i]?=some o->qx ks i=true->if Region.wanted o (yielded ops (fin ops V a0).tmps)=true then aP P (execOp (evAct es a0 (fin ops V a0) i).eval o) w (λv w'=>v=V i/\w'=w) else V i=undef
def NC (f:fM ops λj=>listed.getD j false)(g:listed.getD i false=false):∀j a,ops[j]?=some a->kC a i=true->listed.getD j false=false:=λj a h c=>by
 cases k:listed.getD j false with
 |false=>rfl
 |true=>
  unfold kC at c;obtain⟨e,l,b⟩:=vo.1 c;rw[aM,aT] at b;have:=f j a h k e l b.2;rw[b.1] at this;have d:listed.getD i false=true:=this;rw[g] at d;cases d
def UG (a4:BR ops ks es=true)(c3:NB P ops ks es V a0):
  ∀(fuel:Nat) (r:List Nat) (listed:Array Bool) (A a:Act) (w:World),listed.size=ops.size->(listed.toList.countP (·==false))<=fuel->fM ops (λj=>listed.getD j false)->
   r.Pairwise (λx y=>x<y)->(∀i∈r,rY ks i=true/\i∈dB 3 0 ks/\listed.getD i false=false)->(∀i,i<ops.size->qx ks i=false->i∉r->listed.getD i false=true)->
   vK ops V a0 ks (λj=>listed.getD j false) A a->wpOps P ops (Bf Q) r A w->wpAny P .any ops Q fuel listed a w:=by
 simp only[BR,aM] at a4;obtain⟨⟨⟨c4,c5⟩,c6⟩,c7⟩:=a4;obtain⟨a5,a6,c8,a7⟩:=NA c4;have a8:∀(r:List Nat) (listed:Array Bool) (A a:Act) (w:World),listed.size=ops.size->(∀i∈r,rY ks i=true/\i∈dB 3 0 ks/\listed.getD i false=false)->(∀i∈r,i<ops.size)->vK ops V a0 ks (λj=>listed.getD j false) A a->wpOps P ops (Bf Q) r A w->Region.ready .any ops listed=[]->Q .normal a w:=by
  intro r listed A a w p d c9 g h E;have a9:=Fu (ops:=ops) (listed:=listed) rfl p c8 (λi n=>by rw[E] at n;cases n);cases r with
  |nil=>rw[g.end a9];exact h.2
  |cons t r=>
   have c:=(d t bZ).2.2;rw[a9 t (c9 t bZ)] at c;cases c
 have b0:∀t∈dB 3 0 ks,t<ops.size:=by
  have d0:∀(l:List Nat) (k t:Nat),t∈dB 3 k l->t<k+l.length:=by
   intro l
   induction l with
   |nil=>intro k t h;simp[dB] at h
   |cons e8 l u=>
    intro k t h;rw[dB] at h;rw[aY]
    split at h
    ·rcases dD.1 h with rfl|h
     ·omega
     ·have:=u _ _ h;omega
    ·have:=u _ _ h;omega
  intro t d1;have:=d0 ks 0 t d1;have q:=bD c5;omega
 intro fuel
 induction fuel with
 |zero=>
  intro r listed A a w p N F z d G g h;have E:=Nz (ops:=ops) p N;exact⟨E,a8 r listed A a w p d (λi n=>b0 i (d i n).2.1) g h E⟩
 |succ fuel u=>
  intro r listed A a w p N F z d G g h;refine⟨a8 r listed A a w p d (λi n=>b0 i (d i n).2.1) g h,λi n=>?_⟩;rw[kr] at n;obtain⟨b1,o,e,H⟩:=n;have b2:i<ops.size:=(gD.1 e).1;have I:i<listed.size:=aa
  have b3:listed.getD i false=false:=Nv b1;have O:=Nw i I;have b4:=Ny I b1 N;have b5:fM ops λj=>(listed.setIfInBounds i true).getD j false:=by rw[O];exact BC F e H
  have b6:o.dst=fK ops i:=by unfold fK;rw[e];rfl
  have J:=cz.1 c6 i (eu.2 b2);rw[e] at J;simp only[aM,kT,nI] at J
  by_cases B:i∈r
  ·obtain⟨b7,d2,_⟩:=d i B;obtain⟨d3,d4⟩:=J.2.resolve_left (by rw[b7];simp);have S:o.guard=none:=by simpa using d3
   --the first of the tail
   obtain⟨C,rfl⟩:∃C,r=i::C:=by
    cases r with
    |nil=>cases B
    |cons t C=>
     rcases dD.1 B with rfl|d5
     ·exact⟨C,rfl⟩
     ·exfalso;have e9:t<i:=(uw.1 z).1 i d5;have c:=cz.1 c7 i d2;have q:=cz.1 c t (eu.2 aa);have b8:=(d t bZ).1;have d6:qx ks t=false:=by
       unfold rY at b8;unfold qx;rw[qg b8];rfl
      rw[d6] at q;simp only[ow,kT,eF] at q;rcases q with q|q
      ·omega
      ·have d7:=yE (L:=λj=>listed.getD j false) F e H q;have b9:=(d t bZ).2.2;rw[show listed.getD t false=true from d7] at b9;cases b9
   rw[wpOps_cons] at h;unfold wpOp at h⊢;simp only[e] at h⊢;have d8:∀t,Region.wanted o (yielded ops t)=true:=λt=>by simp[Region.wanted,S]
   rw[ak (d8 _)] at h⊢;rcases h with h|h
   ·left
    unfold Oper.wp at h⊢;have f:=a7 i o e;unfold BP at f;rw[ai (by simpa using d4)] at f;have T:execOp a.eval o=execOp A.eval o:=nN o (λU b=>nO a5 i o U b e) (g.eval f H);rw[T];refine UE g.defers (λv w' d9 c0=>?_) h;rw[b6] at c0⊢;refine u C _ _ _ w' (by simpa using p) b4 b5 (uw.1 z).2 (λj m=>?_) (λj m W X=>?_) (by rw[O];exact g.put a6 i b7 v d9) c0
    ·obtain⟨Y,Z,a1⟩:=d j (dP _ m);have:=(uw.1 z).1 j m;refine⟨Y,Z,?_⟩;rw[kv false aa];exact a1
    ·by_cases s:j=i
     ·subst s;simp[bR,I]
     ·rw[kv false (ou s)];exact G j m W λe0=>by
       rcases dD.1 e0 with c|c
       ·exact s c
       ·exact X c
   ·exact absurd h.2 UF
  ·have K:qx ks i=true:=by
    cases e1:qx ks i with
    |true=>rfl
    |false=>
     have:=G i b2 e1 B;rw[b3] at this;cases this
   have e2:rY ks i=false:=by
    unfold qx at K;unfold rY;rcases kT _ _▸K with c|c
    ·rw[qg c];rfl
    ·rw[qg c];rfl
   have M:=c3 i o w e K;have f:=a7 i o e;obtain⟨e3,e4⟩:(∀y∈o.op.operands,a.eval y=(evAct es a0 (fin ops V a0) i).eval y)/\Region.wanted o (yielded ops a.tmps)=Region.wanted o (yielded ops (fin ops V a0).tmps):=by
    unfold BP at f;unfold evAct
    by_cases a2:es.getD i false=true
    ·rw[ak a2] at f⊢;unfold Gd at f;rw[aM] at f;refine⟨λy e5=>?_,?_⟩
     ·cases y with
      |tmp t=>
       have e6:=kU.1 f.2 _ e5;have a3:a.tmps[t]?=a0.tmps[t]?:=g.rest t λj m D=>by
        have:=cz.1 e6 j (eu.2 (vC D));rw[D,cB (vC D)] at this;have e7:kC (ops[j]'(vC D)) i=true:=by simpa using this
        have:=NC F b3 j _ (cB (vC D)) e7;have c1:listed.getD j false=true:=m;rw[this] at c1;cases c1
       simp only[Act.eval,bR,a3]
      |_=>rfl
     ·unfold Region.wanted;cases S:o.guard with
      |none=>rfl
      |some f0=>have:=f.1;rw[S] at this;cases this
    ·rw[ai a2] at f⊢;have c:=(J.1.resolve_left (by
      rintro(h|h)
      ·rw[K] at h;cases h
      ·exact a2 h))
     exact g.yIl f H (by simpa using c)
   have T:execOp a.eval o=execOp (evAct es a0 (fin ops V a0) i).eval o:=nN o (λU b=>nO a5 i o U b e) e3;have next:wpAny P .any ops Q fuel (listed.setIfInBounds i true) (a.put o.dst (V i)) w:=by
    rw[b6];refine u r _ A _ w (by simpa using p) b4 b5 z (λj m=>?_) (λj m W X=>?_) (by rw[O];exact g.putP a6 i e2) h
    ·obtain⟨Y,Z,a1⟩:=d j m;refine⟨Y,Z,?_⟩;rw[kv false (λa3=>B (by rw[a3];exact m))];exact a1
    ·by_cases s:j=i
     ·subst s;simp[bR,I]
     ·rw[kv false (ou s)];exact G j m W X
   unfold wpOp;simp only[e];rw[e4]
   by_cases c2:Region.wanted o (yielded ops (fin ops V a0).tmps)=true
   ·rw[ak c2] at M⊢;refine .inl (aP.wp (R:=λv w'=>v=V i/\w'=w) (by rw[T];exact M) ?_);rintro v w' ⟨rfl,rfl⟩;exact next
   ·rw[ai c2] at M⊢;rw[<-M];exact next
def Jm :∀{k i:Nat},i∈dB 3 k ks->k<=i/\ks[i -k]?=some 3:=by
 induction ks with
 |nil=>intro k i h;simp[dB] at h
 |cons q l a=>
  intro k i h;rw[dB] at h;have step:i∈dB 3 (k+1) l->k<=i/\(q::l)[i -k]?=some 3:=λh=>by
   obtain⟨d,b⟩:=a h;refine⟨aa,?_⟩;rw[show i -k=(i -(k+1))+1 from aa,eD];exact b
  split at h
  ·rcases dD.1 h with rfl|h
   ·rename_i c
    exact⟨aH _,by rw[oq,iD,c]⟩
   ·exact step h
  ·exact step h
def UH :∀{k i:Nat},ks[i]?=some 3->k+i∈dB 3 k ks:=by
 induction ks with
 |nil=>intro k i h;simp at h
 |cons q l a=>
  intro k i h;rw[dB];cases i with
  |zero=>
   simp only[iD,gV] at h;rw[ak h];exact bZ
  |succ i=>
   have:=a (k:=k+1) (i:=i) (by simpa using h);rw[show k+1+i=k+(i+1) from aa] at this
   split
   ·exact dP _ this
   ·exact this
def UI :∀{k:Nat},(dB 3 k ks).Pairwise (λx y=>x<y):=by
 induction ks with
 |nil=>intro k;exact List.Pairwise.nil
 |cons q l a=>
  intro k;rw[dB]
  split
  ·refine uw.2 ⟨λi b=>?_,a⟩;have:=(Jm b).1;omega
  ·exact a
def Es :rY ks i=true↔i∈dB 3 0 ks:=by
 constructor
 ·intro h;have c:ks[i]?=some 3:=by
   unfold rY at h;have a:=qg h;rw[rf] at a;cases b:ks[i]? with
   |none=>rw[b] at a;cases a
   |some q=>rw[b] at a;rw[show q=3 from a]
  have:=UH (k:=0) c
  rwa [fe] at this
 ·intro h;have:=(Jm h).2;unfold rY;rw[rf,show ks[i]?=some 3 from this];rfl
def UJ {vals:X->Nat->Value}{Inv:(Nat->Bool)->X->World->Prop}(H:BR ops ks es=true)(O:∀x,NB P ops ks es (vals x) a0)
  (a4:∀L x w,Inv L x w->fM ops L)
  (a5:∀(i:Nat) (o:Oper) (L:Nat->Bool) (x:X) (w:World),ops[i]?=some o->rY ks i=false->qx ks i=false->L i=false->(∀e∈o.after,Region.binds .any e=true->L e.on=true)->Inv L x w->
   if Region.wanted o (yielded ops (fin ops (vals x) a0).tmps)=true then aP P (execOp (evAct es a0 (fin ops (vals x) a0) i).eval o) w (λv w'=>∃b,v=vals b i/\(∀j,L j=true->vals b j=vals x j)/\Inv (λj=>L j||j==i) b w') else vals x i=undef/\Inv (λj=>L j||j==i) x w)
  (a6:∀(i:Nat) (o:Oper) (L:Nat->Bool) (x:X) (w:World),ops[i]?=some o->qx ks i=true->(∀e∈o.after,Region.binds .any e=true->L e.on=true)->Inv L x w->Inv (λj=>L j||j==i) x w)
  (S:∀(L:Nat->Bool) (x:X) (w:World),(∀i,i<ops.size->qx ks i=false->rY ks i=false->L i=true)->Inv L x w->wpOps P ops (Bf Q) (dB 3 0 ks) (fin ops (vals x) a0) w):
  ∀(fuel:Nat) (listed:Array Bool) (x:X) (a:Act) (w:World),listed.size=ops.size->(listed.toList.countP (·==false))<=fuel->(∀i∈dB 3 0 ks,listed.getD i false=false)->rV ops (vals x) a0 (λj=>listed.getD j false) a->Inv (λj=>listed.getD j false) x w->wpAny P .any ops Q fuel listed a w:=by
 have a7:=H;simp only[BR,aM] at H;obtain⟨⟨⟨a8,a9⟩,c6⟩,b0⟩:=H;obtain⟨b1,T,b2,b3⟩:=NA a8;have U:∀(listed:Array Bool) (x:X) (a:Act) (w:World),listed.size=ops.size->(∀i∈dB 3 0 ks,listed.getD i false=false)->rV ops (vals x) a0 (λj=>listed.getD j false) a->Inv (λj=>listed.getD j false) x w->Region.ready .any ops listed=[]->Q .normal a w:=by
  intro listed x a w m p d f B;have I:=Fu (ops:=ops) (listed:=listed) rfl m b2 (λi n=>by rw[B] at n;cases n);have h:=S _ x w (λi n _ _=>I i n) f;cases s:dB 3 0 ks with
  |nil=>rw[d.end I];rw[s] at h;exact h.2
  |cons t c7=>
   have C:=p t (by rw[s];exact bZ);have g:=(Jm (ks:=ks) (k:=0) (i:=t) (by rw[s];exact bZ)).2;have c8:=(bP.1 g).1;have c9:=bD a9;rw[I t aa] at C;cases C
 intro fuel
 induction fuel with
 |zero=>
  intro listed x a w m D p d f;have B:=Nz (ops:=ops) m D;exact⟨B,U listed x a w m p d f B⟩
 |succ fuel b4=>
  intro listed x a w m D p d f;refine⟨U listed x a w m p d f,λi n=>?_⟩;have b5:=n;rw[kr] at n;obtain⟨V,o,l,E⟩:=n;have b6:i<ops.size:=(gD.1 l).1;have W:i<listed.size:=aa
  have J:listed.getD i false=false:=Nv V;have Y:=Nw i W;have b7:=Ny W V D;have K:=a4 _ _ _ f;have b8:o.dst=fK ops i:=by unfold fK;rw[l];rfl
  cases F:rY ks i with
  |true=>
   --the tail begins
   have b9:=Es.1 F;have Z:∀j,j<ops.size->qx ks j=false->j∉dB 3 0 ks->listed.getD j false=true:=λj c q s=>by
    have C:=cz.1 b0 i b9;have g:=cz.1 C j (eu.2 c);rw[q] at g;simp only[ow,kT,eF] at g;rcases g with g|g
    ·exact absurd (Es.1 g.2) s
    ·exact yE (L:=λj=>listed.getD j false) K l E g
   have h:=S _ x w (λj c q a1=>Z j c q (λM=>by rw[Es.2 M] at a1;cases a1)) f;have c0:=UG (Q:=Q) a7 (O x) (fuel+1) (dB 3 0 ks) listed _ a w m D K UI (λj c=>⟨Es.2 c,c,p j c⟩) Z (vK.start d) h;exact c0.2 i b5
  |false=>
   have c1:i∉dB 3 0 ks:=λM=>by rw[Es.2 M] at F;cases F
   have u:=b3 i o l;obtain⟨c2,c3⟩:(∀y∈o.op.operands,a.eval y=(evAct es a0 (fin ops (vals x) a0) i).eval y)/\Region.wanted o (yielded ops a.tmps)=Region.wanted o (yielded ops (fin ops (vals x) a0).tmps):=by
    unfold BP at u;unfold evAct
    by_cases a2:es.getD i false=true
    ·rw[ak a2] at u⊢;exact d.early u (NC K J)
    ·rw[ai a2] at u⊢;exact d.eval u E
   have a3:execOp a.eval o=execOp (evAct es a0 (fin ops (vals x) a0) i).eval o:=nN o (λc4 c5=>nO b1 i o c4 c5 l) c2;have next:∀b w',(∀j,listed.getD j false=true->vals b j=vals x j)->Inv (λj=>listed.getD j false||j==i) b w'->wpAny P .any ops Q fuel (listed.setIfInBounds i true) (a.put o.dst (vals b i)) w':=by
    intro b w' N r;refine b4 _ b _ w' (by simpa using m) b7 (λj c=>?_) ?_ (by rw[Y];exact r)
    ·rw[kv false (λe=>c1 (by rw[e];exact c))];exact p j c
    ·rw[Y,b8];exact(d.swap T N).put T i b6 J
   unfold wpOp;simp only[l];rw[c3];cases q:qx ks i with
   |true=>
    have r:=a6 i o _ x w l q E f;have G:=O x i o w l q
    by_cases z:Region.wanted o (yielded ops (fin ops (vals x) a0).tmps)=true
    ·rw[ak z] at G⊢;refine .inl (aP.wp (R:=λv w'=>v=vals x i/\w'=w) (by rw[a3];exact G) ?_);rintro v w' ⟨rfl,rfl⟩;exact next x _ (λ_ _=>rfl) r
    ·rw[ai z] at G⊢;rw[<-G];exact next x w (λ_ _=>rfl) r
   |false=>
    have A:=a5 i o _ x w l F q J E f
    by_cases z:Region.wanted o (yielded ops (fin ops (vals x) a0).tmps)=true
    ·rw[ak z] at A⊢;refine .inl (aP.wp (R:=λv w'=>∃b,v=vals b i/\(∀j,listed.getD j false=true->vals b j=vals x j)/\Inv (λj=>listed.getD j false||j==i) b w') (by rw[a3];exact A) ?_);rintro v w' ⟨b,rfl,N,r⟩;exact next b w' N r
    ·rw[ai z] at A⊢;rw[<-A.1];exact next x w (λ_ _=>rfl) A.2
def Et (ops:Array Oper)(i:Nat):List (Nat×(X->World->Prop))->X->World->Prop
 |[],_,_=>True
 |p::cs,x,w=>(dR ops p.1 ops.size i=true->p.2 x w)/\Et ops i cs x w
def ji:List (Nat×(X->World->Prop))->X->World->Prop
 |[],_,_=>True
 |p::cs,x,w=>p.2 x w/\ji cs x w
def yh (ops:Array Oper)(i:Nat):List (Nat×(X->World->Prop))->X->X->World->Prop
 |[],_,_,_=>True
 |p::cs,x,x',w'=>(cond (p.1==i) (p.2 x' w') (dR ops i ops.size p.1=true\/(p.2 x w'->p.2 x' w')))/\yh ops i cs x x' w'
def bV (cs:List (Nat×(X->World->Prop))):Prop:=∀p∈cs,∀(x:X) (w w':World),p.2 x w->Below w.heap.size w w'->p.2 x w'
def Et.of {a:List (Nat×(X->World->Prop))}{x:X}(h:∀p∈a,dR ops p.1 ops.size i=true->p.2 x w):Et ops i a x w:=by
 induction a with
 |nil=>trivial
 |cons p a b=>exact⟨h p bZ,b λq c=>h q (dP _ c)⟩
def ji.of {a:List (Nat×(X->World->Prop))}{x:X}(h:∀p∈a,p.2 x w):ji a x w:=by
 induction a with
 |nil=>trivial
 |cons p a b=>exact⟨h p bZ,b λq c=>h q (dP _ c)⟩
def yh.at_ {b:List (Nat×(X->World->Prop))}{x c:X}(h:yh ops i b x c w'):∀p∈b,cond (p.1==i) (p.2 c w') (dR ops i ops.size p.1=true\/(p.2 x w'->p.2 c w')):=by
 induction b with
 |nil=>intro p a;cases a
 |cons q b d=>
  intro p a;rcases dD.1 a with rfl|a
  ·exact h.1
  ·exact d h.2 p a
def yh.same {a:List (Nat×(X->World->Prop))}{x:X}(h:(a.map Prod.fst).contains i=false):yh ops i a x x w':=by
 induction a with
 |nil=>trivial
 |cons p a b=>
  rw[di,kg,Bool.or_eq_false_iff] at h;refine⟨?_,b h.2⟩;have c:(p.1==i)=false:=by
   rw[aZ];intro e;rw[e] at h;simp at h
  rw[c];exact .inr λh=>h
abbrev Jn (P:Program)(ops:Array Oper)(F:Nat->X->Act)(vs:X->List Value)(cs:List (Nat×(X->World->Prop)))(J:X->World->Prop)(w0:World)(i:Nat)(o:Oper):Prop:=
 ∀(x:X) (w:World),Below w0.heap.size w0 w->J x w->Et ops i cs x w->aP P (execOp (F i x).eval o) w λv w'=>∃x',v=(vs x').getD i undef/\lK ops i (vs x) (vs x')/\Below w.heap.size w w'/\yh ops i cs x x' w'/\J x' w'
abbrev Jo (P:Program)(F:Nat->X->Act)(vs:X->List Value)(i:Nat)(o:Oper):Prop:=
 ∀(x:X) (w:World),aP P (execOp (F i x).eval o) w λv w'=>v=(vs x).getD i undef/\w'=w
def yj (P:Program)(F:Nat->X->Act)(ops:Array Oper)(vs:X->List Value)(cs:List (Nat×(X->World->Prop)))(J:X->World->Prop)(w0:World):Nat->List Oper->List Nat->Prop
 |i,_::os,0::ks=>(∀x,(vs x).getD i undef=undef)/\yj P F ops vs cs J w0 (i+1) os ks
 |i,o::os,1::ks=>Jn P ops F vs cs J w0 i o/\yj P F ops vs cs J w0 (i+1) os ks
 |i,o::os,2::ks=>Jo P F vs i o/\yj P F ops vs cs J w0 (i+1) os ks
 |i,_::os,3::ks=>yj P F ops vs cs J w0 (i+1) os ks
 |_,[],[]=>True
 |_,_,_=>False
def yj.at_ {F:Nat->X->Act}{f:X->List Value}{g:List (Nat×(X->World->Prop))}{J:X->World->Prop}{w0:World}:∀{n:Nat} {os:List Oper} {ks:List Nat},yj P F ops f g J w0 n os ks->∀{i:Nat} {o:Oper},os[i]?=some o->∃k,ks[i]?=some k/\
  ((k=0/\∀x,(f x).getD (n+i) undef=undef)\/(k=1/\Jn P ops F f g J w0 (n+i) o)\/(k=2/\Jo P F f (n+i) o)\/k=3)
 |n,[],_,_,i,o,h=>by simp at h
 |n,p::os,0::ks,⟨d,a⟩,0,o,h=>⟨0,rfl,.inl ⟨rfl,d⟩⟩
 |n,p::os,1::ks,⟨d,a⟩,0,o,h=>by
  obtain rfl:p=o:=by simpa using h
  exact⟨1,rfl,.inr (.inl ⟨rfl,d⟩)⟩
 |n,p::os,2::ks,⟨d,a⟩,0,o,h=>by
  obtain rfl:p=o:=by simpa using h
  exact⟨2,rfl,.inr (.inr (.inl ⟨rfl,d⟩))⟩
 |n,p::os,3::ks,a,0,o,h=>⟨3,rfl,.inr (jK)⟩
 |n,p::os,0::ks,⟨d,a⟩,i+1,o,h=>by
  obtain⟨b,e,c⟩:=yj.at_ a (i:=i) (o:=o) (by simpa using h);rw[show n+1+i=n+(i+1) from aa] at c;exact⟨b,by simpa using e,c⟩
 |n,p::os,1::ks,⟨d,a⟩,i+1,o,h=>by
  obtain⟨b,e,c⟩:=yj.at_ a (i:=i) (o:=o) (by simpa using h);rw[show n+1+i=n+(i+1) from aa] at c;exact⟨b,by simpa using e,c⟩
 |n,p::os,2::ks,⟨d,a⟩,i+1,o,h=>by
  obtain⟨b,e,c⟩:=yj.at_ a (i:=i) (o:=o) (by simpa using h);rw[show n+1+i=n+(i+1) from aa] at c;exact⟨b,by simpa using e,c⟩
 |n,p::os,3::ks,a,i+1,o,h=>by
  obtain⟨b,e,c⟩:=yj.at_ (n:=n+1) (os:=os) (ks:=ks) a (i:=i) (o:=o) (by simpa using h);rw[show n+1+i=n+(i+1) from aa] at c;exact⟨b,by simpa using e,c⟩
 |n,p::os,[],h,_,_,_=>h.elim
 |n,p::os,(_+4)::ks,h,_,_,_=>h.elim
def UK (a5:P.follows .mixedOrders=true)(ks:List Nat)(es:List Bool)(F:X->Act)(a:X->List Value)(q:List (Nat×(X->World->Prop)))(J:X->World->Prop)(U:X)(K:BR ops ks es=true)(M:∀x,fin ops (λi=>(a x).getD i undef) a0=F x)
  (a6:∀x,((List.range ops.size).map λi=>((ops[i]?).map λo=>Region.wanted o (yielded ops (F x).tmps)).getD true)=ks.map λk=>k !=0) (a7:bV q) (a8:J U w0.drew) (a9:yj P (λi x=>evAct es a0 (F x) i) ops a q J w0 0 ops.toList ks)
  (V:(q.all λp=> !qx ks p.1&& !rY ks p.1&&decide (p.1<ops.size))=true) (b0:∀(x:X) (w:World),Below w0.heap.size w0 w->J x w->ji q x w->wpOps P ops (Bf Q) (dB 3 0 ks) (F x) w):(Code.region id ops true).wp P Q a0 w0:=by
 have b8:ks.length=ops.size:=by
  simp only[BR,aM,eF] at K;exact K.1.1.2
 have W:∀i o,ops[i]?=some o->∃k,ks[i]?=some k/\ks.getD i 1=k/\(∀x,Region.wanted o (yielded ops (F x).tmps)=(k !=0))/\
  ((k=0/\∀x,(a x).getD i undef=undef)\/(k=1/\Jn P ops (λi x=>evAct es a0 (F x) i) a q J w0 i o)\/(k=2/\Jo P (λi x=>evAct es a0 (F x) i) a i o)\/k=3):=by
  intro i o c;obtain⟨k,B,h⟩:=yj.at_ a9 (i:=i) (o:=o) (by rw[gF];exact c);rw[fe] at h;refine⟨k,B,by rw[rf,B];rfl,λx=>?_,h⟩;have b1:i<ops.size:=(gD.1 c).1;have b:=congrArg (λl=>l[i]?) (a6 x);simp only[gL,kX b1,je,c,B,fB,gV] at b;exact b
 refine oN a5 ?_;refine UJ (ks:=ks) (es:=es) (vals:=λx i=>(a x).getD i undef) (a0:=a0) (Inv:=λL x w=>fM ops L/\Below w0.heap.size w0 w/\J x w/\∀p∈q,L p.1=true->p.2 x w) K (λx i o w c d=>?_) (λL x w h=>h.1) (λi o L x w c N d Y H s=>?_) (λi o L x w c d H s=>?_) (λL x w b2 s=>?_) ops.size (Array.replicate ops.size false) U a0 _ aS (by
  refine ax (rD) ?_;simp) (λi _=>?_) ⟨rfl,rfl,λi t _ h=>?_,λ_ _=>rfl⟩ ⟨λi o _ h=>?_,fC (aL _ _),a8,λp _ h=>?_⟩
 ·obtain⟨k,B,O,R,h⟩:=W i o c;have C:fin ops (λi=>(a x).getD i undef) a0=F x:=M x;rw[C,R x];unfold qx at d;rw[O] at d;rcases h with⟨rfl,h⟩|⟨rfl,h⟩|⟨rfl,h⟩|rfl
  ·rw[ai aS];exact h x
  ·cases d
  ·rw[ak (by rfl)];exact h x w
  ·cases d
 ·obtain⟨k,B,O,R,h⟩:=W i o c;have C:fin ops (λi=>(a x).getD i undef) a0=F x:=M x;rw[C,R x];obtain⟨z,D,f,I⟩:=s;have b3:=BC z c H;have Z:∀j,dR ops i ops.size j=true->L j=false:=λj f=>by
   cases b4:L j with
   |false=>rfl
   |true=>
    obtain⟨b5,a1⟩:=Fv f;have:=yE z a1 (z j b5 a1 b4) f;rw[Y] at this;cases this
  unfold qx at d;unfold rY at N;rw[O] at d N;rcases h with⟨rfl,h⟩|⟨rfl,h⟩|⟨rfl,h⟩|rfl
  ·cases d
  ·rw[ak (by rfl)];have a2:=h x w D f (Et.of λp g E=>I p g (yE z c H E));have S:∀u w',(∃m,u=(a m).getD i undef/\lK ops i (a x) (a m)/\Below w.heap.size w w'/\yh ops i q x m w'/\J m w')->∃m,u=(a m).getD i undef/\(∀j,L j=true->(a m).getD j undef=(a x).getD j undef)/\fM ops (λj=>L j||j==i)/\Below w0.heap.size w0 w'/\J m w'/\∀p∈q,(L p.1||p.1==i)=true->p.2 m w':=by
    rintro u w' ⟨m,b,T,a3,b6,b7⟩;refine⟨m,b,λj f=>T j (λe=>by subst e;rw[Y] at f;cases f) ?_,b3,D.trans (a3.mono D.size),b7,λp g y=>?_⟩
    ·cases E:dR ops i ops.size j with
     |false=>rfl
     |true=>rw[Z j E] at f;cases f
    ·have A:=b6.at_ p g;cases G:(p.1==i) with
     |true=>rw[G] at A;exact A
     |false=>
      rw[G] at A y;rw[Bool.or_false] at y;rcases A with E|A
      ·rw[Z _ E] at y;cases y
      ·exact A (a7 p g x w w' (I p g y) a3)
   unfold aP at a2⊢;revert a2;generalize (execOp (evAct es a0 (F x) i).eval o).run P w=r;cases r with
   |halt e w'=>exact λh=>h
   |ok n w'=>
    cases n with
    |value v=>exact λh=>S _ _ h
    |skip=>exact λh=>S _ _ h
    |enter b9 args=>exact λh=>rA h λe c0 ⟨v,b,T⟩=>⟨v,b,S _ _ T⟩
    |_=>exact λh=>h
  ·cases d
  ·cases N
 ·obtain⟨z,D,f,I⟩:=s;refine⟨BC z c H,D,f,λp g y=>I p g ?_⟩;cases G:(p.1==i) with
  |true=>
   have b:=cz.1 V p g;rw[qg G,d] at b;cases b
  |false=>
   have a4:(L p.1||p.1==i)=true:=y;rw[G,Bool.or_false] at a4;exact a4
 ·have C:fin ops (λi=>(a x).getD i undef) a0=F x:=M x;rw[C];refine b0 x w s.2.1 s.2.2.1 (ji.of λp g=>s.2.2.2 p g ?_);have b:=cz.1 V p g;simp only[aM,nI,eF] at b;exact b2 p.1 b.2 b.1.1 b.1.2
 ·rw[bR,iC]
  split<;>rfl
 ·rw[bR,iC] at h
  split at h<;>simp at h
 ·dsimp only at h;rw[bR,iC] at h
  split at h<;>simp at h
 ·dsimp only at h;rw[bR,iC] at h
  split at h<;>simp at h
def aP.still {s:Sem Next}{v:Value}{x:X}{a:X->List Value}{c:List (Nat×(X->World->Prop))}{J:X->World->Prop}(d:J x w)(e:(c.map Prod.fst).contains i=false)(h:s.run P w= .ok (.value v) w)(f:v=(a x).getD i undef):aP P s w λu w'=>∃b,u=(a b).getD i undef/\lK ops i (a x) (a b)/\Below w.heap.size w w'/\yh ops i c x b w'/\J b w':=
 aP.value h ⟨x,f,lK.same,aL _ _,yh.same e,d⟩
def aP.pure {s:Sem Next}{v:Value}{x:X}{a:X->List Value}(h:s.run P w= .ok (.value v) w)(b:v=(a x).getD i undef):aP P s w λu w'=>u=(a x).getD i undef/\w'=w:=
 aP.value h ⟨b,rfl⟩
end
def jp {X:Type}{s:Sem Next}{x:X}{a:X->List Value}(v:Value)(h:s.run P w= .ok (.value v) w)(b:v=(a x).getD i undef):aP P s w λu w'=>u=(a x).getD i undef/\w'=w:=aP.pure h b
def gs {o:Array Oper}{X:Type}{s:Sem Next}{x:X}{l:X->List Value}{c:List (Nat×(X->World->Prop))}{J:X->World->Prop}(v:Value)(a:J x w)(b:(c.map Prod.fst).contains i=false)(h:s.run P w= .ok (.value v) w)(d:v=(l x).getD i undef):aP P s w λu w'=>∃e,u=(l e).getD i undef/\lK o i (l x) (l e)/\Below w.heap.size w w'/\yh o i c x e w'/\J e w':=aP.still a b h d
def jR {X:Type}{a:X->List Value}{d:List (Nat×(X->World->Prop))}{J F q:X->World->Prop}{s:X->Sem Next}(k:∀(x:X) (w:World),Below w0.heap.size w0 w->q x w)(e:(d.map Prod.fst).contains i=false:=by kernel_rfl)(h:∀(x:X) (w:World),q x w->(s x).run P w= .ok (.value ((a x).getD i undef)) w:=by intro _ _ c;simp[go_sem,evAct,c])(x:X)(w:World)(f:Below w0.heap.size w0 w)(g:J x w)(_:F x w):aP P (s x) w λu w'=>∃b,u=(a b).getD i undef/\lK ops i (a x) (a b)/\Below w.heap.size w w'/\yh ops i d x b w'/\J b w':=aP.still g e (h x w (k x w f)) rfl
structure Gh where
 v:Nat->Value
 n:Nat->Nat
@[reducible] def Gh.setV (x:Gh) (k:Nat) (u:Value):Gh:=⟨λj=>if j=k then u else x.v j,x.n⟩
@[reducible] def Gh.setN (x:Gh) (k:Nat) (u:Nat):Gh:=⟨x.v,λj=>if j=k then u else x.n j⟩
def Gh.zero:Gh:=⟨λ_=>.nilFunc,λ_=>0⟩
section
variable {P : Program} {ops : Array Oper} {Q : Exit -> Act -> World -> Prop} {X : Type}
def bV.nil:bV ([]:List (Nat×(X->World->Prop))):=λp a=>by cases a
def bV.cons {p:Nat×(X->World->Prop)}{b:List (Nat×(X->World->Prop))}(h:∀(x:X) (w w':World),p.2 x w->Below w.heap.size w w'->p.2 x w')(t:bV b):bV (p::b):=λq a=>by
 rcases dD.1 a with rfl|a
 ·exact h
 ·exact t q a
def wo {R:Value->World->Prop}(b:ops[i]?=some o)(c:o.guard=none)(h:aP P (execOp a.eval o) w R)(d:∀v w',R v w'->wpOps P ops Q l (a.put o.dst v) w'):wpOps P ops Q (i::l) a w:=
 CK b c (aP.wp h d)
def UL {v:Value}(b:ops[i]?=some o)(c:o.guard=none)(h:(execOp a.eval o).run P w= .ok (.value v) w)(d:wpOps P ops Q l (a.put o.dst v) w):wpOps P ops Q (i::l) a w:=
 wo b c (aP.value (R:=λu w'=>u=v/\w'=w) h ⟨rfl,rfl⟩) λ_ _ ⟨e,f⟩=>by rw[e,f];exact d
def oL (b:ops[i]?=some o)(c:o.guard=none)(h:(execOp a.eval o).run P w= .ok .skip w')(d:wpOps P ops Q l (a.put o.dst undef) w'):wpOps P ops Q (i::l) a w:=
 wo b c (aP.skip (R:=λu e=>u=undef/\e=w') h ⟨rfl,rfl⟩) λ_ _ ⟨f,g⟩=>by rw[f,g];exact d
def jo (h:Q .normal a w):wpOps P ops (Bf Q) [] a w:=⟨rfl,h⟩
end
def qm {F:Gh->Act}(ks:List Nat)(es:List Bool)(b:Gh->List Value)(a:List (Nat×(Gh->World->Prop)))(J:Gh->World->Prop)(c:bV a)(d:J Gh.zero w0.drew)(e:yj P (λi x=>evAct es a0 (F x) i) ops b a J w0 0 ops.toList ks)(f:∀(x:Gh) (w:World),Below w0.heap.size w0 w->J x w->ji a x w->wpOps P ops (Bf Q) (dB 3 0 ks) (F x) w)
  (g:P.follows .mixedOrders=true:=by kernel_rfl) (h:BR ops ks es=true:=by kernel_rfl) (j:∀x,fin ops (λi=>(b x).getD i undef) a0=F x:=by intro _;simp[fin,mX,fK,List.range,List.range.loop,Act.put];rfl) (l:∀x,((List.range ops.size).map λi=>((ops[i]?).map λo=>Region.wanted o (yielded ops (F x).tmps)).getD true)=ks.map λk=>k !=0:=by intro _;kernel_rfl)
  (m:(a.all λp=> !qx ks p.1&& !rY ks p.1&&decide (p.1<ops.size))=true:=by kernel_rfl):(Code.region id ops true).wp P Q a0 w0:=UK g ks es F b a J Gh.zero h j l c d e m f
end
namespace El
open At Ch Sp Sy Go.RowKit
variable{x w w':World}{g B s:Nat}{t:TypeId}{d0 d1 d2 d3 d4:Value}{P:Nat->Prop}{xs:List aC}{path:List Int}{d n:aG}
abbrev cK:Array Value:=qT
def Jp (ok:Nat->Prop)(w:World):bH ok w pO cK:=bH.zero ok w 0 ⟨#[]⟩ aI
def xP (x:World)(g:Nat)(a b c d e:Value):x.grownBy (((((x.setCell (ag g (0)) a).setCell (ag g (1)) b).setCell (ag g (2)) c).setCell (ag g (3)) d).setCell (ag g (4)) e) (some g):=
 vJ (vJ (vJ (vJ (kJ x (ag g (0)) a) (kJ _ (ag g (1)) b)) (kJ _ (ag g (2)) c)) (kJ _ (ag g (3)) d)) (kJ _ (ag g (4)) e)
def sK (h:au x g t #[d0,d1,d2,d3,d4])(a b c d e:Value):au (((((x.setCell (ag g (0)) a).setCell (ag g (1)) b).setCell (ag g (2)) c).setCell (ag g (3)) d).setCell (ag g (4)) e) g t #[a,b,c,d,e]:=((((h.set_ 0 a).set_ 1 b).set_ 2 c).set_ 3 d).set_ 4 e
def Da (h:Below B w x)(i:B<=x.heap.size)(j:B<=g)(a b c d f:Value):Below B w (((((x.setCell (ag g (0)) a).setCell (ag g (1)) b).setCell (ag g (2)) c).setCell (ag g (3)) d).setCell (ag g (4)) f):=
 h.grown (xP x g a b c d f) i λr e=>av (sj e)
def _root_.Go.Proofs.YtlefbenkhgbifaaGreatDoor.Sp.dU.zU7 {v:Value}{row:Option Nat}(h:dU P w B v xs)(a:w.grownBy w' row)(d:∀b,v.ownBlock=some b->row≠some b)(f:∀b,P b->some b≠row):dU P w' B v xs:=by
 obtain⟨g,i,k,l⟩:=h;refine⟨g,gM i a ?_,k,λj c x m n=>(l j c x m n).grown a (λb _ o=>f b o.2) (λ_ _ h=>h)⟩;cases p:v.ownBlock with
 |none=>exact .inl rfl
 |some b=>exact .inr λe=>d b p e.symm
def _root_.Go.Proofs.YtlefbenkhgbifaaGreatDoor.Sp.dU.weak {P':Nat->Prop}{v:Value}(h:dU P w B v xs)(c:∀b,b<w.heap.size->P b->P' b):dU P' w B v xs:=kG.any h λb d a=>⟨a.1,c b d a.2⟩
def _root_.Go.Proofs.YtlefbenkhgbifaaGreatDoor.Sp.dU.ltT {v:Value}(h:dU P w B v xs):∀r,v.ownBlock=some r->B<=r/\r<w.heap.size:=kG.lt h
def xc (lo hi:Nat)(m:bO aC)(w:World)(c f:Value):Prop:=match m with
 | .ok t=>∃cc,c= .agg cc/\f= .pointer none/\bH (λb=>lo<=b/\b<hi) w t cc
 | .bad er p=>c= .agg cK/\∃g,f=qP g/\wY (λb=>lo<=b/\b<hi) w g er p
def xc.keep {lo e:Nat}{m:bO aC}{w w':World}{c f:Value}(h:xc lo e m w c f)(i:Below w.heap.size w w'):xc lo e m w' c f:=by
 cases m with
 |ok t=>obtain⟨j,a,b,d⟩:=h;exact⟨j,a,b,d.keep i⟩
 |bad k p=>obtain⟨a,g,b,d⟩:=h;exact⟨a,g,b,d.keep i⟩
def rZ (m:bO aC)(w:World)(e:Ending)(w':World):Prop:=(match m with
 | .ok t=>∃c,e= .returned (.tuple #[.agg c,.pointer none])/\bH (λb=>w.heap.size<=b) w' t c
 | .bad er p=>∃g,e= .returned (.tuple #[.agg cK,qP g])/\wY (λb=>w.heap.size<=b) w' g er p)/\Below w.heap.size w w'
def UM {ok:Nat->Prop}{t:aC}{c:Array Value}(h:bH ok w t c):bH (λb=>ok b/\b<w.heap.size) w t c:=h.any λ_ a d=>⟨d,a⟩
def rZ.res {m:bO aC}{e:Ending}(h:rZ m w e w'):∃c f,e= .returned (.tuple #[c,f])/\xc w.heap.size w'.heap.size m w' c f/\Below w.heap.size w w':=by
 obtain⟨a,b⟩:=h;cases m with
 |ok t=>
  obtain⟨c,rfl,d⟩:=a;exact⟨_,_,rfl,⟨c,rfl,rfl,UM d⟩,b⟩
 |bad k p=>
  obtain⟨g,rfl,i⟩:=a;exact⟨_,_,rfl,⟨rfl,g,rfl,i.any λ_ a j=>⟨j,a⟩⟩,b⟩
def Db (m:bO gP)(w:World)(e:Ending)(w':World):Prop:=(match m with
 | .ok p=>∃c,e= .returned (.tuple #[.agg c,.pointer none])/\bH (λb=>w.heap.size<=b) w' p.opnd c
 | .bad er q=>∃g,e= .returned (.tuple #[.agg cK,qP g])/\wY (λb=>w.heap.size<=b) w' g er q)/\Below w.heap.size w w'
def Eu (g:Nat)(A:Option Addr)(cap:Nat)(rs:List aD)(f:Nat):Prop:=∀(items:List aG) (path:List Int) (k:Nat) (A1 Ap:Option Addr) (c1 cp:Nat) (w:World),wX w g A cap rs->mO w A1 items->items.length<=c1->c1<=9223372036854775807->kK w Ap path->path.length+bK items+1<=900000->bK items<f->nz 1 items=true->k<=2->
 Calls Tryz.prog 69 #[qP g,.slice A1 items.length c1,.slice Ap path.length cp,qI k] w (rZ (dE rs f items path k) w)
def oI (n:aG)(s:Nat):Bool:=decide (n.kind=6)&&(decide (s=0)&&(match n.kids with
 |d::_=>d.kids.isEmpty
 |[]=>false))
def uK (M:List aG->List Int->Nat->bO aC)(n:aG)(path:List Int)(s:Nat):bO (List aC):=if oI n s=true then kF M path (n.kids.drop 1) 1 0 else kF M path (n.kids.drop s) s 0
def Jq {M:List aG->List Int->Nat->bO aC}{ks:List aG}{b:Nat}(h:ks[s]?=some d):kF M path (ks.drop s) s b=(M d.kids (path++[(s:Int)]) b).then_ λt=>(kF M path (ks.drop (s+1)) (s+1) 0).then_ λts=>.ok (t::ts):=by
 obtain⟨a,rfl⟩:=bP.1 h;rw[ib a,kF]
def ND {M:List aG->List Int->Nat->bO aC}(h:oI n s=true):uK M n path s=uK M n path (s+1):=by
 have a:s=0:=by
  unfold oI at h;simp only[aM,eF] at h;exact h.2.1
 subst a;unfold uK;rw[ak h,ai];unfold oI;simp
def NE {M:List aG->List Int->Nat->bO aC}(h:oI n s=false)(a:n.kids[s]?=some d):uK M n path s=(M d.kids (path++[(s:Int)]) 0).then_ λt=>(uK M n path (s+1)).then_ λts=>.ok (t::ts):=by
 have b:oI n (s+1)=false:=by unfold oI;simp
 unfold uK;rw[ai (by rw[h];simp),ai (by rw[b];simp),Jq a]
def rest_end {M:List aG->List Int->Nat->bO aC}(h:n.kids≠[]):uK M n path n.kids.length= .ok []:=by
 have a:oI n n.kids.length=false:=by
  unfold oI;rw[aK (show ¬n.kids.length=0 from λe=>h (eP.1 e))];simp
 unfold uK;rw[ai (by rw[a];simp),nQ,kF]
def UN {M:List aG->List Int->Nat->bO aC}(a:n.kind≠2)(b:n.kind≠3)(c:n.kind≠4)(f:n.kids≠[]):qH M n path=(uK M n path 0).then_ λts=>.ok ⟨.mk 4 (mo n).1 ⟨#[]⟩ (mo n).2 ts,[],⟨#[]⟩,⟨#[]⟩⟩:=by
 unfold qH;rw[ai a,ai b,ai c]
 congr 1
 unfold uK oI;cases g:n.kids with
 |nil=>exact absurd g f
 |cons d ks=>
  simp only[pg,mF]
  by_cases h:n.kind=6/\d.kids.isEmpty=true
  ·rw[ak h,ak (by rw[aJ h.1,h.2];rfl)]
  ·rw[ai h,ai (by
    intro e;simp only[aM,eF] at e;exact h ⟨e.1,e.2.2⟩)]
def qR (tot:bO (List aC))(xs:List aC)(rest:bO (List aC)):Prop:=tot=rest.then_ λts=>.ok (xs++ts)
def qR.start (m:bO (List aC)):qR m [] m:=by
 unfold qR;cases m<;>rfl
def qR.bad {a:bO (List aC)}{xs:List aC}{m:bO aC}{F:aC->bO (List aC)}{b:Int}{p:List Int}(h:qR a xs (m.then_ F))(c:m= .bad b p):a= .bad b p:=by
 unfold qR at h;rw[h,c];rfl
def qR.next {a:bO (List aC)}{m:bO aC}{r:bO (List aC)}{t:aC}(h:qR a xs (m.then_ λt=>r.then_ λts=>.ok (t::ts)))(b:m= .ok t):qR a (xs++[t]) r:=by
 unfold qR at*;rw[h,b];cases r with
 |ok ts=>simp[bO.then_]
 |bad e p=>rfl
def qR.end {a:bO (List aC)}(h:qR a xs (.ok [])):a= .ok xs:=by
 unfold qR at h;rw[h];simp[bO.then_]
def Aq (h:fJ n=true)(b:n.kids[s]?=some d):fJ d=true/\sF n.kind d.kind=false:=by
 obtain⟨k,t,c,ks⟩:=n;rw[fJ,aM] at h;have e:∀(ks:List aG) (s:Nat),nz k ks=true->ks[s]?=some d->fJ d=true/\sF k d.kind=false:=by
  intro ks
  induction ks with
  |nil=>intro s _ h;simp at h
  |cons x ks f=>
   intro s h a;rw[nz] at h;simp only[aM,nI] at h;cases s with
   |zero=>
        obtain rfl:x=d:=by simpa using a
        exact⟨h.2.1,h.1⟩
   |succ s=>exact f s h.2.2 (by simpa using a)
 exact e ks s h.2 b
def Jr (h:fJ n=true)(g:n.kind≠1)(i:n.kids[s]?=some d):nz 1 d.kids=true:=by
 obtain⟨b,a⟩:=Aq h i;have f:d.kind=1:=by
  unfold sF at a;rw[aK g] at a
  by_cases e:d.kind=1
  ·exact e
  ·rw[aK e] at a;cases a
 obtain⟨k,t,c,ks⟩:=d;rw[fJ,aM] at b;change k=1 at f;rw[f] at b;exact b.2
def wu (h:fJ n=true):qD n.kind n.text.data.toList=true/\lJ n.kind n.cols n.kids.length=true:=by
 obtain⟨k,t,c,ks⟩:=n;rw[fJ,aM,kz,aM] at h;exact h.1
def UO {l:List UInt8}(h:fV l=true):l.length<=16:=by
 unfold fV at h
 split at h
 ·simp
 ·simp only[aM,eF] at h;exact h.2.1
def UQ {k:Int}{l:List UInt8}(h:qD k l=true):l.length<=1000:=by
 unfold qD at h
 split at h
 ·have:=UO h;omega
 ·split at h
  ·unfold oG at h;rw[aM,eF] at h;omega
  ·split at h
   ·rw[aM,eF] at h;omega
   ·split at h
    ·unfold kV at h;have b:=rz.1 h;have:∀a∈rT,a.length<=1000:=by decide
     exact this _ b
    ·split at h
     ·unfold Bu at h
      split at h
      ·simp
      ·cases h
     ·rw[lG] at h;rw[h];simp
def Au (h:fJ n=true):n.text.size<=1000:=by
 have:=UQ (wu h).1
 simpa using this
def Bg (a b:ByteArray):(a++b).size=a.size+b.size:=aS
def NF (h:n.text.size<=1000)(b:n.kind=12->n.cols<100):(mo n).1.size<=2000/\(mo n).2.size<=2000:=by
 have q:wU.size<=2000/\mM.size<=2000/\vG.size<=2000/\jW.size<=2000/\wV.size<=2000/\dM.size<=2000/\wW.size<=2000/\dV.size<=2000/\BL.size<=2000/\jU.size<=2000/\jb.size<=2000/\eX.size<=1000/\ik.size<=1000/\vH.size<=2000/\uH.size<=2000:=aI
 obtain⟨c,d,e,a,f,g,i,j,k,l,m,s,t,o,p⟩:=q;unfold mo
 split
 ·exact⟨c,d⟩
 split
 ·refine⟨?_,a⟩;dsimp only
  split
  ·split
   ·exact e
   ·exact a
  ·exact a
 split
 ·exact⟨f,g⟩
 split
 ·exact⟨i,j⟩
 split
 ·exact⟨k,l⟩
 split
 ·exact⟨by show n.text.size<=2000;omega,m⟩
 split
 ·next h12=>
  refine⟨by show eX.size<=2000;omega,?_⟩;have r:(Lib.decDigits n.cols.toNat).length<=20:=by rw[Lib.decDigits_length];exact Lib.nDigits_le20 _ (av (b h12))
  have u:(jy (Lib.decDigits n.cols.toNat)).size<=20:=by simpa [jy,ByteArray.size] using r
  show(eX++jy (Lib.decDigits n.cols.toNat)).size<=2000;rw[Bg];omega
 ·refine⟨?_,?_⟩
  ·show(if n.text.data.toList=[124,124] then vH else uH).size<=2000
   split
   ·exact o
   ·exact p
  ·show(ik++n.text).size<=2000;rw[Bg];omega
def BS (h:fJ n=true)(e:n.kind=12):0<=n.cols/\n.cols<100:=by
 have h:=(wu h).2;unfold lJ at h;rw[ak e,aM,eF] at h;omega
def Js (i:n.kids[s]?=some d):bK d.kids+2<=dK n:=by
 obtain⟨k,t,c,ks⟩:=n;obtain⟨b,e,f,a⟩:=d;rw[dK];have j:∀(ks:List aG) (s:Nat),ks[s]?=some (.mk b e f a)->bK a+1<=bK ks:=by
  intro ks
  induction ks with
  |nil=>intro s h;simp at h
  |cons x ks l=>
   intro s g;rw[bK];cases s with
   |zero=>
    obtain rfl:x= .mk b e f a:=by simpa using g
    rw[dK];omega
   |succ s=>have:=l s (by simpa using g);omega
 have:=j ks s i;show bK a+2<=_;omega
def gQ (h:au x g t #[d0,d1,d2,d3,d4])(j:Below B w x)(i:B<=g)(a b c d e:Value):∃f,((((x.setCell (ag g (0)) a).setCell (ag g (1)) b).setCell (ag g (2)) c).setCell (ag g (3)) d).setCell (ag g (4)) e=f/\Hy (au f g t #[a,b,c,d,e])/\Hy (Below B w f)/\Hy (x.grownBy f (some g)):=
 ⟨_,rfl,zh (sK h a b c d e),zh (Da j (ax i (nR h.lt)) i a b c d e),zh (xP x g a b c d e)⟩
def Bh (h:au x g t #[d0,d1,d2,d3,d4])(a b c d e:Value):∃f,((((x.setCell (ag g (0)) a).setCell (ag g (1)) b).setCell (ag g (2)) c).setCell (ag g (3)) d).setCell (ag g (4)) e=f/\Hy (au f g t #[a,b,c,d,e])/\Hy (x.grownBy f (some g)):=
 ⟨_,rfl,zh (sK h a b c d e),zh (xP x g a b c d e)⟩
def jF {a b c d e:Value}(h:Hy (au x g t #[a,b,c,d,e])):x.cell? (ag g (0))=some a/\x.cell? (ag g (1))=some b/\x.cell? (ag g (2))=some c/\x.cell? (ag g (3))=some d/\x.cell? (ag g (4))=some e:=
 ⟨h.o.cell 0,h.o.cell 1,h.o.cell 2,h.o.cell 3,h.o.cell 4⟩
end El
end Go.Proofs.YtlefbenkhgbifaaGreatDoor
