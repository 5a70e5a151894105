/- Nodes in new memory: their cells lie in named blocks. -/
import Derived.Test.YtlefbenkhgbifaaGreatDoorHcc7e0f75
set_option linter.all false
set_option maxRecDepth 100000
set_option maxHeartbeats 1600000
namespace Go.Proofs.YtlefbenkhgbifaaGreatDoor
open Tryz
namespace El
open At Ch Sp Sy Go.RowKit
def Gg {rs:List aD}{M:List aG->List Int->Nat->bO aC}{path:List Int}{pb:Nat->Bool}{k:Nat}:∀(a:List aG) (ts:List ByteArray) (i:Nat) (xs:List (List aC)),a.length=ts.length->uM rs M path pb k a ts i= .ok xs->xs.length=a.length/\∀q n t,a[q]?=some n->ts[q]?=some t->∃x,xs[q]?=some x/\iX rs M n (path++[((k+(i+q):Nat):Int)]) (!decide (t.data.toList=[35])) (pb (i+q))= .ok x
 |[],ts,i,xs,_,h=>by
  rw[uM] at h
  ·injection h with h;subst h;exact⟨rfl,λq n t j=>by simp at j⟩
  ·intro n a t ts d;cases d
 |n::a,[],i,xs,f,_=>by simp at f
 |n::a,t::ts,i,xs,f,h=>by
  rw[uM] at h;cases d:iX rs M n (path++[((k+i:Nat):Int)]) (!decide (t.data.toList=[35])) (pb i) with
  |bad e p=>rw[d] at h;cases h
  |ok x=>
   rw[d] at h;simp only[bO.then_] at h;cases g:uM rs M path pb k a ts (i+1) with
   |bad e p=>rw[g] at h;cases h
   |ok us=>
    rw[g] at h;simp only at h;injection h with h;subst h;obtain⟨l,o⟩:=Gg a ts (i+1) us (by simpa using f) g;refine⟨by rw[aY,aY,l],λq m u b c=>?_⟩;cases q with
    |zero=>
     rw[iD] at b c;injection b with b;injection c with c;subst b;subst c;exact⟨x,rfl,d⟩
    |succ q=>
     rw[eD] at b c;obtain⟨y,r,s⟩:=o q m u b c;exact⟨y,by rw[eD];exact r,by rw[show i+(q+1)=i+1+q from aa];exact s⟩
def JH {rs:List aD}{M:List aG->List Int->Nat->bO aC}{path:List Int}{k:Nat}{items:List aG}{ts:List ByteArray}{x:Rd}(u:fZ rs=true)(l:jP rs items= .inl ts)(h:x∈aX rs ts 0 ts.length)(m:∀n∈items,nY n):
  ((pR rs M path (λi=>dF rs ((wT (eQ rs x ts.length) ts.length).getD i 0)) k items ts 0).then_ λps=>.ok (mi rs ps x ts.length))=(uM rs M path (λi=>decide ((i:Int)∈kH rs x)) k items ts 0).then_ λxs=>.ok (dO rs items xs x ts.length):=by
 have v:=Al l;have o:=yH _ 0 ts.length x (aH _) h;rw[NU (pb:=λi=>decide ((i:Int)∈kH rs x)) items ts 0 m (λq t j f=>by
  rw[fe];exact Vk h (bP.1 j).1 (by rw[Dj j];exact aK f))]
 cases w:uM rs M path (λi=>decide ((i:Int)∈kH rs x)) k items ts 0 with
 |bad e p=>rfl
 |ok xs=>
  simp only[bO.then_]
  congr 1
  obtain⟨B,z⟩:=Gg items ts 0 xs v.symm w;refine BZ u (kd:=λi=>dF rs ((wT (eQ rs x ts.length) ts.length).getD i 0)) _ 0 ts.length x (aH _) (λq j=>?_) h (λp r=>?_)
  ·obtain⟨n,d⟩:∃n,items[q]?=some n:=⟨_,gE aa⟩
   have g:=Ey l q n d;obtain⟨y,s,c⟩:=z q n _ d g.1;refine⟨n,_,y,d,g.1,s,by have:=NT rs (λi=>dF rs ((wT (eQ rs x ts.length) ts.length).getD i 0)) items ts xs 0 q n _ y d g.1 s;rwa [fe] at this,λf=>⟨NY (JE f),λA=>?_⟩⟩;rw[aK f,ry] at c;unfold iX at c;rw[ak rfl,(m n (dQ d)).1 (.inl A),List.tail_nil,kF] at c;injection c with c;exact c.symm
  ·obtain⟨a,b,rfl,_,g,_⟩:=BO o p r;have:=BV o r;show dF rs ((wT (eQ rs x ts.length) ts.length).getD (Int.toNat (a:Int)) 0)=_;rw[fU,this]
end El
namespace Rn
open At Ch Sp Sy El Go.RowKit
variable{a frm:ByteArray}{n:aG}{rs:List aD}{p:Bool}{y:List aC}{rows:List (List aG)}{k r:Nat}{u:aD}{l x:List aG}
def yL {b:ByteArray}(h:a.data.toList=b.data.toList):a=b:=by
 cases a with
 |mk a=>cases b with
  |mk b=>
   have:a=b:=pz.1 h;rw[this]
def Oe (h:a.data.toList=[]):a=⟨#[]⟩:=yL h
def JI (h:fJ n=true)(a:n.kind≠2/\n.kind≠3/\n.kind≠4/\n.kind≠10/\n.kind≠11)(e:n.kind≠12):n= .mk n.kind ⟨#[]⟩ 0 n.kids:=by
 obtain⟨b,d⟩:=wu h;unfold qD at b;unfold lJ at d;rw[ai a.1,ai a.2.1,ai a.2.2.1,ai a.2.2.2.1,ai a.2.2.2.2] at b;rw[ai e,aM,eF] at d;cases n with
 |mk k t c ks=>
  have f:t=⟨#[]⟩:=Oe (lG.1 b);have g:c=0:=d.1;rw[f,g];rfl
def BS (h:fJ n=true)(b:n.kind≠12):n.cols=0:=by
 have a:=(wu h).2;unfold lJ at a;rw[ai b,aM,eF] at a;exact a.1
def Cc (h:fJ n=true)(a:n.kind=1):n=aQ n.kids:=by
 have:=JI h aa aa;rw[a] at this;exact this
def Ez (h:fJ n=true)(b:n.kind=2\/n.kind=3\/n.kind=4):n= .mk n.kind n.text 0 []:=by
 have d:=BS h aa;have a:=(wu h).2;unfold lJ at a;rw[ai aa,aM,ai aa,ak b,eF] at a;replace a:=eP.1 (bD a.2);cases n with
 |mk k t c ks=>
  have e:c=0:=d;have f:ks=[]:=a;rw[e,f];rfl
def EA (h:fJ n=true)(a:n.kind=2):n=dh n.text:=by
 have:=Ez h (.inl a);rw[a] at this;exact this
def kids_rows (h:fJ n=true)(c:n.kind≠1):∀d∈n.kids,fJ d=true/\d.kind=1:=by
 intro d e;obtain⟨s,f⟩:=gz.1 e;obtain⟨g,a⟩:=Aq h f;refine⟨g,?_⟩;unfold sF at a;rw[aK c] at a
 by_cases b:d.kind=1
 ·exact b
 ·rw[aK b] at a;cases a
def Gi {d:aG}(h:fJ d=true)(a:d.kind=1):nz 1 d.kids=true:=by
 cases d with
 |mk k t c ks=>
  rw[fJ,aM] at h;have:k=1:=a;rw[<-this];exact h.2
def Gj {ks:List aG}(h:∀d∈ks,fJ d=true/\d.kind=1):(ks.map aG.kids).map aQ=ks:=by
 induction ks with
 |nil=>rfl
 |cons d r a=>
  rw[di,di,<-Cc (h d bZ).1 (h d bZ).2,a λe b=>h e (dP _ b)]
def Og (rs:List aD):∀(a b:List aC),bI rs (a++b)=(bI rs a).bind λx=>(bI rs b).bind λy=>some (x++y)
 |[],b=>by
  rw[iA,show bI rs []=some [] by rw[bI]];cases bI rs b<;>rfl
 |m::a,b=>by
  rw[iB,bI,bI,Og rs a b];cases jd rs m with
  |none=>rfl
  |some l=>
   cases bI rs a with
   |none=>rfl
   |some x=>cases bI rs b<;>rfl
def Ce (rs:List aD)(M:List aG->List Int->Nat->bO aC):Prop:=∀items path k t,nz 1 items=true->M items path k= .ok t->jd rs t=some (items.drop k)
def then_ok {α β:Type}{m:bO α}{f:α->bO β}{b:β}(h:m.then_ f= .ok b):∃a,m= .ok a/\f a= .ok b:=by
 cases m with
 |ok a=>exact⟨a,rfl,h⟩
 |bad e p=>cases h
def Ay (k:Nat):List aG->List (List aG)
 |[]=>[]
 |d::r=>d.kids.drop k::r.map aG.kids
def Gl {rs:List aD}{M:List aG->List Int->Nat->bO aC}(a:Ce rs M){path:List Int}:∀(ks:List aG) (s b:Nat) (ts:List aC),(∀d∈ks,fJ d=true/\d.kind=1)->kF M path ks s b= .ok ts->
  bI rs ts=some (Ay b ks)
 |[],s,b,ts,_,h=>by
  rw[kF] at h;injection h with h;rw[<-h,bI,Ay]
 |d::r,s,b,ts,c,h=>by
  rw[kF] at h;obtain⟨t,f,h⟩:=then_ok h;obtain⟨g,i,h⟩:=then_ok h;injection h with h;obtain⟨j,k⟩:=c d bZ;have l:=a _ _ _ _ (Gi j k) f;have m:=Gl a r (s+1) 0 g (λe n=>c e (dP _ n)) i;rw[<-h,bI,l,m];cases r with
  |nil=>rfl
  |cons e q=>rfl
def gI (rs:List aD)(n:aG)(op p:Bool):List (List aG):=
 if op=true then Ay (if(dN rs n p).isSome then 2 else 0) n.kids.tail
 else match n.kids with
  |d::ks=>if n.kind=6/\d.kids.isEmpty=true then ks.map aG.kids else(d::ks).map aG.kids
  |[]=>[]
def VN {M:List aG->List Int->Nat->bO aC}(b:Ce rs M){path:List Int}{c:Bool}(i:fJ n=true)(j:n.kind≠1)(h:iX rs M n path c p= .ok y):bI rs y=some (gI rs n c p):=by
 have a:=kids_rows i j;unfold iX at h;unfold gI;cases c with
 |true=>
  rw[ak rfl] at h⊢;exact Gl b _ _ _ _ (λd k=>a d (List.mem_of_mem_tail k)) h
 |false=>
  rw[ai aI] at h⊢;cases f:n.kids with
  |nil=>
   rw[f] at h;injection h with h;rw[<-h,bI]
  |cons d ks=>
   rw[f] at h a;dsimp only at h⊢
   by_cases g:n.kind=6/\d.kids.isEmpty=true
   ·rw[ak g] at h⊢;rw[Gl b _ _ _ _ (λe l=>a e (dP _ l)) h];cases ks<;>rfl
   ·rw[ai g] at h⊢;rw[Gl b _ _ _ _ a h];rfl
def VO (rs:List aD)(nam vr frm:ByteArray)(args:List aC)(k:Int)(a:k=4\/k=5):jd rs (.mk k nam vr frm args)=vL rs nam vr frm (bI rs args):=by
 rw[jd,ai aa,ai aa,ai aa]
def Cf {nam vr:ByteArray}{k:FK}(h:iG frm.data.toList=some k):vL rs nam vr frm (some rows)=bG rs nam vr rows k:=by
 unfold vL;rw[oz,h]
def Oh {nam vr:ByteArray}(h:iG frm.data.toList=none):vL rs nam vr frm (some rows)=pU frm.data.toList rows:=by
 unfold vL;rw[oz,h]
def JJ (h:fJ n=true)(a:n.kind≠1)(b:n.kind≠12)(d:n.kids.length=k):mP n.kind n.text (n.kids.map aG.kids) k=some [n]:=by
 unfold mP;rw[ak (by rw[dI,d]),Gj (kids_rows h a)];have e:=BS h b;cases n with
 |mk k t c ks=>
  have f:c=0:=e;rw[f];rfl
def Oi (l:List UInt8):iG (ik.data.toList++l)=none:=by
 unfold iG;rw[wJ,List.find?_eq_none];intro p a;simp only[Bj,dD,nS,or_false] at a;rcases a with rfl|rfl|rfl|rfl|rfl|rfl|rfl|rfl|rfl|rfl|rfl|rfl|rfl|rfl|rfl|rfl|rfl|rfl|rfl|rfl|rfl<;>
  simp[mM,jW,dM,dV,jU,jb,kE,gG,ic,iL,mh,ik]
def Oj (l:List UInt8):iG (eX.data.toList++l)=none:=by
 unfold iG;rw[wJ,List.find?_eq_none];intro p a;simp only[Bj,dD,nS,or_false] at a;rcases a with rfl|rfl|rfl|rfl|rfl|rfl|rfl|rfl|rfl|rfl|rfl|rfl|rfl|rfl|rfl|rfl|rfl|rfl|rfl|rfl|rfl<;>
  simp[mM,jW,dM,dV,jU,jb,kE,gG,ic,iL,mh,eX]
def JK {c:Nat}(h:c<10):Lib.decDigits c=[UInt8.ofNat (48+c)]:=by rw[Lib.decDigits,dif_pos h]
def Ol {c:Nat}(h:¬c<10)(a:c<100):Lib.decDigits c=[UInt8.ofNat (48+c/10),UInt8.ofNat (48+c%10)]:=by
 rw[Lib.decDigits,dif_neg h,JK aa];rfl
def VP:∀c:Nat,c<10->Lib.atoiAll [UInt8.ofNat (48+c)]= .ok (c:Int):=aI
def VQ:∀c:Nat,c<17->¬c<10->Lib.atoiAll [UInt8.ofNat (48+c/10),UInt8.ofNat (48+c%10)]= .ok (c:Int):=aI
def Om {c:Nat}(h:c<17):Lib.atoiAll (Lib.decDigits c)= .ok (c:Int):=by
 by_cases a:c<10
 ·rw[JK a,VP c a]
 ·rw[Ol a aa,VQ c h a]
def yM (a b:ByteArray):(a++b).data.toList=a.data.toList++b.data.toList:=aS
def Gm (l:List UInt8):(jy l).data.toList=l:=by unfold jy;simp
def yN (rs:List aD)(nam vr frm:ByteArray)(args:List aC)(rows:List (List aG))(k:Int)(a:k=4\/k=5)(h:bI rs args=some rows):jd rs (.mk k nam vr frm args)=vL rs nam vr frm (some rows):=by
 rw[VO rs nam vr frm args k a,h]
def yO (h:fJ n=true){m:Nat}(b:(if n.kind=1 then decide (n.kids.length<=200) else if n.kind=2\/n.kind=3\/n.kind=4 then decide (n.kids.length=0) else if n.kind=5\/n.kind=6\/n.kind=7\/n.kind=8 then decide (n.kids.length=2) else if n.kind=9 then decide (n.kids.length=3) else if n.kind=10\/n.kind=11 then decide (n.kids.length=1) else false)=decide (n.kids.length=m))(c:n.kind≠12):n.kids.length=m:=by
 have a:=(wu h).2;unfold lJ at a;rw[ai c,aM,b] at a;exact bD a.2
def VR (a:n.kind≠6):gI rs n false p=n.kids.map aG.kids:=by
 unfold gI;rw[ai aI];cases n.kids with
 |nil=>rfl
 |cons d ks=>
  dsimp only;rw[ai λh=>a h.1]
def Oo (h:fJ n=true)(a:n.kind≠2/\n.kind≠3/\n.kind≠4/\n.kind≠10/\n.kind≠11):n.text=⟨#[]⟩:=by
 have b:=(wu h).1;unfold qD at b;rw[ai a.1,ai a.2.1,ai a.2.2.1,ai a.2.2.2.1,ai a.2.2.2.2] at b;exact Oe (lG.1 b)
def Oq (h:fJ n=true)(b:n.kind≠1):n.kind=2\/n.kind=3\/n.kind=4\/n.kind=5\/n.kind=6\/n.kind=7\/n.kind=8\/n.kind=9\/n.kind=10\/n.kind=11\/n.kind=12:=by
 have a:=(wu h).2;unfold lJ at a
 by_cases c:n.kind=12
 ·omega
 rw[ai c,aM,ai b] at a
 by_cases d:n.kind=2\/n.kind=3\/n.kind=4
 ·omega
 by_cases e:n.kind=5\/n.kind=6\/n.kind=7\/n.kind=8
 ·omega
 by_cases f:n.kind=9
 ·omega
 by_cases g:n.kind=10\/n.kind=11
 ·omega
 rw[ai d,ai e,ai f,ai g] at a;cases a.2
def VS (a:fJ n=true)(f:n.kind≠1)(z:bI rs y=some (gI rs n false p)):jd rs (lM n y)=some [n]:=by
 unfold lM
 by_cases j:n.kind=2
 ·rw[ak j,jd,ai aI,ak rfl,<-EA a j]
 rw[ai j]
 by_cases g:n.kind=3
 ·have:=Ez a (.inr (.inl g));rw[g] at this;rw[ak g,jd,ak rfl,<-this]
 rw[ai g]
 by_cases i:n.kind=4
 ·have:=Ez a (.inr (.inr i));rw[i] at this;rw[ak i,jd,ai aI,ai aI,ak rfl,<-this]
 rw[ai i];rw[yN rs _ _ _ _ _ 4 (.inl rfl) z];have m:n.kind≠6->gI rs n false p=n.kids.map aG.kids:=λh=>VR h
 have o:∀(k:Nat) (s:FK) (frm:ByteArray),n.kind≠6->n.kind≠12->n.kind≠10->n.kind≠11->n.kids.length=k->iG frm.data.toList=some s->(∀rows,bG rs (iQ n y.length).1 ⟨#[]⟩ rows s=mP n.kind ⟨#[]⟩ rows k)->vL rs (iQ n y.length).1 ⟨#[]⟩ frm (some (gI rs n false p))=some [n]:=by
  intro k s frm l A B C u D E;rw[Cf D,E,m l];have:=JJ a f A u
  rwa [Oo a ⟨j,g,i,B,C⟩] at this
 rcases Oq a f with h|h|h|h|h|h|h|h|h|h|h
 ·exact absurd h j
 ·exact absurd h g
 ·exact absurd h i
 ·have b:(iQ n y.length).2=mM:=by unfold iQ;rw[ak h]
  rw[b];refine o 2 .frac _ aa aa aa aa (yO a ?_ aa) aI λrows=>by rw[h];rfl
  rw[ai f,ai aa,ak aa]
 ·have b:(iQ n y.length).2=jW:=by unfold iQ;rw[ai aa,ak h]
  have u:n.kids.length=2:=yO a (by rw[ai f,ai aa,ak aa]) aa;have v:=JI a ⟨aa,aa,aa,aa,aa⟩ aa;rw[h] at v;rw[b,Cf (k:=.root) aI];have x:=kids_rows a f;unfold gI;rw[ai aI]
  match hkk:n.kids,u with
  |[d,e],_=>
   have q:=x d (by rw[hkk];simp);have r:=x e (by rw[hkk];simp);dsimp only
   by_cases l:n.kind=6/\d.kids.isEmpty=true
   ·rw[ak l];show some [aG.mk 6 ⟨#[]⟩ 0 [aQ [],aQ e.kids]]=_;rw[<-Cc r.1 r.2,show aQ []=d by rw[Cc q.1 q.2,lG.1 l.2],v,hkk]
   ·rw[ai l];show some [aG.mk 6 ⟨#[]⟩ 0 [aQ d.kids,aQ e.kids]]=_;rw[<-Cc r.1 r.2,<-Cc q.1 q.2,v,hkk]
 ·have b:(iQ n y.length).2=dM:=by unfold iQ;rw[ai aa,ai aa,ak h]
  rw[b];refine o 2 .sub _ aa aa aa aa (yO a ?_ aa) aI λrows=>by rw[h];rfl
  rw[ai f,ai aa,ak aa]
 ·have b:(iQ n y.length).2=dV:=by unfold iQ;rw[ai aa,ai aa,ai aa,ak h]
  rw[b];refine o 2 .sup _ aa aa aa aa (yO a ?_ aa) aI λrows=>by rw[h];rfl
  rw[ai f,ai aa,ak aa]
 ·have b:(iQ n y.length).2=jU:=by unfold iQ;rw[ai aa,ai aa,ai aa,ai aa,ak h]
  rw[b];refine o 3 .both _ aa aa aa aa (yO a ?_ aa) aI λrows=>by rw[h];rfl
  rw[ai f,ai aa,ai aa,ak h]
 ·have b:iQ n y.length=(n.text,jb):=by unfold iQ;rw[ai aa,ai aa,ai aa,ai aa,ai aa,ak h]
  rw[b,Cf (k:=.accent) (show iG jb.data.toList=some .accent from aI),m aa];have:=JJ (k:=1) a f aa (yO a (by rw[ai f,ai aa,ai aa,ai aa,ak aa]) aa)
  rwa [h] at this
 ·have b:(iQ n y.length).2=ik++n.text:=by unfold iQ;rw[ai aa,ai aa,ai aa,ai aa,ai aa,ai aa,ai aa]
  rw[b,Oh (by rw[yM];exact Oi _),m aa,yM];have:=JJ (k:=1) a f aa (yO a (by rw[ai f,ai aa,ai aa,ai aa,ak aa]) aa);rw[h] at this;unfold pU;rw[ak (List.prefix_append _ _),show(ik.data.toList++n.text.data.toList).drop 5=n.text.data.toList from rfl];exact this
 ·have b:(iQ n y.length).2=eX++jy (Lib.decDigits n.cols.toNat):=by unfold iQ;rw[ai aa,ai aa,ai aa,ai aa,ai aa,ai aa,ak h]
  have w:=(wu a).2;unfold lJ at w;rw[ak h,aM] at w;have I:=bD w.1;rw[b,Oh (by rw[yM];exact Oj _),m aa,yM,Gm];unfold pU;rw[ai (by simp[ik,eX]),ak (List.prefix_append _ _),show(eX.data.toList++Lib.decDigits n.cols.toNat).drop 6=Lib.decDigits n.cols.toNat from rfl,Om aa];dsimp only;rw[Gj (kids_rows a f),show((n.cols.toNat:Nat):Int)=n.cols by omega];have F:=Oo a ⟨j,g,i,aa,aa⟩;cases n with
  |mk k t c ks=>
   have G:k=12:=h;have H:t=⟨#[]⟩:=F;rw[G,H];rfl
def Ot {ts:List aG}{k:Int}(h:nz k ts=true):∀x∈ts,fJ x=true:=by
 induction ts with
 |nil=>intro x a;cases a
 |cons t r b=>
  rw[nz,aM,aM] at h;intro x a;rcases dD.1 a with rfl|a
  ·exact h.2.1
  ·exact b h.2.2 x a
def VT (a:oh rs n=true):(eH n).kind=2:=by
 unfold oh at a;rw[aM,eF] at a;exact a.1
def VU (g:fJ n=true)(j:n.kind≠1)(o:oh rs n=true):n=dh (eH n).text\/∃r,(n.kind=7\/n.kind=8\/n.kind=9)/\n= .mk n.kind ⟨#[]⟩ 0 (aQ [dh (eH n).text]::r)/\(∀d∈r,fJ d=true/\d.kind=1)/\r.length=fF n.kind.toNat/\n.kids.tail=r:=by
 have a:=VT o
 by_cases e:n.kind=7\/n.kind=8\/n.kind=9
 ·have l:=kids_rows g j;have p:=JI g ⟨aa,aa,aa,aa,aa⟩ aa;cases c:n.kids with
  |nil=>
   unfold eH at a;rw[ak e,c] at a;dsimp only at a;omega
  |cons b r=>
   have k:=l b (by rw[c];exact bZ);have s:n.kids.length=fF n.kind.toNat+1:=by
    rcases e with h|h|h
    ·rw[yO (m:=2) g (by rw[ai j,ai aa,ak aa]) aa,h];rfl
    ·rw[yO (m:=2) g (by rw[ai j,ai aa,ak aa]) aa,h];rfl
    ·rw[yO (m:=3) g (by rw[ai j,ai aa,ai aa,ak h]) aa,h];rfl
   rw[c,aY] at s;cases i:b.kids with
   |nil=>
    have f:eH n=n:=by
     unfold eH;rw[ak e,c];dsimp only;rw[i]
    rw[f] at a;omega
   |cons x q=>cases q with
    |nil=>
     have f:eH n=x:=by
      unfold eH;rw[ak e,c];dsimp only;rw[i]
     rw[f] at a⊢;have t:=Ot (Gi k.1 k.2) x (by rw[i];exact bZ);have u:=EA t a;refine .inr ⟨r,e,?_,λd v=>l d (by rw[c];exact dP _ v),aa,rfl⟩;rw[<-u,<-i,<-Cc k.1 k.2,<-c];exact p
    |cons w q=>
     have f:eH n=n:=by
      unfold eH;rw[ak e,c];dsimp only;rw[i]
     rw[f] at a;omega
 ·have f:eH n=n:=by unfold eH;rw[ai e]
  rw[f] at a⊢;exact .inl (EA g a)
def Ou (a:fZ rs=true)(d:rs[r]?=some u):sM rs u.kind u.nam.data.toList=some r:=by
 unfold sM;obtain⟨e,f⟩:=bP.1 d;rw[qY];refine⟨e,by rw[f];simp,λj i b=>?_⟩;have g:vR rs rs.length=true:=by unfold fZ at a;rw[aM] at a;exact a.2
 have c:=(DN g e d).2;unfold wN at c;rw[nI,xy] at c;have k:j<rs.length:=aa
 have h:rs[j]∈rs.take r:=List.mem_take_iff_getElem.2 ⟨j,aa,rfl⟩;refine c _ h ?_;unfold nk;rw[aM,eF,eF] at b;rw[b.1,aJ rfl,aW,kT];exact .inr (by rw[yL b.2];exact lh _)
def Az (kd:Int)(n:aG)(A:List (List aG)):Option (List aG):=
 if kd=1 then(match A with
  |[a,b]=>some (a++[n]++b)
  |_=>none)
 else if kd=2 then(match A with
  |[a]=>some (n::a)
  |_=>none)
 else(match A with
  |[a]=>some (a++[n])
  |_=>none)
def Cg (kd:Int):Nat:=if kd=1 then 2 else 1
def JL (kd:Int)(e:Nat):FK:=if kd=1 then .inf e else if kd=2 then .pre e else .pos e
def Gn (kd:Int)(e:Int)(a:kd=1\/kd=2\/kd=3)(b:e=2\/e=7\/e=8\/e=9):iG (iW kd++eT e).data.toList=some (JL kd (if e=2 then 0 else e.toNat)):=by
 rw[yM];rcases a with rfl|rfl|rfl<;>rcases b with rfl|rfl|rfl|rfl<;>decide
def Ov (e:Int)(a:e=7\/e=9):iG (mh++eT e).data.toList=some (.bind e.toNat):=by
 rw[yM];rcases a with rfl|rfl<;>decide
def JM (c:fZ rs=true)(a:rs[r]?=some u)(e:Nat)(R A:List (List aG))(b:R.length=fF e):kL rs u.kind u.nam e (R++A) A.length=some (if e=0 then dh u.sym else .mk e ⟨#[]⟩ 0 (aQ [dh u.sym]::R.map aQ),A):=by
 unfold kL;rw[Ou c a];dsimp only;rw[a];dsimp only;rw[ak (by rw[aO,b]),<-b,List.take_left,List.drop_left]
def Ow (rs:List aD)(nam vr:ByteArray)(kd:Int)(c:kd=1\/kd=2\/kd=3)(e:Nat)(rows A:List (List aG))(o:aG)(h:kL rs kd nam e rows (Cg kd)=some (o,A)):bG rs nam vr rows (JL kd e)=Az kd o A:=by
 rcases c with rfl|rfl|rfl
 ·show(match kL rs 1 nam e rows 2 with
   |some (o,[a,b])=>some (a++[o]++b)
   |_=>none)=_
  rw[show kL rs 1 nam e rows 2=some (o,A) from h]
  match A with
  |[a,b]=>rfl
  |[]=>rfl
  |[_]=>rfl
  |_::_::_::_=>rfl
 ·show(match kL rs 2 nam e rows 1 with
   |some (o,[a])=>some (o::a)
   |_=>none)=_
  rw[show kL rs 2 nam e rows 1=some (o,A) from h]
  match A with
  |[a]=>rfl
  |[]=>rfl
  |_::_::_=>rfl
 ·show(match kL rs 3 nam e rows 1 with
   |some (o,[a])=>some (a++[o])
   |_=>none)=_
  rw[show kL rs 3 nam e rows 1=some (o,A) from h]
  match A with
  |[a]=>rfl
  |[]=>rfl
  |_::_::_=>rfl
def VV (rs:List aD)(nam vr:ByteArray)(e:Nat)(rows A:List (List aG))(o:aG)(h:kL rs 2 nam e rows 1=some (o,A)):bG rs nam vr rows (.bind e)=Az 2 (wZ vr o) A:=by
 show(match kL rs 2 nam e rows 1 with
  |some (o,[a])=>some (wZ vr o::a)
  |_=>none)=_
 rw[h]
 match A with
 |[a]=>rfl
 |[]=>rfl
 |_::_::_=>rfl
def VW {v:ByteArray}(g:fJ n=true)(i:n.kind≠1)(h:dN rs n p=some v):p=true/\(n.kind=7\/n.kind=9)/\∃b s r,n.kids=b::s::r/\s.kids=dh v::dh sN::s.kids.drop 2:=by
 unfold dN at h
 split at h
 ·next hc=>
  refine⟨hc.1,hc.2,?_⟩
  match hks:n.kids,h with
  |b::s::r,h=>
   refine⟨b,s,r,rfl,?_⟩;have e:=kids_rows g i s (by rw[hks];simp);have f:=Ot (Gi e.1 e.2);dsimp only at h;unfold vY at h
   match hsk:s.kids,h with
   |a::c::d::q,h=>
    dsimp only at h
    split at h
    ·next hc2=>
     injection h with h;have j:=EA (f a (by rw[hsk];simp)) hc2.1.1;have k:=EA (f c (by rw[hsk];simp)) hc2.2.1;rw[j,k,h,yL (a:=c.text) (b:=sN) hc2.2.2];rfl
    ·cases h
   |[],h=>cases h
   |[_],h=>cases h
   |[_,_],h=>cases h
  |[],h=>cases h
  |[_],h=>cases h
 ·cases h
def VX (j:fZ rs=true){args:List aC}{A:List (List aG)}(w:fJ n=true)(x:n.kind≠1)(G:oh rs n=true)(k:rs[r]?=some u)(l:u.sym=(eH n).text)(h:u.kind=1\/u.kind=2\/u.kind=3)
  (H:bI rs y=some (gI rs n true (decide (u.kind=2)))) (I:bI rs args=some A) (m:A.length=Cg u.kind):jd rs (yK rs u.nam u.kind (some (n,y)) args)=Az u.kind n A:=by
 have o:bI rs (y++args)=some (gI rs n true (decide (u.kind=2))++A):=by rw[Og,H,I];rfl
 unfold yK;dsimp only;rcases VU w x G with c|⟨e,J,c,p,z,B⟩
 ·have K:n.kind=2:=by rw[c];rfl
  have L:n.kids=[]:=by rw[c];rfl
  have f:dN rs n (decide (u.kind=2))=none:=by
   unfold dN;rw[ai aa]
  rw[f];dsimp only;rw[yN rs _ _ _ _ _ 4 (.inl rfl) o,K,Cf (Gn u.kind 2 h (.inl rfl)),ak rfl];have i:gI rs n true (decide (u.kind=2))=[]:=by unfold gI;rw[ak rfl,L];rfl
  have a:=JM j k 0 [] A rfl;rw[m,ak rfl,l,<-c] at a;rw[i];exact Ow rs u.nam ⟨#[]⟩ u.kind h 0 _ A n a
 ·have M:n.kind=2\/n.kind=7\/n.kind=8\/n.kind=9:=.inr J;have C:((n.kind.toNat:Nat):Int)=n.kind:=by omega
  have D:¬n.kind.toNat=0:=aa
  have i:gI rs n true (decide (u.kind=2))=Ay (if(dN rs n (decide (u.kind=2))).isSome then 2 else 0) e:=by unfold gI;rw[ak rfl,B]
  cases f:dN rs n (decide (u.kind=2)) with
  |none=>
   dsimp only;have t:gI rs n true (decide (u.kind=2))=e.map aG.kids:=by
    rw[i,f];cases e<;>rfl
   rw[yN rs _ _ _ _ _ 4 (.inl rfl) o,Cf (Gn u.kind n.kind h M),ai aa];have a:=JM j k n.kind.toNat (e.map aG.kids) A (by rw[dI,z]);rw[m,ai D,Gj p,l,C,<-c] at a;rw[t];exact Ow rs u.nam ⟨#[]⟩ u.kind h _ _ A n a
  |some v=>
   dsimp only;obtain⟨N,O,b,s,q,P,Q⟩:=VW w x f;have E:u.kind=2:=bD N;have g:e=s::q:=by rw[<-B,P];rfl
   have t:gI rs n true (decide (u.kind=2))=s.kids.drop 2::q.map aG.kids:=by
    rw[i,f,g];rfl
   rw[yN rs _ _ _ _ _ 5 (.inr rfl) o,Cf (Ov n.kind O)];have a:=JM j k n.kind.toNat (s.kids.drop 2::q.map aG.kids) A (by rw[<-z,g];simp);rw[m,ai D,E,C,l] at a;rw[t];have F:=p s (by rw[g];exact bZ);have R:wZ v (.mk n.kind ⟨#[]⟩ 0 (aQ [dh (eH n).text]::(s.kids.drop 2::q.map aG.kids).map aQ))=n:=by
    rw[di,Gj λd S=>p d (by rw[g];exact dP _ S)];show aG.mk n.kind ⟨#[]⟩ 0 (aQ [dh (eH n).text]::aQ (dh v::dh sN::s.kids.drop 2)::q)=n;rw[<-Q,<-Cc F.1 F.2,<-g];exact c.symm
   have:=VV rs u.nam v n.kind.toNat _ A _ a;rw[R] at this;rw[this,E]
def oJ (l:List aG)(i j:Nat):List aG:=(l.drop i).take (j -i)
def EB {i j:Nat}(a:i<=k)(b:k<=j):oJ l i k++oJ l k j=oJ l i j:=by
 unfold oJ;rw[show l.drop k=(l.drop i).drop (k -i) by rw[List.drop_drop];congr 1;omega,show j -i=(k -i)+(j -k) from aa,List.take_add]
def Gp (h:l[k]?=some n):oJ l k (k+1)=[n]:=by
 obtain⟨a,b⟩:=bP.1 h;unfold oJ;rw[ib a,b,show k+1 -k=1 from aa];rfl
def JN {a:aC}(h:jd rs a=some x):bI rs [a]=some [x]:=by
 rw[bI,h,bI];rfl
def Ox {a b:aC}{y:List aG}(h:jd rs a=some x)(c:jd rs b=some y):bI rs [a,b]=some [x,y]:=by
 rw[bI,h,JN c];rfl
def EC (rs:List aD)(ts:List ByteArray)(its:List aG)(xs:List (List aC))(pb:Nat->Bool):Prop:=∀q,q<its.length->∃n y,its[q]?=some n/\ts[q]?=some (iM rs n)/\xs[q]?=some y/\bI rs y=some (gI rs n (!decide ((iM rs n).data.toList=[35])) (pb q))/\fJ n=true/\n.kind≠1
def Ci {rs:List aD}(t:fZ rs=true){ts:List ByteArray}{its:List aG}{xs:List (List aC)}{pb:Nat->Bool}(v:EC rs ts its xs pb):∀(m i j:Nat) (x:Rd),j -i<=m->j<=its.length->x∈aX rs ts i j->(∀p∈eQ rs x (j:Int),pb p.1.toNat=decide (dF rs p.2=2))->jd rs (dO rs its xs x (j:Int))=some (oJ its i j)
 |0,i,j,x,R,_,h=>av (sD h)
 |m+1,i,j,x,R,I,h=>by
  intro F;have S:=sD h;have J:∀(q n:Nat) (u:aD),q<j->rs[n]?=some u->(u.kind=1\/u.kind=2\/u.kind=3)->ed ts q u.sym.toList=true->((q:Int),(n:Int))∈eQ rs x (j:Int)->∀(args:List aC) (A:List (List aG)),bI rs args=some A->A.length=Cg u.kind->∃d,its[q]?=some d/\jd rs (yK rs (vX rs n) (dF rs n) (some ((its[q]?).getD kR,(xs[q]?).getD [])) args)=Az u.kind d A:=by
   intro q n u a0 b T w U args A V W;obtain⟨d,y,g,r,G,C,K,L⟩:=v q aa;rw[Dj r] at w;have H:=bD w;have N:(iM rs d).data.toList≠[35]:=by rw[H];exact NW t b
   have e:=JE N;have X:u.sym=(eH d).text:=by
    unfold iM at H;rw[ak e,bz] at H;exact(yL H).symm
   have O:=F _ U;rw[fU,mZ b] at O;rw[aK N,O] at C;refine⟨d,g,?_⟩;rw[g,G,fB,fB,mZ b,show vX rs (n:Int)=u.nam by unfold vX;rw[fU,b]];exact VX t K L e b X T C V W
  rcases(AX S).1 h with⟨rfl,P,rfl⟩|⟨n,u,b,Y⟩
  ·obtain⟨d,y,g,r,G,C,K,L⟩:=v i aa;rw[Dj r] at P;have Z:(iM rs d).data.toList=[35]:=bD P;rw[aJ Z] at C;rw[xg,ak aI,fU,g,G,fB,fB,Gp g];exact VS K L C
  ·rcases Y with⟨a,k,y,z,G,C,w,s,B,rfl⟩|⟨a,y,w,s,rfl⟩|⟨a,y,w,s,rfl⟩|⟨a,k,y,z,G,C,s,B,rfl⟩
   ·have o:=CU (i:=i) (j:=j) (y:=y) b a (xH B).1;have D:¬((n:Int)<0):=by omega
    have e:=Df (i:=i) (j:=j) (y:=y) b a (xH B).1;have Q:=sD (lW.1 B).1;have f:=F;rw[o] at f;have E:=Ci t v m i k y aa aa (lW.1 s).1 λp l=>f p (dP _ (mH _ l))
    have M:=Ci t v m (k+1) j z aa I (lW.1 B).1 λp l=>f p (dP _ (mI _ l))
    obtain⟨d,g,r⟩:=J k n u aa b (.inl a) w (by rw[o];exact bZ) [dO rs its xs y (k:Int),dO rs its xs z (j:Int)] _ (Ox E M) (by rw[a];rfl);rw[xg,ai D,e.1,e.2,ak (jf _),fU];simp only[lN];rw[r,a];show some (oJ its i k++[d]++oJ its (k+1) j)=_;rw[<-Gp g,EB aa aa,EB aa aa]
   ·have o:=CV (i:=i) (j:=j) (y:=y) b a;have D:¬((n:Int)<0):=by omega
    have e:=Dg (i:=i) (j:=j) (y:=y) b a;have Q:=sD (lW.1 s).1;have f:=F;rw[o] at f;have E:=Ci t v m (i+1) j y aa I (lW.1 s).1 λp l=>f p (dP _ l)
    obtain⟨d,g,r⟩:=J i n u aa b (.inr (.inl a)) w (by rw[o];exact bZ) [dO rs its xs y (j:Int)] _ (JN E) (by rw[a];rfl);rw[xg,ai D,e.1,e.2,ak (jf _),fU];simp only[lN];rw[r,a];show some ([d]++oJ its (i+1) j)=_;rw[<-Gp g,EB aa aa]
   ·have o:=CW (i:=i) (j:=j) (y:=y) b a aa;have D:¬((n:Int)<0):=by omega
    have e:=Dh (i:=i) (j:=j) (y:=y) b a aa;have Q:=sD (lW.1 s).1;have f:=F;rw[o] at f;have E:=Ci t v m i (j -1) y aa aa (lW.1 s).1 λp l=>f p (dP _ l)
    obtain⟨d,g,r⟩:=J (j -1) n u aa b (.inr (.inr a)) w (by rw[o];exact bZ) [dO rs its xs y ((j -1:Nat):Int)] _ (JN E) (by rw[a];rfl);rw[xg,ai D,e.1,e.2,ak (jf _),fU];simp only[lN];rw[r,a];show some (oJ its i (j -1)++[d])=_;rw[<-Gp g,EB aa aa,show j -1+1=j from aa]
   ·have o:=CX (i:=i) (j:=j) (y:=y) b a (xH B).1;have D:¬((n:Int)<0):=by omega
    have e:=Di (i:=i) (j:=j) (y:=y) b a (xH B).1;have f:=F;rw[o] at f;have E:=Ci t v m i k y aa aa (lW.1 s).1 λp l=>f p (mH _ l)
    have M:=Ci t v m k j z aa I (lW.1 B).1 λp l=>f p (mI _ l)
    rw[xg,ai D,e.1,e.2,ai (c:=0<=(-1:Int)) aa,mZ b,a];simp only[lN];show jd rs (.mk 4 _ _ kE _)=_;rw[yN rs _ _ _ _ _ 4 (.inl rfl) (Ox E M),Cf (k:=.jux) aI];show some (oJ its i k++oJ its k j)=_;rw[EB aa aa]
def Oy {rs:List aD}(m:fZ rs=true):∀f,Ce rs (dE rs f)
 |0=>λ_ _ _ _ _ h=>by rw[dE] at h;cases h
 |f+1=>λitems path k t E h=>by
  have F:=Oy m f;rw[dE] at h;unfold xN at h
  split at h
  ·cases h
  ·next hk=>
   split at h
   ·cases h
   ·next ts hts=>
    split at h
    ·cases h
    ·next x hx=>
     have j:∀n∈items.drop k,fJ n=true/\n.kind≠1:=by
      intro n c;obtain⟨o,d⟩:=Ew E n (pq c);refine⟨o,λe=>?_⟩;unfold sF at d;rw[e] at d;cases d
     have r:x∈aX rs ts 0 ts.length:=by
      unfold xM at hx
      split at hx
      ·rw[hx];exact bZ
      ·cases hx
     have v:=Al hts;rw[JH m hts r λn c=>⟨λG=>by have:=Ez (j n c).1 G;rw[this];rfl,λw=>yO (j n c).1 (by rw[ai (j n c).2,ai aa,ak aa]) aa⟩] at h;obtain⟨xs,o,d⟩:=then_ok h;injection d with d;obtain⟨_,H⟩:=Gg _ _ _ _ v.symm o;have g:=yH _ 0 ts.length x (aH _) r;have I:EC rs ts (items.drop k) xs λi=>decide ((i:Int)∈kH rs x):=by
      intro z A;have c:=gE A;have B:=(Ey hts z _ c).1;obtain⟨y,J,C⟩:=H z _ _ c B;have l:=j _ (List.getElem_mem A);refine⟨_,y,c,B,J,?_,l.1,l.2⟩;rw[fe] at C;exact VN F l.1 l.2 C
     rw[<-d,Ci m I _ 0 ts.length x (aH _) aa r λp s=>?_]
     ·unfold oJ;rw[mF,Nat.sub_zero,v,bW]
     ·obtain⟨a,b,rfl,_,M,_⟩:=BO g p s;refine fE.2 ⟨λu=>?_,λu=>(Ex g _).2 ⟨_,s,u⟩⟩;obtain⟨K,w,L⟩:=(Ex g _).1 u;have D:=BV g (q:=a) s;rw[BV g (q:=a) (n:=K) w] at D;show dF rs b=2;rw[<-D];exact L
    ·cases h
def VY {f:Nat}{t:aC}(h:kW rs f n= .ok t):jd rs t=some n.kids/\nV t=true/\yC n=true/\fZ rs=true:=by
 unfold kW at h
 split at h
 ·next hc=>
  rw[aM] at hc;obtain⟨b,c⟩:=hc;obtain⟨g,i,j,d⟩:=Dk c;cases a:dE rs f n.kids [] 0 with
  |ok k=>
   rw[a] at h;dsimp only at h
   split at h
   ·next hm=>
    injection h with h;subst h;exact⟨Oy b f _ _ _ _ d a,hm,c,b⟩
   ·cases h
  |bad e p=>rw[a] at h;cases h
 ·cases h
end Rn
namespace El
open At Go.RowKit
mutual
def wy:aG->Bool
 | .mk k _ _ ks=>(!decide (k=1)||decide (ks.length<=7))&&nG ks
def nG:List aG->Bool
 |[]=>true
 |t::ts=>wy t&&nG ts
end
end El
namespace El
open At Ch Sp Sy Go.RowKit
variable{rs:List aD}{k g:Nat}{w w0:World}{p:List Int}{ts:List aG}
def yn (r:aD):Bool:=decide (r.sym.size<=50)&&decide (r.nam.size<=50)
def Bl (rs:List aD):Bool:=rs.all yn&&decide (rs.length<=40)
def Oz {x:aD}(a:rs[k]?=some x)(h:yn x=false):Bl rs=false:=by
 unfold Bl;rw[show rs.all yn=false from uY.2 ⟨x,dQ a,by rw[h];simp⟩];rfl
def VZ {rs:List aD}(b:∀(j:Nat) x,rs[j]?=some x->j<rs.length->yn x=true):Bl rs=decide (rs.length<=40):=by
 unfold Bl;rw[show rs.all yn=true from cz.2 λx c=>by
  obtain⟨j,a⟩:=gz.1 c;exact b j x a (bP.1 a).1,aW]
def Wd (h:Bl rs=true):rs.length<=40:=by
 unfold Bl at h;rw[aM] at h;exact bD h.2
def kK.at_ {A:Option Addr}(h:kK w A p){x:Int}(b:p[k]?=some x):∃a,A=some a/\a.block<w.heap.size/\w.cell? (a.add k)=some (qI x):=by
 have g:=(bP.1 b).1;obtain⟨_,c⟩:=h;obtain⟨a,d,e,f⟩:=c aa;refine⟨a,d,e,?_⟩;have:=f k (qI x) (by rw[dG,gL,b];rfl);exact this
def We {q:List Int}(b:p.length=q.length)(h:∀j,j<p.length->p[j]?=q[j]?):p=q:=by
 refine List.ext_getElem? λj=>?_
 rcases bu j p.length with a|a
 ·exact h j a
 ·rw[ko a,ko aa]
def Cj:aD:=⟨1,⟨#[43]⟩,⟨#[112,108,117,115]⟩,40,40,41⟩
abbrev Gq:Array Value:= #[qI 1,af ⟨#[43]⟩,af ⟨#[112,108,117,115]⟩,qI 40,qI 40,qI 41]
def ED:∀(l:List (Array Value)) (k j:Nat) (c:Array Value),(∀c∈l,c.size=4)->l[k]?=some c->j<4->(l.flatMap (·.toList))[k*4+j]?=c[j]?
 |[],k,j,c,_,h,_=>by simp at h
 |x::r,0,j,c,a,h,b=>by
  obtain rfl:x=c:=by simpa using h
  have:=a x bZ;rw[gT,dz (by simp;omega)];simp
 |x::r,k+1,j,c,a,h,b=>by
  have d:=ED r k j c (λc e=>a c (dP _ e)) (by simpa using h) b;have:=a x bZ;rw[gT,cO (by simp;omega),<-d]
  congr 1
  simp;omega
def Dl:∀l:List (Array Value),(∀c∈l,c.size=4)->(l.flatMap (·.toList)).length=l.length*4
 |[],_=>rfl
 |c::l,h=>by
  rw[gT,aO,Dl l λc a=>h c (dP _ a),aY,qh,h c bZ];omega
def xh (g m:Nat):(⟨g,0,none⟩:Addr).add m=⟨g,m,none⟩:=yR
def Wh:(prog.info? 31).map (λi=>(i.zero,i.size,i.bytes))=some (some (.agg qZ),4,56):=aj
def Ck:∃i,prog.info? 31=some i/\i.zero=some (.agg qZ)/\i.size=4/\i.bytes=56:=by
 have h:=Wh;cases e:prog.info? 31 with
 |none=>rw[e] at h;cases h
 |some i=>
  rw[e] at h;simp only[je,gV,nP] at h;exact⟨i,rfl,h.1,h.2.1,h.2.2⟩
end El
namespace Rn
open At Ch Sp Sy El Go.RowKit
variable{ok' P:Nat->Prop}{w w':World}{x:aG}{A:Option Addr}{ks xs:List aG}{B:Nat}{css:List (Array Value)}{a:ByteArray}
inductive bC (ok:Nat->Prop) (w:World):aG->Array Value->Prop
 |mk (k:Int) (s:ByteArray) (c:Int) (ks:List aG) (A:Option Addr) (cap:Nat) (ad:Addr) (cs:Nat->Array Value) (hst:s.size<=9223372036854775807) (hn:ks.length<=cap) (hc:cap<=9223372036854775807)
   (hA:ks=[]\/(A=some ad/\ad.block<w.heap.size/\ok ad.block)) (hcell:∀i,i<ks.length->∀j,j<4->w.cell? (ad.add (i*4+j))=(cs i)[j]?)
   (hk:∀(i:Nat) (h:i<ks.length),bC ok w ks[i] (cs i)):bC ok w (.mk k s c ks) #[qI k,af s,qI c,.slice A ks.length cap]
def fw (ok:Nat->Prop)(w:World)(A:Option Addr)(ks:List aG):Prop:=∀(i:Nat) (x:aG),ks[i]?=some x->∃ad:Addr,A=some ad/\ad.block<w.heap.size/\ok ad.block/\∃c,bC ok w x c/\∀j,j<4->w.cell? (ad.add (i*4+j))=c[j]?
def bC.map {ok:Nat->Prop}(l:w.heap.size<=w'.heap.size)(m:∀b,b<w.heap.size->ok b->ok' b)(n:∀p:Addr,p.block<w.heap.size->ok p.block->w'.cell? p=w.cell? p){c:Array Value}(h:bC ok w x c):bC ok' w' x c:=by
 induction h with
 |mk k s c ks A o q r t u v e y C z=>
  refine .mk k s c ks A o q r t u v (e.imp id λ⟨f,a,d⟩=>⟨f,ll a l,m _ a d⟩) (λi g j B=>?_) z;rcases e with h|⟨f,a,d⟩
  ·subst h;simp at g
  ·rw[n _ (by rw[gX];exact a) (by rw[gX];exact d)];exact y i g j B
def bC.keep {ok:Nat->Prop}{c:Array Value}(h:bC ok w x c)(a:Below w.heap.size w w'):bC ok w' x c:=h.map a.size (λ_ _ h=>h) λ_ b _=>a.cell b
def bC.any {ok:Nat->Prop}{c:Array Value}(h:bC ok w x c)(a:∀b,b<w.heap.size->ok b->ok' b):bC ok' w x c:=h.map (aH _) a λ_ _ _=>rfl
def bC.grown {ok:Nat->Prop}{row:Option Nat}{c:Array Value}(h:bC ok w x c)(a:w.grownBy w' row)(e:∀b,b<w.heap.size->ok b->some b≠row)(f:∀b,b<w.heap.size->ok b->ok' b):bC ok' w' x c:=
 h.map a.size f λ_ d g=>dm (a.block _ d (e _ d g))
def fw.map {ok ok':Nat->Prop}{w w':World}(d:w.heap.size<=w'.heap.size)(e:∀b,b<w.heap.size->ok b->ok' b)(f:∀p:Addr,p.block<w.heap.size->ok p.block->w'.cell? p=w.cell? p){A:Option Addr}{ks:List aG}(h:fw ok w A ks):fw ok' w' A ks:=λi x k=>by
 obtain⟨l,m,a,g,c,n,o⟩:=h i x k;exact⟨l,m,ll a d,e _ a g,c,n.map d e f,λj q=>by rw[f _ (by rw[gX];exact a) (by rw[gX];exact g)];exact o j q⟩
def fw.keep {ok:Nat->Prop}(h:fw ok w A ks)(a:Below w.heap.size w w'):fw ok w' A ks:=h.map a.size (λ_ _ h=>h) λ_ b _=>a.cell b
def fw.any {ok:Nat->Prop}(h:fw ok w A ks)(a:∀b,b<w.heap.size->ok b->ok' b):fw ok' w A ks:=h.map (aH _) a λ_ _ _=>rfl
def bC.size {ok:Nat->Prop}{w:World}{x:aG}{c:Array Value}(h:bC ok w x c):c.size=4:=by cases h;rfl
def bC.form {ok:Nat->Prop}{c:Array Value}(h:bC ok w x c):∃A cap,c=(qC x A cap)/\x.text.size<=9223372036854775807/\x.kids.length<=cap/\cap<=9223372036854775807/\fw ok w A x.kids:=by
 cases h with
 |mk k s c ks A cap b d e f g j l m=>
  refine⟨A,cap,rfl,e,f,g,λi x n=>?_⟩;obtain⟨a,rfl⟩:=bP.1 n;have a:i<ks.length:=a;rcases j with h|⟨o,p,q⟩
  ·subst h;simp at a
  ·exact⟨b,o,p,q,d i,m i a,l i a⟩
def bC.of {ok:Nat->Prop}{k:Int}{s:ByteArray}{c:Int}{cap:Nat}(d:s.size<=9223372036854775807)(e:ks.length<=cap)(f:cap<=9223372036854775807)(g:fw ok w A ks):bC ok w (.mk k s c ks) #[qI k,af s,qI c,.slice A ks.length cap]:=by
 by_cases l:ks=[]
 ·subst l;exact .mk k s c [] A cap ⟨0,0,none⟩ (λ_=> #[]) d e f (.inl rfl) (λi a=>by simp at a) (λi a=>by simp at a)
 ·have p:0<ks.length:=oU.2 l;obtain⟨b,m,q,r,_⟩:=g 0 ks[0] (gE p);have t:∀i,∃c,∀h:i<ks.length,bC ok w ks[i] c/\∀j,j<4->w.cell? (b.add (i*4+j))=c[j]?:=λi=>by
   by_cases h:i<ks.length
   ·obtain⟨u,n,_,_,c,v,x⟩:=g i ks[i] (gE h);obtain rfl:b=u:=by rw[m] at n;exact sj n
    exact⟨c,λ_=>⟨v,x⟩⟩
   ·exact⟨#[],λy=>absurd y h⟩
  obtain⟨z,o⟩:=rG t;exact .mk k s c ks A cap b z d e f (.inr ⟨m,q,r⟩) (λi a=>(o i a).2) (λi a=>(o i a).1)
def bC.nod {ok:Nat->Prop}{c:Array Value}(h:bC ok w x c):lX w x c:=by
 induction h with
 |mk k s c ks A a b d e f g i j o l=>
  exact .mk k s c ks A a b d e f g (i.imp id λ⟨m,n,_⟩=>⟨m,n⟩) j l
def bC.zero (ok:Nat->Prop)(w:World)(k:Int)(s:ByteArray)(c:Int)(a:s.size<=9223372036854775807):bC ok w (.mk k s c []) #[qI k,af s,qI c,qN]:=
 bC.of (ks:=[]) (A:=none) (cap:=0) a (aH _) aa λi x h=>by simp at h
def fP (ok:Nat->Prop)(w:World)(B:Nat)(v:Value)(xs:List aG):Prop:=∃css:List (Array Value),w.ownsRow B 31 4 v xs.length (css.flatMap (·.toList))/\css.length=xs.length/\(∀(j:Nat) c x,css[j]?=some c->xs[j]?=some x->bC ok w x c)
def fP.nil (ok:Nat->Prop)(w:World)(B:Nat):fP ok w B qN []:=⟨[],iR _ _ _ _,rfl,λj c x h=>by simp at h⟩
def fP.size {ok:Nat->Prop}{w:World}{xs:List aG}{css:List (Array Value)}(d:css.length=xs.length)(h:∀(j:Nat) c x,css[j]?=some c->xs[j]?=some x->bC ok w x c):∀c∈css,c.size=4:=λc b=>by
 obtain⟨j,a⟩:=gz.1 b;have e:=(bP.1 a).1;exact(h j c xs[j] a (gE aa)).size
def fP.keep {ok:Nat->Prop}{w w':World}{B:Nat}{v:Value}{xs:List aG}(h:fP ok w B v xs)(a:Below w.heap.size w w'):fP ok w' B v xs:=by
 obtain⟨css,b,d,e⟩:=h;exact⟨css,Sp.own_below b a,d,λj c x f g=>(e j c x f g).keep a⟩
def fP.more {ok:Nat->Prop}{B':Nat}{v:Value}(h:fP ok w B v xs)(a:B'<=B):fP ok w B' v xs:=by
 obtain⟨css,b,c⟩:=h;exact⟨css,Sp.CO b a,c⟩
def fP.any {ok ok':Nat->Prop}{w:World}{B:Nat}{v:Value}{xs:List aG}(h:fP ok w B v xs)(a:∀b,b<w.heap.size->ok b->ok' b):fP ok' w B v xs:=by
 obtain⟨css,d,e,f⟩:=h;exact⟨css,d,e,λj c x g i=>(f j c x g i).any a⟩
def fP.zP9 {ok:Nat->Prop}{v:Value}(h:fP ok w B v xs)(n:∀b,B<=b->P b)(o:∀b,ok b->P b):∃A cap,v= .slice A xs.length cap/\xs.length<=cap/\cap<=9223372036854775807/\fw P w A xs:=by
 obtain⟨css,q,r,f⟩:=h;have k:=fP.size r f;rcases q.2 with⟨rfl,s⟩|⟨g,cap,t,rfl,u,y,z,C,G,D⟩
 ·obtain rfl:xs=[]:=eP.1 s;exact⟨none,0,rfl,aS,aa,λj p d=>by simp at d⟩
 ·have l:au w g 31 t:=y;refine⟨_,cap,rfl,z,by unfold maxLen at C;omega,λi x m=>⟨(ag g (0)),rfl,l.lt,n g u,?_⟩⟩;have H:=(bP.1 m).1;obtain⟨c,e⟩:∃c,css[i]?=some c:=⟨_,gE aa⟩
  refine⟨c,(f i c x e m).any λb _ h=>o b h,λj d=>?_⟩;have a:=ED css i j c k e d;have E:j<c.size:=by rw[k c (dQ e)];exact d
  have F:c[j]?=some c[j]:=cB E;rw[show(⟨g,0,none⟩:Addr).add (i*4+j)=(ag g (i*4+j)) by unfold Addr.add;split<;>simp_all,l.cell];rw[F] at a⊢;rw[<-D,gU] at a
  split at a
  ·rw[<-gF];exact a
  ·cases a
def fP.lt {ok:Nat->Prop}{w:World}{B:Nat}{v:Value}{xs:List aG}(h:fP ok w B v xs):∀r,v.ownBlock=some r->B<=r/\r<w.heap.size:=by
 obtain⟨css,a,_⟩:=h;exact bA a
def fP.snoc {ok:Nat->Prop}{v v':Value}{c:Array Value}(g:css.length=xs.length)(h:∀(j:Nat) c x,css[j]?=some c->xs[j]?=some x->bC ok w x c)(m:bC ok w x c)(n:w'.ownsRow B 31 4 v' (xs.length+1) (css.flatMap (·.toList)++c.toList))(i:w.grownBy w' v.ownBlock)(k:∀b,b<w.heap.size->ok b->some b≠v.ownBlock)(l:∀b,b<w.heap.size->ok b->ok' b):fP ok' w' B v' (xs++[x]):=by
 refine⟨css++[c],?_,by simp[g],λj d y a f=>?_⟩
 ·rw[aO,fH]
  simpa using n
 ·rcases bu j css.length with o|p
  ·rw[dz o] at a;rw[dz aa] at f;exact(h j d y a f).grown i k l
  ·rw[cO p] at a;rw[cO aa,<-g] at f
   by_cases e:j -css.length=0
   ·rw[e] at a f;obtain rfl:c=d:=by simpa using a
    obtain rfl:x=y:=by simpa using f
    exact m.grown i k l
   ·rw[ko (by simp;omega)] at a;cases a
def bN (P:Nat->Prop)(w:World)(B:Nat)(v:Value)(xs:List aG):Prop:=fP (λb=>v.ownBlock≠some b/\P b) w B v xs
def bN.nil (P:Nat->Prop)(w:World)(B:Nat):bN P w B qN []:=fP.nil _ _ _
def bN.keep {P:Nat->Prop}{w w':World}{B:Nat}{v:Value}{xs:List aG}(h:bN P w B v xs)(a:Below w.heap.size w w'):bN P w' B v xs:=fP.keep h a
def bN.push {v v':Value}{c:Array Value}(f:css.length=xs.length)(h:∀(j:Nat) c x,css[j]?=some c->xs[j]?=some x->bC (λb=>v.ownBlock≠some b/\P b) w x c)(g:bC (λb=>v.ownBlock≠some b/\P b) w x c)(i:w'.ownsRow B 31 4 v' (xs.length+1) (css.flatMap (·.toList)++c.toList))(k:w.grownBy w' v.ownBlock)(l:v'.ownBlock=v.ownBlock\/v'.ownBlock=some w.heap.size):bN P w' B v' (xs++[x]):=
 fP.snoc f h g i k (λb _ a e=>a.1 e.symm) (λb a d=>⟨by
  rcases l with e|e
  ·rw[e];exact d.1
  ·rw[e];intro m;have:=sj m;omega,d.2⟩)
def bN.set_ {v:Value}(h:bN P w B v xs){p:Addr}(d:¬P p.block)(n:p.block<B)(u:Value):bN P (w.setCell p u) B v xs:=by
 obtain⟨css,a,f,g⟩:=h;refine⟨css,gM a (Sp.xY w p u) ?_,f,λj c x i k=>(g j c x i k).map (Sp.xY w p u).size (λ_ _ h=>h) λq _ l=>kZ w p q u (λe=>d (by rw[e];exact l.2))⟩;cases m:v.ownBlock with
 |none=>exact .inl rfl
 |some b=>
  refine .inr λe=>?_
  have:=(bA a b m).1;have:=sj e;omega
def bN.form {v:Value}(h:bN P w B v xs)(a:∀b,B<=b->P b):∃A cap,v= .slice A xs.length cap/\xs.length<=cap/\cap<=9223372036854775807/\fw P w A xs:=fP.zP9 h a λ_ c=>c.2
def Gs {ok:Nat->Prop}{c:Array Value}(h:bC ok w x c):∀u∈c.toList,u.oneCell'=true:=by
 obtain⟨A,b,rfl,_⟩:=h.form;intro u a;simp at a;rcases a with rfl|rfl|rfl|rfl<;>rfl
def iN (s e:ByteArray):ByteArray×Bool:=if e.size<=s.size/\s.extract (s.size -e.size) s.size=e then(s.extract 0 (s.size -e.size),true) else(s,false)
def sO (f e:ByteArray):Bool:=(iN f e).2&& !decide ((iN f e).1=⟨#[]⟩)
def bQ (f:ByteArray):ByteArray×Nat×Nat:=if sO f jU=true then((iN f jU).1,9,2) else if sO f dM=true then((iN f dM).1,7,1) else if sO f dV=true then((iN f dV).1,8,1) else(f,0,0)
def fQ (f:ByteArray):Nat:=if f=gG then 1 else if f=ic then 2 else if f=iL then 3 else if f=kE then 4 else if f=mh then 5 else 0
def yD (s:ByteArray)(w:World):Calls prog 77 #[af s] w λe w'=>e= .returned (.agg #[qI 2,af s,qI 0,qN])/\Below w.heap.size w w':=by
 have r:=(au.new w 31 #[qI 2,af s,qI 0,qN]).cell;have a:=r 0;have b:=r 1;have c:=r 2;have d:=r 3;go_enter func77,ntmps77;go_wp2;exact aB (v:=.agg #[qI 2,af s,qI 0,qN]) (by simp[results,results77,go_sem,a,b,c,d]) rfl ⟨rfl,aN w _⟩
def Ei (A:Option Addr)(n cap:Nat)(w:World):Calls prog 52 #[.slice A n cap] w λe w'=>e= .returned (.agg #[qI 1,qE,qI 0,.slice A n cap])/\Below w.heap.size w w':=by
 have r:=(au.new w 31 #[qI 1,qE,qI 0,.slice A n cap]).cell;have a:=r 0;have b:=r 1;have c:=r 2;have d:=r 3;go_enter func52,ntmps52;go_wp2;exact aB (v:=.agg #[qI 1,qE,qI 0,.slice A n cap]) (by simp[results,results52,go_sem,a,b,c,d]) rfl ⟨rfl,aN w _⟩
def Wi (h:a.toList.isEmpty=true):a=⟨#[]⟩:=by
 rw[lG,bz] at h;cases a;exact congrArg _ (pz.1 h)
def Wj {b:ByteArray}(h:¬a=b):(a.toList==b.toList)=false:=by
 rw[aZ];exact λe=>h (by rw[bz,bz] at e;cases a;cases b;exact congrArg _ (pz.1 e))
def JO (s e:ByteArray)(w:World)(g:s.size<=9223372036854775807):Calls prog 82 #[af s,af e] w λr w'=>r= .returned (.tuple #[af (iN s e).1,.bool (iN s e).2])/\Below w.heap.size w w':=by
 by_cases c:e.size<=s.size
 ·have i:(s.size:Int) -(e.size:Int)=((s.size -e.size:Nat):Int):=by omega
  have j:wrap64 ((s.size -e.size:Nat):Int)=((s.size -e.size:Nat):Int):=ug
  have d:¬(s.size:Int)<(e.size:Int):=aa
  by_cases a:s.extract (s.size -e.size) s.size=e
  ·have b:=ah (iN s e=(s.extract 0 (s.size -e.size),true)) (by unfold iN;rw[ak ⟨c,a⟩]);have f:((s.extract (s.size -e.size) s.size).toList==e.toList)=true:=by rw[a];exact lh _
   clear a;go_enter func82,ntmps82;go_wp2_with fail
   go_ret2
   rw[b.o];exact⟨rfl,aL _ _⟩
  ·have b:=ah (iN s e=(s,false)) (by unfold iN;rw[ai λh=>a h.2]);have f:=Wj a;clear a;go_enter func82,ntmps82;go_wp2_with fail
   go_ret2
   rw[b.o];exact⟨rfl,aL _ _⟩
 ·have b:=ah (iN s e=(s,false)) (by unfold iN;rw[ai λh=>c h.1]);have d:(s.size:Int)<(e.size:Int):=by omega
  go_enter func82,ntmps82;go_wp2_with fail
  go_ret2
  rw[b.o];exact⟨rfl,aL _ _⟩
def OA (f:ByteArray)(w:World)(o:f.size<=9223372036854775807):Calls prog 56 #[af f] w λr w'=>r= .returned (.tuple #[af (bQ f).1,qI ((bQ f).2.1:Int),qI ((bQ f).2.2:Int)])/\Below w.heap.size w w':=by
 have j:∀e:ByteArray,sO f e=true->(iN f e).2=true/\(iN f e).1.toList.isEmpty=false:=λe h=>by
  unfold sO at h;rw[aM,nI,decide_eq_false_iff_not] at h;refine⟨h.1,?_⟩;cases s:(iN f e).1.toList.isEmpty with
  |false=>rfl
  |true=>exact absurd (Wi s) h.2
 have k:∀e:ByteArray,sO f e=false->(iN f e).2=false\/((iN f e).2=true/\(iN f e).1.toList.isEmpty=true):=λe h=>by
  unfold sO at h;cases g:(iN f e).2 with
  |false=>exact .inl rfl
  |true=>
   rw[g,aW,Bool.not_eq_false',eF] at h;exact .inr ⟨rfl,by rw[h,bz];rfl⟩
 go_enter func56,ntmps56;go_wp2_with fail;refine(JO f _ w o).mono ?_;rintro r t ⟨rfl,b⟩;replace b:=zh b;cases l:sO f jU with
 |true=>
  have c:=ah (bQ f=((iN f jU).1,9,2)) (by unfold bQ;rw[ak l]);obtain⟨a,d⟩:=j _ l;unfold jU at a d c;clear l j k;go_wp2;exact aB (v:=.tuple #[af (iN f ⟨#[98,111,116,104]⟩).1,qI 9,qI 2]) (by simp[results,results56,go_sem]) rfl ⟨by rw[c.o];rfl,b.o⟩
 |false=>
  have p:=zh l;have i:=k _ l;unfold jU at i;clear l;rcases i with a|⟨a,d⟩
  all_goals
   go_wp2_with fail;refine(JO f _ t o).mono ?_;rintro r u ⟨rfl,n⟩;replace b:=jt b n;clear n;clear a
   try clear d
   cases g:sO f dM with
   |true=>
    have c:=ah (bQ f=((iN f dM).1,7,1)) (by unfold bQ;rw[ai (by rw[p.o];decide)];rw[ak g]);obtain⟨a,d⟩:=j _ g;unfold dM at a d c;clear g j k;go_wp2;exact aB (v:=.tuple #[af (iN f ⟨#[115,117,98]⟩).1,qI 7,qI 1]) (by simp[results,results56,go_sem]) rfl ⟨by rw[c.o];rfl,b.o⟩
   |false=>
    have q:=zh g;have i:=k _ g;unfold dM at i;clear g;rcases i with a|⟨a,d⟩
    all_goals
     go_wp2_with fail;refine(JO f _ u o).mono ?_;rintro r y ⟨rfl,n⟩;replace b:=jt b n;clear n;clear a
     try clear d
     cases m:sO f dV with
     |true=>
      have c:=ah (bQ f=((iN f dV).1,8,1)) (by unfold bQ;rw[ai (by rw[p.o];decide)];rw[ai (by rw[q.o];decide)];rw[ak m]);obtain⟨a,d⟩:=j _ m;unfold dV at a d c;clear m j k;go_wp2;exact aB (v:=.tuple #[af (iN f ⟨#[115,117,112]⟩).1,qI 8,qI 1]) (by simp[results,results56,go_sem]) rfl ⟨by rw[c.o];rfl,b.o⟩
     |false=>
      have x:=zh m;have i:=k _ m;unfold dV at i;clear m;rcases i with a|⟨a,d⟩
      all_goals
       have c:=ah (bQ f=(f,0,0)) (by unfold bQ;rw[ai (by rw[p.o];decide)];rw[ai (by rw[q.o];decide)];rw[ai (by rw[x.o];decide)]);clear j k;go_wp2;exact aB (v:=.tuple #[af f,qI 0,qI 0]) (by simp[results,results56,go_sem]) rfl ⟨by rw[c.o];rfl,b.o⟩
end Rn
end Go.Proofs.YtlefbenkhgbifaaGreatDoor
