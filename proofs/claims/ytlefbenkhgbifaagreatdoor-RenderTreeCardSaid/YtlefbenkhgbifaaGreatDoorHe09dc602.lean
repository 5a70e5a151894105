/- Writing of terms by the reference, plain: its items, and the shape of a meaning. -/
import Derived.Test.YtlefbenkhgbifaaGreatDoorH9648907d
set_option linter.all false
set_option maxRecDepth 100000
set_option maxHeartbeats 4000000
namespace Go.Proofs.YtlefbenkhgbifaaGreatDoor
open Tryz
namespace Rn
open At Ch Sp Sy El Go.RowKit
variable{rs:List aD}{n:aG}{kd:Int}{y:List aC}
def Gt (x:ByteArray):x.size=x.data.toList.length:=by
 rw[qh];rfl
def vM (k:Nat):Nat:=if k=5 then 2 else k
def yo (k:Nat):Nat:=if k=1\/k=4 then 2 else 1
def vN (bd:Bool)(v:ByteArray):List (List aG)->List (List aG)
 |r::R=>(if bd=true then dh v::dh sN::r else r)::R
 |[]=>[]
def uN (bd:Bool)(v s:ByteArray)(e:Nat)(R:List (List aG)):aG:=if e=0 then dh s else .mk e ⟨#[]⟩ 0 (aQ [dh s]::(vN bd v R).map aQ)
def AA (q:Nat)(op A last:List aG):List aG:=if q=2 then op++last else if q=3 then last++op else A++op++last
def yt (rs:List aD)(bd:Bool)(nam v:ByteArray)(k e n:Nat)(R:List (List aG)):List aG:=
 match sM rs (vM k) nam.data.toList with
 |none=>[kR]
 |some i=>match rs[i]? with
  |none=>[kR]
  |some u=>if R.length=n+yo k then AA (vM k) (if vM k=4 then[] else[uN bd v u.sym e (R.take n)]) ((R[n]?).getD []) ((R[R.length -1]?).getD []) else[kR]
def uO (c:Nat):List UInt8:=if c<10 then[UInt8.ofNat (48+c)] else[UInt8.ofNat (48+c/10),UInt8.ofNat (48+c%10)]
def sP (f:ByteArray):Nat->Int
 |0=>0
 |n+1=>if f=eX++jy (uO (n+1)) then((n+1:Nat):Int) else sP f n
def ng (nam f:ByteArray)(ks:List aG):aG:=
 if f=mM then .mk 5 ⟨#[]⟩ 0 ks else if f=jW then .mk 6 ⟨#[]⟩ 0 (if nam=vG then aQ []::ks else ks)
 else if f=dM then .mk 7 ⟨#[]⟩ 0 ks else if f=dV then .mk 8 ⟨#[]⟩ 0 ks else if f=jU then .mk 9 ⟨#[]⟩ 0 ks else if f=jb then .mk 10 nam 0 ks
 else if 6<f.size/\f.extract 0 6=eX then .mk 12 ⟨#[]⟩ (sP f 16) ks
 else if 5<f.size/\f.extract 0 5=ik then .mk 11 (f.extract 5 f.size) 0 ks else kR
def zm (rs:List aD)(bd:Bool)(nam v f:ByteArray)(R:List (List aG)):List aG:=if fQ (bQ f).1=0 then[ng nam f (R.map aQ)] else yt rs bd nam v (fQ (bQ f).1) (bQ f).2.1 (bQ f).2.2 R
mutual
def jr (rs:List aD):aC->List aG
 | .mk k a v f ts=>if k=1 then[.mk 3 a 0 []] else if k=2 then[dh a] else if k=3 then[.mk 4 a 0 []] else zm rs (decide (k=5)) a v f (iq rs ts)
def iq (rs:List aD):List aC->List (List aG)
 |[]=>[]
 |m::ms=>jr rs m::iq rs ms
end
def mQ (rs:List aD)(k:Int)(a f:ByteArray)(n:Nat):Prop:=match iG f.data.toList with
 |some (.inf _)|some (.pre _)|some (.pos _)=>k=4
 |some (.bind e)=>k=5/\(e=7\/e=9)
 |some .root=>(a=vG↔n=1)
 |some .jux=>(sM rs 4 a.data.toList).isSome=true
 |some _=>True
 |none=>(ik.data.toList<+:f.data.toList->5<f.size)/\∀x,f.data.toList=eX.data.toList++x->∃c,1<=c/\c<=16/\x=Lib.decDigits c
mutual
def kS (rs:List aD):aC->Prop
 | .mk k a _ f ts=>(k=1\/k=2\/k=3\/mQ rs k a f ts.length)/\lQ rs ts
def lQ (rs:List aD):List aC->Prop
 |[]=>True
 |m::ms=>kS rs m/\lQ rs ms
end
def Wl {k:Int}{a f:ByteArray}{n:Nat}(h:iG f.data.toList=none)(b:¬ik.data.toList<+:f.data.toList)(c:¬eX.data.toList<+:f.data.toList):mQ rs k a f n:=by
 unfold mQ;rw[h];exact⟨λd=>absurd d b,λx e=>absurd ⟨x,e.symm⟩ c⟩
def JP (rs:List aD):∀(a b:List aC),lQ rs a->lQ rs b->lQ rs (a++b)
 |[],_,_,h=>h
 |m::a,b,h,c=>by
  rw[lQ] at h;rw[iB,lQ];exact⟨h.1,JP rs a b h.2 c⟩
def Wm (kd e:Int)(a:kd=1\/kd=2\/kd=3):∃b,iG (iW kd++eT e).data.toList=some (JL kd b):=by
 by_cases h:e=7\/e=8\/e=9
 ·exact⟨_,Gn kd e a (.inr h)⟩
 ·have:=Gn kd 2 a (.inl rfl);rw[show eT 2=⟨#[]⟩ from aI] at this;exact⟨_,by rw[show eT e=⟨#[]⟩ by unfold eT;rw[ai aa,ai aa,ai aa]];exact this⟩
def OB {e:Int}(b:kd=1\/kd=2\/kd=3)(a:ByteArray)(n:Nat):mQ rs 4 a (iW kd++eT e) n:=by
 obtain⟨c,h⟩:=Wm kd e b;unfold mQ;rw[h];rcases b with rfl|rfl|rfl<;>rfl
def Wn {nam:ByteArray}(c:kd=1\/kd=2\/kd=3){P:Option (aG×List aC)}(a:∀n y,P=some (n,y)->lQ rs y){args:List aC}(b:lQ rs args):kS rs (yK rs nam kd P args):=by
 match P,a with
 |none,_=>
  show kS rs (.mk 4 nam ⟨#[]⟩ (iW kd) args);have h:=OB (rs:=rs) (e:=0) c nam args.length;rw[show eT 0=⟨#[]⟩ from aI,show iW kd++⟨#[]⟩=iW kd from yL (by rw[yM];exact bX _)] at h;rw[kS];exact⟨.inr (.inr (.inr h)),b⟩
 |some (n,y),a=>
  have d:=a n y rfl;show kS rs (match dN rs n (decide (kd=2)) with
   |none=>.mk 4 nam ⟨#[]⟩ (iW kd++eT n.kind) (y++args)
   |some v=>.mk 5 nam v (mh++eT n.kind) (y++args))
  cases dN rs n (decide (kd=2)) with
  |none=>
   dsimp only;rw[kS];exact⟨.inr (.inr (.inr (OB c nam _))),JP rs _ _ d b⟩
  |some v=>
   dsimp only;rw[kS];refine⟨.inr (.inr (.inr ?_)),JP rs _ _ d b⟩
   by_cases h:n.kind=7\/n.kind=9
   ·unfold mQ;rw[Ov n.kind h];exact⟨rfl,aa⟩
   ·have i:eT n.kind=dV\/eT n.kind=⟨#[]⟩:=by
     unfold eT;rw[ai aa]
     by_cases f:n.kind=8
     ·exact .inl (ak f)
     ·rw[ai f,ai aa];exact .inr rfl
    rcases i with g|g<;>rw[g]<;>refine Wl ?_ ?_ ?_<;>rw[yM]<;>decide
def Wo (m:fJ n=true)(t:n.kind≠1)(u:lQ rs y):kS rs (lM n y):=by
 unfold lM
 by_cases d:n.kind=2
 ·rw[ak d,kS];exact⟨.inr (.inl rfl),trivial⟩
 rw[ai d]
 by_cases f:n.kind=3
 ·rw[ak f,kS];exact⟨.inl rfl,trivial⟩
 rw[ai f]
 by_cases g:n.kind=4
 ·rw[ak g,kS];exact⟨.inr (.inr (.inl rfl)),trivial⟩
 rw[ai g,kS];refine⟨.inr (.inr (.inr ?_)),u⟩;unfold iQ
 by_cases o:n.kind=5
 ·rw[ak o];show mQ rs 4 wU mM _;exact trivial
 rw[ai o]
 by_cases p:n.kind=6
 ·rw[ak p];show((if y.length=1 then vG else jW)=vG↔y.length=1)
  by_cases a:y.length=1
  ·rw[ak a];exact⟨λ_=>a,λ_=>rfl⟩
  ·rw[ai a];exact⟨λe=>absurd e aI,λe=>absurd e a⟩
 rw[ai p]
 by_cases q:n.kind=7
 ·rw[ak q];show mQ rs 4 wV dM _;exact trivial
 rw[ai q]
 by_cases r:n.kind=8
 ·rw[ak r];show mQ rs 4 wW dV _;exact trivial
 rw[ai r]
 by_cases s:n.kind=9
 ·rw[ak s];show mQ rs 4 BL jU _;exact trivial
 rw[ai s]
 by_cases i:n.kind=10
 ·rw[ak i];show mQ rs 4 n.text jb _;exact trivial
 rw[ai i];obtain⟨b,c⟩:=wu m
 by_cases j:n.kind=12
 ·rw[ak j];unfold lJ at c;rw[ak j,aM] at c;have c:=bD c.1;have v:(eX++jy (Lib.decDigits n.cols.toNat)).data.toList=eX.data.toList++Lib.decDigits n.cols.toNat:=by rw[yM,Gm]
  show mQ rs 4 eX (eX++jy (Lib.decDigits n.cols.toNat)) _;unfold mQ;rw[v,Oj];exact⟨λh=>absurd h (by simp[ik,eX]),λx k=>⟨n.cols.toNat,aa,aa,(List.append_cancel_left k).symm⟩⟩
 ·rw[ai j];have w:n.kind=11:=by have:=Oq m t;omega
  unfold qD at b;rw[ai d,ai f,ai g,ai i,ak w] at b;show mQ rs 4 _ (ik++n.text) _;unfold mQ;rw[yM,Oi];refine⟨λ_=>?_,λx k=>?_⟩
  ·rw[Gt,yM,aO];have:n.text.data.toList≠[]:=λe=>by rw[e] at b;exact absurd b aI
   have:=oU.2 this;show 5<5+_;omega
  ·have:=congrArg (λl=>l.getD 0 0) k;simp[ik,eX] at this
def JQ {rs:List aD}{its:List aG}{xs:List (List aC)}:∀(ks:List Rd) (es:List Int),(∀k∈ks,∀fin,kS rs (dO rs its xs k fin))->lQ rs (lN rs its xs ks es)
 |k::ks,e::es,h=>by
  rw[lN,lQ];exact⟨h k bZ e,JQ ks es λa b=>h a (dP _ b)⟩
 |[],_,_=>by
          rw[lN];·exact trivial
          ·intro _ _ _ _ h;cases h
 |_::_,[],_=>by
            rw[lN];·exact trivial
            ·intro _ _ _ _ _ h;cases h
def Cm {rs:List aD}(l:fZ rs=true){ts:List ByteArray}{its:List aG}{xs:List (List aC)}(g:∀q:Nat,lQ rs ((xs[q]?).getD []))(o:∀n∈its,fJ n=true/\n.kind≠1):∀(m i j:Nat) (x:Rd),j -i<=m->j<=its.length->x∈aX rs ts i j->∀fin,kS rs (dO rs its xs x fin)
 |0,i,j,x,B,_,h=>av (sD h)
 |m+1,i,j,x,B,s,h=>by
  intro fin;have C:=sD h;have t:∀(n:Nat) (u:aD) (a:Int) (v:List Rd),rs[n]?=some u->(u.kind=1\/u.kind=2\/u.kind=3)->(∀k∈v,∀fin,kS rs (dO rs its xs k fin))->kS rs (dO rs its xs (.mk n a v) fin):=by
   intro n u a v f c D;rw[xg,ai aa,mZ f];refine Wn c (λn y e=>?_) (JQ _ _ D)
   split at e
   ·injection e with e;injection e with _ e;rw[<-e];exact g _
   ·cases e
  rcases(AX C).1 h with⟨rfl,J,rfl⟩|⟨n,u,f,b⟩
  ·rw[xg,ak aI,fU,gE (by omega:i<its.length),fB];obtain⟨E,F⟩:=o _ (List.getElem_mem (by omega:i<its.length));exact Wo E F (g _)
  ·rcases b with⟨c,k,y,z,G,H,A,d,p,rfl⟩|⟨c,y,A,d,rfl⟩|⟨c,y,A,d,rfl⟩|⟨c,k,y,z,G,H,d,p,rfl⟩
   ·have w:=sD (lW.1 p).1;refine t n u _ _ f (.inl c) λr b=>?_
    simp only[dD,nS,or_false] at b;rcases b with rfl|rfl
    ·exact Cm l g o m i k _ aa aa (lW.1 d).1
    ·exact Cm l g o m (k+1) j _ aa s (lW.1 p).1
   ·refine t n u _ _ f (.inr (.inl c)) λr b=>?_
    obtain rfl:=iT.1 b;have w:=sD (lW.1 d).1;exact Cm l g o m (i+1) j _ aa s (lW.1 d).1
   ·refine t n u _ _ f (.inr (.inr c)) λr b=>?_
    obtain rfl:=iT.1 b;have w:=sD (lW.1 d).1;exact Cm l g o m i (j -1) _ aa aa (lW.1 d).1
   ·have w:=sD (lW.1 p).1;have K:=sD (lW.1 d).1;have I:eY rs (.mk n i [y,z]) fin= -1:=by
     unfold eY;rw[show Rd.rule (.mk n i [y,z])=(n:Int) from rfl,mZ f,ai aa,ai aa,ai aa]
    rw[xg,ai aa,I,ai aa,mZ f,c,show vX rs (n:Int)=u.nam by unfold vX;rw[fU,f]];show kS rs (.mk 4 u.nam ⟨#[]⟩ kE _);rw[kS];refine⟨.inr (.inr (.inr ?_)),JQ _ _ λr b=>?_⟩
    ·show(sM rs 4 u.nam.data.toList).isSome=true;rw[<-c,Ou l f];rfl
    ·simp only[dD,nS,or_false] at b;rcases b with rfl|rfl
     ·exact Cm l g o m i k _ aa aa (lW.1 d).1
     ·exact Cm l g o m k j _ aa s (lW.1 p).1
def Cn (rs:List aD)(M:List aG->List Int->Nat->bO aC):Prop:=∀items path k t,nz 1 items=true->M items path k= .ok t->kS rs t
def Gu {rs:List aD}{M:List aG->List Int->Nat->bO aC}(a:Cn rs M){path:List Int}:∀(ks:List aG) (s b:Nat) (ts:List aC),(∀d∈ks,fJ d=true/\d.kind=1)->kF M path ks s b= .ok ts->lQ rs ts
 |[],s,b,ts,_,h=>by
  rw[kF] at h;injection h with h;rw[<-h,lQ];exact trivial
 |d::r,s,b,ts,c,h=>by
  rw[kF] at h;obtain⟨t,f,h⟩:=then_ok h;obtain⟨g,i,h⟩:=then_ok h;injection h with h;obtain⟨j,k⟩:=c d bZ;rw[<-h,lQ];exact⟨a _ _ _ _ (Gi j k) f,Gu a r (s+1) 0 g (λe l=>c e (dP _ l)) i⟩
def Wp {M:List aG->List Int->Nat->bO aC}(b:Cn rs M){path:List Int}{c p:Bool}(f:fJ n=true)(g:n.kind≠1)(h:iX rs M n path c p= .ok y):lQ rs y:=by
 have a:=kids_rows f g;unfold iX at h
 split at h
 ·exact Gu b _ _ _ _ (λd i=>a d (List.mem_of_mem_tail i)) h
 ·split at h
  ·next d ks hks=>
   rw[hks] at a
   split at h
   ·exact Gu b _ _ _ _ (λe j=>a e (dP _ j)) h
   ·exact Gu b _ _ _ _ a h
  ·injection h with h;rw[<-h,lQ];exact trivial
def OC {rs:List aD}(d:fZ rs=true):∀f,Cn rs (dE rs f)
 |0=>λ_ _ _ _ _ h=>by rw[dE] at h;cases h
 |f+1=>λitems path k t m h=>by
  have o:=OC d f;rw[dE] at h;unfold xN at h
  split at h
  ·cases h
  ·next hk=>
   split at h
   ·cases h
   ·next ts hts=>
    split at h
    ·cases h
    ·next x hx=>
     have c:∀n∈items.drop k,fJ n=true/\n.kind≠1:=by
      intro n a;obtain⟨g,b⟩:=Ew m n (pq a);refine⟨g,λe=>?_⟩;unfold sF at b;rw[e] at b;cases b
     have j:x∈aX rs ts 0 ts.length:=by
      unfold xM at hx
      split at hx
      ·rw[hx];exact bZ
      ·cases hx
     have p:=Al hts;rw[JH d hts j λn a=>⟨λr=>by have:=Ez (c n a).1 r;rw[this];rfl,λz=>yO (c n a).1 (by rw[ai (c n a).2,ai aa,ak aa]) aa⟩] at h;obtain⟨A,g,b⟩:=then_ok h;injection b with b;obtain⟨B,s⟩:=Gg _ _ _ _ p.symm g;rw[<-b];refine Cm d (λq=>?_) c ts.length 0 ts.length x (aH _) aa j _;rcases bu q (items.drop k).length with i|i
     ·have a:=gE i;have u:=(Ey hts q _ a).1;obtain⟨y,v,w⟩:=s q _ _ a u;have l:=c _ (List.getElem_mem i);rw[v,fB];exact Wp o l.1 l.2 w
     ·rw[ko aa];exact trivial
    ·cases h
def Wq {f:Nat}{t:aC}(h:kW rs f n= .ok t):kS rs t:=by
 unfold kW at h
 split at h
 ·next hc=>
  rw[aM] at hc;obtain⟨b,c⟩:=hc;obtain⟨g,i,j,d⟩:=Dk c;cases a:dE rs f n.kids [] 0 with
  |ok k=>
   rw[a] at h;dsimp only at h
   split at h
   ·injection h with h;subst h;exact OC b f _ _ _ _ d a
   ·cases h
  |bad e p=>rw[a] at h;cases h
 ·cases h
end Rn
namespace Sp
open At Go.RowKit
mutual
def mq:aC->aC->Bool
 | .mk k a v f ts,u=>(k==u.kind&&(a.toList==u.nam.toList&&(v.toList==u.vr.toList&&(f.toList==u.form.toList&&decide (ts.length=u.args.length)))))&&uP ts u.args
def uP:List aC->List aC->Bool
 |[],us=>us.isEmpty
 |t::ts,us=>match us with
  |[]=>false
  |u::us=>mq t u&&uP ts us
end
def JR {a b:ByteArray}(h:(a.toList==b.toList)=true):a=b:=by
 rw[aT,bz,bz] at h
 apply ByteArray.ext
 exact pz.1 h
mutual
def EE:∀t u:aC,mq t u=true↔t=u
 | .mk k a v f ts,.mk k' a' v' f' us=>by
  unfold mq;simp only[aC.kind,aC.nam,aC.vr,aC.form,aC.args,aM,aT];constructor
  ·rintro⟨⟨rfl,h1,h2,h3,h4⟩,h5⟩;rw[JR (aT.2 h1),JR (aT.2 h2),JR (aT.2 h3),(Co ts us).1 h5]
  ·intro e;injection e with e1 e2 e3 e4 e5;subst e1;subst e2;subst e3;subst e4;subst e5;exact⟨⟨rfl,rfl,rfl,rfl,aJ rfl⟩,(Co ts ts).2 rfl⟩
def Co:∀ts us:List aC,uP ts us=true↔ts=us
 |[],us=>by unfold uP;rw[lG];exact eq_comm
 |t::ts,[]=>by unfold uP;simp
 |t::ts,u::us=>by
  unfold uP;simp only[aM];rw[EE t u,Co ts us,ul]
end
def OD {ts us:List aC}{j:Nat}{x y:aC}(a:ts[j]?=some x)(b:us[j]?=some y):uP (ts.take (j+1)) (us.take (j+1))=(uP (ts.take j) (us.take j)&&mq x y):=by
 rw[fI,aM,Co,Co,EE,dA,dA,a,b];have c:j<ts.length:=(bP.1 a).1;have d:j<us.length:=(bP.1 b).1;constructor
 ·intro e;have:=List.append_inj e (by simp;omega);exact⟨this.1,by simpa using this.2⟩
 ·rintro⟨e,rfl⟩;rw[e]
def Ws {ts us:List aC}{j:Nat}(h:uP (ts.take j) (us.take j)=false):uP ts us=false:=by
 cases a:uP ts us
 ·rfl
 ·rw[(Co ts us).1 a] at h;rw[(Co _ _).2 rfl] at h;cases h
def Wt:∀(z:Nat) (t u:aC) (c d:Array Value) (w:World),bg t<=z->gK w t c->gK w u d->Calls prog 55 #[.agg c,.agg d] w λe w'=>e= .returned (.bool (mq t u))/\Below w.heap.size w w':=by
 intro z
 induction z with
 |zero=>intro t u c d w h;have:=vW t;omega
 |succ z a3=>
  intro t u c d w a4 a5 a6;have c5:=zh a3;clear a3;obtain⟨A,H,rfl,c6,c7,c8,c9,g4,V⟩:=a5.form;obtain⟨I,Q,rfl,d0,d1,d2,d3,g5,W⟩:=a6.form;obtain⟨k,a,v,f,g⟩:=t;obtain⟨n,o,q,r,i⟩:=u;dsimp only[aC.kind,aC.nam,aC.vr,aC.form,aC.args] at c6 c7 c8 c9 V d0 d1 d2 d3 W⊢;have l:=ah (mq (.mk k a v f g) (.mk n o q r i)=((k==n&&(a.toList==o.toList&&(v.toList==q.toList&&(f.toList==r.toList&&decide (g.length=i.length)))))&&uP g i)) (by unfold mq;rfl);have d4:=ah (bq g<=z) (by rw[bg] at a4;omega);have a7:=ah ((w.alloc (.cells (aA k a v A g.length H f) 25)).heap.size=w.heap.size+1) (by simp);have X:=aN w (.cells (aA k a v A g.length H f) 25);have Y:=aN (w.alloc (.cells (aA k a v A g.length H f) 25)) (.cells (aA n o q I i.length Q r) 25);have m:=zh (X.trans (Y.mono X.size));have D:=zh (V.keep m.o);have E:=zh (W.keep m.o);have s:=zh (ae Y (au.new w 25 (aA k a v A g.length H f)));have B:Hy (au ((w.alloc (.cells (aA k a v A g.length H f) 25)).alloc (.cells (aA n o q I i.length Q r) 25)) (w.heap.size+1) 25 (aA n o q I i.length Q r)):=by
   show au _ _ _ _;rw[<-a7.o];exact au.new _ _ _
  clear a5 a6 V W X Y a7 a4;dsimp only[aA] at m D E s B;obtain⟨d5,d6,d7,Z,d8⟩:=qc s;obtain⟨d9,e0,e1,a0,e2⟩:=qc B;go_enter func55,ntmps55;cases J:(k==n)
  ·rw[J] at l;have e3:(k !=n)=true:=by rw[bne,J];rfl
   go_wp2;go_ret;exact⟨aU (by rw[l.o];rfl),m.o⟩
  have e3:(k !=n)=false:=by rw[bne,J];rfl
  rw[J,aW] at l;replace J:=zh J;cases K:(a.toList==o.toList)
  ·rw[K] at l;have e4:(!(a.toList==o.toList))=true:=by rw[K];rfl
   go_wp2;go_ret;exact⟨aU (by rw[l.o];rfl),m.o⟩
  have e4:(!(a.toList==o.toList))=false:=by rw[K];rfl
  rw[K,aW] at l;replace K:=zh K;cases L:(v.toList==q.toList)
  ·rw[L] at l;have e5:(!(v.toList==q.toList))=true:=by rw[L];rfl
   go_wp2;go_ret;exact⟨aU (by rw[l.o];rfl),m.o⟩
  have e5:(!(v.toList==q.toList))=false:=by rw[L];rfl
  rw[L,aW] at l;replace L:=zh L;cases M:(f.toList==r.toList)
  ·rw[M] at l;have e6:(!(f.toList==r.toList))=true:=by rw[M];rfl
   go_wp2;go_ret;exact⟨aU (by rw[l.o];rfl),m.o⟩
  have e6:(!(f.toList==r.toList))=false:=by rw[M];rfl
  rw[M,aW] at l;replace M:=zh M
  by_cases C:g.length≠i.length
  ·have e7:((g.length:Int) !=(i.length:Int))=true:=by rw[pE];omega
   rw[aK C] at l;clear C;go_wp2;go_ret;exact⟨aU (by rw[l.o];rfl),m.o⟩
  have e7:((g.length:Int) !=(i.length:Int))=false:=by rw[uy];omega
  replace C:g.length=i.length:=Classical.not_not.1 C;rw[aJ C,aW] at l;replace C:=zh C;go_wp2_with fail;clear d5 d6 d7 Z d8 d9 e0 e1 a0 e2;generalize (w.alloc (.cells #[qI k,.string a,.string v,.slice A g.length H,.string f] 25)).alloc (.cells #[qI n,.string o,.string q,.slice I i.length Q,.string r] 25)=g6 at*
  go_loopw [5] (λa1 wr=>∃b:Nat,b<=g.length/\a1=qI b/\Hy (uP (g.take b) (i.take b)=true)/\Hy (au wr w.heap.size 25 #[qI k,.string a,.string v,.slice A g.length H,.string f])/\Hy (au wr (w.heap.size+1) 25 #[qI n,.string o,.string q,.slice I i.length Q,.string r])/\Hy (uf wr A g)/\Hy (uf wr I i)/\Hy (Below w.heap.size w wr)) (λa1 _=>g.length -(intOf a1).toNat)
  case atStart=>exact⟨0,aa,rfl,rfl,s,B,D,E,m⟩
  case round=>
   clear s B D E m;obtain⟨b,g7,rfl,a8,s,B,D,E,m⟩:=hrel;have Z:=s.o.cell 3;have a0:=B.o.cell 3
   by_cases e8:b<g.length
   ·obtain⟨x,S⟩:∃x,g[b]?=some x:=⟨_,gE e8⟩
    obtain⟨y,a2⟩:∃y,i[b]?=some y:=⟨_,gE (av C.o)⟩
    obtain⟨F,g8,g9,rfl,h0,a9⟩:=D.o.at_ S;obtain⟨G,h1,h2,rfl,h3,b0⟩:=E.o.at_ a2;have b1:=zh a9.whole;have b2:=zh b0.whole;obtain⟨N,b3,b4,b5,b6,b7,-⟩:=a9;obtain⟨O,b8,b9,c0,c1,c2,-⟩:=b0;have e9:=ah (bg x<=z) (aV (Ak S) d4.o);have T:=zh (OD S a2);rw[a8.o,aW] at T;have f0:=zh (λh=>Ws (ts:=g) (us:=i) (j:=b+1) h);have h4:(b:Int)<(i.length:Int):=av C.o
    clear S a2;go_wp2_with fail;go_upto_region 6 with(fail)
    refine Be aj aj ?_;have f1:=λe:jX wr=>(ae e.bel s.o).cell 3
    have f2:=λe:jX wr=>(ae e.bel B.o).cell 3
    have f3:=λe:jX wr=>e.cell N b3
    have f4:=λe:jX wr=>e.cell (p:=⟨(F.add (b*5)).block,(F.add (b*5)).off+1,none⟩) N b4
    have f5:=λe:jX wr=>e.cell (p:=⟨(F.add (b*5)).block,(F.add (b*5)).off+2,none⟩) N b5
    have f6:=λe:jX wr=>e.cell (p:=⟨(F.add (b*5)).block,(F.add (b*5)).off+3,none⟩) N b6
    have f7:=λe:jX wr=>e.cell (p:=⟨(F.add (b*5)).block,(F.add (b*5)).off+4,none⟩) N b7
    have f8:=λe:jX wr=>e.cell O b8
    have f9:=λe:jX wr=>e.cell (p:=⟨(G.add (b*5)).block,(G.add (b*5)).off+1,none⟩) O b9
    have g0:=λe:jX wr=>e.cell (p:=⟨(G.add (b*5)).block,(G.add (b*5)).off+2,none⟩) O c0
    have g1:=λe:jX wr=>e.cell (p:=⟨(G.add (b*5)).block,(G.add (b*5)).off+3,none⟩) O c1
    have g2:=λe:jX wr=>e.cell (p:=⟨(G.add (b*5)).block,(G.add (b*5)).off+4,none⟩) O c2
    have c3:=zh (λe:jX wr=>Calls.ext (c5.o x y _ _ e.val e9.o (b1.o.keep e.bel) (b2.o.keep e.bel)));clear Z a0 b3 b4 b5 b6 b7 b8 b9 c0 c1 c2
    repeat (go_big_quiet_step (fail))
    go_big_quiet_step ((rename_i e;exact c3.o e))
    repeat (go_big_quiet_step (fail))
    refine wpQuiet_nil ?_;intro h5 g3;obtain⟨⟨h6,P⟩,c4⟩:=g3;dsimp only at c4;subst c4;replace s:=kp P s;replace B:=kp P B;replace D:=zh (D.o.keep P);replace E:=zh (E.o.keep P);replace m:=jt m P;clear f1 f2 f3 f4 f5 f6 f7 f8 f9 g0 g1 g2 c3 P N O b1 b2;cases U:mq x y
    ·have R:uP g i=false:=f0.o (by rw[T.o,U]);rw[R] at l;clear U R;go_wp2;go_ret;exact⟨aU (by rw[l.o]),m.o⟩
    ·rw[U] at T;clear U;go_wp2;go_roundw
     case rel=>exact⟨b+1,aa,bi,T,s,B,D,E,m⟩
     case measure=>simp[intOf];omega
   ·obtain rfl:b=g.length:=by omega
    have R:uP g i=true:=by
     have h:=a8.o;rw[bW,C.o,bW] at h;exact h
    rw[R] at l;clear R;go_wp2;go_ret;exact⟨aU (by rw[l.o]),m.o⟩
end Sp
namespace Rn
open At Ch Sp Sy El Go.RowKit
variable{w w':World}{bm:Nat}
def qz (rs:List aD)(f:Nat)(m:aC):Option aG:=match jd rs m with
 |none=>none
 |some l=>match kW rs f (aQ l) with
  | .ok t=>if mq t m=true then some (aQ l) else none
  | .bad _ _=>none
mutual
def gW (rs:List aD)(f:Nat):aC->List Int->Option (List Int)
 | .mk k a v g ts,path=>match gJ rs f ts path 0 with
  |some p=>some p
  |none=>if(qz rs f (.mk k a v g ts)).isNone then some path else none
def gJ (rs:List aD)(f:Nat):List aC->List Int->Nat->Option (List Int)
 |[],_,_=>none
 |t::ts,path,i=>match gW rs f t (path++[(i:Int)]) with
  |some p=>some p
  |none=>gJ rs f ts path (i+1)
end
def Bn:aC->List Int->Option aC
 |m,[]=>some m
 |m,i::p=>if 0<=i then(match m.args[i.toNat]? with
   |some t=>Bn t p
   |none=>none) else none
def EF (rs:List aD)(f:Nat)(m:aC)(path:List Int):gW rs f m path=match gJ rs f m.args path 0 with
  |some p=>some p
  |none=>if(qz rs f m).isNone then some path else none:=by
 cases m with
 |mk k a v g b=>rw[gW];rfl
mutual
def Wu {rs:List aD}{f:Nat}:∀(m:aC) (path path':List Int),gW rs f m path=none->gW rs f m path'=none
 | .mk k a v g ts,path,path',h=>by
  rw[gW] at h⊢
  split at h
  ·cases h
  ·next h2=>
   rw[JS ts path path' 0 0 h2];dsimp only
   split at h
   ·cases h
   ·next h3=>rw[ai h3]
def JS {rs:List aD}{f:Nat}:∀(ts:List aC) (path path':List Int) (i i':Nat),gJ rs f ts path i=none->gJ rs f ts path' i'=none
 |[],_,_,_,_,_=>by rw[gJ]
 |t::ts,path,path',i,i',h=>by
  rw[gJ] at h⊢
  split at h
  ·cases h
  ·next h2=>
   rw[Wu t _ (path'++[(i':Int)]) h2];exact JS ts path path' (i+1) (i'+1) h
end
mutual
def OE {rs:List aD}{f:Nat}:∀(m:aC) (path p:List Int),gW rs f m path=some p->∃q s,p=path++q/\Bn m q=some s/\qz rs f s=none/\gJ rs f s.args [] 0=none
 | .mk k a v g ts,path,p,h=>by
  rw[gW] at h
  split at h
  ·next p2 h2=>
   injection h with h;subst h;obtain⟨j,q,t,s,h3,h4,h5,h6,h7⟩:=OG ts path 0 p2 h2;refine⟨(((0+j:Nat):Int))::q,s,by rw[h3];simp,?_,h6,h7⟩;rw[Bn,ak aa,show(((0+j:Nat):Int)).toNat=j by omega];show(match ts[j]? with
    |some t=>Bn t q
    |none=>none)=_
   rw[h4];exact h5
  ·next h2=>
   split at h
   ·next h3=>
    injection h with h;refine⟨[],.mk k a v g ts,by rw[h,bX],by rw[Bn],Option.isNone_iff_eq_none.1 h3,JS ts path [] 0 0 h2⟩
   ·cases h
def OG {rs:List aD}{f:Nat}:∀(ts:List aC) (path:List Int) (i:Nat) (p:List Int),gJ rs f ts path i=some p->∃j q t s,p=path++[((i+j:Nat):Int)]++q/\ts[j]?=some t/\Bn t q=some s/\qz rs f s=none/\gJ rs f s.args [] 0=none
 |[],_,_,_,h=>by rw[gJ] at h;cases h
 |t::ts,path,i,p,h=>by
  rw[gJ] at h
  split at h
  ·next p2 h2=>
   injection h with h;subst h;obtain⟨q,s,h3,h4,h5,h6⟩:=OE t _ _ h2;exact⟨0,q,t,s,by rw[h3];rfl,rfl,h4,h5,h6⟩
  ·obtain⟨j,q,t2,s,h3,h4,h5,h6,h7⟩:=OG ts path (i+1) p h;exact⟨j+1,q,t2,s,by rw[h3,show i+1+j=i+(j+1) from aa],h4,h5,h6,h7⟩
end
def isNone_none {rs:List aD}{f:Nat}{m:aC}(h:qz rs f m=none)(path:List Int):∃p,gW rs f m path=some p:=by
 rw[EF];cases gJ rs f m.args path 0 with
 |some p=>exact⟨p,rfl⟩
 |none=>rw[h];exact⟨path,rfl⟩
def Dm:Value->Nat
 | .pointer (some a)=>a.block
 |_=>0
def qx:Value->Bool
 | .pointer (some ⟨_,0,none⟩)=>true
 |_=>false
def Wv {u v:Value}(a:qx u=true)(b:qx v=true)(h:Dm u=Dm v):u=v:=by
 unfold qx at a b
 split at a
 ·split at b
  ·simp only[Dm] at h;rw[h]
  ·cases b
 ·cases a
def zn (v:Value):DataW Unit:=.lit (.int .i64 (Dm v))
def JU:∀{a b:List Value},a.all qx=true->b.all qx=true->a.map zn=b.map zn->a=b
 |[],[],_,_,_=>rfl
 |[],_::_,_,_,h=>by simp at h
 |_::_,[],_,_,h=>by simp at h
 |x::a,y::b,c,d,h=>by
  rw[tF,aM] at c d;rw[di,di,ul] at h;have e:(Dm x:Int)=(Dm y:Int):=by
   have:=h.1;simp only[zn,DataW.lit.injEq,Lit.int.injEq,true_and] at this;exact this
  rw[Wv c.1 d.1 (mE e),JU c.2 d.2 h.2]
def AB:Value->DataW Unit
 | .func (.func f) a b=>.agg [.lit (.int .i64 f),.agg (a.toList.map zn),.agg (b.toList.map zn)]
 |_=>.lit (.int .i64 0)
def yu:Value->Bool
 | .func (.func _) a b=>a.toList.all qx&&b.toList.all qx
 | .nilFunc=>true
 |_=>false
def Bo (v:Value):Option (DataW Unit×List MemPlace):=if yu v then some (AB v,[]) else none
def OH {u v:Value}{ps:List MemPlace}(b:yu u=true)(h:Bo v=some (AB u,ps)):v=u:=by
 unfold Bo at h
 split at h
 ·rename_i a
  simp only[gV,nP] at h;have h:=h.1;unfold yu at b a
  split at b
  ·split at a
   ·simp only[AB,DataW.agg.injEq,ul,DataW.lit.injEq,Lit.int.injEq,true_and,and_true] at h;rw[aM] at b a;obtain⟨c,d,e⟩:=h;have f:=mE c;have g:=pz.1 (JU a.1 b.1 d);have i:=pz.1 (JU a.2 b.2 e);subst f g i;rfl
   ·simp[AB] at h
   ·cases a
  ·split at a
   ·simp[AB] at h
   ·rfl
   ·cases a
  ·cases b
 ·cases h
def Ww (w:World):(zeroValue 61).run prog w= .ok .nilFunc w:=by simp[Tryz.zeroValue61]
def eO:Nat->ByteArray
 |0=>⟨#[]⟩
 |1=>dM
 |2=>dV
 |_=>jU
def mR:Nat->ByteArray
 |0=>dM
 |_=>jU
def eJ:Nat->Nat
 |0=>0
 |7=>1
 |8=>2
 |_=>3
def bJ:Nat->Nat
 |7=>0
 |_=>1
structure jV where
 gw:Nat
 bm:Nat
 gb:Nat
 ge:Nat->Nat
 gf:Nat->Nat
def pV (f g:Nat):Value:=.func (.func f) #[] #[qP g]
def wB (f g h:Nat):Value:=.func (.func f) #[] #[qP g,qP h]
def zT (f g:Nat):Value:=.func (.func f) #[qP g] #[]
def xk (W:jV):FK->Value
 | .frac=>pV 28 W.gb
 | .root=>zT 30 W.gw
 | .sub=>pV 31 W.gb
 | .sup=>pV 32 W.gb
 | .both=>pV 33 W.gb
 | .accent=>pV 34 W.gb
 | .jux=>zT 35 W.gw
 | .inf e=>wB 36 W.gb (W.ge (eJ e))
 | .pre e=>wB 38 W.gb (W.ge (eJ e))
 | .pos e=>wB 40 W.gb (W.ge (eJ e))
 | .bind e=>wB 42 W.gb (W.gf (bJ e))
def Wx (W:jV)(k:FK):yu (xk W k)=true:=by cases k<;>rfl
structure xm (D:DataW Unit)(L:List (List UInt8×Value)):Prop where
 has:∀x:List UInt8,Maps.has D (.string x)=decide (x∈L.map (·.1))
 at_:∀p∈L,D.atKey (.string p.1) (.lit (.int .i64 0))=AB p.2
 none:∀x:List UInt8,x∉L.map (·.1)->D.atKey (.string x) (.lit (.int .i64 0))= .lit (.int .i64 0)
def xm.nil:xm (.map []) []:=⟨λx=>by simp[Maps.has],(λp h=>by cases h),λx _=>by simp[DataW.atKey]⟩
def xm.put {D:DataW Unit}{L:List (List UInt8×Value)}(h:xm D L)(d:Maps.IsMap D)(s:List UInt8)(v:Value)(f:s∉L.map (·.1)):xm (D.put (.string s) (AB v)) (L++[(s,v)]):=by
 have c:∀x,x≠s->(Lit.string x)≠(Lit.string s):=λx b e=>b (by simpa using e)
 refine⟨λx=>?_,λp a=>?_,λx b=>?_⟩
 ·by_cases e:x=s
  ·subst e;rw[Maps.has_put_same d (by trivial)];simp
  ·rw[Maps.has_put_other (c x e),h.has x];simp[e]
 ·rcases iZ.1 a with a|a
  ·have e:p.1≠s:=λe=>f (by rw[<-e];exact List.mem_map_of_mem a)
   rw[um (c _ e)];exact h.at_ p a
  ·rw[iT.1 a];exact Maps.atKey_put_same d (by trivial) _ _
 ·rw[dX,iZ,not_or] at b;rw[um (c x (by simpa using b.2))];exact h.none x b.1
def mg (w:World)(bm:Nat)(L:List (List UInt8×Value)):Prop:=∃(n:Nat) (D:DataW Unit),n<=L.length/\w.ownsMap prog 9 Bo bm n D/\Maps.IsMap D/\xm D L
def mg.kept {w w':World}{bm:Nat}{L:List (List UInt8×Value)}{row:Option Nat}(h:mg w bm L)(a:w.grownBy w' row)(b:some bm≠row):mg w' bm L:=by
 obtain⟨n,D,c,d,e,f⟩:=h;exact⟨n,D,c,d.kept a b,e,f⟩
def mg.keep {L:List (List UInt8×Value)}(h:mg w bm L)(a:Below w.heap.size w w'):mg w' bm L:=
 h.kept (row:=none) ⟨a.os,a.tape,a.output,a.size,λi b _=>a.block i b⟩ aS
def mg.zIr {L:List (List UInt8×Value)}(h:mg w bm L){t:TypeId}{a:Array Value}:¬au w bm t a:=by
 obtain⟨n,D,_,⟨c,d,b,_⟩,_⟩:=h;unfold au;rw[b];simp
def mg.made (w:World):mg (w.alloc (.map #[] 0)) w.heap.size []:=⟨0,.map [],aH _,uo w _ _ _,⟨_,rfl⟩,xm.nil⟩
def JV (s:ByteArray)(a:s.size<=9223372036854775807):keyOf prog 9 (.string s)=some (.string s.data.toList):=rH (P:=prog) (k:=9) underlying9 (s:=s) gy
def Cq (W:jV):List (List UInt8×Value):=
 [(mM.data.toList,xk W .frac),(jW.data.toList,xk W .root),(dM.data.toList,xk W .sub),(dV.data.toList,xk W .sup),(jU.data.toList,xk W .both),(jb.data.toList,xk W .accent),(kE.data.toList,xk W .jux)]
def zo (gb:Nat)(ge:Nat->Nat)(j:Nat):List (List UInt8×Value):=
 [((gG++eO j).data.toList,wB 36 gb (ge j)),((ic++eO j).data.toList,wB 38 gb (ge j)),((iL++eO j).data.toList,wB 40 gb (ge j))]
def zq (gb:Nat)(gf:Nat->Nat)(j:Nat):List (List UInt8×Value):=[((mh++mR j).data.toList,wB 42 gb (gf j))]
def qM (gb:Nat)(ge:Nat->Nat)(k:Nat):List (List UInt8×Value):=(List.range k).flatMap (zo gb ge)
def pW (gb:Nat)(gf:Nat->Nat)(k:Nat):List (List UInt8×Value):=(List.range k).flatMap (zq gb gf)
def mJ (W:jV):List (List UInt8×Value):=Cq W++qM W.gb W.ge 4++pW W.gb W.gf 2
def Wy (a:Nat)(b:Nat->Nat)(k:Nat):qM a b (k+1)=qM a b k++zo a b k:=by unfold qM;rw[oQ,fH];simp
def Wz (a:Nat)(b:Nat->Nat)(k:Nat):pW a b (k+1)=pW a b k++zq a b k:=by unfold pW;rw[oQ,fH];simp
def WA (a:Nat)(b:Nat->Nat)(k v:Nat):qM a (λj=>if j=k then v else b j) k=qM a b k:=by
 unfold qM;rw[uz,uz];refine congrArg List.flatten (rE λj c=>?_);have:=eu.1 c;unfold zo;dsimp only;rw[ai aa]
def WB (a:Nat)(b:Nat->Nat)(k v:Nat):pW a (λj=>if j=k then v else b j) k=pW a b k:=by
 unfold pW;rw[uz,uz];refine congrArg List.flatten (rE λj c=>?_);have:=eu.1 c;unfold zq;dsimp only;rw[ai aa]
def WC (W:jV)(x:List UInt8):(∀k,iG x=some k->(x,xk W k)∈mJ W)/\(iG x=none->x∉(mJ W).map (·.1)):=by
 have e:(mJ W).map (·.1)=[mM.data.toList,jW.data.toList,dM.data.toList,dV.data.toList,jU.data.toList,jb.data.toList,kE.data.toList]++((List.range 4).flatMap λj=>[(gG++eO j).data.toList,(ic++eO j).data.toList,(iL++eO j).data.toList])++((List.range 2).flatMap λj=>[(mh++mR j).data.toList]):=rfl;refine⟨λk b=>?_,λh c=>?_⟩
 ·unfold iG at b;obtain⟨p,a,rfl⟩:=wK.1 b;obtain rfl:p.1=x:=by simpa using List.find?_some a
  have d:=wL a;clear a b e;revert p;show ∀p∈Bj,(p.1,xk W p.2)∈mJ W;intro p a;simp only[Bj,dD,nS,or_false] at a;rcases a with rfl|rfl|rfl|rfl|rfl|rfl|rfl|rfl|rfl|rfl|rfl|rfl|rfl|rfl|rfl|rfl|rfl|rfl|rfl|rfl|rfl
  all_goals
   unfold mJ Cq qM pW;simp only[List.range,List.range.loop,gT,tC,bX,zo,zq,dD,nS,or_false,iB,iA]
   first|exact .inl rfl|simp[xk,eJ,bJ,eO,mR]|decide
 ·rw[e] at c;unfold iG at h;rw[wJ,List.find?_eq_none] at h;have b:∀y∈[mM.data.toList,jW.data.toList,dM.data.toList,dV.data.toList,jU.data.toList,jb.data.toList,kE.data.toList]++((List.range 4).flatMap λj=>[(gG++eO j).data.toList,(ic++eO j).data.toList,(iL++eO j).data.toList])++((List.range 2).flatMap λj=>[(mh++mR j).data.toList]),y∈Bj.map (·.1):=by decide+kernel
  obtain⟨p,a,rfl⟩:=nM.1 (b x c);exact h p a aS
def mU (w:World)(g:Nat):Prop:=g<w.heap.size/\∃ev,w.cell? (ag g (0))=some ev/\(ev= .nilIface\/∃te pe,ev= .iface te pe)
def mU.keep {g:Nat}(h:mU w g)(a:Below w.heap.size w w'):mU w' g:=by
 obtain⟨b,c,d,e⟩:=h;exact⟨ll b a.size,c,(a.cell (p:=ag g (0)) b).trans d,e⟩
structure pX (w:World)(W:jV)(A:Option Addr)(cap:Nat)(rs:List aD):Prop where
 rules:fG w A rs
 box:au w W.gw 58 #[.slice A rs.length cap,.map (some W.bm)]
 var:au w W.gb 44 #[qP W.gw]
 ends:∀j,j<4->au w (W.ge j) 9 #[.string (eO j)]
 bnds:∀j,j<2->au w (W.gf j) 9 #[.string (mR j)]
 map:mg w W.bm (mJ W)
 syn:mU w 0
 rng:mU w 1
def pX.keep {w w':World}{W:jV}{A:Option Addr}{cap:Nat}{rs:List aD}(h:pX w W A cap rs)(a:Below w.heap.size w w'):pX w' W A cap rs:=
 ⟨h.rules.keep a,jL a h.box,jL a h.var,λj b=>jL a (h.ends j b),λj b=>jL a (h.bnds j b),h.map.keep a,h.syn.keep a,h.rng.keep a⟩
def zt (W:jV)(s:List UInt8):Value:=match iG s with
 |some k=>xk W k
 |none=>.nilFunc
def WE {W:jV}(h:mg w W.bm (mJ W)){s:ByteArray}(g:s.size<=9223372036854775807):(Instr.lookup 56 (.map (some W.bm)) (.string s) true).run prog w= .ok (.tuple #[zt W s.data.toList,.bool (iG s.data.toList).isSome]) w:=by
 obtain⟨n,D,-,i,-,c⟩:=h;obtain⟨v,j,a,d⟩:=i.look_ok uI underlying56 (Ww w) (show Bo .nilFunc=some (.lit (.int .i64 0),[]) from rfl) (JV s g);have f:=WC W s.data.toList;cases e:iG s.data.toList with
 |some k=>
  have b:=f.1 k e;rw[c.has,aJ (List.mem_map_of_mem b)] at a;rw[c.at_ _ b] at d;rw[OH (Wx W k) d] at a;unfold zt;rw[e];exact a
 |none=>
  have b:=f.2 e;rw[c.has,aK b] at a;rw[c.none _ b] at d;rw[OH (u:=.nilFunc) rfl d] at a;unfold zt;rw[e];exact a
abbrev bY:Array Value:=qZ
def OI (n:Nat):(Builtin.zeroCells bY n).size=4*n:=by
 simp[Builtin.zeroCells,bY];omega
def WF (n:Nat)(w:World)(j:n<=1000000):Calls prog 89 #[qN,qI n] w λe w'=>∃v,e= .returned v/\w'.ownsRow w.heap.size 31 4 v 0 []/\Below w.heap.size w w':=by
 rcases oP n with rfl|f
 ·go_enter func89,ntmps89;go_wp2;go_ret;exact⟨_,rfl,iR _ _ _ _,aL _ _⟩
 obtain⟨a,g,h,k,b⟩:=Ck;have c:=Go.Lib.run_append_grow_zeros (P:=prog) w 29 3 29 31 a (.agg bY) .i64 .i64 underlying29 underlying3 g h none 0 0 [] (run_firstCells_none w.drew a.size 0 0 0) n f aa aa aa (by rw[b];omega) (growslice_fits aa (by rw[b];omega));have i:0+n<=grownCap w (0+n) 0 31:=grownCap_ge w _ _ _;have d:grownCap w (0+n) 0 31<=maxLen:=grownCap_le_maxLen w (0+n) 0 31 gy;generalize grownCap w (0+n) 0 31=G at*;rw[fe] at c i;have l:G<=9223372036854775807:=by unfold maxLen at d;omega
 have m:¬((n:Int)<0):=aa
 have o:(n:Int)>0:=aa
 have p:(0:Int)<(n:Int):=aa
 have q:wrap64 (n:Int)=(n:Int):=ug
 go_enter func89,ntmps89;go_wp2_with (at_builtin;refine Lib.wpList_append_run _ rfl _ _ _ _ rfl _ _ rfl rfl _ _ c ?_)
 go_ret;refine⟨_,rfl,⟨rfl,.inr ⟨w.heap.size,G,Builtin.zeroCells bY n++Builtin.zeroCells bY (G -n),rfl,aH _,?_,dZ _,d,?_,aS⟩⟩,?_⟩
 ·exact au.new w 31 _
 ·rw[Array.size_append,OI,OI];omega
 ·exact fC (aN w _)
structure sQ where
 A:Option Addr
 n:Nat
 c:Nat
 xs:List Value
def lS (L:List sQ):Nat:=(L.map (·.n)).sum
def xn (L:List sQ):List Value:=L.flatMap (·.xs)
def JW (L:List sQ)(s:sQ):lS (L++[s])=lS L+s.n:=by simp[lS]
def WG (L:List sQ)(s:sQ):xn (L++[s])=xn L++s.xs:=by simp[xn]
def OJ (L:List sQ):∀k,lS (L.take k)<=lS L:=by
 intro k;have:lS (L.take k++L.drop k)=lS (L.take k)+lS (L.drop k):=by unfold lS;rw[dX,uA]
 rw[kw] at this;omega
def Dn {α:Type}{L:List α}{k:Nat}{s:α}(h:L[k]?=some s):L.take (k+1)=L.take k++[s]:=by
 rw[dA,h];rfl
def WH (g:Nat)(L:List sQ)(w:World)(f:∀k s,L[k]?=some s->w.cell? (ag g k)=some (.slice s.A s.n s.c))(o:g<w.heap.size)(r:∀s∈L,dL w w.heap.size 4 s.A s.n s.xs/\∀u∈s.xs,u.oneCell'=true)(Y:L.length<=1000000)(h:lS L<=1000000):
  Calls prog 64 #[.slice (some (ag g (0))) L.length L.length] w λe w'=>∃v,e= .returned v/\w'.ownsRow w.heap.size 31 4 v (lS L) (xn L)/\Below w.heap.size w w':=by
 obtain⟨C,D,E,F,G⟩:=Ck;have t:=zh f;have x:=zh r;have H:=zh o;have I:=zh h;clear f r o;go_enter func64,ntmps64;go_wp2_with fail
 go_loopw [3,11] (λs i wr=>∃k:Nat,k<=L.length/\i=qI k/\s=qI (lS (L.take k):Nat)/\wr=w) (λ_ i _=>L.length -(intOf i).toNat)
 case atStart=>exact⟨0,aa,rfl,rfl,rfl⟩
 case round=>
  obtain⟨k,J,rfl,rfl,rfl⟩:=hrel;rcases bu k L.length with l|K
  ·obtain⟨s,a⟩:∃s,L[k]?=some s:=⟨_,gE l⟩
   have Z:=t.o k s a;have m:lS (L.take (k+1))=lS (L.take k)+s.n:=by rw[Dn a,JW]
   have M:=zh m;have n:=OJ L (k+1);rw[m] at n;clear m;generalize lS (L.take k)=q at*;have a0:¬((q:Int)+(s.n:Int)<0):=aa
   have a1:wrap64 ((q:Int)+(s.n:Int))=(q:Int)+(s.n:Int):=ug
   have N:(k:Int)<(L.length:Int):=aa
   go_wp2;go_roundw
   case rel=>exact⟨k+1,aa,bi,by rw[M.o];simp,trivial⟩
   case measure=>simp[intOf];omega
  ·obtain rfl:k=L.length:=by omega
   rw[bW];obtain⟨b,O⟩:∃b,b=wr:=⟨_,rfl⟩
   subst O;go_wp2_with fail;refine(WF (lS L) b h).mono ?_;rintro e a2 ⟨v,rfl,y,f⟩;have d:=zh y;have c:=zh f;clear y f h;go_wp2_with fail
   go_loopw [6,27] (λv i wr=>∃k:Nat,k<=L.length/\i=qI k/\Hy (wr.ownsRow b.heap.size 31 4 v (lS (L.take k)) (xn (L.take k)))/\Hy (Below b.heap.size b wr)) (λ_ i _=>L.length -(intOf i).toNat)
   case atStart=>exact⟨0,aa,rfl,d,c⟩
   case round=>
    clear d c;obtain⟨k,J,rfl,d,c⟩:=hrel;rcases bu k L.length with l|K
    ·obtain⟨s,a⟩:∃s,L[k]?=some s:=⟨_,gE l⟩
     have P:=zh a;have n:=OJ L (k+1);rw[Dn a,JW] at n;have a3:=I.o;have Q:=zh (bA d.o);have R:=zh ((x.o s (dQ a)).1.below c.o);have S:=zh ((x.o s (dQ a)).2);have z:=c.o.size;have T:wr.cell? (ag g k)=some (.slice s.A s.n s.c):=(c.o.cell (p:=ag g k) H.o).trans (t.o k s a);have N:(k:Int)<(L.length:Int):=aa
     clear a;go_wp2_with (at_builtin;refine uG _ rfl (.tmp 31) (.tmp 32) 29 rfl b.heap.size 31 C (.agg bY) 4 56 underlying29 D E F G rfl aI _ _ _ rfl d.o b.heap.size s.A s.n s.c s.xs rfl R.o S.o ?c63 ?cby z ?_)
     case c63=>unfold maxLen;omega
     case cby=>omega
     intro U w' A B _;have V:=ah (w'.ownsRow b.heap.size 31 4 U (lS (L.take (k+1))) (xn (L.take (k+1)))) (by rw[Dn P.o,JW,WG];exact A);have W:=zh (c.o.grown B z (λj X=>(Q.o j X).1));clear A B d c T;go_wp2;go_roundw
     case rel=>exact⟨k+1,aa,bi,V,W⟩
     case measure=>simp[intOf];omega
    ·obtain rfl:k=L.length:=by omega
     rw[bW] at d;go_wp2;go_ret;exact⟨_,rfl,d.o,c.o⟩
end Rn
namespace El
open At Ch Sp Sy Go.RowKit
variable{path:List Int}{n:aG}{p:gP}{rs:List aD}{k:Int}
def OL:∀(a b:List aC),bq (a++b)=bq a+bq b
 |[],b=>by rw[iA,bq];omega
 |x::a,b=>by rw[iB,bq,bq,OL a b];omega
def zu (M:List aG->List Int->Nat->bO aC):Prop:=∀items p k t,M items p k= .ok t->bg t+1<=2*bK items
def Gv {M:List aG->List Int->Nat->bO aC}(f:zu M){path:List Int}:∀(ks:List aG) (s b:Nat) (ts:List aC),kF M path ks s b= .ok ts->bq ts<=2*bK ks
 |[],s,b,ts,h=>by rw[kF] at h;injection h with h;rw[<-h,bq];omega
 |n::g,s,b,ts,h=>by
  rw[kF] at h;cases a:M n.kids (path++[(s:Int)]) b with
  |bad e p=>rw[a] at h;cases h
  |ok t=>
   rw[a] at h;simp only[bO.then_] at h;cases d:kF M path g (s+1) 0 with
   |bad e p=>rw[d] at h;cases h
   |ok us=>
    rw[d] at h;simp only at h;injection h with h;have i:=f _ _ _ _ a;have j:=Gv f g (s+1) 0 us d;obtain⟨k,x,c,ks⟩:=n;rw[<-h,bq,bK,dK];have l:bg t+1<=2*bK ks:=i;omega
def vW (n:aG):dK n=bK n.kids+1:=by
 obtain⟨k,x,c,a⟩:=n;rw[dK];show _=bK a+1;omega
def WI {M:List aG->List Int->Nat->bO aC}(g:zu M)(h:qH M n path= .ok p):bg p.opnd+1<=2*dK n/\bq p.scr+2<=2*dK n:=by
 have l:=vW n;have b:bq ([]:List aC)=0:=by rw[bq]
 unfold qH at h
 split at h
 ·injection h with h;rw[<-h];exact⟨by rw[bg,b];omega,by rw[b];omega⟩
 split at h
 ·injection h with h;rw[<-h];exact⟨by rw[bg,b];omega,by rw[b];omega⟩
 split at h
 ·injection h with h;rw[<-h];exact⟨by rw[bg,b];omega,by rw[b];omega⟩
 ·have j:∀m:bO (List aC),(∀c,m= .ok c->bq c<=2*bK n.kids)->(m.then_ λc=>bO.ok ⟨aC.mk 4 (mo n).1 ⟨#[]⟩ (mo n).2 c,[],⟨#[]⟩,⟨#[]⟩⟩)= .ok p->bg p.opnd+1<=2*dK n/\bq p.scr+2<=2*dK n:=by
   intro m k f;cases m with
   |bad e q=>cases f
   |ok c=>
    simp only[bO.then_] at f;injection f with f;have:=k c rfl;rw[<-f];exact⟨by rw[bg];omega,by rw[b];omega⟩
  refine j _ (λc a=>?_) h;cases i:n.kids with
  |nil=>rw[i] at a;injection a with a;rw[<-a,b];omega
  |cons d o=>
   rw[i] at a;dsimp only at a
   split at a
   ·have:=Gv g _ _ _ _ a;rw[bK];omega
   ·exact Gv g _ _ _ _ a
def WJ {M:List aG->List Int->Nat->bO aC}(f:zu M){pre:Bool}(h:lL rs M n path pre= .ok p):bg p.opnd+1<=2*dK n/\bq p.scr+2<=2*dK n:=by
 have i:=vW n;have b:bq ([]:List aC)=0:=by rw[bq]
 have c:bg pO=1:=by unfold pO;rw[bg,b]
 unfold lL at h
 split at h
 ·injection h with h;rw[<-h];exact⟨by show bg pO+1<=_;rw[c];omega,by show bq ([]:List aC)+2<=_;rw[b];omega⟩
 ·cases a:kF M path n.kids.tail 1 (if(dN rs n pre).isSome then 2 else 0) with
  |bad e q=>rw[a] at h;cases h
  |ok g=>
   rw[a] at h;simp only[bO.then_] at h;injection h with h;have j:=Gv f _ _ _ _ a;have k:bK n.kids.tail<=bK n.kids:=by
    cases n.kids with
    |nil=>exact aH _
    |cons d l=>rw[List.tail_cons,bK];omega
   rw[<-h];exact⟨by rw[c];omega,by show bq g+2<=_;omega⟩
def OM {rs:List aD}{M:List aG->List Int->Nat->bO aC}(g:zu M){path:List Int}{kd:Nat->Int}{k:Nat}:∀(d:List aG) (ts:List ByteArray) (i:Nat) (ps:List gP),pR rs M path kd k d ts i= .ok ps->∀(q:Nat) (n:aG) (t:ByteArray),d[q]?=some n->ts[q]?=some t->∃p,ps[q]?=some p/\bg p.opnd+1<=2*dK n/\bq p.scr+2<=2*dK n
 |[],_,_,_,_,q,n,t,h,_=>by simp at h
 |_::_,[],_,_,_,q,n,t,_,h=>by simp at h
 |a::d,b::ts,i,ps,h,q,n,t,c,j=>by
  rw[pR] at h;cases f:(if b.data.toList=[35] then qH M a (path++[((k+i:Nat):Int)]) else lL rs M a (path++[((k+i:Nat):Int)]) (decide (kd i=2))) with
  |bad e p=>rw[f] at h;cases h
  |ok p=>
   rw[f] at h;simp only[bO.then_] at h;cases l:pR rs M path kd k d ts (i+1) with
   |bad e p=>rw[l] at h;cases h
   |ok us=>
    rw[l] at h;simp only at h;injection h with h;subst h;cases q with
    |zero=>
     rw[iD] at c j;injection c with c;subst c;refine⟨p,rfl,?_⟩
     split at f
     ·exact WI g f
     ·exact WJ g f
    |succ q=>
     rw[eD] at c j;obtain⟨m,o,r⟩:=OM g d ts (i+1) us l q n t c j;exact⟨m,by rw[eD];exact o,r⟩
def JX {nam:ByteArray}{args:List aC}:bg (pQ nam k (some p) args)=1+bq p.scr+bq args:=by
 unfold pQ;dsimp only
 split<;>(rw[bg,OL];omega)
def WK {nam:ByteArray}{args:List aC}:bg (pQ nam k none args)=1+bq args:=by
 unfold pQ;rw[bg];omega
def WL {ps:List gP}{S:Nat->Nat}{m:Nat}(o:∀q,q<m->∃p,ps[q]?=some p/\S q+bg p.opnd+1<=S (q+1)/\S q+bq p.scr+2<=S (q+1)){x:Rd}{i j:Nat}(h:mf rs x i j)(r:j<=m):bg (mi rs ps x (j:Int))+1+S i<=S j:=by
 induction h with
 |leaf i=>
  obtain⟨p,f,w,_⟩:=o i aa;rw[zQ,ak aI,fU,f];show bg p.opnd+1+S i<=S (i+1);omega
 |inf n u i k j y z c d f w g a b e s=>
  obtain⟨p,l,_,t⟩:=o k aa;have v:=e aa;have A:=s r;rw[zQ,ai aa,(Df (i:=i) (j:=j) (y:=y) c d g).1,(Df (i:=i) (j:=j) (y:=y) c d g).2,ak (jf _),fU,l,JX];simp only[iF,bq];omega
 |pre n u i j y c d f a e=>
  obtain⟨p,l,_,t⟩:=o i aa;have v:=e r;rw[zQ,ai aa,(Dg (i:=i) (j:=j) (y:=y) c d).1,(Dg (i:=i) (j:=j) (y:=y) c d).2,ak (jf _),fU,l,JX];simp only[iF,bq];omega
 |pos n u i j y c d f a e=>
  obtain⟨p,l,_,t⟩:=o (j -1) aa;have v:=e aa;rw[show j -1+1=j from aa] at t;rw[zQ,ai aa,(Dh (i:=i) (j:=j) (y:=y) c d aa).1,(Dh (i:=i) (j:=j) (y:=y) c d aa).2,ak (jf _),fU,l,JX];simp only[iF,bq];omega
 |jux n u i k j y z c d f w g a b e s=>
  have v:=e aa;have A:=s r;rw[zQ,ai aa,(Di (i:=i) (j:=j) (y:=y) c d g).1,(Di (i:=i) (j:=j) (y:=y) c d g).2,ai aa,WK];simp only[iF,bq];omega
def JY:∀(l:List aG) (q:Nat) (n:aG),l[q]?=some n->bK (l.take (q+1))=bK (l.take q)+dK n
 |[],q,n,h=>by simp at h
 |a::l,0,n,h=>by
  obtain rfl:a=n:=by simpa using h
  simp[bK]
 |a::l,q+1,n,h=>by
  rw[fo,fo,bK,bK,JY l q n (by simpa using h)];omega
def OO:∀(l:List aG) (k:Nat),bK (l.drop k)<=bK l
 |[],k=>aS
 |a::l,0=>aH _
 |a::l,k+1=>by
  have:=OO l k;rw[pg,bK];omega
def OP (rs:List aD):∀f,zu (dE rs f)
 |0=>λitems p k t h=>by rw[dE] at h;cases h
 |f+1=>λitems path k t h=>by
  have g:=OP rs f;rw[dE] at h;unfold xN at h
  split at h
  ·cases h
  ·cases b:jP rs (items.drop k) with
   |inr i=>rw[b] at h;cases h
   |inl a=>
    rw[b] at h;dsimp only at h;rcases hr:xM rs a with _|⟨x,_|⟨y,B⟩⟩
    ·rw[hr] at h;cases h
    ·rw[hr] at h;dsimp only at h;cases c:pR rs (dE rs f) path (λi=>dF rs ((wT (eQ rs x a.length) a.length).getD i 0)) k (items.drop k) a 0 with
     |bad e p=>rw[c] at h;cases h
     |ok j=>
      rw[c] at h;simp only[bO.then_] at h;injection h with h;have l:x∈aX rs a 0 a.length:=by
       unfold xM at hr
       split at hr
       ·rw[hr];exact bZ
       ·cases hr
      have o:=Al b;have r:=WL (ps:=j) (S:=λq=>2*bK ((items.drop k).take q)) (m:=a.length) (λq s=>by
       obtain⟨n,d⟩:∃n,(items.drop k)[q]?=some n:=⟨_,gE aa⟩
       obtain⟨u,v⟩:∃u,a[q]?=some u:=⟨_,gE s⟩
       obtain⟨p,w,C,D⟩:=OM g _ _ _ _ c q n u d v;refine⟨p,w,?_,?_⟩
       ·rw[JY _ q n d];omega
       ·rw[JY _ q n d];omega) (yH _ 0 a.length x (aH _) l) (aH _)
      have z:(items.drop k).take a.length=items.drop k:=fA (by rw[o];exact aH _);have A:bK ((items.drop k).take 0)=0:=by rw[eZ,bK]
      rw[h,z,A] at r;have:=OO items k;omega
    ·rw[hr] at h;cases h
end El
namespace Rn
open At Ch Sp Sy El Go.RowKit
variable{rs:List aD}{R:List (List aG)}{n:Nat}{l:List aG}
def xR:∀(a b:List aG),bK (a++b)=bK a+bK b
 |[],b=>by rw[iA,bK,fe]
 |t::a,b=>by rw[iB,bK,bK,xR a b,Nat.add_assoc]
def sS (l:List aG):dK (aQ l)=bK l+1:=by unfold aQ;rw[dK]
def count_one (n:aG):bK [n]=dK n:=by rw[bK,bK];rfl
def Dp (n p:aG):bK [n,p]=dK n+dK p:=by rw[bK,count_one]
def OQ (R:List (List aG))(k:Nat):bK (R.map aQ)=bK ((R.take k).map aQ)+bK ((R.drop k).map aQ):=by
 rw[<-xR,<-dX,kw]
def Gw {kd:Int}{nam:ByteArray}{e:Nat}{A:List (List aG)}{o:aG}(h:kL rs kd nam e R n=some (o,A)):dK o+bK (A.map aQ)<=bK (R.map aQ)+3:=by
 unfold kL at h
 split at h
 ·cases h
 ·split at h
  ·cases h
  ·split at h
   ·injection h with h;injection h with a b;rw[<-a,<-b,OQ R (fF e)]
    split
    ·next u _ _ _=>rw[show dK (dh u.sym)=1 from rfl];omega
    ·next u _ _ _=>rw[dK,bK,sS,count_one,show dK (dh u.sym)=1 from rfl];omega
   ·cases h
def Ju (v:ByteArray)(o:aG):dK (wZ v o)<=dK o+2:=by
 match o with
 | .mk k t c (b:: .mk a d e f::r)=>
  show dK (.mk k t c (b:: .mk a d e (dh v::dh sN::f)::r))<=_;rw[dK,bK,bK,dK,bK,bK,dK,bK,bK,dK,show dK (dh v)=1 from rfl,show dK (dh sN)=1 from rfl];omega
 | .mk k t c []=>exact fq _ _
 | .mk k t c [_]=>exact fq _ _
def Dq {k:Int}{t:ByteArray}(h:mP k t R n=some l):bK l<=bK (R.map aQ)+5:=by
 unfold mP at h
 split at h
 ·injection h with h;rw[<-h,count_one,dK];omega
 ·cases h
def WM {nam vr:ByteArray}{k:FK}(h:bG rs nam vr R k=some l):bK l<=bK (R.map aQ)+5:=by
 cases k with
 |frac=>exact Dq h
 |sub=>exact Dq h
 |sup=>exact Dq h
 |both=>exact Dq h
 |accent=>exact Dq h
 |root=>
  match R,h with
  |[a],h=>
   injection h with h;rw[<-h,count_one,dK,Dp,sS,sS,show([a].map aQ)=[aQ a] from rfl,count_one,sS,bK];omega
  |[a,b],h=>
   injection h with h;rw[<-h,count_one,dK,Dp,show([a,b].map aQ)=[aQ a,aQ b] from rfl,Dp];omega
  |[],h=>cases h
  |_::_::_::_,h=>cases h
 |jux=>
  match R,h with
  |[a,b],h=>
   injection h with h;rw[<-h,xR,show([a,b].map aQ)=[aQ a,aQ b] from rfl,Dp,sS,sS];omega
  |[],h=>cases h
  |[_],h=>cases h
  |_::_::_::_,h=>cases h
 |inf e=>
  rw[bG] at h
  split at h
  ·next o a b ho=>
   injection h with h;have:=Gw ho;rw[show([a,b].map aQ)=[aQ a,aQ b] from rfl,Dp,sS,sS] at this;rw[<-h,xR,xR,count_one];omega
  ·cases h
 |pre e=>
  rw[bG] at h
  split at h
  ·next o a ho=>
   injection h with h;have:=Gw ho;rw[show([a].map aQ)=[aQ a] from rfl,count_one,sS] at this;rw[<-h,bK];omega
  ·cases h
 |pos e=>
  rw[bG] at h
  split at h
  ·next o a ho=>
   injection h with h;have:=Gw ho;rw[show([a].map aQ)=[aQ a] from rfl,count_one,sS] at this;rw[<-h,xR,count_one];omega
  ·cases h
 |bind e=>
  rw[bG] at h
  split at h
  ·next o a ho=>
   injection h with h;have:=Gw ho;have c:=Ju vr o;rw[show([a].map aQ)=[aQ a] from rfl,count_one,sS] at this;rw[<-h,bK];omega
  ·cases h
def WN {f:List UInt8}(h:pU f R=some l):bK l<=bK (R.map aQ)+5:=by
 unfold pU at h
 split at h
 ·exact Dq h
 ·split at h
  ·split at h
   ·injection h with h;rw[<-h,count_one,dK];omega
   ·cases h
  ·cases h
mutual
def OT {rs:List aD}:∀(m:aC) (l:List aG),jd rs m=some l->bK l+1<=8*bg m
 | .mk k nam vr frm args,l,h=>by
  rw[jd] at h;rw[bg]
  split at h
  ·injection h with h;rw[<-h,count_one];show 1+1<=_;omega
  ·split at h
   ·injection h with h;rw[<-h,count_one];show 1+1<=_;omega
   ·split at h
    ·injection h with h;rw[<-h,count_one];show 1+1<=_;omega
    ·unfold vL at h;cases hr:bI rs args with
     |none=>rw[hr] at h;cases h
     |some R=>
      have h1:=JZ args R hr;rw[hr,oz] at h
      split at h
      ·have:=WM h;omega
      ·have:=WN h;omega
def JZ {rs:List aD}:∀(ms:List aC) (R:List (List aG)),bI rs ms=some R->bK (R.map aQ)<=8*bq ms
 |[],R,h=>by
  rw[bI] at h;injection h with h;rw[<-h];exact aH _
 |m::ms,R,h=>by
  rw[bI] at h;cases hi:jd rs m with
  |none=>rw[hi] at h;cases h
  |some l=>
   cases hr:bI rs ms with
   |none=>rw[hi,hr] at h;cases h
   |some ls=>
    have h1:=OT m l hi;have h2:=JZ ms ls hr;rw[hi,hr,oz,oz] at h;injection h with h;rw[<-h,di,bK,sS,bq];omega
end
end Rn
end Go.Proofs.YtlefbenkhgbifaaGreatDoor
