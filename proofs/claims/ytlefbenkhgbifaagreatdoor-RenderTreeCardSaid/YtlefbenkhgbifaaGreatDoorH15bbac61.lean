/- A region that draws its order and ends in a tail that waits for all else: values known. -/
import Derived.Test.YtlefbenkhgbifaaGreatDoorH53cd984d
import Derived.Deep.QuietTactic
import Derived.BigQuiet
import Derived.Deep.RegionWith
import Derived.Deep.RegionHeld3
import Derived.Deep.DeepCutAuto
import Derived.DataElems
set_option linter.all false
set_option maxRecDepth 100000
set_option maxHeartbeats 2000000
namespace Go.Proofs.YtlefbenkhgbifaaGreatDoor
open Tryz
section
open Go.RowKit
variable{w:World}{A:Option Addr}{rs os:List aD}{j:Nat}{r:aD}
def fG (w:World)(A:Option Addr)(rs:List aD):Prop:=∀(k:Nat) (r:aD),rs[k]?=some r->r.fits/\∃ad:Addr,A=some ad/\ad.block<w.heap.size/\∀(j:Nat) (v:Value),r.c[j]?=some v->w.cell? (ad.add (k*6+j))=some v
def add_block (a:Addr)(n:Nat):(a.add n).block=a.block:=by unfold Addr.add;split<;>rfl
def fG.keep {w':World}(h:fG w A rs)(a:Below w.heap.size w w'):fG w' A rs:=λk r c=>by
 obtain⟨d,e,f,b,g⟩:=h k r c;exact⟨d,e,f,ll b a.size,λj v i=>(a.cell (by rw[add_block];exact b)).trans (g j v i)⟩
def fG.drew {w:World}{A:Option Addr}{rs:List aD}(h:fG w A rs):fG w.drew A rs:=h
def fG.alloc {w:World}{A:Option Addr}{rs:List aD}(h:fG w A rs)(o:Obj):fG (w.alloc o) A rs:=h.keep (aN w o)
def fG.take {w:World}{A:Option Addr}{rs:List aD}(h:fG w A rs)(n:Nat):fG w A (rs.take n):=λk r a=>h k r (by
 rw[gU] at a
 split at a
 ·exact a
 ·cases a)
def BB {a:Addr}{n:Nat}{v:Value}(h:w.cell? (a.add (n+(j+1)))=some v):w.cell? ⟨(a.add n).block,(a.add n).off+(j+1),none⟩=some v:=by
 rw[<-oO] at h;unfold Addr.add at h⊢
 simpa using h
def fG.at_ (h:fG w A rs){k:Nat}(c:rs[k]?=some r):
  r.fits/\∃a:Addr,A=some a/\a.block<w.heap.size/\w.cell? (a.add (k*6))=some (qI r.kind)/\w.cell? ⟨(a.add (k*6)).block,(a.add (k*6)).off+1,none⟩=some (af r.sym)/\w.cell? ⟨(a.add (k*6)).block,(a.add (k*6)).off+2,none⟩=some (af r.nam)/\w.cell? ⟨(a.add (k*6)).block,(a.add (k*6)).off+3,none⟩=some (qI r.prec)/\w.cell? ⟨(a.add (k*6)).block,(a.add (k*6)).off+4,none⟩=some (qI r.left)/\w.cell? ⟨(a.add (k*6)).block,(a.add (k*6)).off+5,none⟩=some (qI r.right):=by
 obtain⟨d,a,e,f,b⟩:=h k r c;exact⟨d,a,e,f,b 0 _ rfl,BB (j:=0) (b 1 _ rfl),BB (j:=1) (b 2 _ rfl),BB (j:=2) (b 3 _ rfl),BB (j:=3) (b 4 _ rfl),BB (j:=4) (b 5 _ rfl)⟩
def RL (os:List aD)(r:aD)(w:World)(e:Ending)(w':World):Prop:=∃n:Int,e= .returned (qI n)/\decide (0<=n)=(os.any λo=>nk o r)/\Below w.heap.size w w'
abbrev LM (g:Nat):Value:=.func (.func 61) #[] #[qP g]
def RN (A:Option Addr)(cap g:Nat)(os:List aD)(r:aD)(w:World)(p:fG w A os)(q:au w g 41 r.c)(K:os.length<=1000000):Calls prog 87 #[.slice A os.length cap,LM g] w (RL os r w):=by
 have a:=zh p;have b:=zh q;clear p q;go_enter func87,ntmps87;go_wp2_with fail
 go_loopw [8] (λi wr=>∃k:Nat,k<=os.length/\i=qI k/\Hy (∀(j:Nat) x,os[j]?=some x->j<k->nk x r=false)/\Hy (fG wr A os)/\Hy (au wr g 41 r.c)/\Hy (Below w.heap.size w wr)) (λi _=>os.length -(intOf i).toNat)
 case atStart=>exact⟨0,aa,rfl,(λj _ _ h=>aa),a,b,aL _ _⟩
 case round=>
  clear a b;obtain⟨k,L,rfl,s,a,b,n⟩:=hrel
  by_cases z:k<os.length
  ·obtain⟨x,d⟩:∃x,os[k]?=some x:=⟨_,gE z⟩
   obtain⟨B,M,rfl,N,C,D,E,F,G,H⟩:=a.o.at_ d;have t:=zh d;clear d B;go_wp2_with fail;refine(RI x r g _ b.o).mono ?_;rintro e O ⟨rfl,l⟩;have I:=zh (a.o.keep l);have J:=kp l b;have u:=jt n l;clear l a b n C D E F G H;cases m:nk x r
   ·have f:=zh m;clear m;go_wp2;go_roundw
    case rel=>exact⟨k+1,aa,bi,(λj y c h=>by
     rcases bu j k with v|v
     ·exact s.o j y c v
     ·obtain rfl:j=k:=by omega
      rw[t.o] at c;obtain rfl:=sj c;exact f.o),I,J,u⟩
    case measure=>simp[intOf];omega
   ·have f:=ah ((os.any λo=>nk o r)=true) (List.any_eq_true.2 ⟨x,dQ t.o,m⟩);clear m;go_wp2;go_ret;exact⟨_,rfl,by rw[f.o];simp,u.o⟩
  ·have f:=zh (show(os.any λo=>nk o r)=false by
    rw[xy];intro x d;obtain⟨j,c⟩:=gz.1 d;have P:j<os.length:=(bP.1 c).1;rw[s.o j x c aa];simp)
   go_wp2;go_ret;exact⟨_,rfl,by rw[f.o];rfl,n.o⟩
def RO (A:Option Addr)(cap g:Nat)(os:List aD)(r:aD)(w:World)(a:fG w A os)(b:au w g 41 r.c)(f:os.length<=1000000):Calls prog 60 #[.slice A os.length cap,LM g] w λe w'=>e= .returned (.bool (os.any λo=>nk o r))/\Below w.heap.size w w':=by
 have h:=zh a;have i:=zh b;clear a b;go_enter func60,ntmps60;go_wp2_with fail;refine(RN A cap g os r _ h.o i.o f).mono ?_;rintro e l ⟨n,rfl,c,d⟩;have j:=zh c;have k:=zh d;clear c d;go_wp2;go_ret;exact⟨aU j.o,k.o⟩
def RP (A:Option Addr)(cap:Nat)(os:List aD)(r:aD)(w:World)(a:fG w A os)(f:os.length<=1000000):Calls prog 26 #[.slice A os.length cap,r.v] w λe w'=>e= .returned (.bool (!wN os r))/\Below w.heap.size w w':=by
 have g:=zh a;have h:=ah ((!wN os r)=(os.any λo=>nk o r)) (by unfold wN;rw[Bool.not_not]);clear a;go_enter func26,ntmps26;go_wp2_with fail;refine(RO A cap w.heap.size os r _ (g.o.alloc _) (au.new w 41 r.c) f).mono ?_;rintro e k ⟨rfl,c⟩;have i:=zh ((aN w _).trans (c.mono aS));clear c;rw[<-h.o];generalize d:(!wN os r)=b;have j:=zh d;clear d;go_wp2;go_ret;exact⟨aU j.o.symm,i.o⟩
def LP (A:Option Addr)(n cap:Nat)(os:List aD)(r:aD)(w:World)(a:fG w A os)(b:os.length=n)(c:n<=1000000):Calls prog 26 #[.slice A n cap,r.v] w λe w'=>e= .returned (.bool (!wN os r))/\Below w.heap.size w w':=by
 subst b;exact RP A cap os r w a c
def RQ (rs:List aD)(h:64<rs.length):fZ rs=false:=by unfold fZ;rw[aK aa];rfl
def RS (rs:List aD)(h:rs.length<=64):fZ rs=vR rs rs.length:=by unfold fZ;rw[aJ h];rfl
def Aa (A:Option Addr)(cap:Nat)(rs:List aD)(w:World)(M:fG w A rs)(a4:rs.length<=cap)(a5:cap<=9223372036854775807):Calls prog 14 #[.slice A rs.length cap] w λe w'=>e= .returned (.bool (fZ rs))/\Below w.heap.size w w':=by
 have m:=zh M;clear M
 by_cases T:64<rs.length
 ·rw[RQ rs T];go_enter func14,ntmps14;go_wp2;go_ret;exact⟨rfl,aL _ _⟩
 ·rw[RS rs aa];go_enter func14,ntmps14;go_wp2_with fail
  go_loopw [10] (λi wr=>∃k:Nat,k<=rs.length/\i=qI k/\Hy (vR rs k=true)/\Hy (fG wr A rs)/\Hy (Below w.heap.size w wr)) (λi _=>rs.length -(intOf i).toNat)
  case atStart=>exact⟨0,aa,rfl,rfl,m,aL _ _⟩
  case round=>
   clear m;obtain⟨k,a6,rfl,N,m,u⟩:=hrel
   by_cases U:k<rs.length
   ·obtain⟨x,B⟩:∃x,rs[k]?=some x:=⟨_,gE U⟩
    obtain⟨O,d,rfl,a7,r,V,W,X,Y,Z⟩:=m.o.at_ B;have h:=zh (Hu B);have C:=zh O;have P:=zh (@Ht rs (k+1) rs.length);have Q:=zh (m.o.take k);have R:=ah ((rs.take k).length=k) (by rw[eU];omega);rw[N.o,aW] at h;clear B O;go_upto_region 6 with(fail)
    have j:=zh (au.new wr 41 x.c);have f:=zh (m.o.alloc (.cells x.c 41));have s:=zh (Q.o.alloc (.cells x.c 41));have a:=zh (u.o.alloc u.o.size (.cells x.c 41));clear m Q u r V W X Y Z;generalize wr.alloc (.cells #[qI x.kind,af x.sym,af x.nam,qI x.prec,qI x.left,qI x.right] 41)=a8 at*;generalize wr.heap.size=g at*;have r:=j.o.cell;have D:=j.o.lt;cases o:ni x
    ·have v:=zh o;rw[o,bL] at h;clear o
     go_cut [24] (λb wc=>b= .bool true/\Hy (fG wc (some d) rs)/\Hy (Below w.heap.size w wc))
     case first=>
      refine LK aj ⟨#[ay d rs.length cap,undef,u2,qI k,qP g,ay d rs.length cap,qI rs.length,.bool (decide (64<(rs.length:Int))),ay d rs.length cap,qI rs.length,qI k,.bool true,qI k,az (d.add (k*6)),x.v,x.v,.bool false,.bool true,.bool true,undef,undef,undef,undef,undef,.bool true,u25],[]⟩ [x.v,.bool false,.bool true,.bool true,undef,undef,undef,undef,undef,.bool true] [true,true,true,true,false,false,false,false,false,true] (λl=>Hy (au l g 41 x.c)/\Hy (fG l (some d) rs)/\Hy (Below w.heap.size w l)) aj aj aj ⟨j.o.drew,f.o.drew,fC a.o⟩ ?_ ?_
      ·refine⟨λl p=>?_,λl p=>?_,jA,jA,rfl,rfl,rfl,rfl,rfl,jA,trivial⟩
       ·obtain⟨y,E,z⟩:=p;have a0:=y.o.cell;exact jv (x.v) l (iy a0) ⟨rfl,y,E,z⟩
       ·obtain⟨y,E,z⟩:=p;refine jc 25 (#[x.v]) l aj ((Bz x _ C.o).mono ?_);rintro e S ⟨rfl,F⟩;exact⟨_,rfl,by rw[v.o],ae F y.o,E.o.keep F,z.o.trans (F.mono z.o.size)⟩
      ·intro l p;go_wp2;go_meet;exact⟨rfl,p.2.1,p.2.2⟩
     case rest=>
      clear j s f a r D;obtain⟨rfl,f,a⟩:=hcut;go_wp2;go_ret;exact⟨aU (P.o h.o aa).symm,a.o⟩
    ·have v:=zh o;rw[o,aW] at h;clear o;cases q:wN (rs.take k) x
     ·rw[q] at h;have G:=zh q;clear q
      go_cut [24] (λb wc=>b= .bool true/\Hy (fG wc (some d) rs)/\Hy (Below w.heap.size w wc))
      case first=>
       go_region_with (first|(go_at_call 25;refine(Bz x _ C.o).mono ?_;rintro e S ⟨rfl,c⟩;have t:=zh (ae c j.o.drew);have H:=zh (f.o.drew.keep c);have I:=zh (s.o.drew.keep c);have J:=zh ((fC a.o).trans (c.mono a.o.size));clear c;have a1:=λi=>t.o.cell i;have a2:=t.o.lt;rw[v.o])|(go_at_call 26;refine(LP (some d) k cap (rs.take k) x _ I.o R.o aa).mono ?_;rintro e a3 ⟨rfl,n⟩;have K:=zh (H.o.keep n);have L:=jt J n;clear n;rw[G.o]))
       all_goals (go_wp2;go_meet;exact⟨rfl,K,L⟩)
      case rest=>
       clear j s f a r D;obtain⟨rfl,f,a⟩:=hcut;go_wp2;go_ret;exact⟨aU (P.o h.o aa).symm,a.o⟩
     ·rw[q] at h;have G:=zh q;clear q
      go_cut [24] (λb wc=>b= .bool false/\Hy (fG wc (some d) rs)/\Hy (Below w.heap.size w wc))
      case first=>
       go_region_with (first|(go_at_call 25;refine(Bz x _ C.o).mono ?_;rintro e S ⟨rfl,c⟩;have t:=zh (ae c j.o.drew);have H:=zh (f.o.drew.keep c);have I:=zh (s.o.drew.keep c);have J:=zh ((fC a.o).trans (c.mono a.o.size));clear c;have a1:=λi=>t.o.cell i;have a2:=t.o.lt;rw[v.o])|(go_at_call 26;refine(LP (some d) k cap (rs.take k) x _ I.o R.o aa).mono ?_;rintro e a3 ⟨rfl,n⟩;have K:=zh (H.o.keep n);have L:=jt J n;clear n;rw[G.o]))
       all_goals (go_wp2;go_meet;exact⟨rfl,K,L⟩)
      case rest=>
       clear j s f a r D;obtain⟨rfl,f,a⟩:=hcut;go_wp2;go_roundw
       case rel=>exact⟨k+1,aa,bi,h.o,f,a⟩
       case measure=>simp[intOf];omega
   ·obtain rfl:k=rs.length:=by omega
    go_wp2;go_ret;exact⟨aU N.o.symm,u.o⟩
def LQ (o r:aD):nk o r=nk r o:=by
 unfold nk;rw[show decide (o.kind=r.kind)=decide (r.kind=o.kind) from fE.2 ⟨Eq.symm,Eq.symm⟩,Bool.beq_comm (a:=o.sym.toList),Bool.beq_comm (a:=o.nam.toList)]
def LU {x:aD}(a:os[j]?=some x)(h:nk r x=true):wN os r=false:=by
 unfold wN;rw[Bool.not_eq_false',List.any_eq_true];exact⟨x,dQ a,by rw[LQ];exact h⟩
def RU (h:∀(j:Nat) x,os[j]?=some x->nk r x=false):wN os r=true:=by
 unfold wN;rw[nI,xy];intro x a;obtain⟨j,b⟩:=gz.1 a;rw[LQ,h j x b];simp
def RV (rs:List aD):fZ rs=(vR rs rs.length&&decide (rs.length<=64)):=by unfold fZ;rw[Bool.and_comm]
def xJ (A:Option Addr)(cap:Nat)(rs:List aD)(w:World)(I:fG w A rs)(a6:rs.length<=1000000):Calls prog 19 #[.slice A rs.length cap] w λe w'=>e= .returned (.bool (fZ rs))/\Below w.heap.size w w':=by
 have a:=zh I;have n:=zh (RV rs);clear I;go_enter func19,ntmps19;go_wp2_with fail
 go_loopw [3] (λi wr=>∃k:Nat,k<=rs.length/\i=qI k/\Hy (vR rs k=true)/\Hy (fG wr A rs)/\Hy (Below w.heap.size w wr)) (λi _=>rs.length -(intOf i).toNat)
 case atStart=>exact⟨0,aa,rfl,rfl,a,aL _ _⟩
 case round=>
  clear a;obtain⟨k,a7,rfl,J,a,c⟩:=hrel
  by_cases Y:k<rs.length
  ·obtain⟨d,o⟩:∃d,rs[k]?=some d:=⟨_,gE Y⟩
   obtain⟨K,C,rfl,a8,p,q,s,t,u,v⟩:=a.o.at_ o;have f:=zh (Hu o);have Z:=zh o;have L:=zh (@Ht rs (k+1) rs.length);rw[J.o,aW] at f;clear o;go_wp2_with fail;refine(RH d _ K).mono ?_;rintro e a9 ⟨rfl,D⟩;have M:=zh (a.o.keep D);have E:=jt c D;clear a c D p q s t u v K;cases z:ni d
   ·rw[z,bL] at f;clear z;go_wp2;go_ret;exact⟨aU (by rw[n.o,L.o f.o aa];rfl),E.o⟩
   ·rw[z,aW] at f;clear z;go_wp2_with fail
    go_loopw [4] (λi wr=>∃j:Nat,j<=k/\i=qI j/\Hy (∀(m:Nat) y,rs[m]?=some y->m<j->nk d y=false)/\Hy (fG wr (some C) rs)/\Hy (Below w.heap.size w wr)) (λi _=>k -(intOf i).toNat)
    case atStart=>exact⟨0,aa,rfl,(λ_ _ _ a0=>aa),M,E⟩
    case round=>
     clear M E;obtain⟨j,b0,rfl,N,a,c⟩:=hrel
     by_cases a1:j<k
     ·obtain⟨y,F⟩:∃y,rs[j]?=some y:=⟨_,gE aa⟩
      obtain⟨_,b1,O,_,p,q,s,t,u,v⟩:=a.o.at_ Z.o;obtain rfl:=sj O;obtain⟨_,b2,P,_,Q,R,S,T,U,V⟩:=a.o.at_ F;obtain rfl:=sj P;have W:=zh F;clear F O P;cases l:nk d y
      ·have B:=zh l;clear l;go_upto_region 9 with(fail)
       go_cut [30] (λb wc=>b= .bool false/\Hy (fG wc (some C) rs)/\Hy (Below w.heap.size w wc))
       case first=>
        go_region_with (go_at_call 50;refine(LH d y _).mono ?_;rintro e a2 ⟨rfl,h⟩;have G:=zh (a.o.drew.keep h);have H:=zh ((fC c.o).trans (h.mono c.o.size));clear h;rw[B.o])
        all_goals (go_wp2;go_meet;exact⟨rfl,G,H⟩)
       case rest=>
        clear a c p q s t u v Q R S T U V;obtain⟨rfl,a,c⟩:=hcut;go_wp2;go_roundw
        case rel=>exact⟨j+1,aa,bi,(λm a3 g a0=>by
         rcases bu m j with X|X
         ·exact N.o m a3 g X
         ·obtain rfl:m=j:=by omega
          rw[W.o] at g;obtain rfl:=sj g;exact B.o),a,c⟩
        case measure=>simp[intOf];omega
      ·have B:=zh l;have a4:=zh (LU (os:=rs.take k) (r:=d) (j:=j) (x:=y) (by rw[gU,ak a1];exact W.o) l);rw[a4.o] at f;clear l;go_upto_region 9 with(fail)
       go_cut [30] (λb wc=>b= .bool true/\Hy (fG wc (some C) rs)/\Hy (Below w.heap.size w wc))
       case first=>
        go_region_with (go_at_call 50;refine(LH d y _).mono ?_;rintro e a2 ⟨rfl,h⟩;have G:=zh (a.o.drew.keep h);have H:=zh ((fC c.o).trans (h.mono c.o.size));clear h;rw[B.o])
        all_goals (go_wp2;go_meet;exact⟨rfl,G,H⟩)
       case rest=>
        clear a c p q s t u v Q R S T U V;obtain⟨rfl,a,c⟩:=hcut;go_wp2;go_ret;exact⟨aU (by rw[n.o,L.o f.o aa];rfl),c.o⟩
     ·have a5:=zh (RU (os:=rs.take k) (r:=d) λm y g=>by
       rw[gU] at g
       split at g
       ·exact N.o m y g aa
       ·cases g)
      rw[a5.o] at f;go_wp2;go_roundw
      case rel=>exact⟨k+1,aa,bi,f.o,a,c⟩
      case measure=>simp[intOf];omega
  ·obtain rfl:k=rs.length:=by omega
   rw[J.o,aW] at n;go_wp2;go_ret;exact⟨aU (by rw[n.o];exact fE.2 aa),c.o⟩
end
section
variable{m i id:Nat}{o:Oper}{L:Nat->Bool}{a0 a:Act}{w0 w:World}{l l':List Value}{ops:Array Oper}{P:Program}
section
variable {P : Program} {ops : Array Oper} {Q : Exit -> Act -> World -> Prop}
def dR (ops:Array Oper)(j:Nat):Nat->Nat->Bool
 |0,_=>false
 |fuel+1,i=>match ops[i]? with
  |some o=>o.after.any λe=>Region.binds .any e&&(e.on==j||dR ops j fuel e.on)
  |none=>false
def LV (ops:Array Oper)(us:List Nat)(m:Nat):Bool:=(List.range' m (ops.size -m)).all λi=>(List.range i).all λj=>us.contains j||dR ops j ops.size i
def fM (ops:Array Oper)(L:Nat->Bool):Prop:=∀i o,ops[i]?=some o->L i=true->∀e∈o.after,Region.binds .any e=true->L e.on=true
def yE {L:Nat->Bool}(d:fM ops L){j:Nat}:∀{fuel i:Nat} {o:Oper},ops[i]?=some o->(∀e∈o.after,Region.binds .any e=true->L e.on=true)->dR ops j fuel i=true->L j=true
 |0,_,_,_,_,h=>by cases h
 |fuel+1,i,o,k,l,h=>by
  rw[dR,k] at h;obtain⟨e,m,b⟩:=vo.1 h;rw[aM,kT,aT] at b;have g:=l e m b.1;rcases b.2 with a|a
  ·rw[<-a];exact g
  ·cases c:ops[e.on]? with
   |none=>
    cases fuel with
    |zero=>cases a
    |succ f=>rw[dR,c] at a;cases a
   |some n=>exact yE d c (d e.on n c g) a
abbrev rW (ops:Array Oper)(m:Nat):Array Oper:=ops.extract 0 m
def LW (a:i<m):(rW ops m)[i]?=ops[i]?:=by
 rw[Array.getElem?_extract]
 split
 ·simp
 ·rename_i h
  rw[ig aa]
def LX (h:m<=ops.size):(rW ops m).size=m:=by rw[Array.size_extract];omega
def RX {g:Nat}(a:g<m)(t:Array Value):yielded (rW ops m) t g=yielded ops t g:=by unfold yielded;rw[LW a]
def Fq (ops:Array Oper):Bool:=(List.range ops.size).all λi=>match ops[i]? with
 |some o=>o.after.all λe=> !Region.binds .any e||decide (e.on<i)
 |none=>true
def Fs (ops:Array Oper)(m:Nat):Bool:=Region.noSelect ops&&yZ (rW ops m)&&((rW ops m).all (xI (rW ops m)))&&Fq ops
def LY (h:Fq ops=true)(p:i<m)(b:ops[i]?=some o)(a:xI (rW ops m) o=true)(t:Array Value):Region.wanted o (yielded (rW ops m) t)=Region.wanted o (yielded ops t):=by
 unfold Region.wanted;cases j:o.guard with
 |none=>rfl
 |some k=>
  obtain⟨l,q⟩:=k;unfold xI at a;rw[aM,j] at a;obtain⟨e,n,c⟩:=vo.1 a.2;simp only[aM,aT] at c;have d:=cz.1 h i (eu.2 (gD.1 b).1);rw[b] at d;have f:=kU.1 d e n;rw[c.2] at f;have r:e.on<i:=by simpa using f
  simp only[RX (ops:=ops) (m:=m) (g:=l) aa]
def Fu {listed:Array Bool}(f:L=λj=>listed.getD j false)(p:listed.size=ops.size)(g:Fq ops=true)(h:∀i,i∉Region.ready .any ops listed):∀i,i<ops.size->L i=true:=by
 intro i;subst f
 induction i using Nat.strongRecOn with
 |_ i k=>
  intro a;refine oC λb=>h i ?_
  rw[kr];refine⟨?_,ops[i],cB a,λe l m=>?_⟩
  ·have n:i<listed.size:=by omega
   simp only[bR,cB n,fB] at b⊢
   simpa using b
  ·have c:=cz.1 g i (eu.2 a);rw[cB a] at c;have d:=kU.1 c e l;rw[m] at d;have o:e.on<i:=by simpa using d
   exact k e.on o aa
def BC (f:fM ops L)(g:ops[i]?=some o)(h:∀e∈o.after,Region.binds .any e=true->L e.on=true):fM ops λj=>L j||j==i:=by
 intro k l a m e b c
 by_cases d:k=i
 ·subst d;obtain rfl:=tu (g.symm.trans a);show(L e.on||e.on==k)=true;rw[h e b c];rfl
 ·show(L e.on||e.on==i)=true;rw[f k l a (by simpa [d] using m) e b c];rfl
def RY {vals:Nat->Value}{Inv:World->Prop}{us:List Nat}(U:Fs ops m=true)(b6:LV ops us m=true)(V:m<=ops.size)
  (b7:∀(i:Nat) (o:Oper) (w:World),i<m->ops[i]?=some o->Inv w->
   if Region.wanted o (yielded ops (fin (rW ops m) vals a0).tmps)=true then aP P (execOp (fin (rW ops m) vals a0).eval o) w (λv w'=>v=vals i/\Inv w') else vals i=undef/\Inv w)
  (W:∀w:World,Inv w->wpOps P ops Q (List.range' m (ops.size -m)) (fin (rW ops m) vals a0) w):
  ∀(fuel:Nat) (listed:Array Bool) (a:Act) (w:World),listed.size=ops.size->(listed.toList.countP (·==false))<=fuel->fM ops (λj=>listed.getD j false)->(∀u∈us,listed.getD u false=true)->
   ((rV (rW ops m) vals a0 (λj=>listed.getD j false) a/\Inv w/\∀i,m<=i->listed.getD i false=false)\/
    ∃q,m<=q/\q<=ops.size/\(∀i,i<ops.size->listed.getD i false=decide (i<q))/\wpOps P ops Q (List.range' q (ops.size -q)) a w)->
   wpAny P .any ops Q fuel listed a w:=by
 simp only[Fs,aM] at U;have d6:=LX (ops:=ops) V;obtain⟨⟨⟨b8,b9⟩,c0⟩,E⟩:=U
 --the tail waits for all that is ahead of it
 have X:∀(listed:Array Bool) (i:Nat) (o:Oper),fM ops (λj=>listed.getD j false)->(∀u∈us,listed.getD u false=true)->m<=i->ops[i]?=some o->(∀e∈o.after,Region.binds .any e=true->listed.getD e.on false=true)->∀j,j<i->listed.getD j false=true:=by
  intro listed i o s t c1 g x j F;have d:i<ops.size:=(gD.1 g).1;have b:=cz.1 b6 i (zX.2 ⟨c1,aa⟩);have c:=cz.1 b j (eu.2 F);rw[kT] at c;rcases c with c|c
  ·exact t j (by simpa using c)
  ·exact yE (L:=λj=>listed.getD j false) s g x c
 intro fuel
 induction fuel with
 |zero=>
  intro listed a w C c2 s t y;have G:∀i,i∉Region.ready .any ops listed:=by
   intro j F;rw[kr] at F;obtain⟨J,o,c3,_⟩:=F;have c4:j<listed.size:=by rw[C];exact(gD.1 c3).1
   have H:listed[j]=false:=by simpa [bR,cB c4] using J
   have:0<listed.toList.countP (·==false):=rC.2 ⟨false,by rw[<-H];simp,rfl⟩;omega
  have z:=Fu (ops:=ops) (listed:=listed) rfl C E G;refine⟨vv.2 G,?_⟩;rcases y with⟨g,A,B⟩|⟨q,Y,Z,r,n⟩
  ·have d7:m=ops.size:=by
    rcases bu m ops.size with h|h
    ·have b:=z m h;rw[B m (aH _)] at b;cases b
    ·omega
   have:=W w A;rw[show ops.size -m=0 from aa] at this;rw[g.end (λi d=>z i aa)];exact this
  ·have K:q=ops.size:=by
    rcases bu q ops.size with h|h
    ·have b:=z q h;rw[r q h] at b;simp at b
    ·omega
   subst K;rw[oq] at n;exact n
 |succ fuel a1=>
  intro listed a w C c2 s t y
  --a first part that is all done is the tail's beginning
  have y:(∃f,f<m/\listed.getD f false=false/\rV (rW ops m) vals a0 (λj=>listed.getD j false) a/\Inv w/\∀i,m<=i->listed.getD i false=false)\/
    ∃q,m<=q/\q<=ops.size/\(∀i,i<ops.size->listed.getD i false=decide (i<q))/\wpOps P ops Q (List.range' q (ops.size -q)) a w:=by
   rcases y with⟨g,A,B⟩|h
   ·by_cases a2:∃f,f<m/\listed.getD f false=false
    ·obtain⟨f,b,c⟩:=a2;exact .inl ⟨f,b,c,g,A,B⟩
    ·have a3:∀i,i<m->listed.getD i false=true:=λi d=>by
      cases h:listed.getD i false with
      |true=>rfl
      |false=>exact absurd ⟨i,d,h⟩ a2
     refine .inr ⟨m,aH _,V,λi d=>?_,?_⟩
     ·by_cases p:i<m
      ·rw[a3 i p,aJ p]
      ·rw[B i aa,aK p]
     ·rw[g.end (λi d=>a3 i aa)];exact W w A
   ·exact .inr h
  refine⟨λG=>?_,λi d=>?_⟩
  ·have z:=Fu (ops:=ops) (listed:=listed) rfl C E (λi d=>by rw[G] at d;cases d);rcases y with⟨f,b,c,_⟩|⟨q,Y,Z,r,n⟩
   ·have:=z f aa;rw[c] at this;cases this
   ·have K:q=ops.size:=by
     rcases bu q ops.size with h|h
     ·have b:=z q h;rw[r q h] at b;simp at b
     ·omega
    subst K;rw[oq] at n;exact n
  ·rw[kr] at d;obtain⟨J,o,l,x⟩:=d;have c5:i<ops.size:=(gD.1 l).1;have I:i<listed.size:=by omega
   have H:listed[i]=false:=by simpa [bR,cB I] using J
   have a4:listed.getD i false=false:=by simp[bR,cB I,H]
   have M:(λj=>(listed.setIfInBounds i true).getD j false)=λj=>listed.getD j false||j==i:=by
    funext j
    by_cases N:j=i
    ·subst N;simp[bR,I]
    ·rw[kv false (ou N)];simp[N]
   have a5:(listed.setIfInBounds i true).toList.countP (·==false)<=fuel:=by
    rw[oM];have c6:i<listed.toList.length:=by simpa using I
    have d8:listed.toList.countP (·==false)=(listed.toList.set i true).countP (·==false)+1:=
     CJ _ _ (by rw[nJ c6];simpa using H)
    omega
   have a6:fM ops (λj=>(listed.setIfInBounds i true).getD j false):=by
    rw[M];exact BC s l x
   have a7:(listed.setIfInBounds i true).size=ops.size:=by simpa using C
   have a8:∀u∈us,(listed.setIfInBounds i true).getD u false=true:=λu c7=>getD_set_true (t u c7)
   rcases y with⟨f,b,c,g,A,B⟩|⟨q,Y,Z,r,n⟩
   ·have p:i<m:=by
     rcases bu i m with h|h
     ·exact h
     ·have:=X listed i o s t h l x f aa;rw[c] at this;cases this
    have a9:(rW ops m)[i]?=some o:=(LW p).trans l;have O:xI (rW ops m) o=true:=by
     obtain⟨_,c8⟩:=gD.1 a9;exact kU.1 c0 o (by rw[<-c8];exact xA _)
    obtain⟨c9,b0⟩:=g.eval O x;rw[LY E p l O,LY E p l O] at b0;have d0:execOp a.eval o=execOp (fin (rW ops m) vals a0).eval o:=nN o (λd1 d2=>nO b8 i o d1 d2 l) c9;have D:=b7 i o w p l A;have d3:o.dst=fK (rW ops m) i:=by unfold fK;rw[a9];rfl
    have next:∀w',Inv w'->wpAny P .any ops Q fuel (listed.setIfInBounds i true) (a.put o.dst (vals i)) w':=by
     intro w' S;refine a1 _ _ w' a7 a5 a6 a8 (.inl ⟨?_,S,λk T=>?_⟩)
     ·rw[M,d3];exact g.put b9 i aa a4
     ·rw[kv false aa];exact B k T
    unfold wpOp;simp only[l];rw[b0]
    by_cases b1:Region.wanted o (yielded ops (fin (rW ops m) vals a0).tmps)=true
    ·rw[ak b1] at D⊢;refine .inl (aP.wp (R:=λv w'=>v=vals i/\Inv w') (by rw[d0];exact D) ?_);rintro v w' ⟨rfl,S⟩;exact next w' S
    ·rw[ai b1] at D⊢;rw[<-D.1];exact next w D.2
   ·have d4:i=q:=by
     have b2:=r i c5;rw[a4] at b2;have d9:q<=i:=by
      have:=kY b2.symm;omega
     rcases bu q i with h|h
     ·have b3:=X listed i o s t aa l x q h;rw[r q aa] at b3;simp at b3
     ·omega
    subst d4;rw[show ops.size -i=(ops.size -(i+1))+1 from aa,List.range'_succ,wpOps_cons] at n;refine wpOp_mono (λd5 w' h=>?_) n;refine a1 _ d5 w' a7 a5 a6 a8 (.inr ⟨i+1,aa,aa,λk T=>?_,h⟩);have e:(listed.setIfInBounds i true).getD k false=(listed.getD k false||k==i):=congrFun M k;rw[e,r k T]
    by_cases b4:k=i
    ·subst b4;simp
    ·by_cases b5:k<i
     ·rw[aJ b5,aJ aa];rfl
     ·rw[aK b5,aK aa];simp[b4]
def Iq (P:Program)(ops:Array Oper):List (Nat×Value)->Array Bool->Act->Prop
 |[],_,_=>True
 |(i,v)::us,listed,a=>(∃o,ops[i]?=some o/\Region.free .any ops listed i=true/\(Region.ready .any ops listed).contains i=true/\Yields P ops o v a)/\Iq P ops us (listed.setIfInBounds i true) (a.put (fK ops i) v)
def ze:List (Nat×Value)->Array Bool->Array Bool
 |[],listed=>listed
 |(i,_)::us,listed=>ze us (listed.setIfInBounds i true)
def Ir (ops:Array Oper):List (Nat×Value)->Act->Act
 |[],a=>a
 |(i,v)::us,a=>Ir ops us (a.put (fK ops i) v)
def LZ (b:Region.noSelect ops=true)(e:∀c a w d v,Q (.panic c) (Act.put a d v) w->Q (.panic c) a w):∀(us:List (Nat×Value)) (fuel:Nat) (listed:Array Bool) (a:Act) (w:World),Iq P ops us listed a->wpAny P .any ops Q fuel (ze us listed) (Ir ops us a) w->wpAny P .any ops Q (fuel+us.length) listed a w
 |[],_,_,_,_,_,h=>h
 |(i,v)::us,fuel,_,_,w,⟨⟨o,f,g,j,k⟩,l⟩,h=>by
  have m:o.dst=fK ops i:=by unfold fK;rw[f];rfl
  exact wpAny_take (fuel:=fuel+us.length) f b g j (λc a w=>e c a w o.dst v) k (by rw[m];exact LZ b e us fuel _ _ w l h)
def RZ (H:P.follows .mixedOrders=true)(I:∀c a w d v,Q (.panic c) (Act.put a d v) w->Q (.panic c) a w)(us:List (Nat×Value))(m:Nat)(F:Act)(g:List Value)(bs:List Bool)(Inv:World->Prop)(s:Fs ops m=true)(J:Iq P ops us (Array.replicate ops.size false) a0)
  (K:LV ops (us.map (·.1)) m=true) (L:decide (m<=ops.size)=true)
  (M:((List.range ops.size).all λi=>(ze us (Array.replicate ops.size false)).getD i false==(us.map (·.1)).contains i)=true)
  (N:(us.all λu=>decide (u.1<m))=true) (O:((List.range ops.size).all λi=> !(us.map (·.1)).contains i||((ops[i]?).map λo=>o.after.isEmpty).getD true)=true)
  (R:decide (us.length<=ops.size)=true) (S:decide ((ze us (Array.replicate ops.size false)).toList.countP (·==false)<=ops.size -us.length)=true)
  (T:Ir ops us a0=mX (rW ops m) (λi=>g.getD i undef) a0 (us.map (·.1)))
  (U:fin (rW ops m) (λi=>g.getD i undef) a0=F)
  (V:((List.range m).map λi=>((ops[i]?).map λo=>Region.wanted o (yielded ops F.tmps)).getD true)=bs) (W:Inv w0.drew) (X:uD P F Inv (ops.toList.take m) g bs) (Y:∀w:World,Inv w->wpOps P ops Q (List.range' m (ops.size -m)) F w):(Code.region id ops true).wp P Q a0 w0:=by
 subst U;have x:=s;simp only[Fs,aM] at x;obtain⟨⟨⟨Z,y⟩,_⟩,_⟩:=x;have z:m<=ops.size:=bD L;have b1:=LX (ops:=ops) z;have b2:us.length<=ops.size:=bD R;have n:∀u∈us.map (·.1),u<m:=by
  intro u p;obtain⟨a1,a2,rfl⟩:=nM.1 p;exact bD (cz.1 N a1 a2)
 have a3:∀(us:List (Nat×Value)) (l:Array Bool),(ze us l).size=l.size:=by
  intro us
  induction us with
  |nil=>intro l;rfl
  |cons u us a4=>intro l;obtain⟨i,v⟩:=u;rw[ze,a4];simp
 have a5:(ze us (Array.replicate ops.size false)).size=ops.size:=by rw[a3];simp
 have e:∀i,(ze us (Array.replicate ops.size false)).getD i false=(us.map (·.1)).contains i:=by
  intro i;rcases bu i ops.size with h|h
  ·simpa using cz.1 M i (eu.2 h)
  ·rw[bR,ig aa]
   symm
   rw[Option.getD_none,tH];intro q;have:=n i (by simpa using q);omega
 refine oN H ?_;have A:=LZ (P:=P) (Q:=Q) Z I us (ops.size -us.length) (Array.replicate ops.size false) a0 {w0 with drawn:=w0.drawn+1} J;rw[show(ops.size -us.length)+us.length=ops.size by omega] at A;refine A ?_;refine RY (vals:=λi=>g.getD i undef) (a0:=a0) (Inv:=Inv) (us:=us.map (·.1)) s K z (λi o w B f a6=>?_) Y _ _ _ _ a5 (bD S) ?_ (λu p=>?_) (.inl ⟨?_,W,λi b=>?_⟩)
 ·obtain⟨b3,r,a7⟩:=X.at_ (i:=i) (o:=o) (by rw[gU,ak B,gF];exact f);rw[<-V,gL,kX B] at r;simp only[je,f,fB,gV] at r;have:=a7 w a6;rw[<-r] at this;exact this
 ·intro i o f h b4 C;have h:(ze us (Array.replicate ops.size false)).getD i false=true:=h;rw[e i] at h;have b:i<ops.size:=(gD.1 f).1;have D:=cz.1 O i (eu.2 b);rw[h,f] at D;have E:o.after.isEmpty=true:=by simpa using D
  rw[Array.isEmpty_iff] at E;rw[E] at C;simp at C
 ·rw[e u]
  simpa using p
 ·rw[T];refine⟨(zb _ _ a0).1,(zb _ _ a0).2,λi t G b=>?_,λt a8=>?_⟩
  ·have b:(ze us (Array.replicate ops.size false)).getD i false=true:=b;rw[e i] at b;have a9:i∈us.map (·.1):=by simpa using b
   by_cases k:t<a0.tmps.size
   ·rw[fin_at y G k,Ip _ y t i G _ a0 a9 (λj b0=>av (n j b0)) k]
   ·rw[ig (by rw[(zb _ _ a0).1];exact lH k)];exact(ig (show(mX (rW ops m) _ a0 (List.range (rW ops m).size)).tmps.size<=t by rw[(zb _ _ a0).1];exact lH k)).symm
  ·refine BA _ t _ a0 λi b=>a8 i ?_
   show(ze us (Array.replicate ops.size false)).getD i false=true;rw[e i]
   simpa using b
 ·rw[e i,tH];intro q;have:=n i (by simpa using q);omega
def CK {l:List Nat}(b:ops[i]?=some o)(c:o.guard=none)(h:o.wp P a w (wpOps P ops Q l) Q):wpOps P ops Q (i::l) a w:=by
 rw[wpOps_cons];unfold wpOp;simp only[b];rw[ak (by simp[Region.wanted,c])];exact .inl h
end
section
variable {P : Program} {ops : Array Oper} {Q : Exit -> Act -> World -> Prop}
def BD (P:Program)(F:Act)(ops:Array Oper)(tr:List Nat)(Inv:List Bool->World->Prop):Nat->List Oper->List Value->List Bool->Prop
 |i,o::os,v::vs,true::bs=>(∀(L:Nat->Bool) (w:World),L i=false->(∀j,dR ops j ops.size i=true->L j=true)->(∀j,dR ops i ops.size j=true->L j=false)->Inv (tr.map L) w->aP P (execOp F.eval o) w λu w'=>u=v/\Inv (tr.map λj=>j==i||L j) w')/\BD P F ops tr Inv (i+1) os vs bs
 |i,_::os,v::vs,false::bs=>(v=undef/\∀(L:Nat->Bool) (w:World),Inv (tr.map L) w->Inv (tr.map λj=>j==i||L j) w)/\BD P F ops tr Inv (i+1) os vs bs
 |_,[],[],[]=>True
 |_,_,_,_=>False
def BD.at_ {F:Act}{d:List Nat}{Inv:List Bool->World->Prop}:∀{n:Nat} {os:List Oper} {a:List Value} {bs:List Bool},BD P F ops d Inv n os a bs->∀{i:Nat} {o:Oper},os[i]?=some o->∃b,bs[i]?=some b/\
  if b=true then(∀(L:Nat->Bool) (w:World),L (n+i)=false->(∀j,dR ops j ops.size (n+i)=true->L j=true)->(∀j,dR ops (n+i) ops.size j=true->L j=false)->Inv (d.map L) w->aP P (execOp F.eval o) w λu w'=>u=a.getD i undef/\Inv (d.map λj=>j==(n+i)||L j) w')
  else a.getD i undef=undef/\∀(L:Nat->Bool) (w:World),Inv (d.map L) w->Inv (d.map λj=>j==(n+i)||L j) w
 |n,[],[],[],_,i,o,h=>by simp at h
 |n,o::os,v::a,true::bs,⟨e,f⟩,0,c,h=>by
  obtain rfl:o=c:=by simpa using h
  exact⟨true,rfl,by rw[ak rfl];exact e⟩
 |n,o::os,v::a,false::bs,⟨e,f⟩,0,c,h=>⟨false,rfl,by rw[ai aS];exact e⟩
 |n,o::os,v::a,true::bs,⟨e,f⟩,i+1,c,h=>by
  obtain⟨b,k,g⟩:=BD.at_ f (i:=i) (o:=c) (by simpa using h);rw[show n+1+i=n+(i+1) from aa] at g;exact⟨b,by simpa using k,by simpa using g⟩
 |n,o::os,v::a,false::bs,⟨e,f⟩,i+1,c,h=>by
  obtain⟨b,k,g⟩:=BD.at_ f (i:=i) (o:=c) (by simpa using h);rw[show n+1+i=n+(i+1) from aa] at g;exact⟨b,by simpa using k,by simpa using g⟩
 |_,[],[],_::_,h,_,_,_=>h.elim
 |_,[],_::_,_,h,_,_,_=>h.elim
 |_,_::_,[],_,h,_,_,_=>h.elim
 |_,_::_,_::_,[],h,_,_,_=>h.elim
def Ba (a:List Nat)(L:Nat->Bool)(i:Nat):(a.map λj=>L j||j==i)=a.map λj=>j==i||L j:=by
 congr 1;funext j;rw[Bool.or_comm]
def Fv {j:Nat}:∀{fuel i:Nat},dR ops j fuel i=true->∃o,ops[i]?=some o
 |0,_,h=>by cases h
 |fuel+1,i,h=>by
  rw[dR] at h;cases a:ops[i]? with
  |none=>rw[a] at h;cases h
  |some o=>exact⟨o,rfl⟩
def Ma (C:P.follows .mixedOrders=true)(F:Act)(k:List Value)(bs:List Bool)(a:List Nat)(Inv:List Bool->World->Prop)(D:zZ ops=true)(E:fin ops (λi=>k.getD i undef) a0=F)
  (G:((List.range ops.size).map λi=>((ops[i]?).map λo=>Region.wanted o (yielded ops F.tmps)).getD true)=bs) (H:(a.all λi=>decide (i<ops.size))=true) (I:Inv (a.map λ_=>false) w0.drew) (J:BD P F ops a Inv 0 ops.toList k bs) (u:∀w:World,Inv (a.map λ_=>true) w->Q .normal F w):(Code.region id ops true).wp P Q a0 w0:=by
 subst E;refine oN C ?_;refine LJ (vals:=λi=>k.getD i undef) (a0:=a0) (Inv:=λL w=>fM ops L/\Inv (a.map L) w) D (λi o L w g y z c=>?_) (λL w K c=>?_) ops.size (Array.replicate ops.size false) a0 _ aS (by
  refine ax (rD) ?_;simp) ⟨rfl,rfl,λi t _ h=>?_,λ_ _=>rfl⟩ ⟨λi o _ h=>?_,?_⟩
 ·obtain⟨l,c⟩:=c;have q:i<ops.size:=(gD.1 g).1;obtain⟨b,r,d⟩:=J.at_ (i:=i) (o:=o) (by rw[gF];exact g);rw[fe] at d;rw[<-G,gL,kX q] at r;simp only[je,g,fB,gV] at r;have m:=BC l g z;rw[r]
  split
  ·rename_i s
   rw[ak s] at d;have A:=d L w y (λj p=>yE l g z p) (λj p=>by
    cases M:L j with
    |false=>rfl
    |true=>
     obtain⟨N,B⟩:=Fv p;have:=yE l B (l j N B M) p;rw[y] at this;cases this) c
   unfold aP at A⊢;revert A;generalize (execOp (fin ops (λi=>k.getD i undef) a0).eval o).run P w=x;cases x with
   |halt e O=>exact λh=>h
   |ok n O=>
    cases n with
    |value v=>exact λh=>⟨h.1,m,by rw[Ba];exact h.2⟩
    |skip=>exact λh=>⟨h.1,m,by rw[Ba];exact h.2⟩
    |enter f args=>exact λh=>rA h λe U ⟨v,R,S,T⟩=>⟨v,R,S,m,by rw[Ba];exact T⟩
    |_=>exact λh=>h
  ·rename_i s
   rw[ai s] at d;exact⟨d.1,m,by rw[Ba];exact d.2 L w c⟩
 ·have e:a.map L=a.map λ_=>true:=rE λi q=>by
   have:=cz.1 H i q;exact K i (by simpa using this)
  rw[<-e] at u;exact u w c.2
 ·rw[bR,iC] at h
  split at h<;>simp at h
 ·dsimp only at h;rw[bR,iC] at h
  split at h<;>simp at h
 ·have e:(λj=>(Array.replicate ops.size false).getD j false)=λ_=>false:=by
   funext j
   rw[bR,iC]
   split<;>rfl
  rw[e];exact I
end
section
variable {P : Program} {ops : Array Oper} {Q : Exit -> Act -> World -> Prop} {X : Type}
def rV.swap {v v':Nat->Value}(d:yZ ops=true)(h:rV ops v a0 L a)(f:∀i,L i=true->v' i=v i):rV ops v' a0 L a:=
 ⟨h.size,h.defers,λi t c e=>by
  rw[h.done i t c e]
  by_cases b:t<a0.tmps.size
  ·rw[fin_at d c b,fin_at d c b,f i e]
  ·have g:(fin ops v a0).tmps[t]?=none:=ig (show(mX ops v a0 (List.range ops.size)).tmps.size<=t by rw[(zb v _ a0).1];exact lH b);have j:(fin ops v' a0).tmps[t]?=none:=ig (show(mX ops v' a0 (List.range ops.size)).tmps.size<=t by rw[(zb v' _ a0).1];exact lH b);rw[g,j],h.rest⟩
def Sa {vals:X->Nat->Value}{Inv:(Nat->Bool)->X->World->Prop}(z:zZ ops=true)
  (M:∀(i:Nat) (o:Oper) (L:Nat->Bool) (x:X) (w:World),ops[i]?=some o->L i=false->(∀e∈o.after,Region.binds .any e=true->L e.on=true)->Inv L x w->
   if Region.wanted o (yielded ops (fin ops (vals x) a0).tmps)=true then aP P (execOp (fin ops (vals x) a0).eval o) w (λv w'=>∃b,v=vals b i/\(∀j,L j=true->vals b j=vals x j)/\Inv (λj=>L j||j==i) b w') else vals x i=undef/\Inv (λj=>L j||j==i) x w)
  (N:∀(L:Nat->Bool) (x:X) (w:World),(∀i,i<ops.size->L i=true)->Inv L x w->Q .normal (fin ops (vals x) a0) w):
  ∀(fuel:Nat) (listed:Array Bool) (x:X) (a:Act) (w:World),listed.size=ops.size->(listed.toList.countP (·==false))<=fuel->rV ops (vals x) a0 (λj=>listed.getD j false) a->Inv (λj=>listed.getD j false) x w->wpAny P .any ops Q fuel listed a w:=by
 simp only[zZ,aM] at z;obtain⟨⟨⟨O,A⟩,S⟩,T⟩:=z;have B:∀(listed:Array Bool) (x:X) (a:Act) (w:World),listed.size=ops.size->rV ops (vals x) a0 (λj=>listed.getD j false) a->Inv (λj=>listed.getD j false) x w->Region.ready .any ops listed=[]->Q .normal a w:=by
  intro listed x a w d c f l;have C:∀i,i<ops.size->listed.getD i false=true:=by
   intro i
   induction i using Nat.strongRecOn with
   |_ i q=>
    intro g;refine oC λD=>?_
    have E:i∈Region.ready .any ops listed:=by
     rw[kr];refine⟨?_,ops[i],cB g,λe U m=>?_⟩
     ·have r:i<listed.size:=by omega
      simp only[bR,cB r,fB] at D⊢
      simpa using D
     ·have F:=cz.1 T i (eu.2 g);rw[cB g] at F;have G:=kU.1 F e U;rw[m] at G;have V:e.on<i:=by simpa using G
      exact q e.on V aa
    rw[l] at E;cases E
  rw[c.end C];exact N _ x w C f
 intro fuel
 induction fuel with
 |zero=>
  intro listed x a w d W c f;have l:Region.ready .any ops listed=[]:=by
   rw[vv];intro j H;rw[kr] at H;obtain⟨s,o,Y,_⟩:=H;have Z:j<listed.size:=by rw[d];exact(gD.1 Y).1
   have n:listed[j]=false:=by simpa [bR,cB Z] using s
   have:0<listed.toList.countP (·==false):=rC.2 ⟨false,by rw[<-n];simp,rfl⟩;omega
  exact⟨l,B listed x a w d c f l⟩
 |succ fuel q=>
  intro listed x a w d W c f;refine⟨B listed x a w d c f,λi g=>?_⟩;rw[kr] at g;obtain⟨s,o,h,m⟩:=g;have r:i<ops.size:=(gD.1 h).1;have p:i<listed.size:=aa
  have n:listed[i]=false:=by simpa [bR,cB p] using s
  have I:listed.getD i false=false:=by simp[bR,cB p,n]
  have J:(λj=>(listed.setIfInBounds i true).getD j false)=λj=>listed.getD j false||j==i:=by
   funext j
   by_cases t:j=i
   ·subst t;simp[bR,p]
   ·rw[kv false (ou t)];simp[t]
  have a1:(listed.setIfInBounds i true).toList.countP (·==false)<=fuel:=by
   rw[oM];have a2:i<listed.toList.length:=by simpa using p
   have b1:listed.toList.countP (·==false)=(listed.toList.set i true).countP (·==false)+1:=by
    exact CJ _ _ (by rw[nJ a2];simpa using n)
   omega
  have a3:xI ops o=true:=by
   obtain⟨_,a4⟩:=gD.1 h;exact kU.1 S o (by rw[<-a4];exact xA _)
  obtain⟨a5,a6⟩:=c.eval a3 m;have a7:execOp a.eval o=execOp (fin ops (vals x) a0).eval o:=nN o (λa8 a9=>nO O i o a8 a9 h) a5;have k:=M i o _ x w h I m f;have b0:o.dst=fK ops i:=by unfold fK;rw[h];rfl
  have next:∀b w',(∀j,listed.getD j false=true->vals b j=vals x j)->Inv (λj=>listed.getD j false||j==i) b w'->wpAny P .any ops Q fuel (listed.setIfInBounds i true) (a.put o.dst (vals b i)) w':=by
   intro b w' u y;refine q _ b _ w' (by simpa using d) a1 ?_ (by rw[J];exact y);rw[J,b0];exact(c.swap A u).put A i r I
  unfold wpOp;simp only[h];rw[a6]
  by_cases K:Region.wanted o (yielded ops (fin ops (vals x) a0).tmps)=true
  ·rw[ak K] at k⊢;refine .inl (aP.wp (R:=λv w'=>∃b,v=vals b i/\(∀j,listed.getD j false=true->vals b j=vals x j)/\Inv (λj=>listed.getD j false||j==i) b w') (by rw[a7];exact k) ?_);rintro v w' ⟨b,rfl,u,y⟩;exact next b w' u y
  ·rw[ai K] at k⊢;rw[<-k.1];exact next x w (λ_ _=>rfl) k.2
def lK (ops:Array Oper)(i:Nat)(l l':List Value):Prop:=∀j,j≠i->dR ops i ops.size j=false->l'.getD j undef=l.getD j undef
def lK.same :lK ops i l l:=λ_ _ _=>rfl
def BF (P:Program)(F:X->Act)(ops:Array Oper)(tr:List Nat)(vs:X->List Value)(Inv:List Bool->X->World->Prop):Nat->List Oper->List Bool->Prop
 |i,o::os,true::bs=>(∀(L:Nat->Bool) (x:X) (w:World),L i=false->(∀j,dR ops j ops.size i=true->L j=true)->(∀j,dR ops i ops.size j=true->L j=false)->Inv (tr.map L) x w->aP P (execOp (F x).eval o) w λu w'=>∃x',u=(vs x').getD i undef/\lK ops i (vs x) (vs x')/\Inv (tr.map λj=>j==i||L j) x' w')/\BF P F ops tr vs Inv (i+1) os bs
 |i,_::os,false::bs=>((∀x,(vs x).getD i undef=undef)/\∀(L:Nat->Bool) (x:X) (w:World),Inv (tr.map L) x w->Inv (tr.map λj=>j==i||L j) x w)/\BF P F ops tr vs Inv (i+1) os bs
 |_,[],[]=>True
 |_,_,_=>False
def BF.at_ {F:X->Act}{c:List Nat}{d:X->List Value}{Inv:List Bool->X->World->Prop}:∀{n:Nat} {os:List Oper} {bs:List Bool},BF P F ops c d Inv n os bs->∀{i:Nat} {o:Oper},os[i]?=some o->∃b,bs[i]?=some b/\
  if b=true then(∀(L:Nat->Bool) (x:X) (w:World),L (n+i)=false->(∀j,dR ops j ops.size (n+i)=true->L j=true)->(∀j,dR ops (n+i) ops.size j=true->L j=false)->Inv (c.map L) x w->aP P (execOp (F x).eval o) w λu w'=>∃k,u=(d k).getD (n+i) undef/\lK ops (n+i) (d x) (d k)/\Inv (c.map λj=>j==(n+i)||L j) k w')
  else(∀x,(d x).getD (n+i) undef=undef)/\∀(L:Nat->Bool) (x:X) (w:World),Inv (c.map L) x w->Inv (c.map λj=>j==(n+i)||L j) x w
 |n,[],[],_,i,o,h=>by simp at h
 |n,o::os,true::bs,⟨e,f⟩,0,a,h=>by
  obtain rfl:o=a:=by simpa using h
  exact⟨true,rfl,by rw[ak rfl];exact e⟩
 |n,o::os,false::bs,⟨e,f⟩,0,a,h=>⟨false,rfl,by rw[ai aS];exact e⟩
 |n,o::os,true::bs,⟨e,f⟩,i+1,a,h=>by
  obtain⟨b,l,g⟩:=BF.at_ f (i:=i) (o:=a) (by simpa using h);rw[show n+1+i=n+(i+1) from aa] at g;exact⟨b,by simpa using l,g⟩
 |n,o::os,false::bs,⟨e,f⟩,i+1,a,h=>by
  obtain⟨b,l,g⟩:=BF.at_ f (i:=i) (o:=a) (by simpa using h);rw[show n+1+i=n+(i+1) from aa] at g;exact⟨b,by simpa using l,g⟩
 |_,[],_::_,h,_,_,_=>h.elim
 |_,_::_,[],h,_,_,_=>h.elim
def xX (M:P.follows .mixedOrders=true)(F:X->Act)(a:X->List Value)(bs:List Bool)(b:List Nat)(Inv:List Bool->X->World->Prop)(C:X)(N:zZ ops=true)(D:∀x,fin ops (λi=>(a x).getD i undef) a0=F x)
  (O:∀x,((List.range ops.size).map λi=>((ops[i]?).map λo=>Region.wanted o (yielded ops (F x).tmps)).getD true)=bs) (R:(b.all λi=>decide (i<ops.size))=true) (S:Inv (b.map λ_=>false) C w0.drew) (T:BF P F ops b a Inv 0 ops.toList bs) (E:∀(x:X) (w:World),Inv (b.map λ_=>true) x w->Q .normal (F x) w):(Code.region id ops true).wp P Q a0 w0:=by
 refine oN M ?_;refine Sa (vals:=λx i=>(a x).getD i undef) (a0:=a0) (Inv:=λL x w=>fM ops L/\Inv (b.map L) x w) N (λi o L x w k p G f=>?_) (λL x w U f=>?_) ops.size (Array.replicate ops.size false) C a0 _ aS (by
  refine ax (rD) ?_;simp) ⟨rfl,rfl,λi a1 _ h=>?_,λ_ _=>rfl⟩ ⟨λi o _ h=>?_,?_⟩
 ·obtain⟨m,f⟩:=f;have q:i<ops.size:=(gD.1 k).1;obtain⟨a2,s,g⟩:=T.at_ (i:=i) (o:=o) (by rw[gF];exact k);rw[fe] at g;rw[<-O x,gL,kX q] at s;simp only[je,k,fB,gV] at s;have H:=BC m k G;have t:fin ops (λi=>(a x).getD i undef) a0=F x:=D x;rw[t,s];have I:∀j,dR ops i ops.size j=true->L j=false:=λj c=>by
   cases V:L j with
   |false=>rfl
   |true=>
    obtain⟨W,J⟩:=Fv c;have:=yE m J (m j W J V) c;rw[p] at this;cases this
  split
  ·rename_i y
   rw[ak y] at g;have K:=g L x w p (λj c=>yE m k G c) I f;unfold aP at K⊢;revert K;have z:∀u l,(∃d,u=(a d).getD i undef/\lK ops i (a x) (a d)/\Inv (b.map λj=>j==i||L j) d l)->∃d,u=(a d).getD i undef/\(∀j,L j=true->(a d).getD j undef=(a x).getD j undef)/\fM ops (λj=>L j||j==i)/\Inv (b.map λj=>L j||j==i) d l:=by
    rintro u l ⟨d,A,B,Y⟩;refine⟨d,A,λj c=>B j (λe=>by subst e;rw[p] at c;cases c) ?_,H,by rw[Ba];exact Y⟩;cases Z:dR ops i ops.size j with
    |false=>rfl
    |true=>rw[I j Z] at c;cases c
   generalize (execOp (F x).eval o).run P w=r;cases r with
   |halt e l=>exact λh=>h
   |ok n l=>
    cases n with
    |value v=>exact λh=>z _ _ h
    |skip=>exact λh=>z _ _ h
    |enter a3 args=>exact λh=>rA h λe a4 ⟨v,A,B⟩=>⟨v,A,z _ _ B⟩
    |_=>exact λh=>h
  ·rename_i y
   rw[ai y] at g;exact⟨g.1 x,H,by rw[Ba];exact g.2 L x w f⟩
 ·have e:b.map L=b.map λ_=>true:=rE λi q=>by
   have:=cz.1 R i q;exact U i (by simpa using this)
  rw[<-e] at E;have t:fin ops (λi=>(a x).getD i undef) a0=F x:=D x;show Q .normal (fin ops (λi=>(a x).getD i undef) a0) w;rw[t];exact E x w f.2
 ·rw[bR,iC] at h
  split at h<;>simp at h
 ·dsimp only at h;rw[bR,iC] at h
  split at h<;>simp at h
 ·have e:(λj=>(Array.replicate ops.size false).getD j false)=λ_=>false:=by
   funext j
   rw[bR,iC]
   split<;>rfl
  rw[e];exact S
def CL (ops:Array Oper)(i:Nat):Nat->List Value->List Value->Prop
 |k,v::l,v'::l'=>(k=i\/dR ops i ops.size k=true\/v'=v)/\CL ops i (k+1) l l'
 |_,[],[]=>True
 |_,_,_=>False
def CL.at_ {i:Nat}:∀{k:Nat} {l l':List Value},CL ops i k l l'->∀j,k+j≠i->dR ops i ops.size (k+j)=false->l'.getD j undef=l.getD j undef
 |k,v::l,v'::l',⟨b,c⟩,0,d,a=>by
  rcases b with h|h|h
  ·exact(d h).elim
  ·rw[rF,h] at a;cases a
  ·exact h
 |k,v::l,v'::l',⟨b,c⟩,j+1,d,a=>by
  rw[List.getD_cons_succ,List.getD_cons_succ];exact CL.at_ c j aa (by rw[show k+1+j=k+(j+1) from aa];exact a)
 |_,[],[],_,_,_,_=>rfl
 |_,[],_::_,h,_,_,_=>h.elim
 |_,_::_,[],h,_,_,_=>h.elim
def lK.of_same (h:CL ops i 0 l l'):lK ops i l l':=λj b a=>h.at_ j aa (by rw[fe];exact a)
def aP.plain {s:Sem Next}{w':World}{v:Value}{x:X}{a:X->List Value}{I:X->World->Prop}(h:s.run P w= .ok (.value v) w')(c:v=(a x).getD i undef)(d:I x w'):aP P s w λu e=>∃b,u=(a b).getD i undef/\lK ops i (a x) (a b)/\I b e:=
 aP.value h ⟨x,c,lK.same,d⟩
end
def jq {X:Type}{s:Sem Next}{x:X}{a:X->List Value}{I:X->World->Prop}(v:Value)(w':World)(h:s.run P w= .ok (.value v) w')(c:v=(a x).getD i undef)(d:I x w'):aP P s w λu e=>∃b,u=(a b).getD i undef/\lK ops i (a x) (a b)/\I b e:=aP.plain h c d
def jD (h:CL ops i 0 l l':=by and_intros<;>first|exact trivial|exact .inr (.inr rfl)|exact .inl rfl|exact .inr (.inl aj)):lK ops i l l':=lK.of_same h
def jS {X:Type}{d:X->List Value}{s:X->Sem Next}{a b c:(Nat->Bool)->Prop}{I J:(Nat->Bool)->X->World->Prop}(h:∀(x:X) (w:World),(s x).run P w= .ok (.value ((d x).getD i undef)) w:=by intro _ _;as_aux_lemma=>kernel_rfl)(g:∀L x w,I L x w->J L x w:=by intro _ _ _ h;exact h)(L:Nat->Bool)(x:X)(w:World)(_:a L)(_:b L)(_:c L)(f:I L x w):aP P (s x) w λu y=>∃e,u=(d e).getD i undef/\lK ops i (d x) (d e)/\J L e y:=aP.value (h x w) ⟨x,rfl,lK.same,g L x w f⟩
def jT {X:Type}{d:X->List Value}{s:X->Sem Next}{a b c:(Nat->Bool)->Prop}{I J:(Nat->Bool)->X->World->Prop}(h:∀(x:X) (w:World),(s x).run P w= .ok (.value ((d x).getD i undef)) w:=by intro _ _;simp[go_sem])(g:∀L x w,I L x w->J L x w:=by intro _ _ _ h;exact h)(L:Nat->Bool)(x:X)(w:World)(_:a L)(_:b L)(_:c L)(f:I L x w):aP P (s x) w λu y=>∃e,u=(d e).getD i undef/\lK ops i (d x) (d e)/\J L e y:=aP.value (h x w) ⟨x,rfl,lK.same,g L x w f⟩
end
end Go.Proofs.YtlefbenkhgbifaaGreatDoor
