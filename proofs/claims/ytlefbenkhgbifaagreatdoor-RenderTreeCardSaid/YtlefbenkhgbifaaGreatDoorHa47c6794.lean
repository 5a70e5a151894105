/- A term is written by the reference as by the program, plain. -/
import Derived.Test.YtlefbenkhgbifaaGreatDoorHe09dc602
set_option linter.all false
set_option maxRecDepth 100000
set_option maxHeartbeats 4000000
namespace Go.Proofs.YtlefbenkhgbifaaGreatDoor.Rn
open At Ch Sp Sy El Go.RowKit Tryz
variable{m:aC}{f t s:ByteArray}{g n e:Nat}{k:Int}{R:List (List aG)}{l ks ts:List aG}{rs:List aD}{bd:Bool}{A:Option Addr}{w w':World}{p:aD->Bool}
def jk (o:Option (List aG))(w:World)(e:Ending)(w':World):Prop:=(match o with
 |none=>e= .returned (.tuple #[qN,.bool false])
 |some l=>∃A cap,e= .returned (.tuple #[.slice A l.length cap,.bool true])/\l.length<=cap/\cap<=9223372036854775807/\fw (λb=>w.heap.size<=b) w' A l)/\Below w.heap.size w w'
def OU (o:Option (List (List aG)))(w:World)(e:Ending)(w':World):Prop:=jk (o.map (·.map aQ)) w e w'
def Dr (a:ByteArray):Bool:=decide (a.size<=300)
mutual
def Cr:aC->Bool
 | .mk _ a v g ts=>Dr a&&Dr v&&Dr g&&xq ts
def xq:List aC->Bool
 |[]=>true
 |t::ts=>Cr t&&xq ts
end
def fT (m:aC):Nat:=bg m+if Cr m then 0 else 1000000
def lT (ts:List aC):Nat:=(ts.map fT).sum
def OV (m:aC):1<=bg m:=by cases m;rw[bg];omega
def Bp:∀ts:List aC,ts.length<=lT ts
 |[]=>aH _
 |t::ts=>by
  have a:=Bp ts;have b:=OV t;unfold lT at a⊢;rw[di,lq,aY];unfold fT at a⊢;omega
def Ka:∀ts:List aC,bq ts<=lT ts
 |[]=>by rw[bq];exact dZ _
 |t::ts=>by
  have a:=Ka ts;unfold lT at a⊢;rw[di,lq,bq];have b:bg t<=fT t:=fq _ _;omega
def Bq:∀{ts:List aC} {k:Nat} {t:aC},ts[k]?=some t->fT t<=lT ts
 |[],k,t,h=>by simp at h
 |x::ts,0,t,h=>by
  obtain rfl:=sj h;unfold lT;rw[di,lq];omega
 |x::ts,k+1,t,h=>by
  have a:=Bq (ts:=ts) (k:=k) h;unfold lT at a⊢;rw[di,lq];omega
def Kb:∀{ts:List aC},xq ts=true->lT ts=bq ts
 |[],_=>by rw[bq];rfl
 |t::ts,h=>by
  rw[xq,aM] at h;have a:=Kb h.2;unfold lT at a⊢;rw[di,lq,bq,a];unfold fT;rw[ak h.1];rfl
def OW {f:Nat}(h:fT m<=f)(b:f<=100000):Cr m=true:=by
 cases a:Cr m with
 |true=>rfl
 |false=>unfold fT at h;rw[a,ai aS] at h;omega
def yw {f:Nat}(h:fT m<=f)(c:f<=100000):lT m.args+1=fT m:=by
 have b:=OW h c;unfold fT;rw[ak b];cases m with
 |mk k a v g ts=>
  rw[Cr,aM] at b;show lT ts+1=_;rw[Kb b.2,bg]
def si (W:jV)(A:Option Addr)(cap:Nat)(rs:List aD)(f:Nat):Prop:=∀(m:aC) (c:Array Value) (w:World),fT m<f->f<=100000->pX w W A cap rs->gK w m c->
 Calls prog 44 #[qP W.gw,.agg c] w (jk (jd rs m) w)
def OX (rs:List aD):∀(l:List aC) (m:aC),bI rs (l++[m])=(bI rs l).bind λR=>(jd rs m).map λx=>R++[x]
 |[],m=>by
  show bI rs [m]=_;rw[bI,bI,bI];cases jd rs m<;>rfl
 |t::l,m=>by
  rw[iB,bI,OX rs l m,bI];cases jd rs t with
  |none=>rfl
  |some x=>cases bI rs l with
   |none=>rfl
   |some R=>cases jd rs m<;>rfl
def OY (rs:List aD){m:aC}(h:jd rs m=none):∀(l r:List aC),bI rs (l++m::r)=none
 |[],r=>by show bI rs (m::r)=_;rw[bI,h];rfl
 |t::l,r=>by
  rw[iB,bI,OY rs h l r];cases jd rs t<;>rfl
def Gx (rs:List aD):∀(l:List aC) (R:List (List aG)),bI rs l=some R->R.length=l.length
 |[],R,h=>by rw[bI] at h;rw[<-sj h];rfl
 |t::l,R,h=>by
  rw[bI] at h;cases a:jd rs t with
  |none=>rw[a] at h;cases h
  |some x=>
   cases b:bI rs l with
   |none=>rw[a,b] at h;cases h
   |some S=>
    rw[a,b] at h;rw[<-sj h,aY,aY,Gx rs l S b]
def Gy (W:jV)(A:Option Addr)(cap:Nat)(rs:List aD)(f:Nat)(b4:si W A cap rs f)(ts:List aC)(O:Option Addr)(b5:Nat)(w:World)(P:lT ts<f)(b6:f<=100000)(Q:pX w W A cap rs)(S:uf w O ts):
  Calls prog 63 #[qP W.gw,.slice O ts.length b5] w (OU (bI rs ts) w):=by
 obtain⟨b7,b8,b9,c0,c1⟩:=Ck;have c2:=zh S;have c3:=zh Q;have C:=zh P;have T:=ah (ts.length<=lT ts) (Bp ts);have f0:ts.length<=100000:=aV C.o T.o
 clear S Q P;go_enter func63,ntmps63;go_wp2_with fail
 go_loopw [6,13] (λv i wr=>∃(k:Nat) (R:List (List aG)),k<=ts.length/\i=qI k/\Hy (bI rs (ts.take k)=some R)/\Hy (bN (λb=>w.heap.size<=b) wr w.heap.size v (R.map aQ))/\Hy (Below w.heap.size w wr)) (λ_ i _=>ts.length -(intOf i).toNat)
 case atStart=>exact⟨0,[],aa,rfl,zh rfl,zh (bN.nil _ _ _),zh (aL _ _)⟩
 case round=>
  obtain⟨k,R,f1,rfl,j,m,o⟩:=hrel;rcases bu k ts.length with D|f2
  ·obtain⟨t,p⟩:∃t,ts[k]?=some t:=⟨_,gE D⟩
   have U:=zh p;obtain⟨f3,E,F,rfl,c4,V⟩:=(c2.o.keep o.o).at_ p;have X:=zh V.whole;obtain⟨_,c5,c6,c7,c8,c9,_⟩:=V;have f4:(k:Int)<(ts.length:Int):=aa
   have a:=aN wr (.cells (aA t.kind t.nam t.vr E t.args.length F t.form) 25);have q:=jt o a;have G:=zh (m.o.keep a);have Y:=zh (X.o.keep a);have Z:=zh (c3.o.keep q.o);have a0:=zh (au.new wr 25 (aA t.kind t.nam t.vr E t.args.length F t.form));have d0:=ah (fT t<f) (aV C.o (Bq p));clear p c4 a X m o;go_upto_region 5 with(fail)
   generalize wr.alloc (.cells (aA t.kind t.nam t.vr E t.args.length F t.form) 25)=H at*;clear c5 c6 c7 c8 c9;obtain⟨d1,d2,r,h,u⟩:=qc a0;go_wp2_with fail;refine(b4 t _ H d0.o b6 Z.o Y.o).mono ?_;rintro e x ⟨y,d⟩;clear d1 d2 r h u;have z:=jt q d;have a1:=zh (G.o.keep d);have d3:=ah (w.heap.size<=H.heap.size) q.o.size;have d4:=ah (∀b,u6.ownBlock=some b->b<H.heap.size) (λb d5=>(G.o.lt b d5).2);clear d G q Z Y a0;cases g:jd rs t with
   |none=>
    rw[g] at y;obtain rfl:=y;have I:=ah (bI rs ts=none) (by rw[<-kw k ts,ib D,show ts[k]=t from sj ((gE D).symm.trans U.o)];exact OY rs g _ _);clear g;go_wp2_with fail
    go_ret2
    rw[I.o];exact⟨rfl,z.o⟩
   |some l=>
    rw[g] at y;obtain⟨J,K,rfl,d6,d7,a2⟩:=y;have I:=ah (bI rs (ts.take (k+1))=some (R++[l])) (by rw[Dn U.o,OX,j.o,g];rfl);have a3:=zh (a2.any (ok':=λb=>u6.ownBlock≠some b/\w.heap.size<=b) λb _ d=>⟨λe=>av (d4.o b e),av d3.o⟩);have d8:=ah (R.length=k) (by rw[Gx rs _ R j.o,eU];omega);clear g a2;have a:=aN x (.cells #[qI 1,qE,qI 0,.slice J l.length K] 31);have a4:=zh (a1.o.keep a);have L:=jt z a;have M:=zh (bC.of (k:=1) (s:=⟨#[]⟩) (c:=0) aI d6 d7 (a3.o.keep a));have a5:=zh (au.new x 31 #[qI 1,qE,qI 0,.slice J l.length K]);have d9:=ah (w.heap.size<=x.heap.size) z.o.size;clear a a1 z a3;obtain⟨f5,N,a6,a7⟩:=a4.o;have f6:(R.map aQ).length<=100000:=by rw[dI,d8.o];have:=C.o;have:=T.o;omega
    have a8:=Sp.vF a5.o rfl (n:=4);have a9:=Gs M.o;go_wp2_with (at_builtin;refine uG _ rfl (.tmp 25) (.tmp 28) 29 rfl w.heap.size 31 b7 (.agg bY) 4 56 underlying29 b8 b9 c0 c1 rfl aI _ _ _ rfl N _ (some (ag x.heap.size (0))) 1 1 (#[qI 1,qE,qI 0,.slice J l.length K]:Array Value).toList rfl a8 a9 gy aa (by have:=d9.o;simp;omega) ?_)
    intro b0 e0 r h u;have b1:=bN.push (B:=w.heap.size) (v':=b0) a6 a7 M.o (by rw[dI];exact r) h (by rw[dY];exact u);have b2:∀b,u6.ownBlock=some b->w.heap.size<=b:=λb d=>(bA N b d).1
    have e1:=zh (L.o.grown h L.o.size λe2 e=>av (b2 e2 e));have e3:=ah (bN (λb=>w.heap.size<=b) e0 w.heap.size b0 ((R++[l]).map aQ)) (by rw[dX];exact b1);clear b1 N a6 a7 r h u b2 L a4 M a5 a8 a9;go_wp2;go_roundw
    case rel=>exact⟨k+1,R++[l],aa,bi,I,e3,e1⟩
    case measure=>simp[intOf];omega
  ·obtain rfl:k=ts.length:=by omega
   rw[bW] at j;obtain⟨e4,e5,e6,e7,e8,b3⟩:=m.o.form (λb d=>d);subst e6;have e9:=zh b3;clear b3 m;go_wp2_with fail
   go_ret2
   unfold OU;rw[j.o];exact⟨⟨e4,e5,rfl,e7,e8,e9.o⟩,o.o⟩
def Dt (s:ByteArray)(n:Nat):(s.extract 0 n).data.toList=s.data.toList.take n:=by
 rw[ByteArray.data_extract];simp
def WO (s:ByteArray)(n:Nat):(s.extract n s.size).data.toList=s.data.toList.drop n:=by
 rw[ByteArray.data_extract];simp;exact fA (by rw[lg,<-Gt];omega)
def OZ:List (ByteArray×FK):=
 [(mM,.frac),(jW,.root),(dM,.sub),(dV,.sup),(jU,.both),(jb,.accent),(kE,.jux),
  (gG,.inf 0),(ic,.pre 0),(iL,.pos 0),
  (gG++dM,.inf 7),(ic++dM,.pre 7),(iL++dM,.pos 7),
  (gG++dV,.inf 8),(ic++dV,.pre 8),(iL++dV,.pos 8),
  (gG++jU,.inf 9),(ic++jU,.pre 9),(iL++jU,.pos 9),
  (mh++dM,.bind 7),(mh++jU,.bind 9)]
def WP:Bj=OZ.map λp=>(p.1.data.toList,p.2):=dW
def EG (f:ByteArray):FK->Bool
 | .frac=>decide (f=mM)
 | .root=>decide (f=jW)
 | .sub=>decide (f=dM)
 | .sup=>decide (f=dV)
 | .both=>decide (f=jU)
 | .accent=>decide (f=jb)
 | .jux=>decide (bQ f=(kE,0,0))
 | .inf e=>decide (bQ f=(gG,e,fF e))
 | .pre e=>decide (bQ f=(ic,e,fF e))
 | .pos e=>decide (bQ f=(iL,e,fF e))
 | .bind e=>decide (bQ f=(mh,e,fF e))
def WQ:∀p∈OZ,EG p.1 p.2=true:=dW
def WR {k:FK}(h:iG f.data.toList=some k):EG f k=true:=by
 unfold iG at h;obtain⟨p,a,rfl⟩:=wK.1 h;have c:=List.find?_some a;have b:=wL a;rw[WP,nM] at b;obtain⟨q,d,rfl⟩:=b;have e:q.1=f:=yL (bD c);rw[<-e];exact WQ q d
def Kc (f e:ByteArray):(iN f e).1.data.toList<+:f.data.toList:=by
 unfold iN
 split
 ·rw[Dt];exact List.take_prefix _ _
 ·exact List.prefix_refl _
def WS (f:ByteArray):(bQ f).1.data.toList<+:f.data.toList:=by
 unfold bQ
 split
 ·exact Kc f jU
 split
 ·exact Kc f dM
 split
 ·exact Kc f dV
 ·exact List.prefix_refl _
def Ke {g:ByteArray}(h:fQ g≠0):g=gG\/g=ic\/g=iL\/g=kE\/g=mh:=by
 unfold fQ at h
 split at h
 ·next e=>exact .inl e
 split at h
 ·next e=>exact .inr (.inl e)
 split at h
 ·next e=>exact .inr (.inr (.inl e))
 split at h
 ·next e=>exact .inr (.inr (.inr (.inl e)))
 split at h
 ·next e=>exact .inr (.inr (.inr (.inr e)))
 ·exact absurd rfl h
def Pb {c:UInt8}{t:List UInt8}(d:f.data.toList=c::t)(a:c≠105/\c≠112/\c≠106/\c≠98):fQ (bQ f).1=0:=by
 refine oC λh=>?_
 obtain⟨x,b⟩:=WS f;rw[d] at b;rcases Ke h with e|e|e|e|e<;>rw[e] at b<;>have:=congrArg (λl=>l.getD 0 0) b<;>simp[gG,ic,iL,kE,mh] at this
 ·exact a.1 this.symm
 ·exact a.2.1 this.symm
 ·exact a.2.1 this.symm
 ·exact a.2.2.1 this.symm
 ·exact a.2.2.2 this.symm
def Du (h:mP k t R n=some l):[.mk k t 0 (R.map aQ)]=l:=by
 unfold mP at h
 split at h
 ·injection h
 ·cases h
def Kg (v:ByteArray)(R:List (List aG)):vN false v R=R:=by cases R<;>rfl
def Gz {nam v:ByteArray}{k:Nat}{A:List (List aG)}{o:aG}(b:vM k≠4)(a:kL rs ((vM k:Nat):Int) nam e R (yo k)=some (o,A)):
  ∃s,o=uN false v s e (R.take (fF e))/\yt rs bd nam v k e (fF e) R=AA (vM k) [uN bd v s e (R.take (fF e))] ((A[0]?).getD []) ((A[A.length -1]?).getD [])/\(R.take (fF e)).length=fF e:=by
 unfold kL at a
 split at a
 ·cases a
 ·next i hi=>
  split at a
  ·cases a
  ·next u hu=>
   split at a
   ·next hl=>
    injection a with a;injection a with c d;have f:1<=yo k:=by unfold yo;split<;>omega
    refine⟨u.sym,?_,?_,?_⟩
    ·rw[<-c];unfold uN;rw[Kg]
    ·unfold yt;rw[hi];dsimp only;rw[hu];dsimp only;rw[ak hl,ai b,<-d,rO,rO,lg,rF,show fF e+(R.length -fF e -1)=R.length -1 from aa]
    ·rw[eU];omega
   ·cases a
def Pf {c:Nat}(h:c<100):Lib.decDigits c=uO c:=by
 unfold uO
 by_cases a:c<10
 ·rw[ak a,JK a]
 ·rw[ai a,Ol a h]
def WT:∀c:Nat,c<17->1<=c->sP (eX++jy (uO c)) 16=(c:Int):=dW
def WU {kd:Int}{nam v:ByteArray}(d:mQ rs kd nam f R.length)(h:vL rs nam v f (some R)=some l):zm rs (decide (kd=5)) nam v f R=l:=by
 unfold vL at h;rw[oz] at h;unfold mQ at d;have z:∀{bd:Bool} {k e:Nat} {g:ByteArray},bQ f=(g,e,fF e)->fQ g=k->k≠0->zm rs bd nam v f R=yt rs bd nam v k e (fF e) R:=by
  intro bd k e g w B C;unfold zm;rw[w];dsimp only;rw[ai (by rw[B];exact C),B]
 have q:fQ (bQ f).1=0->zm rs (decide (kd=5)) nam v f R=[ng nam f (R.map aQ)]:=λh=>by unfold zm;rw[ak h]
 cases A:iG f.data.toList with
 |some k=>
  rw[A] at h d;dsimp only at h;have j:=WR A;cases k with
  |frac=>
   obtain rfl:f=mM:=bD j;rw[q dW,<-Du h];rfl
  |root=>
   obtain rfl:f=jW:=bD j;rw[q dW];unfold ng;rw[ai dW,ak rfl]
   match R,h,d with
   |[a],h,d=>rw[ak (d.2 rfl)];injection h with h
   |[a,b],h,d=>rw[ai λe=>absurd (d.1 e) aS];injection h with h
   |[],h,_=>cases h
   |_::_::_::_,h,_=>cases h
  |sub=>
   obtain rfl:f=dM:=bD j;rw[q dW,<-Du h];unfold ng;rw[ai dW,ai dW,ak rfl]
  |sup=>
   obtain rfl:f=dV:=bD j;rw[q dW,<-Du h];unfold ng;rw[ai dW,ai dW,ai dW,ak rfl]
  |both=>
   obtain rfl:f=jU:=bD j;rw[q dW,<-Du h];unfold ng;rw[ai dW,ai dW,ai dW,ai dW,ak rfl]
  |accent=>
   obtain rfl:f=jb:=bD j;rw[q dW,<-Du h];unfold ng;rw[ai dW,ai dW,ai dW,ai dW,ai dW,ak rfl]
  |jux=>
   have p:bQ f=(kE,0,fF 0):=bD j;rw[z (k:=4) p dW aI];obtain⟨i,D⟩:=uk.1 d;have H:i<rs.length:=by
    unfold sM at D;exact(qY.1 D).1
   match R,h with
   |[a,b],h=>
    injection h with h;unfold yt;rw[show sM rs ((vM 4:Nat):Int) nam.data.toList=some i from D];dsimp only;rw[gE H];dsimp only;rw[ak (show[a,b].length=fF 0+yo 4 from rfl),<-h];show a++[]++b=_;rw[bX]
   |[],h=>cases h
   |[_],h=>cases h
   |_::_::_::_,h=>cases h
  |inf e=>
   have p:bQ f=(gG,e,fF e):=bD j;obtain rfl:kd=4:=d;rw[z (k:=1) p dW aI];rw[bG] at h
   split at h
   ·next o a b m=>
    injection h with h;obtain⟨s,t,u,_⟩:=Gz (bd:=false) (v:=v) (k:=1) aI m;rw[show decide ((4:Int)=5)=false from aI,u,<-t,<-h];rfl
   ·cases h
  |pre e=>
   have p:bQ f=(ic,e,fF e):=bD j;obtain rfl:kd=4:=d;rw[z (k:=2) p dW aI];rw[bG] at h
   split at h
   ·next o a m=>
    injection h with h;obtain⟨s,t,u,_⟩:=Gz (bd:=false) (v:=v) (k:=2) aI m;rw[show decide ((4:Int)=5)=false from aI,u,<-t,<-h];rfl
   ·cases h
  |pos e=>
   have p:bQ f=(iL,e,fF e):=bD j;obtain rfl:kd=4:=d;rw[z (k:=3) p dW aI];rw[bG] at h
   split at h
   ·next o a m=>
    injection h with h;obtain⟨s,t,u,_⟩:=Gz (bd:=false) (v:=v) (k:=3) aI m;rw[show decide ((4:Int)=5)=false from aI,u,<-t,<-h];rfl
   ·cases h
  |bind e=>
   have p:bQ f=(mh,e,fF e):=bD j;obtain⟨rfl,I⟩:=d;rw[z (k:=5) p dW aI];rw[bG] at h
   split at h
   ·next o a m=>
    injection h with h;obtain⟨s,t,u,E⟩:=Gz (bd:=true) (v:=v) (k:=5) aI m;rw[show decide ((5:Int)=5)=true from aI,u,<-h,t];have w:fF e≠0:=by rcases I with rfl|rfl<;>decide
    unfold uN;rw[ai aa,ai aa]
    match R.take (fF e),E with
    |[],E=>exact absurd E.symm w
    |r::T,_=>rw[Kg];rfl
   ·cases h
 |none=>
  rw[A] at h d;dsimp only at h d;have y:∀g:ByteArray,(iG g.data.toList).isSome=true->¬f=g:=λg w e=>by rw[e] at A;rw[A] at w;cases w
  have m:ng nam f (R.map aQ)=if 6<f.size/\f.extract 0 6=eX then .mk 12 ⟨#[]⟩ (sP f 16) (R.map aQ) else if 5<f.size/\f.extract 0 5=ik then .mk 11 (f.extract 5 f.size) 0 (R.map aQ) else kR:=by
   unfold ng;rw[ai (y mM aI),ai (y jW aI),ai (y dM aI),ai (y dV aI),ai (y jU aI),ai (y jb aI)]
  unfold pU at h
  split at h
  ·next hp=>
   have F:=d.1 hp;obtain⟨x,n⟩:=hp;rw[q (Pb n.symm aI),m,ai λB=>by
    have:=congrArg (λs=>s.data.toList.getD 0 0) B.2;rw[Dt,<-n] at this;have C:(102:UInt8)=109:=this;exact absurd C aI,ak ⟨F,yL (by rw[Dt,<-n];rfl)⟩,<-Du h,show f.extract 5 f.size=⟨(f.data.toList.drop 5).toArray⟩ from yL (by rw[WO])]
  ·split at h
   ·next hp=>
    obtain⟨x,n⟩:=hp;obtain⟨c,J,L,rfl⟩:=d.2 x n.symm;rw[show f.data.toList.drop 6=Lib.decDigits c by rw[<-n];rfl,Om aa] at h;injection h with h;have G:=Pf (c:=c) aa;have K:f=eX++jy (uO c):=yL (by rw[yM,Gm,<-G,n]);have M:1<=(uO c).length:=by unfold uO;split<;>exact lu _ _
    have F:6<f.size:=by
     rw[Gt,<-n,aO,G];show 6<6+_;omega
    rw[q (Pb n.symm aI),m,ak ⟨F,yL (by rw[Dt,<-n];rfl)⟩,<-h];rw[K,WT c aa J]
   ·cases h
mutual
def Pg {rs:List aD}:∀(m:aC) (l:List aG),kS rs m->jd rs m=some l->jr rs m=l
 | .mk k a v f ts,l,hs,h=>by
  rw[jd] at h;rw[jr];rw[kS] at hs
  by_cases h1:k=1
  ·rw[ak h1] at h⊢;injection h
  by_cases h2:k=2
  ·rw[ai h1,ak h2] at h⊢;injection h
  by_cases h3:k=3
  ·rw[ai h1,ai h2,ak h3] at h⊢;injection h
  rw[ai h1,ai h2,ai h3] at h⊢;cases hR:bI rs ts with
  |none=>rw[hR] at h;cases h
  |some R=>
   rw[hR] at h;rw[Ph ts R hs.2 hR];refine WU ?_ h;rw[Gx rs ts R hR];rcases hs.1 with e|e|e|e
   ·exact absurd e h1
   ·exact absurd e h2
   ·exact absurd e h3
   ·exact e
def Ph {rs:List aD}:∀(ms:List aC) (R:List (List aG)),lQ rs ms->bI rs ms=some R->iq rs ms=R
 |[],R,_,h=>by rw[bI] at h;rw[iq];exact sj h
 |m::ms,R,hs,h=>by
  rw[bI] at h;rw[lQ] at hs;cases hi:jd rs m with
  |none=>rw[hi] at h;cases h
  |some l=>
   cases hr:bI rs ms with
   |none=>rw[hi,hr] at h;cases h
   |some ls=>
    rw[hi,hr,oz,oz] at h;injection h with h;rw[iq,Pg m l hs.1 hi,Ph ms ls hs.2 hr,h]
end
def WV {f:Nat}{n:aG}(h:qz rs f m=some n):∃l,n=aQ l/\jd rs m=some l/\kW rs f n= .ok m:=by
 unfold qz at h
 split at h
 ·cases h
 ·next l hl=>
  split at h
  ·next t ht=>
   split at h
   ·next he=>
    injection h with h;subst h;obtain rfl:=(EE t m).1 he;exact⟨l,rfl,hl,ht⟩
   ·cases h
  ·cases h
def AC (rs:List aD)(f:Nat)(m:aC):Bool:=match kW rs f (aQ (jr rs m)) with
 | .ok g=>mq g m
 | .bad _ _=>false
def Pi (rs:List aD)(f:Nat)(m:aC):AC rs f m=(qz rs f m).isSome/\∀n,qz rs f m=some n->n=aQ (jr rs m):=by
 unfold AC;cases a:qz rs f m with
 |some n=>
  obtain⟨l,rfl,d,b⟩:=WV a;rw[Pg m l (Wq b) d,b];dsimp only;exact⟨(EE _ _).2 rfl,λn h=>(sj h).symm⟩
 |none=>
  refine⟨?_,λn h=>by cases h⟩;cases b:kW rs f (aQ (jr rs m)) with
  |bad e p=>rfl
  |ok g=>
   dsimp only;cases c:mq g m with
   |false=>rfl
   |true=>
    obtain rfl:=(EE g m).1 c;obtain⟨i,_⟩:=VY b;unfold qz at a;rw[i] at a;dsimp only at a;rw[show aQ (aQ (jr rs g)).kids=aQ (jr rs g) from rfl,b] at a;dsimp only at a;rw[ak c] at a;cases a
mutual
def Kh {rs:List aD}{f:Nat}:∀(m:aC) (path:List Int),gW rs f m path=(gW rs f m []).map (path++·)
 | .mk k a v g ts,path=>by
  rw[gW,gW,Pj ts path 0];cases gJ rs f ts [] 0 with
  |some p=>rfl
  |none=>
   dsimp only[Option.map_none]
   split
   ·rw[je,bX]
   ·rfl
def Pj {rs:List aD}{f:Nat}:∀(ts:List aC) (path:List Int) (i:Nat),gJ rs f ts path i=(gJ rs f ts [] i).map (path++·)
 |[],path,i=>by rw[gJ,gJ];rfl
 |t::ts,path,i=>by
  rw[gJ,gJ,Kh t (path++[(i:Int)]),Kh t ([]++[(i:Int)])];cases gW rs f t [] with
  |some p=>simp
  |none=>
   dsimp only[Option.map_none];exact Pj ts path (i+1)
end
mutual
def mr:aC->Nat
 | .mk k _ _ f ts=>if k<4\/fQ (bQ f).1=0 then 1 else 1+((iO ts).drop (bQ f).2.2).sum
def iO:List aC->List Nat
 |[]=>[]
 |t::ts=>mr t::iO ts
end
mutual
def mV:aC->Bool
 | .mk k a v f ts=>nZ ts&&decide (mr (.mk k a v f ts)<=5)
def nZ:List aC->Bool
 |[]=>true
 |t::ts=>mV t&&nZ ts
end
def Pk:∀{L:List Nat} {n:Nat},L.length=n+1->(L.drop n).sum=(L[n]?).getD 0
 |[x],0,_=>aS
 |x::L,n+1,h=>by rw[pg,eD];exact Pk (by simpa using h)
 |[],_,h=>by simp at h
 |_::_::_,0,h=>by simp at h
def Pm:∀{L:List Nat} {n:Nat},L.length=n+2->(L.drop n).sum=(L[n]?).getD 0+(L[n+1]?).getD 0
 |[x,y],0,_=>aS
 |x::L,n+1,h=>by rw[pg,eD,eD];exact Pm (by simpa using h)
 |[],_,h=>by simp at h
 |[_],0,h=>by simp at h
 |_::_::_::_,0,h=>by simp at h
def EH:∀ts:List aC,(iO ts).length=ts.length
 |[]=>by rw[iO];rfl
 |t::ts=>by rw[iO,aY,EH ts,aY]
def Br (rs:List aD):∀ts:List aC,(iq rs ts).length=ts.length
 |[]=>by rw[iq];rfl
 |t::ts=>by rw[iq,aY,Br rs ts,aY]
def EI (rs:List aD):∀(ts:List aC) (i:Nat),(iq rs ts)[i]?=(ts[i]?).map (jr rs)
 |[],i=>by rw[iq];rfl
 |t::ts,0=>by rw[iq];rfl
 |t::ts,i+1=>by rw[iq,eD,eD,EI rs ts i]
def Ki (f:ByteArray):(bQ f).2.1=0/\(bQ f).2.2=0\/(bQ f).2.1=9/\(bQ f).2.2=2\/(bQ f).2.1=7/\(bQ f).2.2=1\/(bQ f).2.1=8/\(bQ f).2.2=1:=by
 unfold bQ
 split
 ·exact .inr (.inl ⟨rfl,rfl⟩)
 split
 ·exact .inr (.inr (.inl ⟨rfl,rfl⟩))
 split
 ·exact .inr (.inr (.inr ⟨rfl,rfl⟩))
 ·exact .inl ⟨rfl,rfl⟩
def GD (g:ByteArray):fQ g<=5:=by unfold fQ;split<;>(try omega);split<;>(try omega);split<;>(try omega);split<;>(try omega);split<;>omega
def Kj {nam v:ByteArray}{k:Nat}(b:k≠0/\k<=5):yt rs bd nam v k e n R=[kR]\/∃s,(R.length=n+2/\(∃o,(o=[]\/o=[uN bd v s e (R.take n)])/\yt rs bd nam v k e n R=(R[n]?).getD []++o++(R[n+1]?).getD []))\/(R.length=n+1/\(yt rs bd nam v k e n R=[uN bd v s e (R.take n)]++(R[n]?).getD []\/yt rs bd nam v k e n R=(R[n]?).getD []++[uN bd v s e (R.take n)])):=by
 unfold yt
 split
 ·exact .inl rfl
 ·split
  ·exact .inl rfl
  ·next u _=>
   split
   ·next a=>
    refine .inr ⟨u.sym,?_⟩;have:k=1\/k=2\/k=3\/k=4\/k=5:=aa
    rcases this with rfl|rfl|rfl|rfl|rfl
    ·have a:R.length=n+2:=a;refine .inl ⟨a,_,.inr rfl,?_⟩;rw[a];rfl
    ·have a:R.length=n+1:=a;refine .inr ⟨a,.inl ?_⟩;rw[a];rfl
    ·have a:R.length=n+1:=a;refine .inr ⟨a,.inr ?_⟩;rw[a];rfl
    ·have a:R.length=n+2:=a;refine .inl ⟨a,_,.inl rfl,?_⟩;rw[a];rfl
    ·have a:R.length=n+1:=a;refine .inr ⟨a,.inl ?_⟩;rw[a];rfl
   ·exact .inl rfl
def Kk (h:qj m=true):m.kind=1\/m.kind=2\/m.kind=3\/m.kind=4\/m.kind=5:=by
 cases m with
 |mk k a v f ts=>
  rw[qj,aM] at h;have h:=h.1;show k=1\/k=2\/k=3\/k=4\/k=5;unfold gq at h
  split at h
  ·omega
  split at h
  ·omega
  split at h
  ·omega
  split at h
  ·omega
  split at h
  ·omega
  ·cases h
mutual
def Pn {rs:List aD}:∀m:aC,qj m=true->(jr rs m).length<=mr m
 | .mk k a v f ts,h=>by
  have hk:=Kk h;rw[qj,aM] at h;have hL:=Po (rs:=rs) ts h.2;rw[jr,mr]
  by_cases h1:k=1
  ·rw[ak h1,ak aa];exact aH 1
  by_cases h2:k=2
  ·rw[ai h1,ak h2,ak aa];exact aH 1
  by_cases h3:k=3
  ·rw[ai h1,ai h2,ak h3,ak aa];exact aH 1
  rw[ai h1,ai h2,ai h3];unfold zm
  by_cases h0:fQ (bQ f).1=0
  ·rw[ak h0,ak (.inr h0)];exact aH 1
  have hk4:¬k<4:=by have hk:k=1\/k=2\/k=3\/k=4\/k=5:=hk;omega
  rw[ai h0,ai (λe=>e.elim hk4 h0)];rcases Kj (rs:=rs) (bd:=decide (k=5)) (nam:=a) (v:=v) (e:=(bQ f).2.1) (n:=(bQ f).2.2) (R:=iq rs ts) ⟨h0,GD _⟩ with e|⟨s,⟨hl,o,ho,e⟩|⟨hl,e⟩⟩
  ·rw[e];exact fq _ _
  ·rw[e,Pm (by rw[EH,<-Br rs];exact hl),aO,aO];have:=hL (bQ f).2.2;have:=hL ((bQ f).2.2+1);have:o.length<=1:=by rcases ho with rfl|rfl<;>simp
   omega
  ·rw[Pk (by rw[EH,<-Br rs];exact hl)];have:=hL (bQ f).2.2;rcases e with e|e<;>rw[e,aO,gN]<;>omega
def Po {rs:List aD}:∀ms:List aC,qo ms=true->∀i:Nat,(((iq rs ms)[i]?).getD []).length<=((iO ms)[i]?).getD 0
 |[],_,i=>by rw[iq,iO];exact aH _
 |m::ms,h,i=>by
  rw[qo,aM] at h;rw[iq,iO];cases i with
  |zero=>exact Pn m h.1
  |succ i=>exact Po ms h.2 i
end
def GG:∀a b:List aG,nG (a++b)=(nG a&&nG b)
 |[],b=>by rw[iA,nG];rfl
 |t::a,b=>by rw[iB,nG,nG,GG a b,Bool.and_assoc]
def gR (r:List aG):Prop:=r.length<=5/\nG r=true
def zw {r:List aG}(h:r.length<=7)(a:nG r=true):wy (aQ r)=true:=by
 unfold aQ;rw[wy,a,aJ h,Bool.or_true];rfl
def Kl:∀{R:List (List aG)},(∀r∈R,gR r)->nG (R.map aQ)=true
 |[],_=>by rw[jl,nG]
 |r::R,h=>by
  have a:=h r bZ;rw[di,nG,zw (av a.1) a.2,Kl λr b=>h r (dP _ b)];rfl
def Km {c:Int}(a:k≠1)(h:nG ks=true):nG [.mk k t c ks]=true:=by
 rw[nG,nG,wy,aK a,h];rfl
def EJ (s:ByteArray):wy (dh s)=true:=rfl
def WW {v:ByteArray}(f:e≠1)(a:∀r∈R,gR r):nG [uN bd v s e R]=true:=by
 unfold uN
 by_cases c:e=0
 ·rw[ak c];rfl
 rw[ai c];refine Km aa ?_;rw[nG,zw aS (by rw[nG,nG];rfl),aW]
 match R,a with
 |[],_=>rfl
 |r::R,a=>
  have b:=a r bZ;unfold vN;rw[di,nG,Kl λr d=>a r (dP _ d),Bool.and_true]
  split
  ·exact zw (by have:=b.1;simp only[aY];omega) (by rw[nG,nG,EJ,EJ,b.2];rfl)
  ·exact zw (av b.1) b.2
def WX {nam:ByteArray}(h:nG ks=true):nG [ng nam f ks]=true:=by
 unfold ng
 repeat' split
 all_goals first|exact Km aI h|exact Km aI (by rw[nG,h];rfl)|rfl
mutual
def Pp {rs:List aD}:∀m:aC,qj m=true->mV m=true->gR (jr rs m)
 | .mk k a v f ts,h,hn=>by
  have hl:=Pn (rs:=rs) (.mk k a v f ts) h;rw[mV,aM,eF] at hn;rw[qj,aM] at h;have hR:=Pq (rs:=rs) ts h.2 hn.1;refine⟨ax hl hn.2,?_⟩;rw[jr]
  by_cases h1:k=1
  ·rw[ak h1];rfl
  by_cases h2:k=2
  ·rw[ai h1,ak h2];rfl
  by_cases h3:k=3
  ·rw[ai h1,ai h2,ak h3];rfl
  rw[ai h1,ai h2,ai h3];unfold zm
  by_cases h0:fQ (bQ f).1=0
  ·rw[ak h0];exact WX (Kl hR)
  rw[ai h0];have hg:∀i:Nat,nG (((iq rs ts)[i]?).getD [])=true:=λi=>by
   cases hi:(iq rs ts)[i]? with
   |none=>rfl
   |some r=>exact(hR r (dQ hi)).2
  have he:(bQ f).2.1≠1:=av (Ki f)
  have ho:∀s,nG [uN (decide (k=5)) v s (bQ f).2.1 ((iq rs ts).take (bQ f).2.2)]=true:=λs=>WW he λr hr=>hR r (List.mem_of_mem_take hr)
  rcases Kj (rs:=rs) (bd:=decide (k=5)) (nam:=a) (v:=v) (e:=(bQ f).2.1) (n:=(bQ f).2.2) (R:=iq rs ts) ⟨h0,GD _⟩ with e|⟨s,⟨_,o,hoo,e⟩|⟨_,e⟩⟩
  ·rw[e];rfl
  ·rw[e,GG,GG,hg,hg];rcases hoo with rfl|rfl
   ·rfl
   ·rw[ho];rfl
  ·rcases e with e|e<;>rw[e,GG,hg,ho]<;>rfl
def Pq {rs:List aD}:∀ms:List aC,qo ms=true->nZ ms=true->∀r∈iq rs ms,gR r
 |[],_,_,r,hr=>by rw[iq] at hr;cases hr
 |m::ms,h,hn,r,hr=>by
  rw[qo,aM] at h;rw[nZ,aM] at hn;rw[iq] at hr;rcases dD.1 hr with rfl|hr
  ·exact Pp m h.1 hn.1
  ·exact Pq ms h.2 hn.2 r hr
end
def GH :(R.length=n+1->bK ((R.drop n).map aQ)=bK ((R[n]?).getD [])+1)/\(R.length=n+2->bK ((R.drop n).map aQ)=bK ((R[n]?).getD [])+bK ((R[n+1]?).getD [])+2):=by
 constructor
 ·intro h;rw[ib aa,wM aa,gE aa,fB,di,jl,count_one,sS]
 ·intro h;rw[ib aa,ib aa,wM aa,gE (by omega:n<R.length),gE (by omega:n+1<R.length),fB,fB,di,di,jl,Dp,sS,sS];omega
def WY (bd:Bool)(v s:ByteArray)(e:Nat)(R:List (List aG)):dK (uN bd v s e R)<=bK (R.map aQ)+5:=by
 unfold uN;have a:dK (dh s)=1:=rfl
 split
 ·omega
 ·rw[dK,bK,sS,count_one,a]
  match R with
  |[]=>exact lu _ _
  |r::R=>
   unfold vN;rw[di,di,bK,bK,sS,sS]
   split
   ·rw[bK,bK,show dK (dh v)=1 from rfl,show dK (dh sN)=1 from rfl];omega
   ·omega
def WZ (nam f:ByteArray)(ks:List aG):dK (ng nam f ks)<=bK ks+2:=by
 unfold ng
 repeat' split
 all_goals first|(rw[dK];omega)|(rw[dK,bK,show dK (aQ [])=1 from rfl];omega)|exact lu _ _
mutual
def Kn {rs:List aD}:∀m:aC,bK (jr rs m)+1<=8*bg m
 | .mk k a v f ts=>by
  have hR:=Ps (rs:=rs) ts;rw[jr,bg]
  by_cases h1:k=1
  ·rw[ak h1,count_one];show 1+1<=_;omega
  by_cases h2:k=2
  ·rw[ai h1,ak h2,count_one];show 1+1<=_;omega
  by_cases h3:k=3
  ·rw[ai h1,ai h2,ak h3,count_one];show 1+1<=_;omega
  rw[ai h1,ai h2,ai h3];unfold zm
  by_cases h0:fQ (bQ f).1=0
  ·rw[ak h0,count_one];have:=WZ a f ((iq rs ts).map aQ);omega
  rw[ai h0];have hs:=OQ (iq rs ts) (bQ f).2.2;have ho:∀s,bK [uN (decide (k=5)) v s (bQ f).2.1 ((iq rs ts).take (bQ f).2.2)]<=bK (((iq rs ts).take (bQ f).2.2).map aQ)+5:=λs=>by rw[count_one];exact WY _ _ _ _ _
  rcases Kj (rs:=rs) (bd:=decide (k=5)) (nam:=a) (v:=v) (e:=(bQ f).2.1) (n:=(bQ f).2.2) (R:=iq rs ts) ⟨h0,GD _⟩ with e|⟨s,⟨hl,o,hoo,e⟩|⟨hl,e⟩⟩
  ·rw[e];show 1+1<=_;omega
  ·rw[e,xR,xR];have:=GH.2 hl;have:=ho s;rcases hoo with rfl|rfl
   ·rw[show bK []=0 from by rw[bK]];omega
   ·omega
  ·have:=GH.1 hl;have:=ho s;rcases e with e|e<;>rw[e,xR]<;>omega
def Ps {rs:List aD}:∀ms:List aC,bK ((iq rs ms).map aQ)<=8*bq ms
 |[]=>by rw[iq,bq];exact aH _
 |m::ms=>by
  have h1:=Kn (rs:=rs) m;have h2:=Ps (rs:=rs) ms;rw[iq,di,bK,sS,bq];omega
end
def Pt:∀l:List aG,l.length<=bK l
 |[]=>dZ _
 |t::l=>by
  have:=Pt l;rw[bK,aY];cases t;rw[dK];omega
def xu {ok:Nat->Prop}{c:Int}{cap:Nat}(h:au w g 31 #[qI k,af s,qI c,.slice A ks.length cap])(b:s.size<=9223372036854775807)(d:ks.length<=cap)(e:cap<=9223372036854775807)(f:fw ok w A ks)(l:ok g):fw ok w (some (ag g (0))) [.mk k s c ks]:=λi x a=>by
 match i,a with
 |0,a=>
  obtain rfl:aG.mk k s c ks=x:=by simpa using a
  exact⟨_,rfl,h.lt,l,_,bC.of b d e f,λj m=>by rw[xh,h.cell];simp⟩
 |i+1,a=>simp at a
def Pv {ok:Nat->Prop}{x y:aG}{c d e f k l m n:Value}(h:au w g 31 #[c,d,e,f,k,l,m,n])(p:bC ok w x #[c,d,e,f])(q:bC ok w y #[k,l,m,n])(o:ok g):fw ok w (some (ag g (0))) [x,y]:=λi z a=>by
 match i,a with
 |0,a=>
  obtain rfl:x=z:=by simpa using a
  exact⟨_,rfl,h.lt,o,_,p,λj b=>by
   rw[xh,h.cell]
   match j,b with
   |0,_|1,_|2,_|3,_=>rfl
   |j+4,b=>omega⟩
 |1,a=>
  obtain rfl:y=z:=by simpa using a
  exact⟨_,rfl,h.lt,o,_,q,λj b=>by
   rw[xh,h.cell]
   match j,b with
   |0,_|1,_|2,_|3,_=>rfl
   |j+4,b=>omega⟩
 |i+2,a=>simp at a
def fw.at_ {ok:Nat->Prop}(h:fw ok w A ts){i:Nat}{t:aG}(f:ts[i]?=some t):
  ∃a d b,A=some a/\a.block<w.heap.size/\t.text.size<=9223372036854775807/\t.kids.length<=b/\b<=9223372036854775807/\fw ok w d t.kids/\w.cell? (a.add (i*4))=some (qI t.kind)/\w.cell? ⟨(a.add (i*4)).block,(a.add (i*4)).off+1,none⟩=some (af t.text)/\w.cell? ⟨(a.add (i*4)).block,(a.add (i*4)).off+2,none⟩=some (qI t.cols)/\w.cell? ⟨(a.add (i*4)).block,(a.add (i*4)).off+3,none⟩=some (.slice d t.kids.length b):=by
 obtain⟨a,g,k,_,c,l,e⟩:=h i t f;obtain⟨d,b,rfl,m,n,o,p⟩:=l.form;exact⟨a,d,b,g,k,m,n,o,p,e 0 aa,At.uU (j:=0) (e 1 aa),At.uU (j:=1) (e 2 aa),At.uU (j:=2) (e 3 aa)⟩
def Ko (o:Option (List (List aG)))(kind:Int)(text:ByteArray)(n:Nat)(w:World)(e:Ending)(w':World):Prop:=((∃R g A cap,o=some R/\R.length=n/\e= .returned (.tuple #[ay (ag g (0)) 1 1,.bool true])/\au w' g 31 #[qI kind,af text,qI 0,.slice A n cap]/\n<=cap/\cap<=9223372036854775807/\fw (λb=>w.heap.size<=b/\b≠g) w' A (R.map aQ)/\w.heap.size<=g)
 \/((o.bind λR=>mP kind text R n)=none/\e= .returned (.tuple #[qN,.bool false])))/\Below w.heap.size w w'
def Ko.itm {o:Option (List (List aG))}{kind:Int}{text:ByteArray}{e:Ending}(h:Ko o kind text n w e w')(a:text.size<=9223372036854775807):jk (o.bind λR=>mP kind text R n) w e w':=by
 obtain⟨h,c⟩:=h;refine⟨?_,c⟩;rcases h with⟨R,g,A,m,rfl,rfl,rfl,d,f,i,j,k⟩|⟨h,rfl⟩
 ·rw[show((some R).bind λl=>mP kind text l R.length)=some [.mk kind text 0 (R.map aQ)] by show mP kind text R R.length=_;unfold mP;rw[ak rfl]];exact⟨_,1,rfl,aH _,aa,xu (ks:=R.map aQ) (by rw[dI];exact d) a (by rw[dI];exact f) i (j.any λb _ h=>h.1) k⟩
 ·rw[h]
def Dv (m:aC):bg m=bq m.args+1:=by cases m;rw[bg];rfl
def AJ (W:jV)(A:Option Addr)(cap:Nat)(rs:List aD)(f:Nat)(J:si W A cap rs f)(kind:Int)(text:ByteArray)(n:Nat)(m:aC)(c:Array Value)(w:World)(y:fT m<=f)(z:f<=100000)(B:pX w W A cap rs)(C:gK w m c):
  Calls prog 29 #[qP W.gw,qI kind,af text,.agg c,qI (n:Int)] w (Ko (bI rs m.args) kind text n w):=by
 obtain⟨j,k,rfl,_,_,_,U,V,D⟩:=C.form;have l:=aN w (.cells (aA m.kind m.nam m.vr j m.args.length k m.form) 25);have E:=zh (au.new w 25 (aA m.kind m.nam m.vr j m.args.length k m.form));have K:=zh (B.keep l);have L:=zh (D.keep l);have t:=zh l;have M:=ah (lT m.args<f) (av (yw y z));clear B C D l y;go_enter func29,ntmps29;go_upto_region 1 with(fail)
 generalize w.alloc (.cells (aA m.kind m.nam m.vr j m.args.length k m.form) 25)=N at*;have O:=E.o.cell 3;go_wp2_with fail;refine(Gy W A cap rs f J m.args j k N M.o z K.o L.o).mono ?_;rintro e d ⟨o,g⟩;have p:=jt t g;have F:=zh t.o.size;clear g t E O;cases a:bI rs m.args with
 |none=>
  rw[a] at o;obtain rfl:e= .returned (.tuple #[qN,.bool false]):=o;have q:=zh a;clear a;go_wp2_with fail
  go_ret2
  exact⟨.inr ⟨by rw[q.o];rfl,rfl⟩,p.o⟩
 |some R=>
  rw[a] at o;obtain⟨r,u,G,v,P,H⟩:=o;rw[dI] at G v;subst G;have I:=zh H;have q:=zh a;clear a H
  by_cases i:R.length=n
  ·have x:=zh i;rw[i] at v⊢;clear i;have s:=aN d (.cells #[qI kind,af text,qI 0,.slice r n u] 31);have Q:=zh (au.new d 31 #[qI kind,af text,qI 0,.slice r n u]);have X:=zh ((I.o.keep s).any (ok':=λb=>w.heap.size<=b) λb _ g=>ax F.o g);have S:=ah (fw (λb=>w.heap.size<=b/\b≠d.heap.size) _ r (R.map aQ)) ((I.o.any (ok':=λb=>w.heap.size<=b/\b≠d.heap.size) λb g h=>⟨ax F.o h,aa⟩).keep s);have T:=jt p s;clear s;go_wp2_with fail
   go_ret2
   exact⟨.inl ⟨R,d.heap.size,r,u,q.o,x.o,rfl,Q.o,v,P,S.o,p.o.size⟩,T.o⟩
  ·have Y:((R.length:Int) !=(n:Int))=true:=by rw[pE];omega
   have x:=ah (((bI rs m.args).bind λR=>mP kind text R n)=none) (by rw[q.o];show mP kind text R n=none;unfold mP;rw[ai i]);clear i;go_wp2_with fail
   go_ret2
   exact⟨.inr ⟨x.o,rfl⟩,p.o⟩
def Dw (a:Addr):a.add 0=a:=yR
def fw.at0 {ok:Nat->Prop}(h:fw ok w A ts){t:aG}(e:ts[0]?=some t):
  ∃a c b,A=some a/\a.block<w.heap.size/\t.text.size<=9223372036854775807/\t.kids.length<=b/\b<=9223372036854775807/\fw ok w c t.kids/\w.cell? a=some (qI t.kind)/\w.cell? (aF a 1)=some (af t.text)/\w.cell? (aF a 2)=some (qI t.cols)/\w.cell? (aF a 3)=some (.slice c t.kids.length b):=by
 have d:=h.at_ e;simp only[Nat.zero_mul,Dw] at d;exact d
def jk.up {o:Option (List aG)}{c:World}{e:Ending}(h:jk o c e w')(a:Below w.heap.size w c):jk o w e w':=by
 obtain⟨d,f⟩:=h;refine⟨?_,a.trans (f.mono a.size)⟩;cases o with
 |none=>exact d
 |some l=>
  obtain⟨A,g,i,j,k,m⟩:=d;exact⟨A,g,i,j,k,m.any λb _ h=>ax a.size h⟩
def Xa (W:jV)(A:Option Addr)(cap:Nat)(rs:List aD)(f:Nat)(a6:si W A cap rs f)(m:aC)(c:Array Value)(w:World)(P:fT m<=f)(Q:f<=100000)(S:pX w W A cap rs)(T:gK w m c):
  Calls prog 30 #[qP W.gw,.agg c] w (jk ((bI rs m.args).bind λR=>bG rs m.nam m.vr R .root) w):=by
 obtain⟨z,B,rfl,_,_,_,c1,c2,U⟩:=T.form;have C:=aN w (.cells (aA m.kind m.nam m.vr z m.args.length B m.form) 25);have V:=zh (au.new w 25 (aA m.kind m.nam m.vr z m.args.length B m.form));have a7:=zh (S.keep C);have a8:=zh (U.keep C);have H:=zh C;have a9:=ah (lT m.args<f) (av (yw P Q));clear S T U C P;go_enter func30,ntmps30;go_upto_region 1 with(fail)
 generalize w.alloc (.cells (aA m.kind m.nam m.vr z m.args.length B m.form) 25)=b0 at*;have b1:=V.o.cell 3;go_wp2_with fail;refine(Gy W A cap rs f a6 m.args z B b0 a9.o Q a7.o a8.o).mono ?_;rintro e d ⟨D,n⟩;have p:=jt H n;have X:=zh H.o.size;clear n H V b1;have I:=ah (∀(o:Option (List aG)),o=none->jk o w (.returned (.tuple #[qN,.bool false])) d) (λo e=>by subst e;exact⟨rfl,p.o⟩);cases q:bI rs m.args with
 |none=>
  rw[q] at D;obtain rfl:e= .returned (.tuple #[qN,.bool false]):=D;have g:=zh q;clear q;go_wp2_with fail
  go_ret2
  exact I.o _ (by rw[g.o];rfl)
 |some R=>
  rw[q] at D;obtain⟨u,v,h,i,b2,Y⟩:=D;rw[dI] at h i;have j:=zh Y;have g:=zh q;clear q Y
  match R,h,i,j,g with
  |[],h,i,j,g=>
   obtain rfl:e= .returned (.tuple #[.slice u 0 v,.bool true]):=h;go_wp2_with fail
   go_ret2
   exact I.o _ (by rw[g.o];rfl)
  |[a],h,i,j,g=>
   obtain rfl:e= .returned (.tuple #[.slice u 1 v,.bool true]):=h;obtain⟨E,F,G,rfl,c3,_,b3,b4,Z,a0,a1,a2,a3⟩:=j.o.at0 (t:=aQ a) rfl;have J:=aN d (.cells #[qI 1,qE,qI 0,qN,qI 1,qE,qI 0,.slice F a.length G] 31);have b5:=zh (au.new d 31 #[qI 1,qE,qI 0,qN,qI 1,qE,qI 0,.slice F a.length G]);have b6:=zh ((Z.any (ok':=λb=>w.heap.size<=b) λb _ n=>ax X.o n).keep J);have a4:=jt p J;have c4:d.cell? E=some (qI 1):=a0;have c5:d.cell? (aF E 1)=some qE:=a1;have c6:d.cell? (aF E 2)=some (qI 0):=a2;have c7:d.cell? (aF E 3)=some (.slice F a.length G):=a3;have b7:=ah (w.heap.size<=d.heap.size) p.o.size;clear a0 a1 a2 a3 Z J p;go_upto_region 6 with(fail)
   generalize d.heap.size=a5 at*;generalize d.alloc (.cells #[qI 1,qE,qI 0,qN,qI 1,qE,qI 0,.slice F a.length G] 31)=K at*;have b8:=zh (Pv (ok:=λb=>w.heap.size<=b) (x:=aQ []) (y:=aQ a) b5.o (bC.zero _ _ 1 ⟨#[]⟩ 0 aI) (bC.of (k:=1) (s:=⟨#[]⟩) (c:=0) aI b3 b4 b6.o) b7.o);have l:=aN K (.cells #[qI 6,qE,qI 0,ay (ag a5 (0)) 2 2] 31);have L:=jt a4 l;have M:=zh (b8.o.keep l);have N:=zh (au.new K 31 #[qI 6,qE,qI 0,ay (ag a5 (0)) 2 2]);have O:=ah (w.heap.size<=K.heap.size) a4.o.size;clear l;go_wp2_with fail
   go_ret2
   rw[g.o];exact⟨⟨_,1,rfl,aH _,aa,xu (ks:=[aQ [],aQ a]) N.o aI (aH 2) aa M.o O.o⟩,L.o⟩
  |[a,b],h,i,j,g=>
   obtain rfl:e= .returned (.tuple #[.slice u 2 v,.bool true]):=h;have l:=aN d (.cells #[qI 6,qE,qI 0,.slice u 2 v] 31);have L:=jt p l;have M:=zh ((j.o.any (ok':=λb=>w.heap.size<=b) λb _ n=>ax X.o n).keep l);have N:=zh (au.new d 31 #[qI 6,qE,qI 0,.slice u 2 v]);have O:=ah (w.heap.size<=d.heap.size) p.o.size;clear l;go_wp2_with fail
   go_ret2
   rw[g.o];exact⟨⟨_,1,rfl,aH _,aa,xu (ks:=[aQ a,aQ b]) N.o aI i b2 M.o O.o⟩,L.o⟩
  |a::b::b9::r,h,i,j,g=>
   subst h;have c0:=ah ((a::b::b9::r).length=r.length+3) rfl;rw[c0.o];have c8:¬(((r.length+3:Nat):Int)<1):=aa
   have c9:((r.length+3:Nat):Int)>2:=aa
   go_wp2_with fail
   go_ret2
   exact I.o _ (by rw[g.o];rfl)
def GI {ok:Nat->Prop}(h:fw ok w A ks):∃css:List (Array Value),css.length=ks.length/\(∀(j:Nat) c x,css[j]?=some c->ks[j]?=some x->bC ok w x c)/\dL w w.heap.size 4 A ks.length (css.flatMap (·.toList)):=by
 have r:∀i:Nat,∃c:Array Value,∀x,ks[i]?=some x->bC ok w x c/\∃b:Addr,A=some b/\b.block<w.heap.size/\∀j,j<4->w.cell? (b.add (i*4+j))=c[j]?:=λi=>by
  cases g:ks[i]? with
  |none=>exact⟨#[],λx h=>by cases h⟩
  |some x=>
   obtain⟨b,s,t,_,c,v,k⟩:=h i x g;refine⟨c,λy z=>?_⟩;cases z;exact⟨v,b,s,t,k⟩
 obtain⟨d,l⟩:=rG r;have e:((List.range ks.length).map d).length=ks.length:=aS
 have B:∀(j:Nat) c,((List.range ks.length).map d)[j]?=some c->j<ks.length/\c=d j:=λj c a=>by
  rw[gL] at a;rcases bu j ks.length with f|f
  ·rw[kX f] at a;exact⟨f,(sj a).symm⟩
  ·rw[ko (by simpa using f)] at a;cases a
 have n:∀(j:Nat) c x,((List.range ks.length).map d)[j]?=some c->ks[j]?=some x->bC ok w x c:=λj c x a g=>by
  obtain⟨_,rfl⟩:=B j c a;exact(l j x g).1
 have m:∀c∈(List.range ks.length).map d,c.size=4:=fP.size e n;refine⟨_,e,n,by rw[Dl _ m,e],λC=>?_⟩;obtain⟨_,b,o,D,_⟩:=l 0 _ (gE C);refine⟨b,o,D,λj u a=>?_⟩;have E:=(bP.1 a).1;rw[Dl _ m,e] at E;have p:j/4<ks.length:=aa
 obtain⟨_,F,G,_,k⟩:=l (j/4) _ (gE p);obtain rfl:b=F:=sj (o.symm.trans G);have q:=ED _ (j/4) (j%4) (d (j/4)) m (by rw[gL,kX p];rfl) aa;rw[show j/4*4+j%4=j from aa,a,<-k (j%4) aa,show j/4*4+j%4=j from aa] at q;exact q.symm
structure NL where
 A:Option Addr
 c:Nat
 ks:List aG
def xw (L:List NL):List aG:=L.flatMap (·.ks)
def Pw {ok:Nat->Prop}{w:World}:∀{L:List NL},(∀s∈L,fw ok w s.A s.ks)->∃S:List sQ,S.length=L.length/\(∀(k:Nat) (s:sQ),S[k]?=some s->∃t:NL,L[k]?=some t/\s.A=t.A/\s.n=t.ks.length/\s.c=t.c)/\(∀s∈S,dL w w.heap.size 4 s.A s.n s.xs/\∀u∈s.xs,u.oneCell'=true)/\lS S=(xw L).length/\∃css:List (Array Value),css.length=(xw L).length/\(∀(j:Nat) c x,css[j]?=some c->(xw L)[j]?=some x->bC ok w x c)/\xn S=css.flatMap (·.toList)
 |[],_=>⟨[],rfl,(λk s h=>by simp at h),(λs h=>by simp at h),rfl,[],rfl,(λj c x h=>by simp at h),rfl⟩
 |t::L,h=>by
  obtain⟨S,o,p,q,f,css,g,i,r⟩:=Pw (L:=L) λs d=>h s (dP _ d)
  obtain⟨e,l,m,v⟩:=GI (h t bZ);refine⟨⟨t.A,t.ks.length,t.c,e.flatMap (·.toList)⟩::S,(by simp[o]),(λk s n=>?_),(λs d=>?_),?_,e++css,?_,(λj c x a b=>?_),?_⟩
  ·cases k with
   |zero=>obtain rfl:=sj n;exact⟨t,rfl,rfl,rfl,rfl⟩
   |succ k=>exact p k s n
  ·rcases dD.1 d with rfl|d
   ·refine⟨v,λu y=>?_⟩;obtain⟨c,z,A⟩:=oo.1 y;obtain⟨j,a⟩:=gz.1 z;have D:=(bP.1 a).1;exact Gs (m j c _ a (gE aa)) u A
   ·exact q s d
  ·unfold xw at f⊢;rw[gT,aO,<-f];simp[lS]
  ·unfold xw at g⊢;rw[gT,aO,aO,g,l]
  ·unfold xw at b i;rw[gT] at b;rcases bu j e.length with B|C
   ·rw[dz B] at a;rw[dz aa] at b;exact m j c x a b
   ·rw[cO C] at a;rw[cO aa,<-l] at b;exact i _ c x a b
  ·rw[fH,<-r];rfl
def Px (P:Nat->Prop)(g:Nat)(L:List NL)(w:World)(a:∀(k:Nat) (s:NL),L[k]?=some s->w.cell? (ag g k)=some (.slice s.A s.ks.length s.c))(f:g<w.heap.size)(i:∀s∈L,fw P w s.A s.ks)(l:∀b,w.heap.size<=b->P b)(K:L.length<=1000000)(M:(xw L).length<=1000000):
  Calls prog 64 #[ay (ag g (0)) L.length L.length] w λe w'=>(∃A cap,e= .returned (.slice A (xw L).length cap)/\(xw L).length<=cap/\cap<=9223372036854775807/\fw P w' A (xw L))/\Below w.heap.size w w':=by
 obtain⟨S,m,n,o,p,q,r,u,y⟩:=Pw i;have h:=WH g S w (λk s z=>by
  obtain⟨t,B,C,D,E⟩:=n k s z;rw[C,D,E];exact a k t B) f o aa aa
 rw[m] at h;refine h.mono ?_;rintro e w' ⟨v,rfl,d,a⟩;rw[p,y] at d;obtain⟨A,cap,rfl,F,G,H⟩:=fP.zP9 (P:=P) (xs:=xw L) ⟨q,d,r,λj c x I J=>(u j c x I J).keep a⟩ l λb h=>h
 exact⟨⟨A,cap,rfl,F,G,H⟩,a⟩
def zx:Option Nat->Int
 |some i=>i
 |none=>0
def iH (kind:Int)(s:ByteArray)(r:aD):Bool:=(r.kind==kind)&&(r.nam.toList==s.toList)
def FB {k:Nat}{x:aD}(a:rs[k]?=some x)(b:p x=true)(c:∀(j:Nat) y,rs[j]?=some y->j<k->p y=false):rs.findIdx? p=some k:=by
 obtain⟨d,rfl⟩:=bP.1 a;rw[qY];exact⟨d,b,λj e=>by rw[c j _ (gE aa) e];simp⟩
def FC (a:∀(j:Nat) y,rs[j]?=some y->p y=false):rs.findIdx? p=none:=by
 rw[yX];intro y b;obtain⟨j,c⟩:=gz.1 b;exact a j y c
def GJ {a b:Int}{p q:Bool}(h:a=b)(c:p=q):Ending.returned (.tuple #[qI a,.bool p])= .returned (.tuple #[qI b,.bool q]):=by rw[h,c]
def Xb (A:Option Addr)(cap:Nat)(rs:List aD)(kind:Int)(s:ByteArray)(w:World)(n:fG w A rs)(u:rs.length<=1000000):Calls prog 90 #[.slice A rs.length cap,qI kind,af s] w λe w'=>e= .returned (.tuple #[qI (zx (rs.findIdx? (iH kind s))),.bool (rs.findIdx? (iH kind s)).isSome])/\Below w.heap.size w w':=by
 have q:=zh n;clear n;go_enter func90,ntmps90;go_wp2_with fail
 go_loopw [12] (λi wr=>∃k:Nat,k<=rs.length/\i=qI k/\Hy (∀(j:Nat) x,rs[j]?=some x->j<k->iH kind s x=false)/\Hy (Below w.heap.size w wr)) (λi _=>rs.length -(intOf i).toNat)
 case atStart=>exact⟨0,aa,rfl,(λj _ _ h=>aa),aL _ _⟩
 case round=>
  obtain⟨k,v,rfl,f,c⟩:=hrel
  by_cases r:k<rs.length
  ·obtain⟨x,g⟩:∃x,rs[k]?=some x:=⟨_,gE r⟩
   obtain⟨t,z,rfl,B,C,D,E,F,G,H⟩:=(q.o.keep c.o).at_ g;have l:=zh g;clear g t;cases m:(x.kind==kind)
   ·have b:Hy (iH kind s x=false):=by show iH kind s x=false;unfold iH;rw[m];rfl
    go_wp2;go_roundw
    case rel=>exact⟨k+1,aa,bi,(λj y a h=>by
     rcases bu j k with d|d
     ·exact f.o j y a d
     ·obtain rfl:j=k:=by omega
      rw[l.o] at a;obtain rfl:=sj a;exact b.o),c.o.alloc c.o.size _⟩
    case measure=>simp[intOf];omega
   ·cases o:(x.nam.toList==s.toList)
    ·have b:Hy (iH kind s x=false):=by show iH kind s x=false;unfold iH;rw[m,o];rfl
     go_wp2;go_roundw
     case rel=>exact⟨k+1,aa,bi,(λj y a h=>by
      rcases bu j k with d|d
      ·exact f.o j y a d
      ·obtain rfl:j=k:=by omega
       rw[l.o] at a;obtain rfl:=sj a;exact b.o),c.o.alloc c.o.size _⟩
     case measure=>simp[intOf];omega
    ·have b:=zh (FB l.o (show iH kind s x=true by unfold iH;rw[m,o];rfl) f.o);go_wp2_with fail
     go_ret2
     exact⟨GJ (by rw[b.o];rfl) (by rw[b.o];rfl),c.o.alloc c.o.size _⟩
  ·have b:=zh (FC (p:=iH kind s) λj y a=>f.o j y a (by
    have:=(bP.1 a).1;omega))
   go_wp2_with fail
   go_ret2
   exact⟨GJ (by rw[b.o];rfl) (by rw[b.o];rfl),c.o⟩
def EK {kind:Int}:sM rs kind s.data.toList=rs.findIdx? (iH kind s):=by
 unfold sM
 congr 1
 funext r
 unfold iH;rw[bz,bz,fI];simp
end Go.Proofs.YtlefbenkhgbifaaGreatDoor.Rn
