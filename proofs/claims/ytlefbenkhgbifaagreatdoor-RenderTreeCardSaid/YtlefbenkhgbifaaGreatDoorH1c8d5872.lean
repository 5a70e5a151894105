/- scripts: the part of an operator. -/
import Derived.Test.YtlefbenkhgbifaaGreatDoorH3e8f0f31
import Derived.Deep.CutBlock
set_option linter.all false
set_option maxRecDepth 100000
set_option maxHeartbeats 8000000
namespace Go.Proofs.YtlefbenkhgbifaaGreatDoor.El
open At Ch Sp Sy Go.RowKit Tryz
variable{x w:World}{g:Nat}{n b0:aG}{r:List aG}
abbrev Av (v:Value)(fin vr:ByteArray):Array Value:= #[qI 0,qE,qE,qN,qE,v,af fin,af vr]
abbrev qU:Array Value:=Av qN ⟨#[]⟩ ⟨#[]⟩
def Aw (x:World)(g:Nat)(c0 c1 c2 c3 c4 c5 c6 c7:Value):World:=(((((((x.setCell (ag g (0)) c0).setCell (ag g (1)) c1).setCell (ag g (2)) c2).setCell (ag g (3)) c3).setCell (ag g (4)) c4).setCell (ag g (5)) c5).setCell (ag g (6)) c6).setCell (ag g (7)) c7
def Gf (x:World)(g:Nat)(a b c d e f h i:Value):x.grownBy (Aw x g a b c d e f h i) (some g):=
 vJ (vJ (vJ (xP x g a b c d e) (kJ _ (ag g (5)) f)) (kJ _ (ag g (6)) h)) (kJ _ (ag g (7)) i)
def BU {t:TypeId}{r q p o m l j i:Value}(h:au x g t #[r,q,p,o,m,l,j,i])(a b c d e f k n:Value):au (Aw x g a b c d e f k n) g t #[a,b,c,d,e,f,k,n]:=by
 have s:au (x.setCell (ag g (0)) a) g t #[a,q,p,o,m,l,j,i]:=h.set_ 0 a;have u:au ((x.setCell (ag g (0)) a).setCell (ag g (1)) b) g t #[a,b,p,o,m,l,j,i]:=s.set_ 1 b;have v:au (((x.setCell (ag g (0)) a).setCell (ag g (1)) b).setCell (ag g (2)) c) g t #[a,b,c,o,m,l,j,i]:=u.set_ 2 c;have w:au ((((x.setCell (ag g (0)) a).setCell (ag g (1)) b).setCell (ag g (2)) c).setCell (ag g (3)) d) g t #[a,b,c,d,m,l,j,i]:=v.set_ 3 d;have y:au (((((x.setCell (ag g (0)) a).setCell (ag g (1)) b).setCell (ag g (2)) c).setCell (ag g (3)) d).setCell (ag g (4)) e) g t #[a,b,c,d,e,l,j,i]:=w.set_ 4 e;have z:au ((((((x.setCell (ag g (0)) a).setCell (ag g (1)) b).setCell (ag g (2)) c).setCell (ag g (3)) d).setCell (ag g (4)) e).setCell (ag g (5)) f) g t #[a,b,c,d,e,f,j,i]:=y.set_ 5 f;have A:au (((((((x.setCell (ag g (0)) a).setCell (ag g (1)) b).setCell (ag g (2)) c).setCell (ag g (3)) d).setCell (ag g (4)) e).setCell (ag g (5)) f).setCell (ag g (6)) k) g t #[a,b,c,d,e,f,k,i]:=z.set_ 6 k;have B:au ((((((((x.setCell (ag g (0)) a).setCell (ag g (1)) b).setCell (ag g (2)) c).setCell (ag g (3)) d).setCell (ag g (4)) e).setCell (ag g (5)) f).setCell (ag g (6)) k).setCell (ag g (7)) n) g t #[a,b,c,d,e,f,k,n]:=A.set_ 7 n;exact B
def Jt {B:Nat}(h:Below B w x)(l:B<=x.heap.size)(m:B<=g)(a b c d f i j k:Value):Below B w (Aw x g a b c d f i j k):=
 h.grown (Gf x g a b c d f i j k) l λr e=>av (sj e)
def uV (ok:Nat->Prop)(w:World)(p:gP)(c:Array Value):Prop:=∃k a v f A0 n0 c0 A cap,c= #[qI k,af a,af v,.slice A0 n0 c0,af f,.slice A p.scr.length cap,af p.fin,af p.vr]/\bH ok w p.opnd #[qI k,af a,af v,.slice A0 n0 c0,af f]/\p.scr.length<=cap/\cap<=9223372036854775807/\qw ok w A p.scr/\p.fin.size<=1000/\p.vr.size<=1000/\p.scr.length<=1000
def yl (m:bO gP)(w:World)(e:Ending)(w':World):Prop:=(match m with
 | .ok p=>∃c,e= .returned (.tuple #[.agg c,.pointer none])/\uV (λb=>w.heap.size<=b) w' p c
 | .bad er q=>∃g,e= .returned (.tuple #[.agg qU,qP g])/\wY (λb=>w.heap.size<=b) w' g er q)/\Below w.heap.size w w'
structure xQ (w:World)(cs:Array Value)(fin vr:ByteArray)(v:Value)(xs:List aC)(x:World):Prop where
 bel:Below w.heap.size w x
 k0:au x w.heap.size 31 cs
 k1:au x (w.heap.size+1) 143 qU
 k2:au x (w.heap.size+2) 143 (Av v fin vr)
 app:dU (λb=>w.heap.size+2<b) x (w.heap.size+3) v xs
def xQ.keep {w x b:World}{c:Array Value}{fin vr:ByteArray}{v:Value}{xs:List aC}(h:xQ w c fin vr v xs x)(a:Below x.heap.size x b):xQ w c fin vr v xs b:=
 ⟨h.bel.trans (a.mono h.bel.size),jL a h.k0,jL a h.k1,jL a h.k2,h.app.keep a⟩
def xQ.grow {d:World}{f:Array Value}{fin vr:ByteArray}{v:Value}{xs:List aC}(h:xQ w f fin vr v xs x)(a:x.grownBy d (some g))(k:w.heap.size+2<g)(i:∀b,v.ownBlock=some b->b<g)(j:dU (λb=>w.heap.size+2<b/\b<g) x (w.heap.size+3) v xs):xQ w f fin vr v xs d:=
 ⟨h.bel.grown a h.bel.size λr e=>av (sj e),h.k0.grown a λe=>av (sj e),h.k1.grown a λe=>av (sj e),h.k2.grown a λe=>av (sj e),
  (j.zU7 a (λb c e=>aV (i b c) (sj e)) (λb c e=>av (sj e))).weak λb _ c=>c.1⟩
def xQ.set_ {w x:World}{b:Array Value}{fin vr c vr':ByteArray}{v v':Value}{xs:List aC}(h:xQ w b fin vr v xs x)(o:Nat)(u:Value)(f:au (x.setCell (ag (w.heap.size+2) o) u) (w.heap.size+2) 143 (Av v' c vr'))(g:v'=v):xQ w b c vr' v' xs (x.setCell (ag (w.heap.size+2) o) u):=by
 subst g;have a:=kJ x (ag (w.heap.size+2) o) u;exact⟨h.bel.grown a h.bel.size λr e=>by have d:w.heap.size+2=r:=sj e;omega,h.k0.grown a λe=>by have d:w.heap.size=w.heap.size+2:=sj e;omega,h.k1.grown a λe=>by have d:w.heap.size+1=w.heap.size+2:=sj e;omega,f,h.app.set_ (p:=ag (w.heap.size+2) o) (by show ¬(w.heap.size+2<w.heap.size+2);omega) (by show w.heap.size+2<w.heap.size+3;omega) u⟩
def Ju {rs:List aD}{sub:aG}(c:fJ sub=true){v:ByteArray}(h:vY rs sub=some v):v.size<=1000:=by
 unfold vY at h
 split at h
 ·next a b d r hk=>
  split at h
  ·have e:a.text=v:=by simpa using h
   have f:=(Aq (s:=0) (d:=a) c (by rw[hk];rfl)).1;rw[<-e];exact Au f
  ·cases h
 ·cases h
def UT (rs:List aD)(kd:Int){sub:aG}(c:fJ n=true)(b:n.kids=b0::sub::r)(e:fO n.kind=true):((dN rs n (decide (kd=2))).getD ⟨#[]⟩).size<=1000:=by
 cases a:dN rs n (decide (kd=2)) with
 |none=>decide
 |some v=>
  rw[fB];unfold dN at a
  split at a
  ·rw[b] at a;exact Ju (Aq (s:=1) (d:=sub) c (by rw[b];rfl)).1 a
  ·cases a
def Jv (h:fJ n=true)(f:fO n.kind=true):∃b0 sub r,n.kids=b0::sub::r:=by
 have c:=(wu h).2;unfold fO at f;have g:=bD f;unfold lJ at c;rw[ai aa,aM,ai aa,ai aa] at c;have d:2<=n.kids.length:=by
  rcases g with e|e|e
  ·rw[ak aa] at c;have:=bD c.2;omega
  ·rw[ak aa] at c;have:=bD c.2;omega
  ·rw[ai aa,ak e] at c;have:=bD c.2;omega
 match hn:n.kids with
 |[]=>rw[hn] at d;simp at d
 |[_]=>rw[hn] at d;simp at d
 |a::b::r=>exact⟨a,b,r,rfl⟩
def UU (rs:List aD)(kd:Int){sub:aG}(b:n.kids=b0::sub::r)(a:fO n.kind=true):dN rs n (decide (kd=2))=if(decide (kd=2)&& !decide (n.kind=8))=true then vY rs sub else none:=by
 unfold fO at a;have c:=bD a;unfold dN
 by_cases h:decide (kd=2)=true/\(n.kind=7\/n.kind=9)
 ·rw[ak h,b,ak (by rw[h.1,aK aa];rfl)]
 ·rw[ai h,ai];intro e;simp only[aM,nI,decide_eq_false_iff_not] at e;exact h ⟨e.1,aa⟩
def UV (g:Nat)(A:Option Addr)(cap:Nat)(rs:List aD)(f:Nat)(E:Eu g A cap rs f)(n:aG)(c:Array Value)(path:List Int)(W:Option Addr)(a9:Nat)(kd:Int)(w:World)(i1:wX w g A cap rs)(f5:lX w n c)(i2:kK w W path)(i3:fJ n=true)(i4:n.kind=2\/fO n.kind=true)(i5:dK n<=f)(i6:path.length+dK n<=900000):
  Calls prog 100 #[qP g,.agg c,.slice W path.length a9,qI kd] w (yl (lL rs (dE rs f) n path (decide (kd=2))) w):=by
 obtain⟨n8,n9,o0,o1,o2⟩:=Sp.info_parts zN;obtain⟨y,z,rfl,o3,u0,u1,i7⟩:=f5.form;have b6:=aN w (qO n y z);have s1:(w.alloc (qO n y z)).heap.size=w.heap.size+1:=aS
 have d1:=aN (w.alloc (qO n y z)) (.cells qU 143);have s2:((w.alloc (qO n y z)).alloc (.cells qU 143)).heap.size=w.heap.size+2:=aS
 have d2:=aN ((w.alloc (qO n y z)).alloc (.cells qU 143)) (.cells qU 143);have i8:=((b6.trans (d1.mono b6.size)).trans (d2.mono (b6.trans (d1.mono b6.size)).size))
 have i9:=ae d2 (ae d1 (au.new w 31 (qC n y z)));have f6:=ae d2 (au.new (w.alloc (qO n y z)) 143 qU);rw[s1] at f6;have f7:=au.new ((w.alloc (qO n y z)).alloc (.cells qU 143)) 143 qU;rw[s2] at f7;have B:=zh (xQ.mk (xs:=[]) (v:=qN) i8 i9 f6 f7 (dU.nil _ _ _));have j0:=zh i1;have u2:=zh f5;have j1:=zh i7;have o4:=zh i2;have b7:=zh i3;have o5:=zh i5;have j2:=zh i6;have o6:=zh i4;have o7:=zh E;clear i1 f5 i7 i2 i3 i5 i6 i4 o3 E b6 d1 d2 s1 s2 i8 i9 f6 f7;go_enter func100,ntmps100;go_upto_region 2 with(fail)
 generalize ((w.alloc (qO n y z)).alloc (.cells qU 143)).alloc (.cells qU 143)=d3 at*;have f8:=B.o.k0.cell 0
 by_cases X:n.kind=2
 ·have d4:(n.kind==2)=true:=aT.2 X;have o8:=ah (lL rs (dE rs f) n path (decide (kd=2))= .ok lZ) (by unfold lL;rw[ak X]);have f9:=λi=>B.o.k2.cell i
  have j3:=λi=>B.o.k1.cell i
  have j4:=λi=>B.o.k1.frozen i
  have b8:=zh B.o.k1;clear X;go_wp2_with fail;have b9:=zh (BU b8.o (qI 0) qE qE qN qE qN qE qE);have c0:=zh (Jt (g:=w.heap.size+1) B.o.bel B.o.bel.size aa (qI 0) qE qE qN qE qN qE qE);have c1:=zh (Gf d3 (w.heap.size+1) (qI 0) qE qE qN qE qN qE qE);change bodyPost _ _ _ _ _ (Aw d3 (w.heap.size+1) (qI 0) qE qE qN qE qN qE qE);generalize Aw d3 (w.heap.size+1) (qI 0) qE qE qN qE qN qE qE=j5 at*;have c2:=b9.o.cell;exact aB (v:=.tuple #[.agg #[qI 0,qE,qE,qN,qE,qN,qE,qE],.pointer none]) (by simp[results,results100,go_sem,c2]) rfl (show yl _ _ _ _ by rw[o8.o];exact⟨⟨_,rfl,_,_,_,_,_,_,_,_,_,rfl,Jp _ _,aH _,aI,(λi x h=>by simp[lZ] at h),aI,aI,aI⟩,c0.o⟩)
 have d4:(n.kind==2)=false:=bn X;have d5:=zh (o6.o.resolve_left X);have Y:=zh (Jv b7.o d5.o);obtain⟨b0,sub,o9,j6⟩:=Y.o;have Y:=zh j6;clear j6;have g0:=zh (UU rs kd Y.o d5.o);have j7:=ah (lL rs (dE rs f) n path (decide (kd=2))=(kF (dE rs f) path (n.kids.drop 1) 1 (if(dN rs n (decide (kd=2))).isSome then 2 else 0)).then_ λg1=>.ok ⟨pO,g1,nD n.kind,(dN rs n (decide (kd=2))).getD ⟨#[]⟩⟩) (by unfold lL;rw[ai X,List.drop_one]);clear X;go_upto_region 5 with(fail)
 go_cut [27] (λb wc=>b= .bool (decide (kd=2)&& !decide (n.kind=8))/\wc=d3)
 case first=>
  by_cases S:kd=2
  case neg=>
   have p0:(kd==2)=false:=bn S;have d6:=zh (aK S);clear S;go_wp2;go_meet;exact⟨by rw[d6.o];rfl,rfl⟩
  have p0:(kd==2)=true:=aT.2 S;have d6:=zh (aJ S);clear S
  by_cases C:n.kind=8
  ·have Z:(n.kind==8)=true:=aT.2 C;have p1:(n.kind !=8)=false:=by rw[bne,Z];rfl
   have M:=zh (aJ C);clear C;go_wp2;go_meet;exact⟨by rw[d6.o,M.o];rfl,rfl⟩
  ·have Z:(n.kind==8)=false:=bn C;have p1:(n.kind !=8)=true:=by rw[bne,Z];rfl
   have M:=zh (aK C);clear C;go_wp2;go_meet;exact⟨by rw[d6.o,M.o];rfl,rfl⟩
 obtain⟨rfl,rfl⟩:=hcut;go_upto_if 27 with(fail)
 go_cut [11] (λg2 wc=>g2=qI ((if(dN rs n (decide (kd=2))).isSome=true then 2 else 0:Nat):Int)/\Hy (xQ w (qC n y z) ⟨#[]⟩ ((dN rs n (decide (kd=2))).getD ⟨#[]⟩) qN [] wc))
 case first=>
  cases d7:(decide (kd=2)&& !decide (n.kind=8))
  ·have c3:=ah (dN rs n (decide (kd=2))=none) (by rw[g0.o,d7];rfl);clear d7;go_wp2;go_meet;exact⟨by rw[c3.o];rfl,by rw[c3.o];exact B⟩
  ·have j8:=ah (mO wc y (b0::sub::o9)) (by rw[<-Y.o];exact j1.o.keep B.o.bel);obtain⟨F,d8,d9,rfl,j9,p2,u3,g3,g4,g5,g6⟩:=Gc j8.o;obtain⟨u4,u5,k0,u6,p3,p4,p5,p6⟩:=Jk j8.o;have p7:=zh k0;have e0:=zh (j0.o.keep B.o.bel);have p8:(1:Int)<(n.kids.length:Int):=by rw[Y.o,aY,aY];omega
   have g7:=B.o.k0.cell 3;have c3:=ah (dN rs n (decide (kd=2))=if Ao rs sub=true then some (wZ rs sub) else none) (by rw[g0.o,d7,ak rfl,UA]);clear d7 p2 k0 g3 g4 g5 g6;go_wp2_with fail;refine(UB g A cap rs sub _ wc e0.o p7.o).mono ?_;rintro e u7 ⟨rfl,j⟩;have c4:=zh (B.o.keep j);clear j g7 p3 p4 p5 p6 p8;have f9:=λi=>c4.o.k2.cell i
   have p9:=λi=>c4.o.k2.frozen i
   generalize wZ rs sub=k1 at*;cases e1:Ao rs sub
   ·have c5:=ah (dN rs n (decide (kd=2))=none) (by rw[c3.o,e1];rfl);clear e1;go_wp2;go_meet;exact⟨by rw[c5.o];rfl,by rw[c5.o];exact c4⟩
   ·have c5:=ah (dN rs n (decide (kd=2))=some k1) (by rw[c3.o,e1];rfl);clear e1;go_wp2;go_meet;refine⟨by rw[c5.o];rfl,?_⟩;rw[c5.o];exact zh (c4.o.set_ 7 _ (c4.o.k2.set_ 7 (af k1)) rfl)
 obtain⟨rfl,G⟩:=hcut;clear B;have q0:=ah (((dN rs n (decide (kd=2))).getD ⟨#[]⟩).size<=1000) (UT rs kd b7.o Y.o d5.o);clear g0;generalize (dN rs n (decide (kd=2))).getD ⟨#[]⟩=vr at*;have q1:=ah ((if(dN rs n (decide (kd=2))).isSome=true then 2 else 0:Nat)<=2) (by split<;>omega);generalize (if(dN rs n (decide (kd=2))).isSome=true then 2 else 0:Nat)=g8 at*;have f8:=G.o.k0.cell 0
 go_upto_block 0 with(fail)
 clear f8
 go_cut [] (λq2=>Hy (xQ w (qC n y z) (nD n.kind) vr qN [] q2))
 case first=>
  have f8:=G.o.k0.cell 0;have f9:=λi=>G.o.k2.cell i
  have p9:=λi=>G.o.k2.frozen i
  by_cases T:n.kind=7
  ·have q3:(n.kind==7)=true:=aT.2 T;have M:=ah (nD n.kind=dM) (by unfold nD;rw[ak T]);clear T;go_wp2;go_meet;rw[M.o];exact zh (G.o.set_ 6 _ (G.o.k2.set_ 6 (af dM)) rfl)
  have q3:(n.kind==7)=false:=bn T
  by_cases C:n.kind=8
  ·have Z:(n.kind==8)=true:=aT.2 C;have M:=ah (nD n.kind=dV) (by unfold nD;rw[ai T,ak C]);clear T C;go_wp2;go_meet;rw[M.o];exact zh (G.o.set_ 6 _ (G.o.k2.set_ 6 (af dV)) rfl)
  have Z:(n.kind==8)=false:=bn C;have M:=ah (nD n.kind=jU) (by unfold nD;rw[ai T,ai C]);clear T C;go_wp2;go_meet;rw[M.o];exact zh (G.o.set_ 6 _ (G.o.k2.set_ 6 (af jU)) rfl)
 have k2:=hcut;clear hcut G;have q4:=ah ((nD n.kind).size<=1000) (by unfold nD;split<;>(try split)<;>decide);generalize nD n.kind=N at*;have q5:=ah (2<=n.kids.length) (by rw[Y.o,aY,aY];omega);go_wp2_with fail
 go_loopw [11,14] (λg2 i wr=>∃(s b:Nat) (m:List aC) (v:Value),1<=s/\s<=n.kids.length/\b<=2/\i=qI s/\g2=qI b/\m.length<=s/\Hy (qR (kF (dE rs f) path (n.kids.drop 1) 1 g8) m (kF (dE rs f) path (n.kids.drop s) s b))/\Hy (xQ w (qC n y z) N vr v m wr)) (λ_ i _=>n.kids.length -(intOf i).toNat)
 case atStart=>exact⟨1,g8,[],_,aa,av q5.o,q1.o,rfl,rfl,aS,zh (qR.start _),k2⟩
 case round=>
  clear k2;obtain⟨s,b,m,v,u8,O,q6,rfl,rfl,u9,e2,q⟩:=hrel;have g7:=q.o.k0.cell 3
  by_cases k3:s<n.kids.length
  ·obtain⟨d,c6⟩:∃d,n.kids[s]?=some d:=⟨_,gE k3⟩
   obtain⟨F,d8,d9,rfl,j9,v0,q7,q8,k4,q9,r0,r1,r2,k5⟩:=j1.o.at_ c6;have g9:(⟨(F.add (s*4)).block,(F.add (s*4)).off+3,none⟩:Addr).block<w.heap.size:=by show(F.add (s*4)).block<_;rw[gX];exact j9
   have k6:=zh ((q.o.bel.cell g9).trans k5);have k7:=ah ((⟨(F.add (s*4)).block,(F.add (s*4)).off+3,none⟩:Addr).block<wr.heap.size) (ll g9 q.o.bel.size);have r3:=zh k4;have k8:=zh (Js c6);have r4:=zh (Jr b7.o (λe=>by have h:=d5.o;unfold fO at h;have:=bD h;omega) c6);have h0:=ah (qR (kF (dE rs f) path (n.kids.drop 1) 1 g8) m ((dE rs f d.kids (path++[(s:Int)]) b).then_ λh1=>(kF (dE rs f) path (n.kids.drop (s+1)) (s+1) 0).then_ λg1=>.ok (h1::g1))) (by rw[<-Jq c6];exact e2.o);obtain⟨J,e3⟩:∃J,J=path++[(s:Int)]:=⟨_,rfl⟩
   have r5:=zh e3;have r6:=ah (J.length=path.length+1) (by rw[e3,aO];rfl);rw[<-e3] at h0;clear e3 c6 k4 q9 r0 r1 r2 k5 g9 e2;have k9:=zh (o4.o.keep q.o.bel);have e0:=zh (j0.o.keep q.o.bel);have l0:=zh (r3.o.keep q.o.bel);have c7:=ah (w.heap.size+2<wr.heap.size) q.o.k2.lt;go_upto_region 18 with(fail)
   clear g7;refine qm [2,2,1,2,2,2,1,2,2,1,1,1,2,1,2,2,2,1,3,2] (List.replicate 20 false) (λa=>[qP g,aR w.heap.size (3),ay F n.kids.length z,qI (↑s),az (F.add (s*4)),az ⟨(F.add (s*4)).block,(F.add (s*4)).off+3,none⟩,.slice d8 d.kids.length d9,.slice W path.length a9,qI (↑s),ay ⟨a.n 66,0,none⟩ 1 1,ay ⟨a.n 67,0,none⟩ 2 2,a.v 68,qI (b:Int),.tuple #[a.v 70,a.v 71],.tuple #[a.v 70,a.v 71],a.v 70,a.v 71,qP (a.n 15),undef,a.v 71]) [(9,λa t=>au t (a.n 66) 3 #[qI (s:Int)]),(10,λa t=>au t (a.n 67) 32 #[.slice W path.length a9,ay ⟨a.n 66,0,none⟩ 1 1]),(11,λa t=>∃K H,a.v 68= .slice K J.length H/\J.length<=H/\H<=9223372036854775807/\kK t K J),(13,λa t=>xc (a.n 70) (a.n 71) (dE rs f d.kids J b) t (a.v 70) (a.v 71)/\wr.heap.size<=a.n 70/\a.n 70<=a.n 71),(17,λa t=>au t (a.n 15) 25 cK/\wr.heap.size<=a.n 15)] (λa t=>(a.n 15=0\/a.n 15<t.heap.size)/\a.n 71<=t.heap.size/\(a.n 15=0\/a.n 71=0\/a.n 15<a.n 70\/a.n 71<=a.n 15)) (bV.cons (λa t e4 h j=>ae j h) (bV.cons (λa t e4 h j=>ae j h) (bV.cons (λa t e4 ⟨K,H,r7,S,r8,r9⟩ j=>⟨K,H,r7,S,r8,r9.keep j⟩) (bV.cons (λa t e4 h j=>⟨h.1.keep j,h.2⟩) (bV.cons (λa t e4 h j=>⟨ae j h.1,h.2⟩) bV.nil))))) (⟨.inl rfl,dZ _,.inl rfl⟩) ?_ ?_
   ·refine⟨jC,jI,jR λa k u=>(ae u q.o.k0).cell 3,jC,λa k=>?_,jI,jR λa k u=>(u.cell k7.o).trans k6.o,jC,jC,λa k u I D=>?_,λa k u I D=>?_,λa k u I D=>?_,jC,λa k u I D=>?_,jC,jC,jC,λa k u I D=>?_,jC,trivial⟩
    ·exact jp (az (F.add (s*4))) (gY k3) rfl
    ·exact jv (ay (ag k.heap.size (0)) 1 1) (k.alloc (.cells #[qI (s:Int)] 3)) iw ⟨a.setN 66 k.heap.size,rfl,jD,aN k _,⟨au.new k _ _,jG,jG,jG,jH,trivial⟩,(by obtain⟨P,Q,R⟩:=I;have O:=(aN k (.cells #[qI (s:Int)] 3)).size;exact⟨P.imp id (λh=>ll h O),ax Q O,R⟩)⟩
    ·have h2:=jE D.1;exact jv (ay (ag k.heap.size (0)) 2 2) (k.alloc (.cells #[.slice W path.length a9,ay ⟨a.n 66,0,none⟩ 1 1] 32)) iw ⟨a.setN 67 k.heap.size,rfl,jD,aN k _,⟨jH,au.new k _ _,jG,jG,jH,trivial⟩,(by obtain⟨P,Q,R⟩:=I;have O:=(aN k (.cells #[.slice W path.length a9,ay ⟨a.n 66,0,none⟩ 1 1] 32)).size;exact⟨P.imp id (λh=>ll h O),ax Q O,R⟩)⟩
    ·have h2:=jE D.1;have l1:=jE D.2.1;refine jc 48 (#[ay ⟨a.n 67,0,none⟩ 2 2]) k aj ((Ep (a.n 67) (a.n 66) W path a9 (s:Int) k l1 h2 (k9.o.keep u) (av j2.o)).mono ?_);rintro e l2 ⟨⟨Z,K,H,l3,rfl,l4,l5,h3,_⟩,j⟩;rw[<-r5.o] at l3;subst l3;exact⟨_,rfl,a.setV 68 (.slice K Z.length H),rfl,jD,j,⟨jH,jH,⟨K,H,rfl,l4,l5,h3⟩,jG,jH,trivial⟩,(by obtain⟨P,Q,R⟩:=I;have O:=j.size;exact⟨P.imp id (λh=>ll h O),ax Q O,R⟩)⟩
    ·have h2:=jE D.1;have l1:=jE D.2.1;have s0:=jE D.2.2.1;obtain⟨K,H,s3,l4,l5,h3⟩:=s0;refine jc 69 (#[qP g,.slice d8 d.kids.length d9,.slice K J.length H,qI b]) k (bT s3) ((o7.o d.kids J b d8 K d9 H k (e0.o.keep u) (l0.o.keep u) q7 q8 h3 (fD r6.o j2.o k8.o) (aV o5.o k8.o) r4.o q6).mono ?_);rintro e l2 s4;obtain⟨s5,s6,rfl,e5,j⟩:=s4.res;exact⟨_,rfl,(((a.setV 70 s5).setV 71 s6).setN 70 k.heap.size).setN 71 l2.heap.size,rfl,jD,j,⟨jH,jH,jH,⟨e5,u.size,j.size⟩,jH,trivial⟩,(by obtain⟨P,Q,R⟩:=I;exact⟨P.imp id (λh=>ll h j.size),aH _,P.elim .inl (λh=>.inr (.inr (.inl h)))⟩)⟩
    ·exact jv (qP k.heap.size) (k.alloc (.cells cK 25)) ol ⟨a.setN 15 k.heap.size,rfl,jD,aN k _,⟨jH,jH,jH,jH,⟨au.new k _ _,u.size⟩,trivial⟩,(by obtain⟨P,Q,R⟩:=I;exact⟨.inr (by show k.heap.size<_;simp),ax Q (aN k (.cells cK 25)).size,.inr (.inr (.inr Q))⟩)⟩
   ·refine λa k u I D=>?_
    dsimp only[ji] at D;change wpOps _ _ _ [18] _ _;obtain⟨-,-,-,⟨e5,l6,l7⟩,⟨l8,l9⟩,-⟩:=D;obtain⟨-,-,R⟩:=I;have e6:=zh (q.o.keep u);have a0:=zh ((q.o.app.weak (P':=λb=>w.heap.size+2<b/\b<wr.heap.size) λb j h=>⟨h,j⟩).keep u);have e7:=zh (λb j=>(q.o.app.ltT b j).2);have c8:=zh l8;have m0:=ah (a.n 15<a.n 70\/a.n 71<=a.n 15) (av c7.o);have E:=zh (And.intro l6 (And.intro l7 l9));have e8:=zh e5;clear e5 l6 l7 l8 l9 R u q k9 e0 l0 k6 k7;generalize a.n 15=l at*;generalize a.n 70=v1 at*;generalize a.n 71=v2 at*;generalize a.v 70=v3 at*;generalize a.v 71=v4 at*;generalize a.n 66=v5 at*;generalize a.n 67=v6 at*;generalize a.v 68=v7 at*;clear a;generalize k=b1 at*;have e9:=c8.o.cell;have f0:=c8.o.frozen;cases b2:dE rs f d.kids J b with
    |bad s7 m1=>
     have c9:=e8.o;rw[b2] at c9;obtain⟨rfl,m2,rfl,m3⟩:=c9;have m4:=zh m3;have h4:=ah (lL rs (dE rs f) n path (decide (kd=2))= .bad s7 m1) (by rw[j7.o,h0.o.bad b2];rfl);clear m3 e8 b2;have a1:=zh (xP b1 l (qI 0) qE qE qN qE);refine oL (o:=_) rfl rfl (w':=((((b1.setCell (ag l (0)) (qI 0)).setCell (ag l (1)) qE).setCell (ag l (2)) qE).setCell (ag l (3)) qN).setCell (ag l (4)) qE) (ek e9 f0) ?_;refine jo ?_;clear e9 f0;generalize ((((b1.setCell (ag l (0)) (qI 0)).setCell (ag l (1)) qE).setCell (ag l (2)) qE).setCell (ag l (3)) qN).setCell (ag l (4)) qE=U at*;have L:=zh (e6.o.grow a1.o (aV E.o.2.2 c7.o) (λb j=>aV (e7.o b j) E.o.2.2) (a0.o.weak λb _ j=>⟨j.1,av E.o.2.2⟩));have s8:=zh ((m4.o.grown a1.o λj=>av m0.o).any (ok':=λb=>w.heap.size+2<b) λb _ j=>aV E.o.1 c7.o);clear a1 m4 e6 a0 c8 e7;have j3:=λi=>L.o.k1.cell i
     have j4:=λi=>L.o.k1.frozen i
     have b8:=zh L.o.k1;go_wp2_with fail;have b9:=zh (BU b8.o (qI 0) qE qE qN qE qN qE qE);have c0:=zh (Jt (g:=w.heap.size+1) L.o.bel L.o.bel.size aa (qI 0) qE qE qN qE qN qE qE);have c1:=zh (Gf U (w.heap.size+1) (qI 0) qE qE qN qE qN qE qE);change bodyPost _ _ _ _ _ (Aw U (w.heap.size+1) (qI 0) qE qE qN qE qN qE qE);generalize Aw U (w.heap.size+1) (qI 0) qE qE qN qE qN qE qE=j5 at*;have c2:=b9.o.cell;exact aB (v:=.tuple #[.agg #[qI 0,qE,qE,qN,qE,qN,qE,qE],qP m2]) (by simp[results,results100,go_sem,c2]) rfl (show yl _ _ _ _ by rw[h4.o];exact⟨⟨m2,rfl,(s8.o.grown c1.o λj=>aa).any λb _ j=>aa⟩,c0.o⟩)
    |ok h1=>
     have c9:=e8.o;rw[b2] at c9;obtain⟨v8,rfl,rfl,h5⟩:=c9;obtain⟨a2,a3,a4,a5,a6,a7,a8,rfl⟩:=h5.ext;have m5:=zh h5;have s9:=zh (h0.o.next b2);clear h5 e8 b2;have a1:=zh (xP b1 l (qI a2) (af a3) (af a4) (.slice a5 a6 a7) (af a8));have t0:=zh (sK c8.o (qI a2) (af a3) (af a4) (.slice a5 a6 a7) (af a8));refine oL (o:=_) rfl rfl (w':=((((b1.setCell (ag l (0)) (qI a2)).setCell (ag l (1)) (af a3)).setCell (ag l (2)) (af a4)).setCell (ag l (3)) (.slice a5 a6 a7)).setCell (ag l (4)) (af a8)) (ek e9 f0) ?_;refine jo ?_;clear e9 f0;generalize ((((b1.setCell (ag l (0)) (qI a2)).setCell (ag l (1)) (af a3)).setCell (ag l (2)) (af a4)).setCell (ag l (3)) (.slice a5 a6 a7)).setCell (ag l (4)) (af a8)=U at*;have L:=zh (e6.o.grow a1.o (aV E.o.2.2 c7.o) (λb j=>aV (e7.o b j) E.o.2.2) (a0.o.weak λb _ j=>⟨j.1,av E.o.2.2⟩));have m6:=zh (m5.o.grown (ok':=λb=>v.ownBlock≠some b/\w.heap.size+2<b) a1.o (λb _ j e=>aV (sj e) m0.o) λb _ j=>⟨λe=>aV (e7.o b e) E.o.1,aV E.o.1 c7.o⟩);clear a1 m5 e6 a0 c8;go_upto_region 21 with(fail)
     obtain⟨g3,g4,g5,g6,t1⟩:=qc t0;have t2:=L.o.k2.cell 5;have h6:=aN U (.cells #[qI a2,af a3,af a4,.slice a5 a6 a7,af a8] 25);have V:=zh (L.o.keep h6);have h7:=zh (m6.o.keep h6);have m7:=zh (au.new U 25 #[qI a2,af a3,af a4,.slice a5 a6 a7,af a8]);have t3:=ah (w.heap.size+2<U.heap.size) L.o.k2.lt;clear h6;obtain⟨v9,h8,m8,m9⟩:=V.o.app;have w0:m.length<=1001:=av (Ev b7.o)
     have n0:=Sp.vF m7.o rfl (n:=5);have n1:=yI h7.o;go_wp2_with (at_builtin;refine uG _ rfl (.tmp 78) (.tmp 80) 23 rfl (w.heap.size+3) 25 n8 (.agg qT) 5 80 underlying23 n9 o0 o1 o2 rfl aI _ _ _ rfl h8 _ (some (ag U.heap.size (0))) 1 1 (#[qI a2,af a3,af a4,.slice a5 a6 a7,af a8]:Array Value).toList rfl n0 n1 gy aa (by have:=t3.o;simp;omega) ?_)
     intro w1 t4 d4 b3 n2;have a0:=dU.push m8 m9 h7.o d4 b3 (by rw[dY];exact n2);have d0:∀b,v.ownBlock=some b->w.heap.size+3<=b:=λb j=>(V.o.app.ltT b j).1
     have h9:=zh (V.o.bel.grown b3 V.o.bel.size λr e=>av (d0 r e));have n3:=zh (V.o.k0.grown b3 λe=>by have:=d0 _ e.symm;omega);have n4:=zh (V.o.k1.grown b3 λe=>by have:=d0 _ e.symm;omega);have f1:=zh (V.o.k2.grown b3 λe=>by have:=d0 _ e.symm;omega);have i0:=zh a0;clear a0 h8 m8 m9 d4 b3 n2 d0 V h7 m7 g3 g4 g5 g6 t1 t2 L m6 n0 n1;obtain⟨f2,f3,n5,_⟩:=i0.o.form (λb j=>aa);rw[aO,gN] at n5;subst n5;have w2:=f1.o.cell 5;have w3:=f1.o.frozen 5;have f4:=zh (kJ t4 ⟨w.heap.size+2,5,none⟩ (.slice f2 (m.length+1) f3));have t5:=zh (xQ.mk (h9.o.grown f4.o h9.o.size λr e=>by have n6:w.heap.size+2=r:=sj e;omega) (n3.o.grown f4.o λe=>by have n6:w.heap.size=w.heap.size+2:=sj e;omega) (n4.o.grown f4.o λe=>by have n6:w.heap.size+1=w.heap.size+2:=sj e;omega) (show au _ _ _ (Av (.slice f2 (m.length+1) f3) N vr) from f1.o.set_ 5 (.slice f2 (m.length+1) f3)) (i0.o.set_ (p:=ag (w.heap.size+2) (5)) (by show ¬(w.heap.size+2<w.heap.size+2);omega) (by show w.heap.size+2<w.heap.size+3;omega) (.slice f2 (m.length+1) f3)));clear h9 n3 n4 f1 i0 f4;go_wp2;go_roundw
     case rel=>exact⟨s+1,0,m++[h1],_,aa,aa,aa,bi,rfl,by rw[aO,gN];omega,s9,t5⟩
     case measure=>simp[intOf];omega
  ·obtain rfl:s=n.kids.length:=by omega
   rw[nQ,kF] at e2;have t6:=zh e2.o.end;have h4:=ah (lL rs (dE rs f) n path (decide (kd=2))= .ok ⟨pO,m,N,vr⟩) (by rw[j7.o,t6.o];rfl);obtain⟨b4,b5,rfl,t7,t8,n7⟩:=q.o.app.form λb j=>aa
   have t9:=zh n7;have f9:=λi=>q.o.k2.cell i
   have j3:=λi=>q.o.k1.cell i
   have j4:=λi=>q.o.k1.frozen i
   have b8:=zh q.o.k1;clear n7;go_wp2_with fail;have b9:=zh (BU b8.o (qI 0) qE qE qN qE (.slice b4 m.length b5) (af N) (af vr));have c0:=zh (Jt (g:=w.heap.size+1) q.o.bel q.o.bel.size aa (qI 0) qE qE qN qE (.slice b4 m.length b5) (af N) (af vr));have c1:=zh (Gf wr (w.heap.size+1) (qI 0) qE qE qN qE (.slice b4 m.length b5) (af N) (af vr));change bodyPost _ _ _ _ _ (Aw wr (w.heap.size+1) (qI 0) qE qE qN qE (.slice b4 m.length b5) (af N) (af vr));generalize Aw wr (w.heap.size+1) (qI 0) qE qE qN qE (.slice b4 m.length b5) (af N) (af vr)=j5 at*;have c2:=b9.o.cell;exact aB (v:=.tuple #[.agg #[qI 0,qE,qE,qN,qE,.slice b4 m.length b5,af N,af vr],.pointer none]) (by simp[results,results100,go_sem,c2]) rfl (show yl _ _ _ _ by rw[h4.o];exact⟨⟨_,rfl,_,_,_,_,_,_,_,_,_,rfl,Jp _ _,t7,t8,t9.o.map c1.o.size (λb _ j=>aa) (λm1 _ h8=>dm (c1.o.block _ ‹_› λe=>av (sj e))),q4.o,q0.o,by have:=Ev b7.o;show m.length<=1000;omega⟩,c0.o⟩)
end Go.Proofs.YtlefbenkhgbifaaGreatDoor.El
