/- Equal of terms, of the program: a stack of pairs. -/
import Derived.Test.YtlefbenkhgbifaaGreatDoorH03114298
set_option linter.all false
set_option maxRecDepth 100000
set_option maxHeartbeats 8000000
namespace Go.Proofs.YtlefbenkhgbifaaGreatDoor.Rn
open At Ch Sp Sy El Go.RowKit Tryz
variable{P:Nat->Prop}{n B:Nat}{w:World}
def He :∀n,P n->∃m,P m/\∀k,P k->m<=k:=by
 intro n
 induction n using Nat.strongRecOn with
 |_ n c=>
  intro d
  by_cases h:∃k,k<n/\P k
  ·obtain⟨k,a,b⟩:=h;exact c k a b
  ·exact⟨n,d,λk b=>lH λa=>h ⟨k,a,b⟩⟩
open Classical in
noncomputable def EP (P:Nat->Prop):Nat:=if h:∃m,P m/\∀k,P k->m<=k then Classical.choose h else 0
def Yk (h:P n):EP P<=n:=by
 unfold EP;rw[dif_pos (He n h)];exact(Classical.choose_spec (He n h)).2 n h
def Yl (h:P n):P (EP P):=by
 unfold EP;rw[dif_pos (He n h)];exact(Classical.choose_spec (He n h)).1
abbrev wC:=Addr×Addr×aC×aC
def pY (e:wC):List Value:=[az (e.1),az (e.2.1)]
def uR (es:List wC):Bool:=es.all λe=>mq e.2.2.1 e.2.2.2
def lV (es:List wC):Nat:=bq (es.map λe=>e.2.2.2)
def xU (w:World)(B:Nat)(v:Value)(es:List wC):Prop:=w.ownsRow B 107 2 v es.length (es.reverse.flatMap pY)
def EQ (w:World)(es:List wC):Prop:=∀e∈es,(∃A cap,sH w e.1 e.2.2.1 A cap)/\∃A cap,sH w e.2.1 e.2.2.2 A cap
def zA (l:List wC):(l.flatMap pY).length=l.length*2:=by
 induction l with
 |nil=>rfl
 |cons a l b=>rw[gT,aO,b];simp[pY];omega
def Ym (l:List wC)(e:wC)(j:Nat)(a:j<2):((l++[e]).flatMap pY)[l.length*2+j]?=(pY e)[j]?:=by
 rw[fH,cO (by rw[zA];omega),zA];simp
def xU.top {v:Value}{e:wC}{es:List wC}(h:xU w B v (e::es)):∃g cap,v=ay (ag g (0)) (es.length+1) cap/\B<=g/\es.length+1<=cap/\w.cell? (ag g (es.length*2))=some (az (e.1))/\w.cell? (ag g (es.length*2+1))=some (az (e.2.1))/\xU w B (ay (ag g (0)) es.length cap) es:=by
 obtain⟨t,⟨rfl,n⟩|⟨g,cap,b,rfl,c,d,f,o,p,i⟩⟩:=h
 ·simp at n
 ·have q:au w g 107 b:=d;have k:∀j,j<2->w.cell? (ag g (es.length*2+j))=(pY e)[j]?:=λj r=>by
   rw[q.cell];have a:=Ym es.reverse e j r;rw[uC,<-List.reverse_cons,<-i,gU] at a
   split at a
   ·rw[<-gF];exact a
   ·rw[<-a];rename_i s;simp only[aY] at s;omega
  refine⟨g,cap,rfl,c,f,k 0 aa,k 1 aa,⟨by rw[zA,uC],.inr ⟨g,cap,b,rfl,c,d,by simp at f;omega,o,p,?_⟩⟩⟩;have m:=congrArg (List.take (es.length*2)) i;rw[qd,List.reverse_cons,fH,List.take_append_of_le_length (by rw[zA,uC];omega),fA (l:=es.reverse.flatMap pY) (by rw[zA,uC];omega)] at m;rw[<-m]
  congr 1
  simp only[aY];omega
def xU.one (B:Nat)(a:B<=w.heap.size)(e:wC):xU (w.alloc (.cells #[az (e.1),az (e.2.1)] 107)) B (ay (ag w.heap.size (0)) 1 1) [e]:=
 ⟨by simp[pY],.inr ⟨w.heap.size,1,_,rfl,a,au.new w _ _,aH _,gy,rfl,by simp[pY]⟩⟩
def xU.push {w':World}{v':Value}{e:wC}{es:List wC}(h:w'.ownsRow B 107 2 v' (es.length+1) (es.reverse.flatMap pY++pY e)):xU w' B v' (e::es):=by
 unfold xU;rw[List.reverse_cons,fH,aY]
 simpa using h
def xU.len {v:Value}{es:List wC}(h:xU w B v es):∃A cap,v= .slice A es.length cap:=by
 obtain⟨_,⟨rfl,a⟩|⟨g,cap,b,rfl,_⟩⟩:=h
 ·exact⟨none,0,by rw[a]⟩
 ·exact⟨_,cap,rfl⟩
def PX (es:List wC):es.length<=lV es:=by
 unfold lV;have h:=Ee (es.map λe=>e.2.2.2);rw[dI] at h;exact h
def PY:∀(l:List aC) (k:Nat),bq (l.take k)<=bq l
 |[],k=>by rw[qX];exact aH _
 |t::l,0=>by rw[eZ,bq];exact dZ _
 |t::l,k+1=>by
  have:=PY l k;rw[fo,bq,bq];omega
def zB (_ w1:World)(b:Bool)(s:Nat)(v:Value)(wr:World):Prop:=∃es,xU wr w1.heap.size v es/\EQ w1 es/\uR es=b/\lV es=s/\Below w1.heap.size w1 wr
def Yn:(prog.info? 107).map (λi=>(i.zero,i.size,i.bytes))=some (some (.agg #[.pointer none,.pointer none]),2,16):=aj
def Yo (t u:aC)(c d:Array Value)(w:World)(c7:bg u<=1000000)(c8:gK w t c)(c9:gK w u d):Calls prog 47 #[.agg c,.agg d] w λe w'=>e= .returned (.bool (mq t u))/\Below w.heap.size w w':=by
 obtain⟨h0,h1,h2,h3,h4⟩:=Sp.info_parts Yn;obtain⟨A,J,rfl,h5,h6,W,h7,h8,b1⟩:=c8.form;obtain⟨a1,a2,rfl,h9,i0,i1,i2,i3,d0⟩:=c9.form;have b2:=aN w (.cells (aA t.kind t.nam t.vr A t.args.length J t.form) 25);have s1:(w.alloc (.cells (aA t.kind t.nam t.vr A t.args.length J t.form) 25)).heap.size=w.heap.size+1:=aS
 have b3:=aN (w.alloc (.cells (aA t.kind t.nam t.vr A t.args.length J t.form) 25)) (.cells (aA u.kind u.nam u.vr a1 u.args.length a2 u.form) 25);have a3:=b2.trans (b3.mono b2.size);have d1:=ae b3 (au.new w 25 (aA t.kind t.nam t.vr A t.args.length J t.form));have b4:=au.new (w.alloc (.cells (aA t.kind t.nam t.vr A t.args.length J t.form) 25)) 25 (aA u.kind u.nam u.vr a1 u.args.length a2 u.form);rw[s1] at b4;have a4:=zh (show EQ _ [((ag w.heap.size (0)),⟨w.heap.size+1,0,none⟩,t,u)] from λe K=>by
  obtain rfl:=iT.1 K;exact⟨⟨A,J,sH.box d1 h5 h6 W h7 h8 (b1.keep a3)⟩,⟨a1,a2,sH.box b4 h9 i0 i1 i2 i3 (d0.keep a3)⟩⟩)
 have z:=zh a3;have i4:=zh c7;clear c8 c9 b1 d0 b2 b3 s1 a3 d1 b4 c7;go_enter func47,ntmps47;go_upto_region 1 with(fail)
 generalize (w.alloc (.cells (aA t.kind t.nam t.vr A t.args.length J t.form) 25)).alloc (.cells (aA u.kind u.nam u.vr a1 u.args.length a2 u.form) 25)=h at*;have j:=zh (xU.one (w:=h) h.heap.size (aH _) ((ag w.heap.size (0)),⟨w.heap.size+1,0,none⟩,t,u));have f:=zh (aN h (.cells #[qP w.heap.size,qP (w.heap.size+1)] 107));go_wp2_with fail;generalize h.alloc (.cells #[qP w.heap.size,qP (w.heap.size+1)] 107)=d2 at*;have X:=ah (zB w h (mq t u) (bg u) (ay (ag h.heap.size (0)) 1 1) d2) ⟨_,j.o,a4.o,by simp[uR],by simp[lV,bq],f.o⟩;clear j a4 f
 go_loopw [5] (λv wr=>∃s,s<=1000000/\Hy (zB w h (mq t u) s v wr)) (λv wr=>EP λs=>s<=1000000/\zB w h (mq t u) s v wr)
 case atStart=>exact⟨_,i4.o,X⟩
 case round=>
  clear X;obtain⟨s0,d3,d4⟩:=hrel;obtain⟨d5,g,Q,a5,d6,d7,d8⟩:=Yl (P:=λs=>s<=1000000/\zB w h (mq t u) s u5 wr) ⟨d3,d4.o⟩;clear s0 d3 d4;have S:=zh d7;have d9:=zh d6;have f:=zh d8;have Y:=zh d5;clear d7 d6 d8 d5;cases g with
  |nil=>
   obtain⟨m2,e0,rfl⟩:=Q.len;have E:=ah (mq t u=true) d9.o.symm;clear Q a5;go_wp2;go_ret;exact⟨aU E.o.symm,z.o.trans (f.o.mono z.o.size)⟩
  |cons e g=>
   obtain⟨l,q,a,b⟩:=e;obtain⟨m3,e0,rfl,m4,m5,i5,i6,Q⟩:=Q.top;have j:=zh Q;have a4:=ah (EQ h g) (λe K=>a5 e (dP _ K));obtain⟨⟨m6,i7,e1⟩,⟨m7,i8,e2⟩⟩:=a5 _ bZ;have X:=zh e1;have e3:=zh e2;clear Q a5 e1 e2;have i9:=ah (g.length+1<=1000000) (by have T:=S.o;have Z:=Y.o;have U:=PX ((l,q,a,b)::g);rw[T] at U;simp only[aY] at U;omega);have V:=ah (mq t u=(mq a b&&uR g)) d9.o.symm;generalize m8:g.length+1=n at*;have j0:(n:Int) -1=((g.length:Nat):Int):=aa
   have j1:(0:Int)<=(g.length:Int):=aa
   have j2:(g.length:Int)<(n:Int):=aa
   have j3:(0:Int)<(n:Int):=aa
   have m9:n<=1000000:=i9.o;have j4:g.length<=e0:=aa
   go_wp2_with fail
   go_quiet (fail)
   have H:=below_drewN (aL wr.heap.size wr) nq;replace j:=zh (Sp.own_below j.o H);replace f:=jt f H;clear H i5 i6;generalize wr.drewN nq=b5 at*;have b6:=zh (X.o.keep f.o);have e4:=zh (e3.o.keep f.o);obtain⟨_,j5,j6,j7,b7,j8,_⟩:=b6.o;obtain⟨_,j9,k0,k1,k2,k3,_⟩:=e4.o;have F:=ah (mq a b=((a.kind==b.kind&&(a.nam.toList==b.nam.toList&&(a.vr.toList==b.vr.toList&&(a.form.toList==b.form.toList&&decide (a.args.length=b.args.length)))))&&uP a.args b.args)) (by cases a;cases b;unfold mq;rfl);cases L:(a.kind==b.kind)
   ·have E:=ah (mq t u=false) (by rw[V.o,F.o,L];simp);have e5:(a.kind !=b.kind)=true:=by rw[bne,L];rfl
    clear L;go_wp2_with fail
    go_quiet (fail)
    have m:=f.o.trans ((below_drewN (aL _ _) nq).mono f.o.size);go_wp2;go_ret;exact⟨aU E.o.symm,z.o.trans (m.mono z.o.size)⟩
   have e5:(a.kind !=b.kind)=false:=by rw[bne,L];rfl
   rw[L,aW] at F;replace L:=zh L;cases M:(a.nam.toList==b.nam.toList)
   ·have E:=ah (mq t u=false) (by rw[V.o,F.o,M];simp);have e6:(!(a.nam.toList==b.nam.toList))=true:=by rw[M];rfl
    clear M;go_wp2_with fail
    go_quiet (fail)
    have m:=f.o.trans ((below_drewN (aL _ _) nq).mono f.o.size);go_wp2;go_ret;exact⟨aU E.o.symm,z.o.trans (m.mono z.o.size)⟩
   have e6:(!(a.nam.toList==b.nam.toList))=false:=by rw[M];rfl
   rw[M,aW] at F;replace M:=zh M;cases B:(a.vr.toList==b.vr.toList)
   ·have E:=ah (mq t u=false) (by rw[V.o,F.o,B];simp);have e7:(!(a.vr.toList==b.vr.toList))=true:=by rw[B];rfl
    clear B;go_wp2_with fail
    go_quiet (fail)
    have m:=f.o.trans ((below_drewN (aL _ _) nq).mono f.o.size);go_wp2;go_ret;exact⟨aU E.o.symm,z.o.trans (m.mono z.o.size)⟩
   have e7:(!(a.vr.toList==b.vr.toList))=false:=by rw[B];rfl
   rw[B,aW] at F;replace B:=zh B;cases N:(a.form.toList==b.form.toList)
   ·have E:=ah (mq t u=false) (by rw[V.o,F.o,N];simp);have e8:(!(a.form.toList==b.form.toList))=true:=by rw[N];rfl
    clear N;go_wp2_with fail
    go_quiet (fail)
    have m:=f.o.trans ((below_drewN (aL _ _) nq).mono f.o.size);go_wp2;go_ret;exact⟨aU E.o.symm,z.o.trans (m.mono z.o.size)⟩
   have e8:(!(a.form.toList==b.form.toList))=false:=by rw[N];rfl
   rw[N,aW] at F;replace N:=zh N
   by_cases O:a.args.length≠b.args.length
   ·have E:=ah (mq t u=false) (by rw[V.o,F.o,aK O];simp);have e9:((a.args.length:Int) !=(b.args.length:Int))=true:=by rw[pE];omega
    clear O;go_wp2_with fail
    go_quiet (fail)
    have m:=f.o.trans ((below_drewN (aL _ _) nq).mono f.o.size);go_wp2;go_ret;exact⟨aU E.o.symm,z.o.trans (m.mono z.o.size)⟩
   have e9:((a.args.length:Int) !=(b.args.length:Int))=false:=by rw[uy];omega
   replace O:a.args.length=b.args.length:=Classical.not_not.1 O;rw[aJ O,aW] at F;have a0:=zh O;clear O;go_wp2_with fail
   go_quiet (fail)
   have H:=below_drewN (aL b5.heap.size b5) nq;replace j:=zh (Sp.own_below j.o H);replace f:=jt f H;have b7:=(H.cell (p:=aF l 3) b6.o.1).trans b7;clear H j5 j6 j7 j8 j9 k0 k1 k2 k3 e5 e6 e7 e8 e9 b6 e4;generalize b5.drewN nq=n0 at*;go_wp2_with fail;clear b7 j0 j1 j2 j3 j4;have n1:a.args.length<=1000000:=by
    have T:=S.o;have Z:=Y.o;have U:=Ee b.args;have k4:=a0.o;have f0:lV ((l,q,a,b)::g)=bg b+lV g:=rfl;have f1:bg b=bq b.args+1:=by cases b;rw[bg];rfl
    omega
   go_loopw [5,93] (λv b8 wr=>∃(k:Nat) (i:List wC),k<=a.args.length/\b8=qI k/\Hy (xU wr h.heap.size v i)/\Hy (EQ h i)/\Hy (uR i=(uP (a.args.take k) (b.args.take k)&&uR g))/\Hy (lV i=bq (b.args.take k)+lV g)/\Hy (Below h.heap.size h wr)) (λ_ b8 _=>a.args.length -(intOf b8).toNat)
   case atStart=>exact⟨0,g,aa,rfl,j,a4,zh (by rw[eZ,eZ];rfl),zh (by rw[eZ,bq,fe]),f⟩
   case round=>
    clear j f;obtain⟨k,i,b1,rfl,j,f2,f3,b9,f⟩:=hrel;rcases bu k a.args.length with k5|n2
    ·obtain⟨x,c0⟩:∃x,a.args[k]?=some x:=⟨_,gE k5⟩
     obtain⟨y,c1⟩:∃y,b.args[k]?=some y:=⟨_,gE (av a0.o)⟩
     have k6:=zh c0;have f4:=zh c1;obtain⟨c2,_,_,_,a6,_,_,_,_,_,_,f5⟩:=X.o;obtain⟨c3,_,_,_,a7,_,_,_,_,_,_,f6⟩:=e3.o;obtain⟨C,n3,n4,rfl,_,f7⟩:=f5.at_ c0;obtain⟨D,n5,n6,rfl,_,f8⟩:=f6.at_ c1;have k7:=zh f7;have k8:=zh f8;have a6:=(f.o.cell (p:=aF l 3) c2).trans a6;have a7:=(f.o.cell (p:=aF q 3) c3).trans a7;have k9:=ah (l.block<wr.heap.size) (ll c2 f.o.size);have l0:=ah (q.block<wr.heap.size) (ll c3 f.o.size);have c4:(0:Int)<=(k:Int):=aa
     have f9:(k:Int)<(a.args.length:Int):=aa
     have g0:(k:Int)<(b.args.length:Int):=av a0.o
     have l1:=zh (show i.length<=1000000 by
      have T:=PX i;have Z:=b9.o;have U:=S.o;have k4:=Y.o;have f0:lV ((l,q,a,b)::g)=bg b+lV g:=rfl;have f1:bg b=bq b.args+1:=by cases b;rw[bg];rfl
      have n7:bq (b.args.take k)<=bq b.args:=PY b.args k;omega)
     clear c0 c1 f5 f6 f7 f8 c2 c3;go_upto_region 10 with(fail)
     refine qm [2,2,2,2,1,2,2,2,2,2,1,2,2,2,1,3,3] [true,false,false,false,false,false,false,false,false,false,false,false,false,false,false,false,false] (λr=>[u5,az l,az l,aR l.block (l.off+3),ay C a.args.length i7,qI (↑k),az (C.add (k*5)),az q,az q,aR q.block (q.off+3),ay D b.args.length i8,qI (↑k),az (D.add (k*5)),.agg #[az (C.add (k*5)),az (D.add (k*5))],ay ⟨r.n 110,0,none⟩ 1 1,undef,undef]) [(14,λr g1=>au g1 (r.n 110) 107 #[az (C.add (k*5)),az (D.add (k*5))])] (λ_ _=>True) (bV.cons (λr g1 d2 l2 m=>ae m l2) bV.nil) (trivial) ?_ ?_
     ·refine⟨jC,jC,jI,jI,jR λr G I=>(I.cell (p:=aF l 3) k9.o).trans a6,jC,λr G=>?_,jC,jI,jI,jR λr G I=>(I.cell (p:=aF q 3) l0.o).trans a7,jC,λr G=>?_,jI,λr G I g2 W=>?_,trivial⟩
      ·exact jp (az (C.add (k*5))) (yT c4 f9) rfl
      ·exact jp (az (D.add (k*5))) (yT c4 g0) rfl
      ·exact jv (ay (ag G.heap.size (0)) 1 1) (G.alloc (.cells #[az (C.add (k*5)),az (D.add (k*5))] 107)) iw ⟨r.setN 110 G.heap.size,rfl,jD,aN G _,⟨au.new G _ _,trivial⟩,trivial⟩
     ·refine λr G I g2 W=>?_
      dsimp only[ji] at W;change wpOps _ _ _ [15,16] _ _;obtain⟨g3,-⟩:=W;have a8:=jt f I;have c5:=zh (Sp.own_below j.o I);have g4:=Sp.vF g3 rfl (n:=2);have l3:=l1.o;have g5:=a8.o.size;clear I g2 f j a6 a7;generalize r.n 110=l4 at*;clear r;generalize G=g6 at*;refine wo (o:=_) (R:=λa9 w'=>w'.ownsRow h.heap.size 107 2 a9 (i.length+1) (i.reverse.flatMap pY++[az (C.add (k*5)),az (D.add (k*5))])/\g6.grownBy w' u5.ownBlock) rfl rfl (wQ (.tmp 96) (.tmp 110) 108 rfl h.heap.size 107 h0 (.agg #[.pointer none,.pointer none]) 2 16 underlying108 h1 h2 h3 h4 rfl aI u5 i.length (i.reverse.flatMap pY) rfl c5.o g6.heap.size (some (ag l4 (0))) 1 1 [az (C.add (k*5)),az (D.add (k*5))] rfl g4 (by intro u g7;simp at g7;rcases g7 with rfl|rfl<;>rfl) gy aa g5 λa9 w' B b0 _=>⟨B,b0⟩) ?_;rintro a9 n8 ⟨B,b0⟩;have g8:∀b,u5.ownBlock=some b->h.heap.size<=b:=λb m=>(bA c5.o b m).1
      have l5:=zh (a8.o.grown b0 a8.o.size g8);have l6:=zh (xU.push (e:=(C.add (k*5),D.add (k*5),x,y)) B);refine UL (o:=_) (v:=a9) rfl rfl ol ?_;refine jo ?_;clear B b0 g8 a8 c5 g4 g3 l3 g5 c4 f9 g0;have l7:=zh (show EQ h ((C.add (k*5),D.add (k*5),x,y)::i) from λe K=>by
       rcases dD.1 K with rfl|K
       ·exact⟨⟨_,_,k7.o⟩,⟨_,_,k8.o⟩⟩
       ·exact f2.o e K)
      have l8:=zh (show uR ((C.add (k*5),D.add (k*5),x,y)::i)=(uP (a.args.take (k+1)) (b.args.take (k+1))&&uR g) by
       show(mq x y&&uR i)=_;rw[f3.o,OD k6.o f4.o,Bool.and_comm (uP _ _) (mq x y),Bool.and_assoc])
      have l9:=zh (show lV ((C.add (k*5),D.add (k*5),x,y)::i)=bq (b.args.take (k+1))+lV g by
       rw[MC f4.o];show bg y+lV i=_;rw[b9.o];omega)
      go_wp2;go_roundw
      case rel=>exact⟨k+1,_,aa,bi,l6,l7,l8,l9,l5⟩
      case measure=>simp[intOf];omega
    ·obtain rfl:k=a.args.length:=by omega
     have m0:=ah (uR i=mq t u) (by rw[f3.o,V.o,F.o,bW,a0.o,bW]);have m1:=ah (lV i=bq b.args+lV g) (by rw[b9.o,a0.o,bW]);have g9:=ah (zB w h (mq t u) (bq b.args+lV g) u5 wr) ⟨i,j.o,f2.o,m0.o,m1.o,f.o⟩;have c6:=zh (show bq b.args+lV g<lV ((l,q,a,b)::g) by
      have f0:lV ((l,q,a,b)::g)=bg b+lV g:=rfl;have f1:bg b=bq b.args+1:=by cases b;rw[bg];rfl
      omega)
     go_wp2;go_roundw
     case rel=>exact⟨_,by have T:=c6.o;have Z:=S.o;have U:=Y.o;omega,g9⟩
     case measure=>
      refine Nat.lt_of_le_of_lt (Yk (P:=λs=>s<=1000000/\_) ⟨?_,g9.o⟩) ?_
      ·have T:=c6.o;have Z:=S.o;have U:=Y.o;omega
      ·have T:=c6.o;have Z:=S.o;omega
end Go.Proofs.YtlefbenkhgbifaaGreatDoor.Rn
