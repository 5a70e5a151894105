/- operand: the meaning of an operand. -/
import Derived.Test.YtlefbenkhgbifaaGreatDoorH24df69cd
set_option linter.all false
set_option maxRecDepth 100000
set_option maxHeartbeats 8000000
namespace Go.Proofs.YtlefbenkhgbifaaGreatDoor.El
open At Ch Sp Sy Go.RowKit Tryz
def Ev {n:aG}(h:fJ n=true):n.kids.length<=256:=by
 have h:=(wu h).2;unfold lJ at h
 split at h
 ·simp only[aM,eF] at h;omega
 ·rw[aM] at h;have a:=h.2
  repeat' split at a
  all_goals (try simp only[eF] at a)
  all_goals (first|omega|cases a)
structure nX (w:World)(cs:Array Value)(nam frm:ByteArray)(v:Value)(xs:List aC)(x:World):Prop where
 bel:Below w.heap.size w x
 k0:au x w.heap.size 31 cs
 k1:au x (w.heap.size+1) 25 cK
 k2:au x (w.heap.size+2) 25 #[qI 4,af nam,qE,v,af frm]
 app:dU (λb=>w.heap.size+2<b) x (w.heap.size+3) v xs
def nX.keep {w x b:World}{c:Array Value}{nam d:ByteArray}{v:Value}{xs:List aC}(h:nX w c nam d v xs x)(a:Below x.heap.size x b):nX w c nam d v xs b:=
 ⟨h.bel.trans (a.mono h.bel.size),jL a h.k0,jL a h.k1,jL a h.k2,h.app.keep a⟩
def nX.grow {w x d:World}{f:Array Value}{nam i:ByteArray}{v:Value}{xs:List aC}{g:Nat}(h:nX w f nam i v xs x)(a:x.grownBy d (some g))(l:w.heap.size+2<g)(j:∀b,v.ownBlock=some b->b<g)(k:dU (λb=>w.heap.size+2<b/\b<g) x (w.heap.size+3) v xs):nX w f nam i v xs d:=
 ⟨h.bel.grown a h.bel.size λr e=>av (sj e),h.k0.grown a λe=>av (sj e),h.k1.grown a λe=>av (sj e),h.k2.grown a λe=>av (sj e),
  (k.zU7 a (λb c e=>aV (j b c) (sj e)) (λb c e=>av (sj e))).weak λb _ c=>c.1⟩
def UR (g:Nat)(A:Option Addr)(cap:Nat)(rs:List aD)(f:Nat)(y:Eu g A cap rs f)(n:aG)(c:Array Value)(path:List Int)(a8:Option Addr)(c1:Nat)(w:World)(i5:wX w g A cap rs)(f9:lX w n c)(i6:kK w a8 path)(i7:fJ n=true)(i8:n.kind≠1)(i9:dK n<=f)(j0:path.length+dK n<=900000):
  Calls prog 99 #[qP g,.agg c,.slice a8 path.length c1] w (Db (qH (dE rs f) n path) w):=by
 obtain⟨n5,n6,n7,n8,n9⟩:=Sp.info_parts zN;obtain⟨I,J,rfl,j1,t3,t4,j2⟩:=f9.form;have g0:=aN w (qO n I J);have s1:(w.alloc (qO n I J)).heap.size=w.heap.size+1:=aS
 have g1:=aN (w.alloc (qO n I J)) (.cells cK 25);have C:=zh (g0.trans (g1.mono g0.size));have a2:=zh (ae g1 (au.new w 31 (qC n I J)));have z:=zh (au.new (w.alloc (qO n I J)) 25 cK);rw[s1] at z;have j3:=ah (((w.alloc (qO n I J)).alloc (.cells cK 25)).heap.size=w.heap.size+2) (by simp);have o0:=zh i5;have d7:=zh f9;have K:=zh j2;have o1:=zh i6;have a9:=zh i7;have o2:=zh i9;have j4:=zh j0;have j5:=zh i8;have g2:=zh j1;have o3:=zh y;clear i5 f9 j2 i6 i7 i9 j0 i8 j1 y g0 g1 s1;go_enter func99,ntmps99;go_upto_region 1 with(fail)
 generalize (w.alloc (qO n I J)).alloc (.cells cK 25)=g3 at*;obtain⟨g4,g5,g6,g7⟩:=qb a2;have g8:=z.o.cell;have g9:=z.o.frozen
 by_cases D:n.kind=2
 ·have d8:(n.kind==2)=true:=aT.2 D;have a3:=ah (qH (dE rs f) n path= .ok ⟨.mk 2 n.text ⟨#[]⟩ ⟨#[]⟩ [],[],⟨#[]⟩,⟨#[]⟩⟩) (by unfold qH;rw[ak D]);clear D;go_wp2_with fail;obtain⟨d9,B,L,N,b0⟩:=gQ z.o C.o aa (qI 2) (af n.text) qE qN qE;rw[B];obtain⟨O,P,Q,R,S⟩:=jF L;exact aB (v:=.tuple #[.agg #[qI 2,af n.text,qE,qN,qE],.pointer none]) (by simp[results,results99,go_sem,O,P,Q,R,S]) rfl (show Db _ _ _ _ by rw[a3.o];exact⟨⟨_,rfl,bH.zero _ _ 2 n.text g2.o⟩,N.o⟩)
 have d8:(n.kind==2)=false:=bn D
 by_cases T:n.kind=3
 ·have a4:(n.kind==3)=true:=aT.2 T;have a3:=ah (qH (dE rs f) n path= .ok ⟨.mk 1 n.text ⟨#[]⟩ ⟨#[]⟩ [],[],⟨#[]⟩,⟨#[]⟩⟩) (by unfold qH;rw[ai D,ak T]);clear D T;go_wp2_with fail;obtain⟨d9,B,L,N,b0⟩:=gQ z.o C.o aa (qI 1) (af n.text) qE qN qE;rw[B];obtain⟨O,P,Q,R,S⟩:=jF L;exact aB (v:=.tuple #[.agg #[qI 1,af n.text,qE,qN,qE],.pointer none]) (by simp[results,results99,go_sem,O,P,Q,R,S]) rfl (show Db _ _ _ _ by rw[a3.o];exact⟨⟨_,rfl,bH.zero _ _ 1 n.text g2.o⟩,N.o⟩)
 have a4:(n.kind==3)=false:=bn T
 by_cases b1:n.kind=4
 ·have e0:(n.kind==4)=true:=aT.2 b1;have a3:=ah (qH (dE rs f) n path= .ok ⟨.mk 3 n.text ⟨#[]⟩ ⟨#[]⟩ [],[],⟨#[]⟩,⟨#[]⟩⟩) (by unfold qH;rw[ai D,ai T,ak b1]);clear D T b1;go_wp2_with fail;obtain⟨d9,B,L,N,b0⟩:=gQ z.o C.o aa (qI 3) (af n.text) qE qN qE;rw[B];obtain⟨O,P,Q,R,S⟩:=jF L;exact aB (v:=.tuple #[.agg #[qI 3,af n.text,qE,qN,qE],.pointer none]) (by simp[results,results99,go_sem,O,P,Q,R,S]) rfl (show Db _ _ _ _ by rw[a3.o];exact⟨⟨_,rfl,bH.zero _ _ 3 n.text g2.o⟩,N.o⟩)
 have e0:(n.kind==4)=false:=bn b1;have h0:=zh (show n.kids≠[] from λe=>by
  have h:=(wu a9.o).2;rw[e] at h;unfold lJ at h;rw[ai j5.o] at h;simp only[gZ] at h;revert h
  by_cases o4:n.kind=12<;>simp[o4,D,T,b1])
 have a3:=zh (UN (M:=dE rs f) (path:=path) D T b1 h0.o);have j6:=zh (λ(k:World) (j:Below w.heap.size w k)=>Uz n (qC n I J) k (d7.o.keep j) (λ_=>h0.o) (λe=>BS a9.o e) (av (Au a9.o)));clear D T b1;go_upto_region 9 with(fail)
 have e1:=aN g3 (.cells #[qI 4,qE,qE,qN,qE] 25);have U:=zh (au.new g3 25 #[qI 4,qE,qE,qN,qE]);rw[j3.o] at U;replace C:=jt C e1;replace a2:=kp e1 a2;replace z:=kp e1 z;rw[j3.o];clear g4 g5 g6 g7 g8 g9 e1;generalize g3.alloc (.cells #[qI 4,qE,qE,qN,qE] 25)=c2 at*;obtain⟨g4,g5,g6,g7⟩:=qb a2;have e2:=U.o.cell;have h1:=U.o.frozen;go_wp2_with fail;refine(j6.o c2 C.o).mono ?_;rintro e e3 ⟨rfl,j⟩;replace C:=jt C j;replace a2:=kp j a2;replace z:=kp j z;replace U:=kp j U;have j7:=ah ((mo n).1.size<=2000/\(mo n).2.size<=2000) (NF (Au a9.o) (λe=>(BS a9.o e).2));clear j g4 g5 g6 g7 e2 h1 j6;generalize (mo n).1=nam at*;generalize (mo n).2=a5 at*;have e2:=U.o.cell;have h1:=U.o.frozen;go_upto_region 10 with(fail)
 have e4:=(U.o.set_ 1 (af nam)).set_ 4 (af a5);have e5:e3.grownBy ((e3.setCell ⟨w.heap.size+2,1,none⟩ (af nam)).setCell ⟨w.heap.size+2,4,none⟩ (af a5)) (some (w.heap.size+2)):=vJ (kJ e3 ⟨w.heap.size+2,1,none⟩ (af nam)) (kJ _ ⟨w.heap.size+2,4,none⟩ (af a5));have h2:=zh (nX.mk (xs:=[]) (v:=qN) (C.o.grown e5 C.o.size λr e=>av (sj e)) (a2.o.grown e5 λe=>av (sj e)) (z.o.grown e5 λe=>av (sj e)) e4 (dU.nil _ _ _));clear e2 h1 e4 e5 C a2 z U;generalize (e3.setCell ⟨w.heap.size+2,1,none⟩ (af nam)).setCell ⟨w.heap.size+2,4,none⟩ (af a5)=t5 at*;have o5:=h2.o.k0.cell 3;go_wp2_with fail
 go_loopw [41] (λi wr=>∃(s:Nat) (t:List aC) (v:Value),s<=n.kids.length/\i=qI s/\t.length<=s/\Hy (qR (uK (dE rs f) n path 0) t (uK (dE rs f) n path s))/\Hy (nX w (qC n I J) nam a5 v t wr)) (λi _=>n.kids.length -(intOf i).toNat)
 case atStart=>exact⟨0,[],_,aa,rfl,aS,zh (qR.start _),h2⟩
 case round=>
  clear h2;obtain⟨s,t,v,V,rfl,t6,c9,l⟩:=hrel
  by_cases o6:s<n.kids.length
  ·obtain⟨d,d0⟩:∃d,n.kids[s]?=some d:=⟨_,gE o6⟩
   obtain⟨c3,c4,c5,rfl,j8,t7,o7,o8,j9,o9,k0,k1,k2,k3⟩:=K.o.at_ d0;have e6:∀o,(⟨(c3.add (s*4)).block,o,none⟩:Addr).block<w.heap.size:=λo=>by show(c3.add (s*4)).block<_;rw[gX];exact j8
   have W:=(l.o.bel.cell (p:=c3.add (s*4)) (by rw[gX];exact j8)).trans k0;have p0:=(l.o.bel.cell (e6 ((c3.add (s*4)).off+1))).trans k1;have p1:=(l.o.bel.cell (e6 ((c3.add (s*4)).off+2))).trans k2;have p2:=(l.o.bel.cell (e6 ((c3.add (s*4)).off+3))).trans k3;have p3:=zh j9;have k4:=zh (Js d0);have p4:=zh (Jr a9.o j5.o d0);have k5:=zh d0;clear d0 j9 o9 k0 k1 k2 k3 e6;go_upto_region 13 with(fail)
   have c6:=aN wr (qO d c4 c5);have e7:=ah (w.heap.size+2<wr.heap.size) l.o.k2.lt;have e8:=zh (au.new wr 31 (qC d c4 c5));replace l:=zh (l.o.keep c6);clear c6 W p0 p1 p2;generalize wr.heap.size=k6 at*;generalize wr.alloc (qO d c4 c5)=p5 at*
   go_cut [58] (λb wc=>b= .bool (oI n s)/\wc=p5)
   case first=>
    have o5:=l.o.k0.cell 0;have t8:=e8.o.cell 3
    by_cases X:n.kind=6
    case neg=>
     have p6:(n.kind==6)=false:=bn X;have K:=ah (oI n s=false) (by unfold oI;rw[aK X];rfl);clear X;go_wp2;go_meet;exact⟨by rw[K.o],rfl⟩
    have p6:(n.kind==6)=true:=aT.2 X
    by_cases s0:s=0
    case neg=>
     have p7:((s:Int)==0)=false:=wF
     have K:=ah (oI n s=false) (by unfold oI;rw[aK s0];simp);clear X s0;go_wp2;go_meet;exact⟨by rw[K.o],rfl⟩
    have p7:((s:Int)==0)=true:=by rw[s0];rfl
    have a6:∃r,n.kids=d::r:=by
     have h:=k5.o;rw[s0] at h;cases k7:n.kids with
     |nil=>rw[k7] at h;simp at h
     |cons p8 r=>
            rw[k7] at h;obtain rfl:p8=d:=by simpa using h
            exact⟨r,rfl⟩
    obtain⟨r,a6⟩:=a6
    by_cases W:d.kids.length=0
    ·have p9:((d.kids.length:Int)==0)=true:=by rw[W];rfl
     have K:=ah (oI n s=true) (by unfold oI;rw[aJ X,aJ s0,a6];exact lG.2 (eP.1 W));replace a6:=zh a6;replace s0:=zh s0;replace W:=zh W;clear X;go_wp2;go_meet;exact⟨by rw[K.o],rfl⟩
    ·have p9:((d.kids.length:Int)==0)=false:=by rw[aZ];omega
     have K:=ah (oI n s=false) (by unfold oI;rw[aJ X,aJ s0,a6];exact uX.2 λe=>W (by rw[e];rfl));replace a6:=zh a6;replace s0:=zh s0;replace W:=zh W;clear X;go_wp2;go_meet;exact⟨by rw[K.o],rfl⟩
   obtain⟨rfl,rfl⟩:=hcut;cases e9:oI n s with
   |true=>
    have d1:=ah (qR (uK (dE rs f) n path 0) t (uK (dE rs f) n path (s+1))) (by rw[<-ND e9];exact c9.o);clear e9;go_wp2;go_roundw
    case rel=>exact⟨s+1,t,v,aa,bi,aa,d1,l⟩
    case measure=>simp[intOf];omega
   |false=>
    have d1:=ah (qR (uK (dE rs f) n path 0) t ((dE rs f d.kids (path++[(s:Int)]) 0).then_ λh3=>(uK (dE rs f) n path (s+1)).then_ λq0=>.ok (h3::q0))) (by rw[<-NE e9 k5.o];exact c9.o);clear e9 c9;obtain⟨G,f0⟩:∃G,G=path++[(s:Int)]:=⟨_,rfl⟩
    have q1:=zh f0;have q2:=ah (G.length=path.length+1) (by rw[f0,aO];rfl);rw[<-f0] at d1;clear f0;have k8:=zh (o1.o.keep l.o.bel);have k9:=zh (o0.o.keep l.o.bel);have l0:=zh (p3.o.keep l.o.bel);have d2:=ah (k6<wc.heap.size) e8.o.lt;go_upto_region 14 with(fail)
    refine qm [2,2,1,2,2,1,1,1,1,2,2,2,1,3,2] (List.replicate 15 false) (λa=>[qP g,aR k6 (3),.slice c4 d.kids.length c5,.slice a8 path.length c1,qI (s:Int),ay ⟨a.n 65,0,none⟩ 1 1,ay ⟨a.n 66,0,none⟩ 2 2,a.v 67,.tuple #[a.v 68,a.v 69],.tuple #[a.v 68,a.v 69],a.v 68,a.v 69,qP (a.n 11),undef,a.v 69]) [(5,λa q=>au q (a.n 65) 3 #[qI (s:Int)]),(6,λa q=>au q (a.n 66) 32 #[.slice a8 path.length c1,ay ⟨a.n 65,0,none⟩ 1 1]),(7,λa q=>∃H E,a.v 67= .slice H G.length E/\G.length<=E/\E<=9223372036854775807/\kK q H G),(8,λa q=>xc (a.n 68) (a.n 69) (dE rs f d.kids G 0) q (a.v 68) (a.v 69)/\wc.heap.size<=a.n 68/\a.n 68<=a.n 69),(12,λa q=>au q (a.n 11) 25 cK/\wc.heap.size<=a.n 11)] (λa q=>(a.n 11=0\/a.n 11<q.heap.size)/\a.n 69<=q.heap.size/\(a.n 11=0\/a.n 69=0\/a.n 11<a.n 68\/a.n 69<=a.n 11)) (bV.cons (λa q c2 h j=>ae j h) (bV.cons (λa q c2 h j=>ae j h) (bV.cons (λa q c2 ⟨H,E,q3,e4,q4,q5⟩ j=>⟨H,E,q3,e4,q4,q5.keep j⟩) (bV.cons (λa q c2 h j=>⟨h.1.keep j,h.2⟩) (bV.cons (λa q c2 h j=>⟨ae j h.1,h.2⟩) bV.nil))))) (⟨.inl rfl,dZ _,.inl rfl⟩) ?_ ?_
    ·refine⟨jC,jI,jR λa k u=>(ae u e8.o).cell 3,jC,jC,λa k u F x=>?_,λa k u F x=>?_,λa k u F x=>?_,λa k u F x=>?_,jC,jC,jC,λa k u F x=>?_,jC,trivial⟩
     ·exact jv (ay (ag k.heap.size (0)) 1 1) (k.alloc (.cells #[qI (s:Int)] 3)) iw ⟨a.setN 65 k.heap.size,rfl,jD,aN k _,⟨au.new k _ _,jG,jG,jG,jH,trivial⟩,(by obtain⟨Y,Z,a0⟩:=F;have V:=(aN k (.cells #[qI (s:Int)] 3)).size;exact⟨Y.imp id (λh=>ll h V),ax Z V,a0⟩)⟩
     ·have h4:=jE x.1;exact jv (ay (ag k.heap.size (0)) 2 2) (k.alloc (.cells #[.slice a8 path.length c1,ay ⟨a.n 65,0,none⟩ 1 1] 32)) iw ⟨a.setN 66 k.heap.size,rfl,jD,aN k _,⟨jH,au.new k _ _,jG,jG,jH,trivial⟩,(by obtain⟨Y,Z,a0⟩:=F;have V:=(aN k (.cells #[.slice a8 path.length c1,ay ⟨a.n 65,0,none⟩ 1 1] 32)).size;exact⟨Y.imp id (λh=>ll h V),ax Z V,a0⟩)⟩
     ·have h4:=jE x.1;have l1:=jE x.2.1;refine jc 48 (#[ay ⟨a.n 66,0,none⟩ 2 2]) k aj ((Ep (a.n 66) (a.n 65) a8 path c1 (s:Int) k l1 h4 (k8.o.keep u) (av j4.o)).mono ?_);rintro e l2 ⟨⟨q6,H,E,l3,rfl,l4,l5,h5,_⟩,j⟩;rw[<-q1.o] at l3;subst l3;exact⟨_,rfl,a.setV 67 (.slice H q6.length E),rfl,jD,j,⟨jH,jH,⟨H,E,rfl,l4,l5,h5⟩,jG,jH,trivial⟩,(by obtain⟨Y,Z,a0⟩:=F;have V:=j.size;exact⟨Y.imp id (λh=>ll h V),ax Z V,a0⟩)⟩
     ·have h4:=jE x.1;have l1:=jE x.2.1;have q7:=jE x.2.2.1;obtain⟨H,E,q8,l4,l5,h5⟩:=q7;refine jc 69 (#[qP g,.slice c4 d.kids.length c5,.slice H G.length E,qI 0]) k (bT q8) ((o3.o d.kids G 0 c4 H c5 E k (k9.o.keep u) (l0.o.keep u) o7 o8 h5 (fD q2.o j4.o k4.o) (aV o2.o k4.o) p4.o aa).mono ?_);rintro e l2 q9;obtain⟨r0,r1,rfl,f1,j⟩:=q9.res;exact⟨_,rfl,(((a.setV 68 r0).setV 69 r1).setN 68 k.heap.size).setN 69 l2.heap.size,rfl,jD,j,⟨jH,jH,jH,⟨f1,u.size,j.size⟩,jH,trivial⟩,(by obtain⟨Y,Z,a0⟩:=F;exact⟨Y.imp id (λh=>ll h j.size),aH _,Y.elim .inl (λh=>.inr (.inr (.inl h)))⟩)⟩
     ·exact jv (qP k.heap.size) (k.alloc (.cells cK 25)) ol ⟨a.setN 11 k.heap.size,rfl,jD,aN k _,⟨jH,jH,jH,jH,⟨au.new k _ _,u.size⟩,trivial⟩,(by obtain⟨Y,Z,a0⟩:=F;exact⟨.inr (by show k.heap.size<_;simp),ax Z (aN k (.cells cK 25)).size,.inr (.inr (.inr Z))⟩)⟩
    ·refine λa k u F x=>?_
     dsimp only[ji] at x;change wpOps _ _ _ [13] _ _;obtain⟨-,-,-,⟨f1,l6,l7⟩,⟨l8,l9⟩,-⟩:=x;obtain⟨-,-,a0⟩:=F;have f2:=zh (l.o.keep u);have b2:=zh ((l.o.app.weak (P':=λb=>w.heap.size+2<b/\b<wc.heap.size) λb j h=>⟨h,j⟩).keep u);have f3:=zh (λb j=>(l.o.app.ltT b j).2);have d3:=zh l8;have d7:=ah (a.n 11<a.n 68\/a.n 69<=a.n 11) (av d2.o);have y:=zh (And.intro l6 (And.intro l7 l9));have f4:=zh f1;have t9:=zh u.size;clear f1 l6 l7 l8 l9 a0 u l e8 k8 k9 l0;generalize a.n 11=m at*;generalize a.n 68=u0 at*;generalize a.n 69=u1 at*;generalize a.v 68=u2 at*;generalize a.v 69=u3 at*;generalize a.n 65=u4 at*;generalize a.n 66=u5 at*;generalize a.v 67=u6 at*;clear a;generalize k=c7 at*;have f5:=d3.o.cell;have f6:=d3.o.frozen;cases c8:dE rs f d.kids G 0 with
     |bad r2 m0=>
      have d4:=f4.o;rw[c8] at d4;obtain⟨rfl,m1,rfl,m2⟩:=d4;have m3:=zh m2;have h6:=ah (qH (dE rs f) n path= .bad r2 m0) (by rw[a3.o,d1.o.bad c8];rfl);clear m2 f4 c8;have b3:=zh (xP c7 m (qI 0) qE qE qN qE);refine oL (o:=_) rfl rfl (w':=((((c7.setCell (ag m (0)) (qI 0)).setCell (ag m (1)) qE).setCell (ag m (2)) qE).setCell (ag m (3)) qN).setCell (ag m (4)) qE) (ek f5 f6) ?_;refine jo ?_;clear f5 f6;generalize ((((c7.setCell (ag m (0)) (qI 0)).setCell (ag m (1)) qE).setCell (ag m (2)) qE).setCell (ag m (3)) qN).setCell (ag m (4)) qE=d5 at*;have a1:=zh (f2.o.grow b3.o (fD y.o.2.2 d2.o e7.o) (λb j=>aV (f3.o b j) y.o.2.2) (b2.o.weak λb _ j=>⟨j.1,av y.o.2.2⟩));have r3:=zh ((m3.o.grown b3.o λj=>av d7.o).any (ok':=λb=>w.heap.size+2<b) λb _ j=>fD y.o.1 d2.o e7.o);clear b3 m3 f2 b2 d3 f3;have g8:=λi=>a1.o.k1.cell i
      have g9:=λi=>a1.o.k1.frozen i
      have h7:=zh a1.o.k1;go_wp2_with fail;obtain⟨d9,B,L,N,b0⟩:=gQ h7.o a1.o.bel aa (qI 0) qE qE qN qE;rw[B];obtain⟨O,P,Q,R,S⟩:=jF L;exact aB (v:=.tuple #[.agg qT,qP m1]) (by simp[results,results99,go_sem,O,P,Q,R,S]) rfl (show Db _ _ _ _ by rw[h6.o];exact⟨⟨m1,rfl,(r3.o.grown b0.o λj=>aa).any λb _ j=>aa⟩,N.o⟩)
     |ok h3=>
      have d4:=f4.o;rw[c8] at d4;obtain⟨u7,rfl,rfl,h8⟩:=d4;obtain⟨b4,b5,b6,b7,b8,b9,c0,rfl⟩:=h8.ext;have m4:=zh h8;have r4:=zh (d1.o.next c8);clear h8 f4 c8;have b3:=zh (xP c7 m (qI b4) (af b5) (af b6) (.slice b7 b8 b9) (af c0));have r5:=zh (sK d3.o (qI b4) (af b5) (af b6) (.slice b7 b8 b9) (af c0));refine oL (o:=_) rfl rfl (w':=((((c7.setCell (ag m (0)) (qI b4)).setCell (ag m (1)) (af b5)).setCell (ag m (2)) (af b6)).setCell (ag m (3)) (.slice b7 b8 b9)).setCell (ag m (4)) (af c0)) (ek f5 f6) ?_;refine jo ?_;clear f5 f6;generalize ((((c7.setCell (ag m (0)) (qI b4)).setCell (ag m (1)) (af b5)).setCell (ag m (2)) (af b6)).setCell (ag m (3)) (.slice b7 b8 b9)).setCell (ag m (4)) (af c0)=d5 at*;have a1:=zh (f2.o.grow b3.o (fD y.o.2.2 d2.o e7.o) (λb j=>aV (f3.o b j) y.o.2.2) (b2.o.weak λb _ j=>⟨j.1,av y.o.2.2⟩));have m5:=zh (m4.o.grown (ok':=λb=>v.ownBlock≠some b/\w.heap.size+2<b) b3.o (λb _ j e=>aV (sj e) d7.o) λb _ j=>⟨λe=>aV (f3.o b e) y.o.1,fD y.o.1 d2.o e7.o⟩);clear b3 m4 f2 b2 d3;obtain⟨r6,r7,r8,r9,s2⟩:=qc r5;have s3:=a1.o.k2.cell 3;have c6:=aN d5 (.cells #[qI b4,af b5,af b6,.slice b7 b8 b9,af c0] 25);have a7:=zh (a1.o.keep c6);have h9:=zh (m5.o.keep c6);have m6:=zh (au.new d5 25 #[qI b4,af b5,af b6,.slice b7 b8 b9,af c0]);have s4:=ah (w.heap.size+2<d5.heap.size) a1.o.k2.lt;clear c6;obtain⟨u8,i0,m7,m8⟩:=a7.o.app;have u9:t.length<=1001:=av (Ev a9.o)
      have s5:=Sp.vF m6.o rfl (n:=5);have s6:=yI h9.o;have v0:(t.length+1)*80<=maxLen:=gy
      go_wp2_with (at_builtin;refine uG _ rfl (.tmp 76) (.tmp 78) 23 rfl (w.heap.size+3) 25 n5 (.agg qT) 5 80 underlying23 n6 n7 n8 n9 rfl aI _ _ _ rfl i0 _ (some (ag d5.heap.size (0))) 1 1 (#[qI b4,af b5,af b6,.slice b7 b8 b9,af c0]:Array Value).toList rfl s5 s6 gy aa (by have:=s4.o;simp;omega) ?_)
      intro v1 s7 d8 a4 e0;have b2:=dU.push m7 m8 h9.o d8 a4 (by rw[dY];exact e0);have d6:∀b,v.ownBlock=some b->w.heap.size+3<=b:=λb j=>(a7.o.app.ltT b j).1
      have i1:=zh (a7.o.bel.grown a4 a7.o.bel.size λr e=>av (d6 r e));have m9:=zh (a7.o.k0.grown a4 λe=>by have:=d6 _ e.symm;omega);have n0:=zh (a7.o.k1.grown a4 λe=>by have:=d6 _ e.symm;omega);have f7:=zh (a7.o.k2.grown a4 λe=>by have:=d6 _ e.symm;omega);have i2:=zh b2;clear b2 i0 m7 m8 d8 a4 e0 d6 a7 h9 m6 r6 r7 r8 r9 s2 s3 a1 m5;obtain⟨i3,i4,B,_⟩:=i2.o.form (λb j=>aa);rw[aO,gN] at B;subst B;have v2:=f7.o.cell 3;have v3:=f7.o.frozen 3;have f8:=zh (kJ s7 ⟨w.heap.size+2,3,none⟩ (.slice i3 (t.length+1) i4));have s8:=zh (nX.mk (i1.o.grown f8.o i1.o.size λr e=>by have n1:w.heap.size+2=r:=sj e;omega) (m9.o.grown f8.o λe=>by have n1:w.heap.size=w.heap.size+2:=sj e;omega) (n0.o.grown f8.o λe=>by have n1:w.heap.size+1=w.heap.size+2:=sj e;omega) (f7.o.set_ 3 (.slice i3 (t.length+1) i4)) (i2.o.set_ (p:=ag (w.heap.size+2) (3)) (by show ¬(w.heap.size+2<w.heap.size+2);omega) (by show w.heap.size+2<w.heap.size+3;omega) (.slice i3 (t.length+1) i4)));clear i1 m9 n0 f7 i2 f8;go_wp2;go_roundw
      case rel=>exact⟨s+1,t++[h3],_,aa,bi,by rw[aO,gN];omega,r4,s8⟩
      case measure=>simp[intOf];omega
  ·obtain rfl:s=n.kids.length:=by omega
   rw[rest_end h0.o] at c9;have s9:=zh c9.o.end;have h6:=ah (qH (dE rs f) n path= .ok ⟨.mk 4 nam ⟨#[]⟩ a5 t,[],⟨#[]⟩,⟨#[]⟩⟩) (by rw[a3.o,s9.o];rfl);obtain⟨n2,n3,rfl,t0,t1,n4⟩:=l.o.app.form λb j=>aa
   have t2:=zh n4;have e2:=λi=>l.o.k2.cell i
   have g8:=λi=>l.o.k1.cell i
   have g9:=λi=>l.o.k1.frozen i
   have h7:=zh l.o.k1;clear n4;go_wp2_with fail;obtain⟨d9,B,L,N,b0⟩:=gQ h7.o l.o.bel aa (qI 4) (af nam) qE (.slice n2 t.length n3) (af a5);rw[B];obtain⟨O,P,Q,R,S⟩:=jF L;exact aB (v:=.tuple #[.agg #[qI 4,af nam,qE,.slice n2 t.length n3,af a5],.pointer none]) (by simp[results,results99,go_sem,O,P,Q,R,S]) rfl (show Db _ _ _ _ by rw[h6.o];exact⟨⟨_,rfl,bH.of (av j7.o.1) aI (av j7.o.2) t0 t1 (t2.o.map b0.o.size (λb _ j=>aa) λm0 _ i0=>dm (b0.o.block _ ‹_› λe=>av (sj e)))⟩,N.o⟩)
end Go.Proofs.YtlefbenkhgbifaaGreatDoor.El
