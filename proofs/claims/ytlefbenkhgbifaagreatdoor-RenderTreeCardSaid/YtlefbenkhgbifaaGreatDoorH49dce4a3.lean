/- Items of the reference of render. -/
import Derived.Test.YtlefbenkhgbifaaGreatDoorHfd9be598
set_option linter.all false
set_option maxRecDepth 100000
set_option maxHeartbeats 8000000
namespace Go.Proofs.YtlefbenkhgbifaaGreatDoor
open Tryz
namespace Rn
open At Ch Sp Sy El Go.RowKit
variable{a b s:ByteArray}{w wx:World}{k:Int}{n:aG}
def xS {l:List UInt8}(h:a=b)(c:b.data.toList=l):(a.toList==l)=true:=by
 rw[h,bz,c];exact lh l
def nK {l:List UInt8}(h:¬a=b)(c:b.data.toList=l):(a.toList==l)=false:=by
 rw[aZ,bz,<-c];exact λe=>h (yL e)
def nX (w:World)(n:aG)(wc:World):Prop:=∃v,au wc (w.heap.size+1) 31 #[qI n.kind,af n.text,qI n.cols,v]/\bN (λb=>w.heap.size+2<=b) wc (w.heap.size+2) v n.kids/\n.text.size<=9223372036854775807/\Below w.heap.size w wc
def nX.of {c:Int}{v:Value}{ks:List aG}{f g h i:Value}(j:au wx (w.heap.size+1) 31 #[f,g,h,i])(d:bN (λb=>w.heap.size+2<=b) wx (w.heap.size+2) v ks)(l:s.size<=9223372036854775807)(a:Below w.heap.size w wx):
  nX w (.mk k s c ks) ((((wx.setCell ⟨w.heap.size+1,0,none⟩ (qI k)).setCell ⟨w.heap.size+1,1,none⟩ (af s)).setCell ⟨w.heap.size+1,2,none⟩ (qI c)).setCell ⟨w.heap.size+1,3,none⟩ v):=by
 obtain⟨q,m,n,o,p⟩:=iY j a (dJ _) (qI k) (af s) (qI c) v;rw[m];exact⟨v,n.o,d.zUh p.o (λb a e=>aV (sj e) ((d.lt b a).1)) (λb a e=>av (sj e)),l,o.o⟩
def nX.one {p:Nat}{u:Value}(h:nX w n wx){n':aG}(a:n'.text.size<=9223372036854775807)(b:n'.kids=n.kids)(c:∀v,(#[qI n.kind,af n.text,qI n.cols,v]:Array Value).setIfInBounds p u= #[qI n'.kind,af n'.text,qI n'.cols,v]):nX w n' (wx.setCell (ag (w.heap.size+1) p) u):=by
 obtain⟨v,d,e,g,f⟩:=h;refine⟨v,by rw[<-c v];exact d.set_ p u,?_,a,f.setCell (p:=ag (w.heap.size+1) p) (dJ _) u⟩;rw[b];exact e.set_ (p:=ag (w.heap.size+1) p) (by show ¬(w.heap.size+2<=w.heap.size+1);omega) (by show w.heap.size+1<w.heap.size+2;omega) u
def nX.yIw {b:World}(h:nX w n wx)(a:Below wx.heap.size wx b):nX w n b:=by
 obtain⟨v,d,e,f,c⟩:=h;exact⟨v,jL a d,e.keep a,f,c.trans (a.mono c.size)⟩
def PM (h:(a.toList==b.toList)=true):a=b:=by
 rw[aT,bz,bz] at h;exact yL h
def Ku {f:ByteArray}(h:f.extract 0 5=ik):¬f.extract 0 6=eX:=λc=>by
 have a:=Dt f 5;have b:=Dt f 6;rw[h] at a;rw[c] at b;have d:(eX.data.toList).take 5=ik.data.toList:=by rw[b,a,qd,show min 5 6=5 from rfl]
 exact absurd d aI
def Xr (A:Option Addr)(cap:Nat)(rs:List aD)(f:Nat)(i2:EM A cap rs f)(m:aC)(c:Array Value)(w:World)(f1:fT m<=f)(R:f<=10000)(f2:fG w A rs)(f3:gK w m c):
  Calls prog 80 #[.slice A rs.length cap,.agg c] w (uQ [ng m.nam m.form ((iq rs m.args).map aQ)] w):=by
 obtain⟨a6,a7,rfl,f4,i3,f5,i4,i5,f6⟩:=f3.form;have d6:=aN w (.cells (aA m.kind m.nam m.vr a6 m.args.length a7 m.form) 25);have s1:(w.alloc (.cells (aA m.kind m.nam m.vr a6 m.args.length a7 m.form) 25)).heap.size=w.heap.size+1:=aS
 have d7:=aN (w.alloc (.cells (aA m.kind m.nam m.vr a6 m.args.length a7 m.form) 25)) (.cells bY 31);have S:=zh (d6.trans (d7.mono d6.size));have a0:=zh (ae d7 (au.new w 25 (aA m.kind m.nam m.vr a6 m.args.length a7 m.form)));have r:=zh (au.new (w.alloc (.cells (aA m.kind m.nam m.vr a6 m.args.length a7 m.form) 25)) 31 bY);rw[s1] at r;have i6:=zh f6;have i7:=zh f2;have f7:=ah (lT m.args<f) (by have:=yw f1 aa;omega);have d8:=zh (And.intro f4 f5);have i8:=ah (((iq rs m.args).map aQ).length<=100000) (by rw[dI,Br];have:=Bp m.args;have:=f7.o;omega);clear f2 d6 d7 s1 f3 f6 i4 i5 f4 i3 f5 f1;go_enter func80,ntmps80;have a2:=a0.o.cell 3;have I:=a0.o.cell 4
 go_upto_block 0 with(fail)
 generalize m.form=d at*;generalize a8:(iq rs m.args).map aQ=i at*;have E:=λ(k:Int)=>PE A cap rs f i2 k m.args a6 a7 _ f7.o R (i7.o.keep S.o) (i6.o.keep S.o)
 generalize (w.alloc (.cells (aA m.kind m.nam m.vr a6 m.args.length a7 d) 25)).alloc (.cells bY 31)=i9 at*
 go_cut [] (λwc=>Hy (nX w (ng m.nam d i) wc))
 case first=>
  by_cases c2:d=mM
  ·skip
   have t:=ah (ng m.nam d i= .mk 5 ⟨#[]⟩ 0 i) (by unfold ng;rw[ak c2]);have b5:=xS (l:=[102,114,97,99]) c2 rfl;clear c2;go_wp2_with fail;refine(E 5).mono ?_;rintro a3 b1 ⟨⟨v,rfl,g⟩,a⟩;rw[a8] at g;obtain⟨J,K,rfl,-,-,-⟩:=g.form (λb a=>a);have x:=jt S a;have F:=kp a a0;have j:=kp a r;have y:=zh (bN.weak (P':=λb=>w.heap.size+2<=b) (B':=w.heap.size+2) g r.o.lt λb _ h=>ax r.o.lt h);clear g a E a2 I;have L:=j.o.cell;have M:=j.o.frozen;go_wp2;go_meet
   case rel=>rw[t.o];exact zh (nX.of j.o y.o aI x.o)
  have D:=c2;clear c2
  by_cases T:d=jW
  ·skip
   have t:=ah (ng m.nam d i= .mk 6 ⟨#[]⟩ 0 (if m.nam=vG then aQ []::i else i)) (by unfold ng;rw[ai D];rw[ak T]);have b5:=nK (l:=[102,114,97,99]) D rfl;have c3:=xS (l:=[114,111,111,116]) T rfl;clear D T;go_wp2_with fail;refine(E 6).mono ?_;rintro a3 b1 ⟨⟨v,rfl,g⟩,a⟩;rw[a8] at g;obtain⟨J,K,rfl,-,-,-⟩:=g.form (λb a=>a);have x:=jt S a;have F:=kp a a0;have j:=kp a r;have y:=zh (bN.weak (P':=λb=>w.heap.size+2<=b) (B':=w.heap.size+2) g r.o.lt λb _ h=>ax r.o.lt h);clear g a E a2 I;have L:=j.o.cell;have M:=j.o.frozen;go_upto_region 18 with(fail)
   have C:=zh (nX.of (k:=6) (s:=⟨#[]⟩) (c:=0) j.o y.o aI x.o);obtain⟨b2,U,N,a4,V⟩:=iY j.o x.o (dJ _) (qI 6) qE (qI 0) (.slice J i.length K);have W:=zh (F.o.grown V.o λe=>av (sj e));rw[U] at C⊢;clear L M U V a4 x y F j;have f8:=W.o.cell 1
   by_cases X:m.nam=vG
   ·have f9:=xS (l:=[115,113,114,116]) X rfl;rw[ak X] at t;clear X;go_upto_region 19 with(fail)
    obtain⟨j0,a9,g0,-,b3⟩:=C.o;replace a9:=zh a9;replace b3:=zh b3;obtain⟨d9,g1,rfl,-,-,g2⟩:=bN.form g0 (λb a=>a);have g3:=ah (fw (λb=>w.heap.size+2<=b) b2 d9 i) g2;replace a9:=ah (au b2 (w.heap.size+1) 31 #[qI 6,qE,qI 0,.slice d9 i.length g1]) a9.o;clear g2 C g0 N W f8 f9;generalize b2=b6 at*;refine qm [1,1,2,1,3,2,3] (List.replicate 7 false) (λz=>[.agg #[qI 1,qE,qI 0,qN],ay ⟨z.n 68,0,none⟩ 1 1,aR (w.heap.size+1) (3),.slice d9 i.length g1,undef,aR (w.heap.size+1) (3),undef]) [(1,λz wx=>au wx (z.n 68) 31 #[qI 1,qE,qI 0,qN]/\b6.heap.size<=z.n 68)] (λ_ _=>True) (bV.cons (λz wx g4 ⟨T,a1⟩ a=>⟨ae a T,a1⟩) bV.nil) (trivial) ?_ ?_
    ·refine⟨λz q G b0 R=>?_,λz q G b0 R=>?_,jI,jR λz q G=>(ae G a9.o).cell 3,jI,trivial⟩
     ·refine jc 52 (#[qN]) q aj ((Ei none 0 0 q).mono ?_);rintro e j1 ⟨rfl,a⟩;exact⟨_,rfl,z,rfl,jD,a,⟨jG,trivial⟩,trivial⟩
     ·exact jv (ay (ag q.heap.size (0)) 1 1) (q.alloc (.cells #[qI 1,qE,qI 0,qN] 31)) iw ⟨z.setN 68 q.heap.size,rfl,jD,aN q _,⟨⟨au.new q _ _,G.size⟩,trivial⟩,trivial⟩
    ·refine λz q G b0 R=>?_
     dsimp only[ji] at R;change wpOps _ _ _ [4,6] _ _;obtain⟨⟨g5,g6⟩,-⟩:=R;have g7:=zh g5;have c7:=zh g6;have b4:=zh G;clear g5 g6 b0 G;generalize z.n 68=c8 at*;clear z;generalize q=g8 at*;have c9:=ah (w.heap.size+1<b6.heap.size) a9.o.lt;refine wo (o:=_) rfl rfl (GL (.tmp 68) (.tmp 70) rfl (P:=λb=>w.heap.size+2<=b) (B:=w.heap.size+2) (v:=ay (ag c8 (0)) 1 1) (xs:=[aQ []]) (ys:=i) (ok:=λb=>w.heap.size+2<=b/\b<b6.heap.size) rfl rfl (bN.one g7.o (aV c7.o c9.o) (bC.zero _ g8 1 ⟨#[]⟩ 0 aI)) ((g3.o.any λb T a1=>⟨a1,T⟩).keep b4.o) (λb _ (a:w.heap.size+2<=b/\b<b6.heap.size)=>⟨λe=>by have g9:c8=b:=sj e;have:=c7.o;omega,a.1⟩) (by have:=i8.o;simp;omega) (aV b4.o.size c9.o)) ?_;rintro k7 h0 ⟨g,e0,j2⟩;obtain⟨b7,e1⟩:∃b7,b7=[aQ []]++i:=⟨_,rfl⟩
     rw[<-e1] at g;obtain⟨e2,e3,rfl,-,-,-⟩:=g.form (λb a=>a);have h1:=zh g;have d0:=zh ((ae b4.o a9.o).grown e0 λe=>by have g9:w.heap.size+1=c8:=sj e;have:=c7.o;have:=c9.o;omega);have h2:=zh ((b3.o.trans (b4.o.mono b3.o.size)).grown e0 (b3.o.trans (b4.o.mono b3.o.size)).size λa3 e=>by have g9:c8=a3:=sj e;have:=c7.o;have:=c9.o;omega);have h3:=d0.o.cell 3;have h4:=d0.o.frozen 3;clear g e0 j2 g7 g3 a9 b3 b4;refine oL (o:=_) rfl rfl (w':=h0.setCell ⟨w.heap.size+1,3,none⟩ (.slice e2 b7.length e3)) (ek h3 h4) ?_;refine jo ?_;clear h3 h4;have j3:Hy (nX w (.mk 6 ⟨#[]⟩ 0 (aQ []::i)) (h0.setCell ⟨w.heap.size+1,3,none⟩ (.slice e2 b7.length e3))):=zh ⟨_,d0.o.set_ 3 (.slice e2 b7.length e3),by rw[show(aG.mk 6 ⟨#[]⟩ 0 (aQ []::i)).kids=b7 from e1.symm];exact h1.o.set_ (p:=ag (w.heap.size+1) (3)) (by show ¬(w.heap.size+2<=w.heap.size+1);omega) (by show w.heap.size+1<w.heap.size+2;omega) _,by show(⟨#[]⟩:ByteArray).size<=9223372036854775807;decide,h2.o.setCell (p:=ag (w.heap.size+1) (3)) (dJ _) _⟩;clear d0 h1 h2 e1;go_wp2;go_meet
     case rel=>rw[t.o];exact j3
   ·have f9:=nK (b:=vG) (l:=[115,113,114,116]) X rfl;rw[ai X] at t;go_wp2;go_meet
    case rel=>rw[t.o];exact C
  have H:=T;clear T
  by_cases a1:d=dM
  ·skip
   have t:=ah (ng m.nam d i= .mk 7 ⟨#[]⟩ 0 i) (by unfold ng;rw[ai D];rw[ai H];rw[ak a1]);have b5:=nK (l:=[102,114,97,99]) D rfl;have c3:=nK (l:=[114,111,111,116]) H rfl;have d1:=xS (l:=[115,117,98]) a1 rfl;clear D H a1;go_wp2_with fail;refine(E 7).mono ?_;rintro a3 b1 ⟨⟨v,rfl,g⟩,a⟩;rw[a8] at g;obtain⟨J,K,rfl,-,-,-⟩:=g.form (λb a=>a);have x:=jt S a;have F:=kp a a0;have j:=kp a r;have y:=zh (bN.weak (P':=λb=>w.heap.size+2<=b) (B':=w.heap.size+2) g r.o.lt λb _ h=>ax r.o.lt h);clear g a E a2 I;have L:=j.o.cell;have M:=j.o.frozen;go_wp2;go_meet
   case rel=>rw[t.o];exact zh (nX.of j.o y.o aI x.o)
  have O:=a1;clear a1
  by_cases c4:d=dV
  ·skip
   have t:=ah (ng m.nam d i= .mk 8 ⟨#[]⟩ 0 i) (by unfold ng;rw[ai D];rw[ai H];rw[ai O];rw[ak c4]);have b5:=nK (l:=[102,114,97,99]) D rfl;have c3:=nK (l:=[114,111,111,116]) H rfl;have d1:=nK (l:=[115,117,98]) O rfl;have e4:=xS (l:=[115,117,112]) c4 rfl;clear D H O c4;go_wp2_with fail;refine(E 8).mono ?_;rintro a3 b1 ⟨⟨v,rfl,g⟩,a⟩;rw[a8] at g;obtain⟨J,K,rfl,-,-,-⟩:=g.form (λb a=>a);have x:=jt S a;have F:=kp a a0;have j:=kp a r;have y:=zh (bN.weak (P':=λb=>w.heap.size+2<=b) (B':=w.heap.size+2) g r.o.lt λb _ h=>ax r.o.lt h);clear g a E a2 I;have L:=j.o.cell;have M:=j.o.frozen;go_wp2;go_meet
   case rel=>rw[t.o];exact zh (nX.of j.o y.o aI x.o)
  have a5:=c4;clear c4
  by_cases c5:d=jU
  ·skip
   have t:=ah (ng m.nam d i= .mk 9 ⟨#[]⟩ 0 i) (by unfold ng;rw[ai D];rw[ai H];rw[ai O];rw[ai a5];rw[ak c5]);have b5:=nK (l:=[102,114,97,99]) D rfl;have c3:=nK (l:=[114,111,111,116]) H rfl;have d1:=nK (l:=[115,117,98]) O rfl;have e4:=nK (l:=[115,117,112]) a5 rfl;have h5:=xS (l:=[98,111,116,104]) c5 rfl;clear D H O a5 c5;go_wp2_with fail;refine(E 9).mono ?_;rintro a3 b1 ⟨⟨v,rfl,g⟩,a⟩;rw[a8] at g;obtain⟨J,K,rfl,-,-,-⟩:=g.form (λb a=>a);have x:=jt S a;have F:=kp a a0;have j:=kp a r;have y:=zh (bN.weak (P':=λb=>w.heap.size+2<=b) (B':=w.heap.size+2) g r.o.lt λb _ h=>ax r.o.lt h);clear g a E a2 I;have L:=j.o.cell;have M:=j.o.frozen;go_wp2;go_meet
   case rel=>rw[t.o];exact zh (nX.of j.o y.o aI x.o)
  have b8:=c5;clear c5
  by_cases b9:d=jb
  ·skip
   have t:=ah (ng m.nam d i= .mk 10 m.nam 0 i) (by unfold ng;rw[ai D];rw[ai H];rw[ai O];rw[ai a5];rw[ai b8];rw[ak b9]);have b5:=nK (l:=[102,114,97,99]) D rfl;have c3:=nK (l:=[114,111,111,116]) H rfl;have d1:=nK (l:=[115,117,98]) O rfl;have e4:=nK (l:=[115,117,112]) a5 rfl;have h5:=nK (l:=[98,111,116,104]) b8 rfl;have j4:=xS (l:=[97,99,99,101,110,116]) b9 rfl;clear D H O a5 b8 b9;go_wp2_with fail;refine(E 10).mono ?_;rintro a3 b1 ⟨⟨v,rfl,g⟩,a⟩;rw[a8] at g;obtain⟨J,K,rfl,-,-,-⟩:=g.form (λb a=>a);have x:=jt S a;have F:=kp a a0;have j:=kp a r;have y:=zh (bN.weak (P':=λb=>w.heap.size+2<=b) (B':=w.heap.size+2) g r.o.lt λb _ h=>ax r.o.lt h);clear g a E a2 I;have L:=j.o.cell;have M:=j.o.frozen;go_upto_region 28 with(fail)
   have C:=zh (nX.of (k:=10) (s:=⟨#[]⟩) (c:=0) j.o y.o aI x.o);obtain⟨b2,U,N,a4,V⟩:=iY j.o x.o (dJ _) (qI 10) qE (qI 0) (.slice J i.length K);have W:=zh (F.o.grown V.o λe=>av (sj e));rw[U] at C⊢;clear L M U V a4 x y F j;have f8:=W.o.cell 1;have L:=N.o.cell;have M:=N.o.frozen;go_wp2;go_meet
   case rel=>rw[t.o];exact zh (C.o.one (p:=1) (n':=.mk 10 m.nam 0 i) (u:=af m.nam) d8.o.1 rfl λv=>rfl)
  have e5:=b9;clear b9;have b5:=nK (l:=[102,114,97,99]) D rfl;have c3:=nK (l:=[114,111,111,116]) H rfl;have d1:=nK (l:=[115,117,98]) O rfl;have e4:=nK (l:=[115,117,112]) a5 rfl;have h5:=nK (l:=[98,111,116,104]) b8 rfl;have j4:=nK (l:=[97,99,99,101,110,116]) e5 rfl;have c0:=ah (ng m.nam d i=if 6<d.size/\d.extract 0 6=eX then .mk 12 ⟨#[]⟩ (sP d 16) i else if 5<d.size/\d.extract 0 5=ik then .mk 11 (d.extract 5 d.size) 0 i else kR) (by unfold ng;rw[ai D];rw[ai H];rw[ai O];rw[ai a5];rw[ai b8];rw[ai e5]);clear D H O a5 b8 e5
  by_cases Q:5<d.size/\d.extract 0 5=ik
  ·skip
   have t:=ah (ng m.nam d i= .mk 11 (d.extract 5 d.size) 0 i) (by rw[c0.o,ai λh=>Ku Q.2 h.2,ak Q]);have j5:(5:Int)<(d.size:Int):=av Q.1
   have j6:(5:Int)<=(d.size:Int):=aa
   have qa:=xS (l:=[102,101,110,99,101]) Q.2 rfl;have qb:=nK (l:=[109,97,116,114,105,120]) (λh=>Ku Q.2 h) rfl;clear Q c0;go_wp2_with fail;refine(E 11).mono ?_;rintro a3 b1 ⟨⟨v,rfl,g⟩,a⟩;rw[a8] at g;obtain⟨J,K,rfl,-,-,-⟩:=g.form (λb a=>a);have x:=jt S a;have F:=kp a a0;have j:=kp a r;have y:=zh (bN.weak (P':=λb=>w.heap.size+2<=b) (B':=w.heap.size+2) g r.o.lt λb _ h=>ax r.o.lt h);clear g a E a2 I;have L:=j.o.cell;have M:=j.o.frozen;go_upto_region 6 with(fail)
   have C:=zh (nX.of (k:=11) (s:=⟨#[]⟩) (c:=0) j.o y.o aI x.o);obtain⟨b2,U,N,a4,V⟩:=iY j.o x.o (dJ _) (qI 11) qE (qI 0) (.slice J i.length K);have W:=zh (F.o.grown V.o λe=>av (sj e));rw[U] at C⊢;clear L M U V a4 x y F j;have I:=W.o.cell 4;have L:=N.o.cell;have M:=N.o.frozen;have j7:=ah ((d.extract 5 d.size).size<=9223372036854775807) (by rw[ByteArray.size_extract];have:=d8.o.2;omega);go_upto_region 7 with(fail)
   have c1:=zh (C.o.one (p:=1) (n':=.mk 11 (d.extract 5 d.size) 0 i) (u:=af (d.extract 5 d.size)) j7.o rfl λv=>rfl);have j8:=zh (W.o.far (p:=ag (w.heap.size+1) (1)) (by show w.heap.size≠w.heap.size+1;omega) (af (d.extract 5 d.size)));clear I L M N W C;generalize b2.setCell ⟨w.heap.size+1,1,none⟩ (af (d.extract 5 d.size))=b6 at*;have I:=j8.o.cell 4
   by_cases h6:(6:Int)<(d.size:Int)
   ·go_wp2;go_meet
    case rel=>rw[t.o];exact c1
   ·go_wp2;go_meet
    case rel=>rw[t.o];exact c1
  by_cases Y:6<d.size/\d.extract 0 6=eX
  ·skip
   have t:=ah (ng m.nam d i= .mk 12 ⟨#[]⟩ (sP d 16) i) (by rw[c0.o,ak Y]);have j5:(5:Int)<(d.size:Int):=av Y.1
   have j6:(6:Int)<(d.size:Int):=av Y.1
   have qa:=nK (l:=[102,101,110,99,101]) (λh=>Ku h Y.2) rfl;have qb:=xS (l:=[109,97,116,114,105,120]) Y.2 rfl;clear Q Y c0;go_wp2_with fail;refine(E 12).mono ?_;rintro a3 b1 ⟨⟨v,rfl,g⟩,a⟩;rw[a8] at g;obtain⟨J,K,rfl,-,-,-⟩:=g.form (λb a=>a);have x:=jt S a;have F:=kp a a0;have j:=kp a r;have y:=zh (bN.weak (P':=λb=>w.heap.size+2<=b) (B':=w.heap.size+2) g r.o.lt λb _ h=>ax r.o.lt h);clear g a E a2 I;have L:=j.o.cell;have M:=j.o.frozen;go_upto_region 9 with(fail)
   have C:=zh (nX.of (k:=12) (s:=⟨#[]⟩) (c:=0) j.o y.o aI x.o);obtain⟨b2,U,N,a4,V⟩:=iY j.o x.o (dJ _) (qI 12) qE (qI 0) (.slice J i.length K);have W:=zh (F.o.grown V.o λe=>av (sj e));rw[U] at C⊢;clear L M U V a4 x y F j;go_wp2_with fail
   go_loopw [7] (λe6 wr=>∃k:Nat,1<=k/\k<=17/\e6=qI k/\Hy (nX w (.mk 12 ⟨#[]⟩ (sP d (k -1)) i) wr)/\Hy (au wr w.heap.size 25 (aA m.kind m.nam m.vr a6 m.args.length a7 d))) (λe6 _=>17 -(intOf e6).toNat)
   case atStart=>exact⟨1,aa,aa,rfl,C,W⟩
   case round=>
    clear C W N;obtain⟨k,k8,k9,rfl,C,e7⟩:=hrel
    by_cases l0:k<17
    ·skip
     have l1:(k:Int)<=16:=aa
     obtain⟨Z,d2⟩:∃Z,Z=jy (uO k):=⟨_,rfl⟩
     have j9:∀q:World,Calls prog 117 #[qI (k:Int)] q λe g4=>e= .returned (af Z)/\Below q.heap.size q g4:=λq=>by rw[d2,<-Pf aa];exact PL k q aa
     have k0:=ah (Z.size<=2) (by rw[d2,Gt,Gm];unfold uO;split<;>simp);have d3:=ah (sP d k=if d=eX++Z then(k:Int) else sP d (k -1)) (by rw[d2];obtain⟨h7,rfl⟩:∃h7,k=h7+1:=⟨k -1,aa⟩;rfl);obtain⟨c6,d4⟩:∃c6:Bool,c6=(d.toList==(⟨#[109,97,116,114,105,120]⟩++Z).toList):=⟨_,rfl⟩
     have e8:=zh d4;clear d2 d4;generalize wr=b6 at*;go_upto_region 12 with(fail)
     refine qm [2,1,2,1,2,2] (List.replicate 6 false) (λz=>[aR w.heap.size (4),af d,qI (k:Int),af Z,af (⟨#[109,97,116,114,105,120]⟩++Z),.bool c6]) [] (λ_ _=>True) bV.nil (trivial) ?_ ?_
     ·refine⟨jI,λz q G b0 R=>?_,jC,λz q G b0 R=>?_,λz q=>?_,λz q=>?_,trivial⟩
      ·have I:q.cell? (ag w.heap.size (4))=some (af d):=(ae G e7.o).cell 4;exact gs (af d) b0 aj (bT I) rfl
      ·refine jc 117 (#[qI (k:Int)]) q aj ((j9 q).mono ?_);rintro e j1 ⟨rfl,a⟩;exact⟨_,rfl,z,rfl,jD,a,trivial,trivial⟩
      ·have l2:=k0.o;have l3:=d8.o.2;exact jp (af (⟨#[109,97,116,114,105,120]⟩++Z)) (by simp[go_sem,evAct];try omega) rfl
      ·have d4:=e8.o;exact jp (.bool c6) (bT d4) rfl
     ·refine λz q G b0 R=>?_
      dsimp only[ji] at R;change wpOps _ _ _ [] _ _;have b4:=zh G;have h8:=kp G e7;have c1:Hy (nX w (.mk 12 ⟨#[]⟩ (sP d (k -1)) i) q):=zh (C.o.yIw G);refine jo ?_;clear G b0 R C e7;clear z;generalize q=g8 at*;cases c6 with
      |true=>
       have X:d=eX++Z:=PM e8.o.symm;rw[ak X] at d3;obtain⟨j0,N,k1,k2,a4⟩:=c1.o;have l4:=N.cell 2;have l5:=N.frozen 2;clear X k1 k2 a4;go_wp2;go_roundw
       case rel=>exact⟨k+1,aa,aa,bi,by rw[show k+1 -1=k from aa,d3.o];exact zh (c1.o.one (p:=2) (n':=.mk 12 ⟨#[]⟩ (k:Int) i) (u:=qI (k:Int)) (by show(⟨#[]⟩:ByteArray).size<=9223372036854775807;decide) rfl λv=>rfl),zh (h8.o.far (p:=ag (w.heap.size+1) (2)) (by show w.heap.size≠w.heap.size+1;omega) _)⟩
       case measure=>simp[intOf];omega
      |false=>
       have X:¬d=eX++Z:=λe=>by have h:=e8.o;rw[e] at h;exact absurd (h.trans (lh _)) aI
       rw[ai X] at d3;clear X;go_wp2;go_roundw
       case rel=>exact⟨k+1,aa,aa,bi,by rw[show k+1 -1=k from aa,d3.o];exact c1,h8⟩
       case measure=>simp[intOf];omega
    ·obtain rfl:k=17:=by omega
     go_wp2;go_meet
     case rel=>rw[t.o];exact C
  have t:=ah (ng m.nam d i=kR) (by rw[c0.o,ai Y,ai Q]);have e9:Hy (nX w kR i9):=zh ⟨qN,r.o,bN.nil _ _ _,by show(⟨#[]⟩:ByteArray).size<=9223372036854775807;decide,S.o⟩;clear c0
  by_cases b9:(5:Int)<(d.size:Int)
  ·have qa:=nK (b:=ik) (l:=[102,101,110,99,101]) (λh=>Q ⟨aa,h⟩) rfl
   by_cases h6:(6:Int)<(d.size:Int)
   ·have qb:=nK (b:=eX) (l:=[109,97,116,114,105,120]) (λh=>Y ⟨aa,h⟩) rfl;clear Q Y;go_wp2;go_meet
    case rel=>rw[t.o];exact e9
   ·clear Q Y;go_wp2;go_meet
    case rel=>rw[t.o];exact e9
  ·clear Q Y;have h6:¬(6:Int)<(d.size:Int):=by omega
   go_wp2;go_meet
   case rel=>rw[t.o];exact e9
 case rest=>
  obtain⟨v,f0,y,k3,d5⟩:=hcut.o;replace f0:=zh f0;replace y:=zh y;replace d5:=zh d5;generalize ng m.nam d i=n at*;clear hcut E a2 I;obtain⟨J,K,rfl,k4,k5,h9⟩:=y.o.form (λb a=>a);have k6:=zh h9;clear h9;obtain⟨l6,l7,l8,l9⟩:=qb f0;have i0:=d5.o.size;go_wp2;go_ret;have i1:=aN wc (qO n J K);refine⟨⟨_,rfl,bN.one (au.new wc 31 (qC n J K)) i0 ?_⟩,d5.o.trans (i1.mono i0)⟩;cases n with
  |mk m0 m1 m2 m3=>exact(bC.of k3 k4 k5 (k6.o.any λb T a1=>⟨Nat.ne_of_lt T,aa⟩)).keep i1
def AO (k:Nat):ByteArray:=if k=1 then⟨#[105,110,102,105,120]⟩ else if k=2 then⟨#[112,114,101,102,105,120]⟩ else if k=3 then⟨#[112,111,115,116,102,105,120]⟩ else if k=4 then⟨#[106,117,120,116,97,112,111,115,101]⟩ else⟨#[98,105,110,100]⟩
def AP:Array Value:= #[qE,af ⟨#[105,110,102,105,120]⟩,af ⟨#[112,114,101,102,105,120]⟩,af ⟨#[112,111,115,116,102,105,120]⟩,af ⟨#[106,117,120,116,97,112,111,115,101]⟩,af ⟨#[98,105,110,100]⟩]
def Xt {g:Nat}{t:TypeId}(h:au w g t AP){k:Nat}(a:1<=k)(b:k<6):w.cell? (ag g k)=some (af (AO k)):=by
 rw[h.cell];have:k=1\/k=2\/k=3\/k=4\/k=5:=aa
 rcases this with rfl|rfl|rfl|rfl|rfl<;>rfl
def Xu:∀k:Nat,k<6->1<=k->fQ (AO k)=k:=dW
def Xv {g:ByteArray}{k:Nat}(a:1<=k)(b:k<=5)(h:fQ g=k):g=AO k:=by
 rcases Ke (g:=g) aa with rfl|rfl|rfl|rfl|rfl
 ·obtain rfl:1=k:=(by decide+kernel:fQ gG=1).symm.trans h;rfl
 ·obtain rfl:2=k:=(by decide+kernel:fQ ic=2).symm.trans h;rfl
 ·obtain rfl:3=k:=(by decide+kernel:fQ iL=3).symm.trans h;rfl
 ·obtain rfl:4=k:=(by decide+kernel:fQ kE=4).symm.trans h;rfl
 ·obtain rfl:5=k:=(by decide+kernel:fQ mh=5).symm.trans h;rfl
def _root_.Go.Proofs.YtlefbenkhgbifaaGreatDoor.Sp.uf.front {A:Option Addr}{ts:List aC}(h:uf w A ts)(n:Nat):uf w A (ts.take n):=λi t a=>by
 rw[gU] at a
 split at a
 ·exact h i t a
 ·cases a
def PN:∀(ts:List aC) (n:Nat),lT (ts.take n)<=lT ts
 |[],n=>by rw[qX];exact aH _
 |t::ts,0=>dZ _
 |t::ts,n+1=>by
  have:=PN ts n;unfold lT at this⊢;rw[fo,di,di,lq,lq];omega
def PO (rs:List aD):∀(ts:List aC) (n:Nat),iq rs (ts.take n)=(iq rs ts).take n
 |[],n=>by rw[qX,iq,qX]
 |t::ts,0=>by rw[eZ,eZ,iq]
 |t::ts,n+1=>by rw[fo,iq,iq,fo,PO rs ts n]
def Xw (rs:List aD)(m:aC):jr rs m=if m.kind=1 then[.mk 3 m.nam 0 []] else if m.kind=2 then[dh m.nam] else if m.kind=3 then[.mk 4 m.nam 0 []] else zm rs (decide (m.kind=5)) m.nam m.vr m.form (iq rs m.args):=by
 cases m;rw[jr];rfl
def uQ.leaf (a:Below w.heap.size w wx)(b:s.size<=9223372036854775807):uQ [.mk k s 0 []] w (.returned (ay (ag wx.heap.size (0)) 1 1)) (wx.alloc (.cells #[qI k,af s,qI 0,qN] 31)):=
 ⟨⟨_,rfl,bN.one (au.new wx 31 _) a.size (bC.zero _ _ k s 0 b)⟩,a.trans ((aN wx _).mono a.size)⟩
def Xx (A:Option Addr)(cap:Nat)(rs:List aD)(f:Nat)(c1:EM A cap rs f)(H:f<=10000)(m9:rs.length<=1000000)(m:aC)(c:Array Value)(w:World)(d6:fT m<=f)(g7:fG w A rs)(d7:gK w m c):
  Calls prog 53 #[.slice A rs.length cap,.agg c] w (uQ (jr rs m) w):=by
 have g8:=d7;obtain⟨x,p,rfl,g9,h0,h1,h2,n0,h3⟩:=d7.form;have d8:=aN w (.cells (aA m.kind m.nam m.vr x m.args.length p m.form) 25);have s1:(w.alloc (.cells (aA m.kind m.nam m.vr x m.args.length p m.form) 25)).heap.size=w.heap.size+1:=aS
 have d9:=aN (w.alloc (.cells (aA m.kind m.nam m.vr x m.args.length p m.form) 25)) (.cells bY 31);have s:=zh (d8.trans (d9.mono d8.size));have z:=zh (ae d9 (au.new w 25 (aA m.kind m.nam m.vr x m.args.length p m.form)));have O:=zh (au.new (w.alloc (.cells (aA m.kind m.nam m.vr x m.args.length p m.form) 25)) 31 bY);rw[s1] at O;have e0:=zh h3;have a0:=zh g7;have h4:=zh g8;have a7:=ah (lT m.args<f) (by have:=yw d6 aa;omega);have c2:=zh (And.intro g9 (And.intro h0 h1));have n1:=zh d6;have n2:=ah (m.args.length<=10000) (aV (Bp m.args) a7.o);have L:=zh (Xw rs m);have n3:=zh h2;clear g7 d8 d9 s1 d7 g8 h3 h2 n0 g9 h0 h1 d6;go_enter func53,ntmps53;have h5:=z.o.cell 0;have c3:=z.o.cell 1;have Q:=z.o.cell 3;have h6:=z.o.cell 4;go_upto_region 2 with(fail)
 generalize (w.alloc (.cells (aA m.kind m.nam m.vr x m.args.length p m.form) 25)).alloc (.cells bY 31)=h7 at*
 by_cases a8:m.kind=1
 ·rw[ak a8] at L;go_wp2;go_ret;rw[L.o];exact uQ.leaf s.o c2.o.1
 by_cases c4:m.kind=2
 ·rw[ai a8,ak c4] at L;go_wp2_with fail;refine(yD m.nam h7).mono ?_;rintro r S ⟨rfl,d⟩;go_wp2;go_ret;rw[L.o];exact uQ.leaf (s.o.trans (d.mono s.o.size)) c2.o.1
 by_cases e1:m.kind=3
 ·rw[ai a8,ai c4,ak e1] at L;go_wp2;go_ret;rw[L.o];exact uQ.leaf s.o c2.o.1
 rw[ai a8,ai c4,ai e1] at L;go_wp2_with fail;refine(OA m.form h7 c2.o.2.2).mono ?_;rintro r S ⟨rfl,d⟩;have h8:=jt s d;have h9:=kp d z;have e2:=kp d O;have c5:=zh (Ki m.form);have T:=zh (L.o.trans (show zm rs (decide (m.kind=5)) m.nam m.vr m.form (iq rs m.args)=if fQ (bQ m.form).1=0 then[ng m.nam m.form ((iq rs m.args).map aQ)] else yt rs (decide (m.kind=5)) m.nam m.vr (fQ (bQ m.form).1) (bQ m.form).2.1 (bQ m.form).2.2 (iq rs m.args) from rfl));clear d s z O h5 c3 Q h6 a8 c4 e1 L;generalize bQ m.form=n4 at*;obtain⟨U,a1,g⟩:=n4;dsimp only at c5 T;have i0:=zh (au.new S 112 AP);have c6:=aN S (.cells AP 112);have i1:=jt h8 c6;have i2:=kp c6 h9;have i3:=kp c6 e2;have q7:=ah (w.heap.size+1<S.heap.size) e2.o.lt;clear c6 h8 h9 e2;go_wp2_with fail;generalize S.heap.size=n5 at*
 go_loopw [10] (λi wr=>∃k:Nat,1<=k/\k<=6/\i=qI k/\Hy (fQ U=0\/k<=fQ U)/\Hy (au wr n5 112 AP)/\Hy (au wr w.heap.size 25 (aA m.kind m.nam m.vr x m.args.length p m.form))/\Hy (au wr (w.heap.size+1) 31 bY)/\Hy (Below w.heap.size w wr)) (λi _=>6 -(intOf i).toNat)
 case atStart=>exact⟨1,aa,aa,rfl,zh aa,i0,i2,i3,i1⟩
 case round=>
  clear i0 i2 i3 i1;obtain⟨k,a2,q8,rfl,c7,e3,z,O,s⟩:=hrel
  by_cases i4:k<6
  ·have q9:(k:Int)<=5:=by omega
   have r0:(k:Int)<6:=aa
   have n6:=Xt e3.o a2 i4;cases c8:(U.toList==(AO k).toList) with
   |false=>
    have n7:=zh (show fQ U=0\/k+1<=fQ U by
     rcases c7.o with h|h
     ·exact .inl h
     ·by_cases n8:fQ U=k
      ·rw[Xv a2 aa n8] at c8;exact absurd (c8.symm.trans (lh _)) aI
      ·exact .inr aa)
    clear c7;go_wp2;go_roundw
    case rel=>exact⟨k+1,aa,aa,bi,n7,e3,z,O,s⟩
    case measure=>simp[intOf];omega
   |true=>
    have i5:=PM c8;rw[i5,Xu k i4 a2,ai aa] at T;clear c7;obtain⟨q,a,e4⟩:∃q a,q=vM k/\a=yo k:=⟨_,_,rfl,rfl⟩
    have e5:=zh e4;have c9:=zh (show(q=2/\a=1/\(k=2\/k=5))\/(q=3/\a=1/\k=3)\/((q=1\/q=4)/\a=2/\k=q) by
     obtain⟨rfl,rfl⟩:=e4;have:k=1\/k=2\/k=3\/k=4\/k=5:=aa
     rcases this with rfl|rfl|rfl|rfl|rfl<;>decide)
    clear e4 i5;go_upto_if 58 with(fail)
    clear n6 c8
    go_cut [11] (λv wc=>v=qI (q:Int)/\wc=wr)
    case first=>
     have e6:=c9.o
     by_cases i6:(4:Int)<(k:Int)
     ·obtain rfl:q=2:=by omega
      go_wp2;go_meet
      case rel=>exact⟨rfl,rfl⟩
     ·obtain rfl:q=k:=by omega
      go_wp2;go_meet
      case rel=>exact⟨rfl,rfl⟩
    case rest=>
     obtain⟨rfl,rfl⟩:=hcut;go_upto_region 18 with(fail)
     go_cut [11,64] (λr v d0=>r=qI (q:Int)/\v= .bool (decide (a=1))/\d0=wc)
     case first=>
      have e6:=c9.o
      by_cases j:(q:Int)=2
      ·obtain rfl:a=1:=by omega
       go_wp2;go_meet
       case rel=>exact⟨by rw[j],rfl,rfl⟩
      by_cases G:(q:Int)=3
      ·obtain rfl:a=1:=by omega
       go_wp2;go_meet
       case rel=>exact⟨by rw[G],rfl,rfl⟩
      ·obtain rfl:a=2:=by omega
       go_wp2;go_meet
       case rel=>exact⟨rfl,by simp[j,G],rfl⟩
     case rest=>
     rename_i e7
     obtain⟨rfl,rfl,rfl⟩:=hcut;go_upto_if 64 with(fail)
     go_cut [12] (λv d0=>v=qI (a:Int)/\d0=wc)
     case first=>
      have e6:=c9.o
      by_cases j:a=1
      ·subst j;go_wp2;go_meet
       case rel=>exact⟨rfl,rfl⟩
      ·obtain rfl:a=2:=by omega
       go_wp2;go_meet
       case rel=>exact⟨rfl,rfl⟩
     case rest=>
      obtain⟨rfl,rfl⟩:=hcut
      rename_i wr
      have c3:=z.o.cell 1;go_wp2_with fail;refine(DV A cap rs (q:Int) m.nam _ (a0.o.keep s.o) m9).mono ?_;rintro r a3 ⟨rfl,d⟩;have I:=jt s d;have J:=kp d z;have i7:=kp d O;clear d s z O e3 c3;have e8:=ah (jr rs m=[kR]->uQ (jr rs m) w (.returned (ay ⟨w.heap.size+1,0,none⟩ 1 1)) a3) (λh=>by rw[h];exact⟨⟨_,rfl,bN.one i7.o (dJ _) (bC.zero _ _ 0 ⟨#[]⟩ 0 aI)⟩,I.o⟩);cases a9:rs.findIdx? (iH (q:Int) m.nam) with
      |none=>
       have C:=ah (jr rs m=[kR]) (by rw[T.o];unfold yt;rw[<-e5.o.1,EK,a9]);clear a9;go_wp2;go_ret;exact e8.o C.o
      |some i=>
       have i8:i<rs.length:=(qY.1 a9).1;obtain⟨u,e9⟩:∃u,rs[i]?=some u:=⟨_,gE i8⟩
       have C:=ah (jr rs m=if m.args.length=g+a then AA q (if q=4 then[] else[uN (decide (m.kind=5)) m.vr u.sym a1 ((iq rs m.args).take g)]) (((iq rs m.args)[g]?).getD []) (((iq rs m.args)[m.args.length -1]?).getD []) else[kR]) (by rw[T.o];unfold yt;rw[<-e5.o.1,<-e5.o.2,EK,a9];dsimp only;rw[e9];dsimp only;rw[Br]);have i9:=zh e9;clear a9 e9 T;have Q:=J.o.cell 3;have r1:zx (some i)=(i:Int):=rfl;have f0:=ah (g<=2/\1<=a/\a<=2) (by have E:=c5.o;have j:=c9.o;omega);have r2:wrap64 ((g:Int)+(a:Int))=(g:Int)+(a:Int):=by have E:=f0.o;unfold wrap64;omega
       by_cases b0:m.args.length=g+a
       ·rw[ak b0] at C;have j0:((m.args.length:Int) !=(g:Int)+(a:Int))=false:=by rw[uy];omega
        have d1:=zh b0;clear b0;obtain⟨j1,M,rfl,j2,n9,j3,o0,o1,b1,o2⟩:=(a0.o.keep I.o).at_ i9.o;have j4:=zh j2;have j5:=ah (u.sym.size<=9223372036854775807) (by have h:=j1;unfold aD.fits at h;omega);have j6:=zh i8;have j7:=ah ((m.args.take g).length=g) (by rw[eU];have:=d1.o;omega);obtain⟨K,f1⟩:∃K,K=uN (decide (m.kind=5)) m.vr u.sym a1 ((iq rs m.args).take g):=⟨_,rfl⟩
        rw[<-f1] at C;have j8:=zh (show ∀l:World,Below a3.heap.size a3 l->Calls prog 79 #[ay M rs.length cap,.agg (aA m.kind m.nam m.vr x m.args.length p m.form),af u.sym,qI (a1:Int),.slice x g p] l (PG K l) from λl t=>by
         have h:=Xk (some M) cap rs f c1 m _ u.sym a1 (m.args.take g) x p l (av c5.o) (λr3 E=>by have j:=j7.o;rw[E] at j;have G:=c5.o;simp at j;omega) j5.o (aV (PN m.args g) a7.o) H ((a0.o.keep I.o).keep t) (((e0.o.keep I.o).front g).keep t) ((h4.o.keep I.o).keep t);rw[j7.o,PO,<-f1] at h;exact h)
        clear f1 j1 j2 n9 o0 o1 b1 o2;go_upto_if 86 with(fail)
        have b2:=I.o.size
        go_cut [11,15] (λr v wc=>r=qI (q:Int)/\Hy (bN (λb=>w.heap.size<=b) wc w.heap.size v (if q=4 then[] else[K]))/\Hy (au wc w.heap.size 25 (aA m.kind m.nam m.vr x m.args.length p m.form))/\Hy (Below w.heap.size w wc))
        case first=>
         by_cases i6:(q:Int)=4
         ·have b1:q=4:=by omega
          go_wp2;go_meet
          case rel=>rw[ak b1];exact⟨by rw[i6],bN.nil _ _ _,J,I⟩
         ·have b1:¬q=4:=by omega
          have o3:(g:Int)<=(p:Int):=by have E:=n3.o;have j:=d1.o;omega
          have o4:(i:Int)<(rs.length:Int):=av j6.o
          go_upto_region 25 with(fail)
          refine qm [2,2,1,2,2,2,2,1,2,2,1,2,2,1,1,3,3] [true,false,false,false,false,false,false,false,false,false,false,false,false,false,false,false,false] (λn=>[qN,ay M rs.length cap,.agg (aA m.kind m.nam m.vr x m.args.length p m.form),ay M rs.length cap,qI (i:Int),az (M.add (i*6)),az ⟨(M.add (i*6)).block,(M.add (i*6)).off+1,none⟩,af u.sym,qI (a1:Int),aR w.heap.size (3),.slice x m.args.length p,qI (g:Int),.slice x g p,n.v 100,ay ⟨n.n 101,0,none⟩ 1 1,undef,undef]) [(13,λn wx=>∃D,n.v 100= .agg D/\bC (λb=>a3.heap.size<=b) wx K D),(14,λn wx=>∃D,au wx (n.n 101) 31 D/\a3.heap.size<=n.n 101/\bC (λb=>b≠n.n 101/\a3.heap.size<=b) wx K D)] (λ_ _=>True) (bV.cons (λn wx S ⟨D,E,j⟩ d=>⟨D,E,j.keep d⟩) (bV.cons (λn wx S ⟨D,E,j,G⟩ d=>⟨D,ae d E,j,G.keep d⟩) bV.nil)) (trivial) ?_ ?_
          ·refine⟨jC,jC,λn l t V H=>?_,jC,jC,λn l=>?_,jI,jR λn l t=>(t.cell (by show(Addr.add _ _).block<_;rw[gX];exact j4.o)).trans j3,jC,jI,λn l t V H=>?_,jC,λn l=>?_,λn l t V H=>?_,λn l t V H=>?_,trivial⟩
           ·have o5:=(ae t J.o).cell 0;have o6:=(ae t J.o).cell 1;have o7:=(ae t J.o).cell 2;have f2:=(ae t J.o).cell 3;have o8:=(ae t J.o).cell 4;exact gs (.agg (aA m.kind m.nam m.vr x m.args.length p m.form)) V aj (by simp[go_sem,evAct,o5,o6,o7,f2,o8,aA]) rfl
           ·exact jp (az (M.add (i*6))) (gY o4) rfl
           ·have f2:l.cell? (ag w.heap.size (3))=some (.slice x m.args.length p):=(ae t J.o).cell 3;exact gs (.slice x m.args.length p) V aj (bT f2) rfl
           ·exact jp (.slice x g p) (gY o3) rfl
           ·refine jc 79 (#[ay M rs.length cap,.agg (aA m.kind m.nam m.vr x m.args.length p m.form),af u.sym,qI (a1:Int),.slice x g p]) l aj ((j8.o l t).mono ?_);rintro e o9 ⟨⟨D,rfl,W⟩,d⟩;exact⟨_,rfl,n.setV 100 (.agg D),rfl,jD,d,⟨⟨D,rfl,W.any λb _ h=>ax t.size h⟩,jG,trivial⟩,trivial⟩
           ·have p0:=jE H.1;obtain⟨D,p1,W⟩:=p0;obtain⟨j9,k0,rfl,k1,k2,k3,f3⟩:=W.form;exact jv (ay (ag l.heap.size (0)) 1 1) (l.alloc (qO K j9 k0)) (bT p1) ⟨n.setN 101 l.heap.size,rfl,jD,aN l _,⟨jH,⟨_,au.new l _ _,t.size,(W.any λb E j=>⟨λe=>by have e:b=l.heap.size:=e;omega,j⟩).keep (aN l _)⟩,trivial⟩,trivial⟩
          ·refine λn l t V H=>?_
           dsimp only[ji] at H;change wpOps _ _ _ [15,16] _ _;obtain⟨-,⟨D,a2,p2,W⟩,-⟩:=H;obtain⟨j9,k0,rfl,k1,k2,k3,f3⟩:=W.form;have k4:=zh a2;have k5:=zh f3;have b3:=zh t;clear a2 W f3 V t;generalize n.v 100=r4 at*;generalize n.n 101=r5 at*;clear n;generalize l=r6 at*;refine wo (o:=_) rfl rfl (GL (.tmp 87) (.tmp 101) rfl (P:=λb=>w.heap.size<=b) (B:=w.heap.size) (v:=qN) (xs:=[]) (ys:=[K]) (ok:=λb=>w.heap.size<=b) rfl rfl (bN.nil _ _ _) (by
            cases K with
            |mk ok r7 r8 r9=>exact xu k4.o k1 k2 k3 (k5.o.any λb _ h=>ax b2 h.2) (ax b2 p2)) (λb _ d=>⟨λe=>(by cases e),d⟩) (by show 0+1<=_;omega) (ax b2 b3.o.size)) ?_
           rintro b4 e7 ⟨y,F,-⟩;have p3:=zh y;have p4:=zh ((ae b3.o J.o).grown F λe=>by cases e);have p5:=zh ((I.o.trans (b3.o.mono b2)).grown F (I.o.trans (b3.o.mono b2)).size λr e=>by cases e);clear y F k4 k5 b3;refine wo (o:=_) (R:=λv k6=>v=b4/\k6=e7) rfl rfl (aP.value (v:=b4) (w':=e7) ol ⟨rfl,rfl⟩) ?_;rintro v k6 ⟨rfl,rfl⟩;refine jo ?_;go_wp2;go_meet
           case rel=>rw[ai b1];exact⟨rfl,p3,p4,p5⟩
        case rest=>
         obtain⟨rfl,b5,z,s⟩:=hcut;clear I J i7 e8 j8 j3 j4 j6 i9 j5;have k7:=ah (g<m.args.length) (aV d1.o f0.o);obtain⟨X,f4⟩:∃X,m.args.length=X+1:=⟨m.args.length -1,aV d1.o f0.o⟩
         obtain⟨a4,d2⟩:∃a4,m.args[X]?=some a4:=⟨_,gE aa⟩
         obtain⟨s0,s2,s3,rfl,p6,b6⟩:=(e0.o.keep s.o).at_ d2;have b7:=zh b6.whole;obtain⟨_,f5,f6,f7,f8,f9,_⟩:=b6;have k8:=ah (fT a4<f) (aV a7.o (Bq d2));have k9:=ah (((iq rs m.args)[m.args.length -1]?).getD []=jr rs a4) (by rw[f4,Nat.add_sub_cancel,EI,d2];rfl);have g0:=zh (GM rs k8.o);have p7:(m.args.length:Int) -1=(X:Int):=aa
         have p8:(X:Int)<(m.args.length:Int):=aa
         have p9:wrap64 (X:Int)=(X:Int):=by have:=n2.o;unfold wrap64;omega
         have Q:=z.o.cell 3;have s4:=zh f4;obtain⟨a5,g1⟩:∃a5,a5=(if q=4 then[] else[K]):=⟨_,rfl⟩
         have d3:=ah (a5.length<=1) (by rw[g1];split<;>simp);rw[<-g1] at C b5;rw[k9.o] at C;clear d2 f4 p6 g1 k9 j0;go_wp2_with fail;refine(c1 a4 _ _ k8.o (a0.o.keep s.o) b7.o).mono ?_;rintro r Y ⟨⟨v,rfl,y⟩,d⟩;generalize jr rs a4=g2 at*;have a6:=s.o.size;have l0:=zh (And.intro a6 d.size);have l1:=zh (λb d=>b5.o.lt b d);have l2:=zh (λb d=>y.lt b d);obtain⟨s5,s6,rfl,-,-,l3⟩:=y.form (λb d=>d);obtain⟨s7,s8,rfl,-,-,l4⟩:=b5.o.form (λb d=>d);have g3:=zh ((l4.any (ok':=λb=>w.heap.size<=b/\b<wc.heap.size) λb E j=>⟨j,E⟩).keep d);have g4:=zh (l3.any (ok':=λb=>wc.heap.size<=b/\b<Y.heap.size) λb E j=>⟨j,E⟩);have l5:=zh (y.weak (P':=λb=>w.heap.size<=b) (B':=w.heap.size) a6 λb _ h=>ax a6 h);have l6:=zh (b5.o.keep d);have l7:=kp d z;have b8:=zh (s.o.trans (d.mono a6));have l8:=zh ((e0.o.keep s.o).keep d);clear y l3 l4 b5 z d f5 f6 f7 f8 f9 Q b7;have N:=b8.o.size
         by_cases j:q=2
         ·have b9:=ah (jr rs m=a5++g2) (by rw[C.o,j];rfl);subst j;clear C;go_wp2_with (at_builtin;refine GK rfl (.tmp 116) (.tmp 117) rfl rfl rfl l6.o g4.o (λb _ (d:wc.heap.size<=b/\b<Y.heap.size)=>⟨λe=>av (l1.o b e),ax a6 d.1⟩) (aV d3.o g0.o) N ?_)
          intro b4 g5 y F c0;go_wp2;go_ret;rw[b9.o];exact⟨⟨_,rfl,y⟩,b8.o.grown F N λr e=>(l1.o r e).1⟩
         by_cases G:q=3
         ·have b9:=ah (jr rs m=g2++a5) (by rw[C.o,G];rfl);subst G;clear C;go_wp2_with (at_builtin;refine GK rfl (.tmp 121) (.tmp 122) rfl rfl rfl l5.o g3.o (λb _ (d:w.heap.size<=b/\b<wc.heap.size)=>⟨λe=>av (l2.o b e),d.1⟩) (aV d3.o g0.o) N ?_)
          intro b4 g5 y F c0;go_wp2;go_ret;rw[b9.o];exact⟨⟨_,rfl,y⟩,b8.o.grown F N λr e=>ax a6 (l2.o r e).1⟩
         ·skip
          obtain⟨Z,d4⟩:∃Z,m.args[g]?=some Z:=⟨_,gE k7.o⟩
          obtain⟨s9,t0,t1,q0,q1,b6⟩:=l8.o.at_ d4;obtain rfl:=sj q0;have b7:=zh b6.whole;obtain⟨_,f5,f6,f7,f8,f9,_⟩:=b6;have l9:=ah (fT Z<f) (aV a7.o (Bq d4));have b9:=zh (show jr rs m=jr rs Z++(a5++g2) by
           rw[C.o,show((iq rs m.args)[g]?).getD []=jr rs Z by rw[EI,d4];rfl];unfold AA;rw[ai j,ai G,cu])
          have m0:=zh (GM rs l9.o);have t2:(g:Int)<(m.args.length:Int):=Int.ofNat_lt.2 k7.o;have t3:¬(q:Int)=2:=λe=>j (mE e)
          have t4:¬(q:Int)=3:=λe=>G (mE e)
          have Q:=l7.o.cell 3;clear C d4 q1 j G p7 p8 p9;go_wp2_with fail;refine(c1 Z _ _ l9.o (a0.o.keep b8.o) b7.o).mono ?_;rintro r g5 ⟨⟨v,rfl,y⟩,d⟩;generalize jr rs Z=t5 at*;have d5:=zh (λb d=>y.lt b d);have m1:=zh ((g3.o.keep d).any (ok':=λb=>w.heap.size<=b/\b<Y.heap.size) λb _ h=>⟨h.1,av l0.o⟩);have m2:=zh ((g4.o.keep d).any (ok':=λb=>w.heap.size<=b/\b<Y.heap.size) λb _ h=>⟨av l0.o,h.2⟩);have m3:=zh (y.weak (P':=λb=>w.heap.size<=b) (B':=w.heap.size) N λb _ h=>ax N h);have m4:=zh (b8.o.trans (d.mono N));have m5:=m4.o.size;have q2:=zh d.size;clear y d l7 b7 f5 f6 f7 f8 f9 Q g3 g4 l8 l5 l6;go_wp2_with (at_builtin;refine GK rfl (.tmp 130) (.tmp 131) rfl rfl rfl m3.o m1.o (λb _ (d:w.heap.size<=b/\b<Y.heap.size)=>⟨λe=>av (d5.o b e),d.1⟩) (aV d3.o m0.o) m5 ?_)
          intro q3 d0 y F c0;have q4:=zh y;have q5:=zh (m2.o.zUh F λb _ d e=>av (d5.o b e.symm));have m6:=zh (m4.o.grown F m5 λr e=>ax N (d5.o r e).1);have m7:=m6.o.size;have m8:=zh (show ∀b,q3.ownBlock=some b->Y.heap.size<=b from λb e=>by
           rcases c0 with h|h
           ·exact(d5.o b (h.symm.trans e)).1
           ·have e6:g5.heap.size=b:=sj (h.symm.trans e);have:=q2.o;omega)
          clear y F c0 m3 m1 m2;go_wp2_with (at_builtin;refine GK rfl (.tmp 132) (.tmp 133) rfl rfl rfl q4.o q5.o (λb _ (d:w.heap.size<=b/\b<Y.heap.size)=>⟨λe=>av (m8.o b e),d.1⟩) (by have:=d3.o;have:=g0.o;have:=m0.o;rw[aO];omega) m7 ?_)
          intro b4 t6 y F c0;go_wp2;go_ret;rw[b9.o];exact⟨⟨_,rfl,y⟩,m6.o.grown F m7 λr e=>ax N (m8.o r e)⟩
       ·rw[ai b0] at C;have j0:((m.args.length:Int) !=(g:Int)+(a:Int))=true:=by rw[pE];omega
        clear b0;go_wp2;go_ret;exact e8.o C.o
  ·obtain rfl:k=6:=by omega
   rw[ak (by rcases c7.o with h|h;exact h;exact absurd (GD U) aa)] at T;obtain⟨h5,c3,t7,Q,h6⟩:=qc z;go_wp2_with fail;refine(Xr A cap rs f c1 m _ wr (aV a7.o n1.o) H (a0.o.keep s.o) (h4.o.keep s.o)).mono ?_;rintro r o9 ⟨⟨v,rfl,q6⟩,d⟩;have g6:=s.o.size;go_wp2;go_ret;rw[T.o];exact⟨⟨_,rfl,q6.weak g6 λb _ h=>ax g6 h⟩,s.o.trans (d.mono g6)⟩
end Rn
namespace El
open At Ch Sp Sy Go.RowKit
def PP (d:aG):dK d=bK d.kids+1:=by
 obtain⟨k,t,c,a⟩:=d;rw[dK];rfl
def xR:∀(a b:List aG),bK (a++b)=bK a+bK b
 |[],b=>by rw[bK,fe];rfl
 |t::a,b=>by rw[iB,bK,bK,xR a b];omega
def IV {l:List aG}{q:Nat}{n:aG}(h:l[q]?=some n):bK (l.take (q+1))=bK (l.take q)+dK n:=by
 rw[dA,h,Option.toList_some,xR,bK,bK];omega
def GH (l:List aG)(k:Nat):bK (l.drop k)<=bK l:=by
 have:=xR (l.take k) (l.drop k);rw[kw] at this;omega
end El
namespace Ch
variable{f:Nat->Nat}{n:Nat}{rs:List aD}{u:aD}{ts:List ByteArray}
def lw (f:Nat->Nat)(n:Nat):Nat:=((List.range n).map f).sum
def zy (f:Nat->Nat)(n:Nat):lw f (n+1)=lw f n+f n:=by
 unfold lw;rw[oQ,dX,List.sum_append_nat];simp
def PQ (h:∀k,k<n->f k=0):lw f n=0:=by
 induction n with
 |zero=>rfl
 |succ n a=>rw[zy,a λk b=>h k aa,h n aa]
def EN {g:Nat->Nat}(h:∀k,k<n->f k<=g k):lw f n<=lw g n:=by
 induction n with
 |zero=>exact aH _
 |succ n a=>
  rw[zy,zy];have:=a λk b=>h k aa
  have:=h n aa;omega
def GQ (f g:Nat->Nat)(n:Nat):lw (λk=>f k+g k) n=lw f n+lw g n:=by
 induction n with
 |zero=>rfl
 |succ n a=>rw[zy,zy,zy,a];omega
def Xy {M:Nat}(h:∀k,k<n->f k<=M)(b:∀j k,j<k->k<n->f j=0\/f k=0):lw f n<=M:=by
 induction n with
 |zero=>exact dZ _
 |succ n c=>
  rw[zy];have g:=h n aa
  by_cases d:f n=0
  ·have:=c (λk a=>h k aa) λj k e a=>b j k e aa
   omega
  ·rw[PQ λk a=>(b k n a aa).resolve_right d];omega
def PR (c:Nat->Nat->Nat)(n m:Nat):lw (λa=>lw (c a) m) n=lw (λb=>lw (λa=>c a b) n) m:=by
 induction n with
 |zero=>exact(PQ λk _=>rfl).symm
 |succ n d=>
  rw[zy,d,<-GQ]
  congr 1
  funext b
  rw[zy]
def Xz {β:Type}(f:Nat->List β)(n:Nat):((List.range n).flatMap f).length=lw (λk=>(f k).length) n:=by
 induction n with
 |zero=>rfl
 |succ n a=>rw[oQ,fH,aO,a,zy];simp
def PS {β:Type}(f:Nat->List β)(a n:Nat):((List.range' a n).flatMap f).length=lw (λk=>(f (a+k)).length) n:=by
 induction n with
 |zero=>rfl
 |succ n b=>rw[List.range'_concat,fH,aO,b,zy];simp
def XA (a:fZ rs=true){m:Nat}{v:aD}(c:n<m)(d:rs[n]?=some u)(b:rs[m]?=some v)(f:u.kind=v.kind):u.sym.toList≠v.sym.toList:=by
 unfold fZ at a;rw[aM] at a;have h:=(DN a.2 (bP.1 b).1 b).2;intro e;have g:nk v u=true:=by
  unfold nk;rw[aJ f.symm,e];simp
 have:=LU (os:=rs.take m) (r:=v) (x:=u) (j:=n) (by rw[gU,ak c];exact d) g;rw[h] at this;cases this
def PT (a:fZ rs=true)(b:rs[n]?=some u)(c:u.kind=4):u.sym.toList=[]:=by
 unfold fZ at a;rw[aM] at a;have h:=(DN a.2 (bP.1 b).1 b).1;unfold ni at h;rw[ai aa,ai aa,ai aa] at h;simp only[aM] at h;exact lG.1 h.2.2.2.2.2
def XB {k:Nat}{s t:List UInt8}(h:ed ts k s=true)(a:ed ts k t=true):s=t:=by
 unfold ed at h a;cases b:ts[k]? with
 |none=>rw[b] at h;cases h
 |some x=>
  rw[b] at h a;exact(qg h).symm.trans (qg a)
def lU:List Nat:=[0,1,3,13,67,381,2307,14589]
def P1 (s k:Nat):Nat:=lU.getD (k+1) 0*lU.getD (s -(k+2)) 0
def P4 (s k:Nat):Nat:=lU.getD (k+1) 0*lU.getD (s -(k+1)) 0
def zz (rs:List aD)(ts:List ByteArray)(q:Int)(P:Nat->Nat)(at_:Nat->Option Nat)(k n:Nat):Nat:=match rs[n]? with
 |none=>0
 |some u=>if u.kind=q/\(match at_ k with
   |some t=>ed ts t u.sym.toList
   |none=>true)=true then P k else 0
def GR {q:Int}{P:Nat->Nat}{at_:Nat->Option Nat}(c:fZ rs=true)(k N:Nat)(j:at_ k=none->q=4):lw (zz rs ts q P at_ k) N<=P k:=by
 refine Xy (λn _=>?_) λn m l _=>?_
 ·unfold zz;cases rs[n]? with
  |none=>exact dZ _
  |some u=>
   dsimp only
   by_cases h:u.kind=q/\(match at_ k with
     |some t=>ed ts t u.sym.toList
     |none=>true)=true
   ·rw[ak h];exact aH _
   ·rw[ai h];exact dZ _
 ·unfold zz;cases d:rs[n]? with
  |none=>exact .inl rfl
  |some u=>
   cases e:rs[m]? with
   |none=>exact .inr rfl
   |some v=>
    dsimp only
    by_cases a:u.kind=q/\(match at_ k with
     |some t=>ed ts t u.sym.toList
     |none=>true)=true
    ·by_cases b:v.kind=q/\(match at_ k with
      |some t=>ed ts t v.sym.toList
      |none=>true)=true
     ·exfalso;have f:=XA c l d e (a.1.trans b.1.symm);cases g:at_ k with
      |none=>
       have i:=j g;exact f ((PT c d (a.1.trans i)).trans (PT c e (b.1.trans i)).symm)
      |some t=>
       rw[g] at a b;exact f (XB a.2 b.2)
     ·exact .inr (ai b)
    ·exact .inl (ai a)
def XC:∀s,s<=7->2<=s->lw (P1 s) (s -2)+(lU.getD (s -1) 0+(lU.getD (s -1) 0+lw (P4 s) (s -1)))<=lU.getD s 0:=aI
def XD {a b:Nat}(h:a<=b)(c:b<=7):lU.getD a 0<=lU.getD b 0:=by
 have:∀b,b<=7->∀a,a<=b->lU.getD a 0<=lU.getD b 0:=aI
 exact this b c a h
def XE (g:fZ rs=true):∀(s i j:Nat),j -i=s->s<=7->(aX rs ts i j).length<=lU.getD s 0:=by
 intro s
 induction s using Nat.strongRecOn with
 |_ s r=>
  intro i j G t
  by_cases v:j<=i
  ·rw[Cz v];exact dZ _
  rw[Fa aa];unfold AV;rw[aO]
  by_cases w:s=1
  ·subst w;have o:(qB ts i j).length<=1:=by unfold qB;split<;>simp
   have H:((List.range rs.length).flatMap (nu rs ts (aX rs ts) i j)).length<=(List.range rs.length).length*0:=by
    refine DZ λn _=>?_
    unfold nu;cases rs[n]? with
    |none=>simp
    |some u=>
     dsimp only;rw[show j -1 -(i+1)=0 from aa,show j -(i+1)=0 from aa,Cz (show j<=i+1 from aa),Cz (show j -1<=i from aa)]
     split
     ·simp
     ·split
      ·split<;>simp[kI,dx]
      ·split
       ·split<;>simp[kI,dx]
       ·split<;>simp
   show _<=1;omega
  ·have o:qB ts i j=[]:=by unfold qB;rw[ai aa]
   rw[o,gZ,fe,Xz];have d:∀(a b:Nat) (p:Int),b -a<s->(dx rs (aX rs ts a b) p).length<=lU.getD (b -a) 0:=λa b p h=>ax Si (r (b -a) h a b rfl aa)
   have x:=XC s t aa;have y:=λk=>GR (ts:=ts) (q:=1) (P:=P1 s) (at_:=λk=>some (i+1+k)) g k rs.length (λh=>by cases h)
   have z:=GR (ts:=ts) (q:=2) (P:=λ_=>lU.getD (s -1) 0) (at_:=λ_=>some i) g 0 rs.length (λh=>by cases h);have A:=GR (ts:=ts) (q:=3) (P:=λ_=>lU.getD (s -1) 0) (at_:=λ_=>some (j -1)) g 0 rs.length (λh=>by cases h);have B:=λk=>GR (ts:=ts) (q:=4) (P:=P4 s) (at_:=λ_=>none) g k rs.length (λ_=>rfl)
   have C:∀n,n<rs.length->(nu rs ts (aX rs ts) i j n).length<=lw (λk=>zz rs ts 1 (P1 s) (λk=>some (i+1+k)) k n) (s -2)+(zz rs ts 2 (λ_=>lU.getD (s -1) 0) (λ_=>some i) 0 n+(zz rs ts 3 (λ_=>lU.getD (s -1) 0) (λ_=>some (j -1)) 0 n+lw (λk=>zz rs ts 4 (P4 s) (λ_=>none) k n) (s -1))):=by
    intro n _;unfold nu;cases l:rs[n]? with
    |none=>simp
    |some u=>
     dsimp only
     split
     ·next hk=>
      rw[PS,show j -1 -(i+1)=s -2 from aa];refine ax (EN λk D=>?_) (fq _ _);unfold zz;rw[l];dsimp only
      by_cases c:ed ts (i+1+k) u.sym.toList=true
      ·rw[ak c,ak ⟨hk,c⟩];have e:=d i (i+1+k) u.left aa;have f:=d (i+1+k+1) j u.right aa;rw[show i+1+k -i=k+1 from aa] at e;rw[show j -(i+1+k+1)=s -(k+2) from aa] at f;exact Mf e f
      ·rw[ai c];exact dZ _
     ·split
      ·next hk=>
       refine ax ?_ (ax (fq _ _) (lu _ _));unfold zz;rw[l];dsimp only
       by_cases c:ed ts i u.sym.toList=true
       ·rw[ak c,ak ⟨hk,c⟩];unfold kI;rw[dI];have:=d (i+1) j u.right aa;rw[show j -(i+1)=s -1 from aa] at this;exact this
       ·rw[ai c];exact dZ _
      ·split
       ·next hk=>
        refine ax ?_ (ax (fq _ _) (ax (lu _ _) (lu _ _)));unfold zz;rw[l];dsimp only
        by_cases c:ed ts (j -1) u.sym.toList=true
        ·rw[ak c,ak ⟨hk,c⟩];unfold kI;rw[dI];have:=d i (j -1) u.left aa;rw[show j -1 -i=s -1 from aa] at this;exact this
        ·rw[ai c];exact dZ _
       ·split
        ·next hk=>
         rw[PS,show j -(i+1)=s -1 from aa];refine ax (EN λk D=>?_) (ax (lu _ _) (ax (lu _ _) (lu _ _)));unfold zz;rw[l];dsimp only;rw[ak ⟨hk,rfl⟩];have e:=d i (i+1+k) u.left aa;have f:=d (i+1+k) j u.right aa;rw[show i+1+k -i=k+1 from aa] at e;rw[show j -(i+1+k)=s -(k+1) from aa] at f;exact Mf e f
        ·simp
   refine ax (EN C) ?_;rw[GQ,GQ,GQ,PR,PR (m:=s -1)];have E:=EN (n:=s -2) λk _=>y k
   have F:=EN (n:=s -1) λk _=>B k
   exact ax (Nat.add_le_add E (Nat.add_le_add z (Nat.add_le_add A F))) x
def XF (a:fZ rs=true)(b:ts.length<=7){i j:Nat}(c:j<=ts.length):(aX rs ts i j).length<=1376256:=by
 have h:=XE a (ts:=ts) (j -i) i j rfl aa;have d:lU.getD (j -i) 0<=lU.getD 7 0:=XD aa (aH _);have e:lU.getD 7 0=14589:=rfl;omega
end Ch
namespace El
open At Ch Sp Sy Go.RowKit
end El
namespace Rn
open At Ch Sp Sy El Go.RowKit
def PU (P:Nat->Prop)(g:Nat)(f h:Option Addr)(i j:Nat)(a b:List aG)(w:World)(d:au w g 29 #[.slice f a.length i,.slice h b.length j])(q:fw P w f a)(r:fw P w h b)(t:∀b,w.heap.size<=b->P b)(u:a.length+b.length<=1000000):
  Calls prog 64 #[ay (ag g (0)) 2 2] w λe w'=>(∃A cap l,l=a++b/\e= .returned (.slice A l.length cap)/\l.length<=cap/\cap<=9223372036854775807/\fw P w' A l)/\Below w.heap.size w w':=by
 have m:xw [⟨f,i,a⟩,⟨h,j,b⟩]=a++b:=by simp[xw]
 refine(Px P g [⟨f,i,a⟩,⟨h,j,b⟩] w (λk s c=>?_) d.lt (λs n=>?_) t (by show 2<=_;omega) (by rw[m,aO];exact u)).mono ?_
 ·match k,c with
  |0,c=>obtain rfl:=sj c;exact d.cell 0
  |1,c=>obtain rfl:=sj c;exact d.cell 1
  |k+2,c=>simp at c
 ·rcases dD.1 n with rfl|n
  ·exact q
  ·rw[iT.1 n];exact r
 ·rintro e w' ⟨⟨A,cap,rfl,o,v,p⟩,d⟩;rw[m] at o p;exact⟨⟨A,cap,a++b,rfl,by rw[m],o,v,p⟩,d⟩
def XG (P:Nat->Prop)(g:Nat)(i j m:Option Addr)(n o p:Nat)(a b c:List aG)(w:World)(f:au w g 29 #[.slice i a.length n,.slice j b.length o,.slice m c.length p])(u:fw P w i a)(v:fw P w j b)(x:fw P w m c)(y:∀b,w.heap.size<=b->P b)(z:a.length+b.length+c.length<=1000000):
  Calls prog 64 #[ay (ag g (0)) 3 3] w λe w'=>(∃A cap l,l=a++b++c/\e= .returned (.slice A l.length cap)/\l.length<=cap/\cap<=9223372036854775807/\fw P w' A l)/\Below w.heap.size w w':=by
 have q:xw [⟨i,n,a⟩,⟨j,o,b⟩,⟨m,p,c⟩]=a++b++c:=by simp[xw]
 refine(Px P g [⟨i,n,a⟩,⟨j,o,b⟩,⟨m,p,c⟩] w (λk s d=>?_) f.lt (λs h=>?_) y (by show 3<=_;omega) (by rw[q,aO,aO];exact z)).mono ?_
 ·match k,d with
  |0,d=>obtain rfl:=sj d;exact f.cell 0
  |1,d=>obtain rfl:=sj d;exact f.cell 1
  |2,d=>obtain rfl:=sj d;exact f.cell 2
  |k+3,d=>simp at d
 ·rcases dD.1 h with rfl|h
  ·exact u
  ·rcases dD.1 h with rfl|h
   ·exact v
   ·rw[iT.1 h];exact x
 ·rintro e w' ⟨⟨A,cap,rfl,r,B,t⟩,f⟩;rw[q] at r t;exact⟨⟨A,cap,a++b++c,rfl,by rw[q],r,B,t⟩,f⟩
def GU (lo g:Nat)(c d:Option Addr)(f i:Nat)(a b:List aG)(w:World)(j:au w g 29 #[.slice c a.length f,.slice d b.length i])(k:fw (λb=>lo<=b) w c a)(m:fw (λb=>lo<=b) w d b)(n:lo<=w.heap.size)(o:a.length+b.length<=1000000):
  Calls prog 64 #[ay (ag g (0)) 2 2] w λe w'=>(∃A cap l,l=a++b/\e= .returned (.slice A l.length cap)/\l.length<=cap/\cap<=9223372036854775807/\fw (λb=>lo<=b) w' A l)/\Below w.heap.size w w':=
 PU _ g c d f i a b w j k m (λ_ h=>ax n h) o
def XH (lo g:Nat)(d f i:Option Addr)(j k m:Nat)(a b c:List aG)(w:World)(n:au w g 29 #[.slice d a.length j,.slice f b.length k,.slice i c.length m])(o:fw (λb=>lo<=b) w d a)(p:fw (λb=>lo<=b) w f b)(q:fw (λb=>lo<=b) w i c)(r:lo<=w.heap.size)(s:a.length+b.length+c.length<=1000000):
  Calls prog 64 #[ay (ag g (0)) 3 3] w λe w'=>(∃A cap l,l=a++b++c/\e= .returned (.slice A l.length cap)/\l.length<=cap/\cap<=9223372036854775807/\fw (λb=>lo<=b) w' A l)/\Below w.heap.size w w':=
 XG _ g d f i j k m a b c w n o p q (λ_ h=>ax r h) s
def Bt {rs:List aD}{ts:List aC}{R:List (List aG)}(h:bI rs ts=some R):∀a∈R,a.length<=8*lT ts:=by
 intro a b;have d:=JZ ts R h;obtain⟨i,c⟩:=gz.1 (List.mem_map_of_mem (f:=aQ) b);have e:=Eh c;have g:dK (aQ a)=bK a+1:=sS a;have j:=JA a;have k:=Ka ts;omega
end Rn
end Go.Proofs.YtlefbenkhgbifaaGreatDoor
