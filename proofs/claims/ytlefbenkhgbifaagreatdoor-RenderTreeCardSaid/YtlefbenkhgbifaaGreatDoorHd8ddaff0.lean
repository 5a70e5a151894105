/- term: the term of a reading. -/
import Derived.Test.YtlefbenkhgbifaaGreatDoorHb07fe0d1
set_option linter.all false
set_option maxRecDepth 100000
set_option maxHeartbeats 8000000
namespace Go.Proofs.YtlefbenkhgbifaaGreatDoor.El
open At Ch Sp Sy Go.RowKit Tryz
variable{rs:List aD}{x:Rd}{i j gm ge:Nat}{w:World}{rc cur:Array Value}{kk:Int}{xs xs':List aC}{ad:Addr}{ps:List gP}
def JC (ok:Nat->Prop)(t:aC)(w:World)(e:Ending)(w':World):Prop:=∃c,e= .returned (.agg c)/\bH (λb=>ok b\/w.heap.size<=b) w' t c/\Below w.heap.size w w'
def uL (po:Option gP):Int:=match po with
 |none=>4
 |some p=>if p.vr.data.toList=[] then 4 else 5
def qK (po:Option gP):ByteArray:=match po with
 |none=>⟨#[]⟩
 |some p=>if p.vr.data.toList=[] then⟨#[]⟩ else p.vr
def qL (k:Int)(po:Option gP):ByteArray:=match po with
 |none=>iW k
 |some p=>if p.vr.data.toList=[] then iW k++p.fin else mh++p.fin
def zk (po:Option gP):List aC:=match po with
 |none=>[]
 |some p=>p.scr
def Ve (nam:ByteArray)(k:Int)(po:Option gP)(args:List aC):pQ nam k po args= .mk (uL po) nam (qK po) (qL k po) (zk po++args):=by
 unfold pQ uL qK qL zk;cases po with
 |none=>rfl
 |some p=>
  dsimp only
  split<;>rfl
def Vf (h:mf rs x i j)(a:0<=x.rule):0<x.kids.length:=by
 cases h with
 |leaf i=>exact absurd a (by show ¬(0:Int)<=-1;omega)
 |inf=>exact rP _
 |pre=>exact rP _
 |pos=>exact rP _
 |jux=>exact rP _
def NQ (k:Int):(iW k).size<=20:=by
 unfold iW
 split
 ·decide
 ·split
  ·decide
  ·split<;>decide
structure xe (ok:Nat->Prop)(w:World)(rc:Array Value)(gm:Nat)(kk:Int)(nam vr frm:ByteArray)(v:Value)(xs:List aC)(ge:Nat)(cur:Array Value)(x:World):Prop where
 bel:Below w.heap.size w x
 k0:au x w.heap.size 139 rc
 k1:au x (w.heap.size+1) 25 cK
 km:au x gm 25 #[qI kk,af nam,af vr,v,af frm]
 ke:au x ge 3 cur
 app:dU (λb=>ok b\/gm<b) x (gm+1) v xs
 lm:w.heap.size+2<=gm
 le:w.heap.size+2<=ge
 ne:ge<gm
 lok:∀b,ok b->b<w.heap.size
def xe.keep {ok:Nat->Prop}{w x b:World}{rc:Array Value}{gm:Nat}{kk:Int}{nam vr c:ByteArray}{v:Value}{xs:List aC}{ge:Nat}{cur:Array Value}(h:xe ok w rc gm kk nam vr c v xs ge cur x)(a:Below x.heap.size x b):xe ok w rc gm kk nam vr c v xs ge cur b:=
 ⟨h.bel.trans (a.mono h.bel.size),jL a h.k0,jL a h.k1,jL a h.km,jL a h.ke,h.app.keep a,h.lm,h.le,h.ne,h.lok⟩
def xe.set_ {ok:Nat->Prop}{w x:World}{rc:Array Value}{gm:Nat}{kk kk':Int}{nam vr c vr' frm':ByteArray}{v:Value}{xs:List aC}{ge:Nat}{cur:Array Value}(h:xe ok w rc gm kk nam vr c v xs ge cur x)(o:Nat)(u:Value)(d:au (x.setCell (ag gm o) u) gm 25 #[qI kk',af nam,af vr',v,af frm']):xe ok w rc gm kk' nam vr' frm' v xs ge cur (x.setCell (ag gm o) u):=by
 have a:x.grownBy (x.setCell (ag gm o) u) (some gm):=kJ x (ag gm o) u;have f:=h.lm;have g:=h.ne;refine⟨h.bel.grown a h.bel.size λr e=>av (sj e),h.k0.grown a λe=>av (sj e),h.k1.grown a λe=>av (sj e),d,h.ke.grown a λe=>av (sj e),h.app.set_ (p:=ag gm o) ?_ (by show gm<gm+1;omega) u,f,h.le,g,h.lok⟩;show ¬(ok gm\/gm<gm);intro b;rcases b with b|b
 ·have:=h.lok gm b;omega
 ·omega
def xe.put {ok:Nat->Prop}{x:World}{nam vr d:ByteArray}{v v':Value}(h:xe ok w rc gm kk nam vr d v xs ge cur x)(f:dU (λb=>ok b\/gm<b) x (gm+1) v' xs'):xe ok w rc gm kk nam vr d v' xs' ge cur (x.setCell (ag gm (3)) v'):=by
 have a:x.grownBy (x.setCell (ag gm (3)) v') (some gm):=kJ x (ag gm (3)) v';have g:=h.lm;have i:=h.ne;refine⟨h.bel.grown a h.bel.size λr e=>av (sj e),h.k0.grown a λe=>av (sj e),h.k1.grown a λe=>av (sj e),h.km.set_ 3 v',h.ke.grown a λe=>av (sj e),f.set_ (p:=ag gm (3)) ?_ (by show gm<gm+1;omega) v',g,h.le,i,h.lok⟩;show ¬(ok gm\/gm<gm);intro c;rcases c with c|c
 ·have:=h.lok gm c;omega
 ·omega
def Vg {w':World}(h:w.grownBy w' none):Below w.heap.size w w':=⟨h.os,h.tape,h.output,h.size,λi a=>h.block i a aS⟩
def xe.push {ok:Nat->Prop}{x a:World}{nam vr i:ByteArray}{v v':Value}{row:Option Nat}(h:xe ok w rc gm kk nam vr i v xs ge cur x)(c:x.grownBy a row)(d:∀b,row=some b->gm+1<=b)(j:dU (λb=>ok b\/gm<b) a (gm+1) v' xs'):xe ok w rc gm kk nam vr i v' xs' ge cur (a.setCell (ag gm (3)) v'):=by
 have f:a.grownBy (a.setCell (ag gm (3)) v') (some gm):=kJ a (ag gm (3)) v';have k:=h.lm;have l:=h.ne;have n:=c.size;have m:=h.bel.size;refine⟨(h.bel.grown c m λr e=>av (d r e)).grown f aa λr e=>av (sj e),(h.k0.grown c λe=>by have:=d _ e.symm;omega).grown f λe=>av (sj e),(h.k1.grown c λe=>by have:=d _ e.symm;omega).grown f λe=>av (sj e),(h.km.grown c λe=>by have:=d _ e.symm;omega).set_ 3 v',(h.ke.grown c λe=>by have:=d _ e.symm;omega).grown f λe=>av (sj e),j.set_ (p:=ag gm (3)) ?_ (by show gm<gm+1;omega) v',k,h.le,l,h.lok⟩;show ¬(ok gm\/gm<gm);intro g;rcases g with g|g
 ·have:=h.lok gm g;omega
 ·omega
def Vh {ok:Nat->Prop}(h:gH ok w ad ps){q:Nat}{p:gP}(b:ps[q]?=some p):p.fin.size<=1000/\p.vr.size<=1000/\p.scr.length<=1000:=by
 obtain⟨c,⟨k,a,v,f,e,g,i,A,j,rfl,_,_,_,_,d⟩,_⟩:=h.2 q p b;exact d
def Vi {ok:Nat->Prop}{a:Int}{po:Option gP}{k:Int}(b:po=(if 0<=a then ps[a.toNat]? else none))(d:gH ok w ad ps):(qK po).size<=1000/\(qL k po).size<=2000/\(zk po).length<=1000:=by
 have h:=NQ k;cases po with
 |none=>exact⟨by show(⟨#[]⟩:ByteArray).size<=1000;decide,by show(iW k).size<=2000;omega,by show([]:List aC).length<=1000;decide⟩
 |some p=>
  have e:ps[a.toNat]?=some p:=by
   by_cases c:0<=a
   ·rw[ak c] at b;exact b.symm
   ·rw[ai c] at b;cases b
  obtain⟨i,f,g⟩:=Vh d e;refine⟨?_,?_,g⟩
  ·unfold qK;dsimp only
   split
   ·decide
   ·exact f
  ·unfold qL;dsimp only
   split
   ·rw[Bg];omega
   ·rw[Bg];have:mh.size=4:=rfl;omega
def Vj (h:mf rs x i j):x.kids.length<=3:=by
 cases h with
 |leaf i=>show 0<=3;omega
 |inf=>show 2<=3;omega
 |pre=>show 1<=3;omega
 |pos=>show 1<=3;omega
 |jux=>show 2<=3;omega
def NR (h5 ok:Nat->Prop)(g:Nat)(A:Option Addr)(cap:Nat)(rs:List aD)(a2:Addr)(ps:List gP)(a3:Nat)(s3:ps.length<=a3)(s4:a3<=1000000):∀(m:Nat) (x:Rd) (i j:Nat) (c:Array Value) (w:World),og x<=m->mf rs x i j->wX w g A cap rs->dS h5 w x c->gH ok w a2 ps->(∀b,ok b->b<w.heap.size)->j<=ps.length->
  Calls prog 101 #[qP g,.agg c,qI (j:Int),ay a2 ps.length a3] w (JC ok (mi rs ps x j) w)
 |0,x,i,j,c,w,e5,_,_,_,_,_,_=>absurd (Gb x) aa
 |m+1,x,i,j,c,w,e5,a4,h6,e6,h7,c4,h8=>by
  obtain⟨l7,l8,l9,m0,m1⟩:=Sp.info_parts zN;have m2:=zh (NR h5 ok g A cap rs a2 ps a3 s3 s4 m);obtain⟨J,K,rfl,s5,A1,e7⟩:=e6.form;have e8:=aN w (.cells (dw x.rule x.at_ J x.kids.length K) 139);have s1:(w.alloc (.cells (dw x.rule x.at_ J x.kids.length K) 139)).heap.size=w.heap.size+1:=aS
  have e9:=aN (w.alloc (.cells (dw x.rule x.at_ J x.kids.length K) 139)) (.cells cK 25);have C:=zh (e8.trans (e9.mono e8.size));have D:=zh (ae e9 (au.new w 139 (dw x.rule x.at_ J x.kids.length K)));have E:=zh (au.new (w.alloc (.cells (dw x.rule x.at_ J x.kids.length K) 139)) 25 cK);rw[s1] at E;have f0:=ah (((w.alloc (.cells (dw x.rule x.at_ J x.kids.length K) 139)).alloc (.cells cK 25)).heap.size=w.heap.size+2) (by simp);have m3:=zh h6;have h9:=zh e6;have s6:=zh e7;have c5:=zh h7;have S:=zh c4;have s7:=zh e5;have i0:=zh h8;rcases Ga a4 aa with⟨L,c6,a5,s8⟩|⟨r,u,f1,f2,m4,m5,m6,m7⟩
  ·obtain⟨d,X⟩:∃d,ps[i]?=some d:=⟨_,gE aa⟩
   have s9:=zh (show mi rs ps x j=d.opnd by
    cases x with
    |mk r m8 t0=>
     have f3:r= -1:=L;have t1:m8=(i:Int):=a5;rw[NK,ak aa,t1,fU,X])
   have F:=zh X;have m9:x.rule<0:=aa
   have t2:=zh a5;have A2:(i:Int)<(ps.length:Int):=aa
   rw[a5] at D C h9 f0 E;clear L c6 a5 s8 a4 h6 e6 h7 e7 X e5 h8 m2 e8 e9 s1;go_enter func101,ntmps101;rw[t2.o];go_upto_region 1 with(fail)
   generalize (w.alloc (.cells (dw x.rule (i:Int) J x.kids.length K) 139)).alloc (.cells cK 25)=a6 at*;have f4:=D.o.cell 0;have A3:=D.o.cell 1;have t3:=E.o.cell;have t4:=E.o.frozen;obtain⟨a7,a8,a9,b0,b1,b2,b3,b4,c7,G,_,_,_,_,_,_,c8,c9,d0,n0,n1,_,_,_⟩:=(c5.o.keep C.o).at_ F.o;have t5:=zh G;clear G;go_wp2_with fail;obtain⟨f5,b5,i1,i2,f6⟩:=gQ E.o C.o aa (qI a7) (af a8) (af a9) (.slice b1 b2 b3) (af b0);rw[b5];obtain⟨i3,i4,i5,i6,i7⟩:=jF i1;exact aB (v:=.agg #[qI a7,af a8,af a9,.slice b1 b2 b3,af b0]) (by simp[results,results101,go_sem,i3,i4,i5,i6,i7]) rfl (by rw[s9.o];exact⟨_,rfl,t5.o.grown f6.o (λb _ a e=>aV (sj e) (S.o b a)) (λb _ a=>.inl a),i2.o⟩)
  ·have t6:=zh (Vf a4 aa);have t7:=zh a4;have i8:=zh m5;have i9:=zh m6;have t8:=zh m7;have n2:=zh f1;have n3:=zh f2;have t9:=zh m4;have m9:¬((r:Int)<0):=by omega
   have A4:0<=(r:Int):=aa
   have A5:(r:Int)<(rs.length:Int):=av ((bP.1 f2).1)
   have n4:=ah (1<=(j:Int)/\(j:Int)<=1000000) (av (CY a4));have n5:=zh (show mi rs ps x j= .mk (uL (if 0<=eY rs x j then ps[(eY rs x j).toNat]? else none)) u.nam (qK (if 0<=eY rs x j then ps[(eY rs x j).toNat]? else none)) (qL u.kind (if 0<=eY rs x j then ps[(eY rs x j).toNat]? else none)) (zk (if 0<=eY rs x j then ps[(eY rs x j).toNat]? else none)++iF rs ps x.kids (iI rs x j)) by
    have n6:dF rs (r:Int)=u.kind/\vX rs (r:Int)=u.nam:=by unfold dF vX;rw[fU,f2];exact⟨rfl,rfl⟩
    cases x with
    |mk u0 m8 t0=>
     have f3:u0=(r:Int):=f1;subst f3;rw[NK,ai m9,n6.1,n6.2,Ve];rfl)
   rw[f1] at D C h9 f0 E;clear a4 h6 e6 h7 e7 e5 h8 e8 e9 s1 f1 f2 m4 m5 m6 m7 c4;go_enter func101,ntmps101;rw[n2.o];go_upto_region 1 with(fail)
   generalize (w.alloc (.cells (dw (r:Int) x.at_ J x.kids.length K) 139)).alloc (.cells cK 25)=a6 at*;have b6:=zh (m3.o.keep C.o);have f7:=zh (h9.o.keep C.o);have F:=zh (c5.o.keep C.o);obtain⟨A6,A7,A8,j0,u1,u2⟩:=b6.o.box;obtain⟨n7,ad,rfl,d1,j1,j2,j3,u3,u4,j4⟩:=b6.o.rul.at_ n3.o;have u5:=zh n7;have f4:=D.o.cell 0;have u6:=j0.cell 0;have u7:=D.o.lt;have u8:=j0.lt;have u9:(ad.add (r*6)).block<a6.heap.size:=by rw[gX];exact d1
   clear j0 u1 u2 n7;go_upto_region 3 with(fail)
   go_region;have s:=fC (aN a6 (.cells #[qI u.kind,af u.sym,af u.nam,qI u.prec,qI u.left,qI u.right] 41));have T:=zh ((au.new a6 41 #[qI u.kind,af u.sym,af u.nam,qI u.prec,qI u.left,qI u.right]).drew);rw[f0.o] at T;replace C:=jt C s;replace D:=kp s D;replace E:=kp s E;replace b6:=zh (b6.o.keep s);replace f7:=zh (f7.o.keep s);replace F:=zh (F.o.keep s);have v0:=ah (w.heap.size+2<=(a6.alloc (.cells #[qI u.kind,af u.sym,af u.nam,qI u.prec,qI u.left,qI u.right] 41)).drew.heap.size) (av T.o.lt);rw[f0.o];clear f4 u6 u7 u8 j1 j2 j3 u3 u4 j4 d1 u9 s;generalize (a6.alloc (.cells #[qI u.kind,af u.sym,af u.nam,qI u.prec,qI u.left,qI u.right] 41)).drew=d2 at*;have f4:=D.o.cell;go_wp2_with fail;refine(Np h5 g (some ad) cap rs x _ (j:Int) r u d2 b6.o f7.o n2.o n3.o t9.o n4.o.1 n4.o.2).mono ?_;rintro e f8 ⟨v,rfl,d3,a⟩;have n8:=zh d3;replace C:=jt C a;replace D:=kp a D;replace E:=kp a E;replace T:=kp a T;replace F:=zh (F.o.keep a);have v1:=ah (w.heap.size+2<=d2.heap.size) v0.o;have v2:=ah (w.heap.size+2<f8.heap.size) T.o.lt;clear d3 a f4 b6 f7;obtain⟨ge,v3,cur,rfl,n9,o0,v4,A9,o1⟩:=Ns n8.o (by rw[i9.o];exact t6.o);have j5:=zh o0;have v5:=zh o1;have v6:=zh n9;clear o0 o1 n9 n8;rw[i9.o] at v4⊢;generalize eY rs x (j:Int)=o2 at*;have b7:=ah (w.heap.size+2<f8.heap.size) v2.o;go_upto_region 5 with(fail)
   refine qm [2,1,2,1,1,2,1,3] (List.replicate 8 false) (λf=>[aR (w.heap.size+2) (2),af u.nam,qP (w.heap.size+2),qI u.kind,af (iW u.kind),.agg #[qI 4,af u.nam,qE,qN,af (iW u.kind)],qP (f.n 12),undef]) [(6,λf U=>au U (f.n 12) 25 cK/\f8.heap.size<=f.n 12)] (λ_ _=>True) (bV.cons (λf U d2 h a=>⟨ae a h.1,h.2⟩) bV.nil) (trivial) ?_ ?_
   ·refine⟨jI,jR λf l k=>(ae k T.o).cell 2,jI,jR λf l k=>(ae k T.o).cell 0,λf l k O H=>?_,jI,λf l k O H=>?_,trivial⟩
    ·refine jc 138 (#[qI u.kind]) l aj ((Vd u.kind l).mono ?_);rintro e v7 ⟨rfl,rfl⟩;exact⟨_,rfl,f,rfl,jD,(aL _ _),⟨jH,trivial⟩,trivial⟩
    ·exact jv (qP l.heap.size) (l.alloc (.cells cK 25)) ol ⟨f.setN 12 l.heap.size,rfl,jD,aN l _,⟨⟨au.new l _ _,k.size⟩,trivial⟩,trivial⟩
   ·refine λf l k O H=>?_
    dsimp only[ji] at H;change wpOps _ _ _ [7] _ _;obtain⟨⟨o3,o4⟩,-⟩:=H;have f9:=zh o3;have V:=zh o4;have g0:=jt C k;have o5:=kp k D;have o6:=kp k E;have o7:=kp k j5;have o8:=ah (ge<f8.heap.size) j5.o.lt;replace F:=zh (F.o.keep k);clear o3 o4 O k D E j5 C T;generalize f.n 12=gm at*;clear f;generalize l=g1 at*;have o9:=f9.o.cell;have p0:=f9.o.frozen;have b8:=zh (xP g1 gm (qI 4) (af u.nam) qE qN (af (iW u.kind)));have p1:=zh (sK f9.o (qI 4) (af u.nam) qE qN (af (iW u.kind)));refine oL (o:=_) rfl rfl (w':=((((g1.setCell (ag gm (0)) (qI 4)).setCell (ag gm (1)) (af u.nam)).setCell (ag gm (2)) qE).setCell (ag gm (3)) qN).setCell (ag gm (4)) (af (iW u.kind))) (ek o9 p0) ?_;refine jo ?_;clear o9 p0;have B0:=ah (w.heap.size<=g1.heap.size) g0.o.size;replace F:=ah (gH ok _ a2 ps) (F.o.grown b8.o (fD V.o b7.o c5.o.1) (λb a=>fD (S.o b a) V.o b7.o));generalize ((((g1.setCell (ag gm (0)) (qI 4)).setCell (ag gm (1)) (af u.nam)).setCell (ag gm (2)) qE).setCell (ag gm (3)) qN).setCell (ag gm (4)) (af (iW u.kind))=d4 at*;have d5:=zh (xe.mk (ok:=ok) (xs:=[]) (v:=qN) (g0.o.grown b8.o g0.o.size λr e=>fD (sj e) V.o b7.o) (o5.o.grown b8.o λe=>fD (sj e) V.o b7.o) (o6.o.grown b8.o λe=>fD (sj e) V.o b7.o) p1.o (o7.o.grown b8.o λe=>fD (sj e) V.o o8.o) (dU.nil _ _ _) (aV V.o b7.o) (aV v6.o v1.o) (aV V.o o8.o) S.o);clear b8 p1 f9 g0 o5 o6 o7;obtain⟨q,j6⟩:∃q,q=(if 0<=o2 then ps[o2.toNat]? else none):=⟨_,rfl⟩
    rw[<-j6] at n5;have d6:=zh j6;clear j6;go_upto_if 47 with(fail)
    go_cut [] (λwc=>∃v,Hy (xe ok w (dw (r:Int) x.at_ J x.kids.length K) gm (uL q) u.nam (qK q) (qL u.kind q) v (zk q) ge cur wc))
    case first=>
     rcases i8.o with rfl|⟨j7,rfl,B1⟩
     ·have g2:=ah (q=none) (by rw[d6.o];rfl);clear i8 d6;go_wp2;go_meet;rw[g2.o];exact⟨_,d5⟩
     ·obtain⟨d,X⟩:∃d,ps[j7]?=some d:=⟨_,gE (av i0.o)⟩
      have g2:=ah (q=some d) (by rw[d6.o,ak aa,fU,X]);obtain⟨a7,a8,a9,b0,b1,b2,b3,b4,c7,G,B2,B3,d7,B4,B5,B6,c8,c9,d0,n0,n1,v8,v9,w0⟩:=F.o.at_ X;have g3:=zh d7;have B7:(0:Int)<=(j7:Int):=aa
      have B8:(j7:Int)<(ps.length:Int):=av i0.o
      clear i8 d6 G d7 X;go_upto_region 8 with(fail)
      have s:=aN d4 (.cells #[qI a7,af a8,af a9,.slice b1 b2 b3,af b0,.slice b4 d.scr.length c7,af d.fin,af d.vr] 143);have j8:=zh (au.new d4 143 #[qI a7,af a8,af a9,.slice b1 b2 b3,af b0,.slice b4 d.scr.length c7,af d.fin,af d.vr]);have g4:=ah (gm<d4.heap.size) d5.o.km.lt;have b9:=zh (d5.o.keep s);have p2:=zh (g3.o.keep s);clear s c8 c9 d0 n0 n1 v8 v9 w0 d5 g3;generalize d4.heap.size=p3 at*;generalize d4.alloc (.cells #[qI a7,af a8,af a9,.slice b1 b2 b3,af b0,.slice b4 d.scr.length c7,af d.fin,af d.vr] 143)=Y at*;have p4:=b9.o.km.cell 4;have p5:=b9.o.km.frozen 4;have p6:=j8.o.cell 6;have B9:=NQ u.kind;go_upto_region 9 with(fail)
      have d8:=zh (b9.o.set_ 4 (af (iW u.kind++d.fin)) (b9.o.km.set_ 4 (af (iW u.kind++d.fin))));have g5:Y.grownBy (Y.setCell (ag gm (4)) (af (iW u.kind++d.fin))) (some gm):=kJ Y (ag gm (4)) _;have j9:=zh (j8.o.grown g5 λe=>aV (sj e) g4.o);have w1:=zh (λb (a:ok b)=>show b≠gm from aV (S.o b a) b9.o.lm);have p7:=ah (qw ok (Y.setCell (ag gm (4)) (af (iW u.kind++d.fin))) b4 d.scr) (p2.o.map g5.size (λ_ _ h=>h) (λd _ a=>dm (g5.block _ ‹_› λe=>w1.o _ a (sj e))));clear p4 p5 p6 g5 b9 j8 p2;generalize Y.setCell (ag gm (4)) (af (iW u.kind++d.fin))=W at*;obtain⟨g6,p8,k0,p9⟩:=NH p7.o;have q0:∀k1∈g6.flatMap (·.toList),k1.oneCell'=true:=λk1 w2=>by
       obtain⟨z,w3,w4⟩:=oo.1 w2;obtain⟨w5,d9⟩:=gz.1 w3;have C0:=(bP.1 d9).1;exact yI (k0 w5 z _ d9 (gE aa)) k1 w4
      have k2:=d8.o.km.cell 3;have w6:=j9.o.cell 5;have w7:=ah (gm<W.heap.size) d8.o.km.lt;go_wp2_with (at_builtin;refine uG _ rfl (.tmp 59) (.tmp 61) 23 rfl (gm+1) 25 l7 (.agg qT) 5 80 underlying23 l8 l9 m0 m1 rfl aI _ 0 [] rfl (iR _ _ _ _) _ b4 d.scr.length c7 (g6.flatMap (·.toList)) rfl p9 q0 gy aa (av w7.o) ?_)
      intro Z a0 a1 M c0;have g7:Below W.heap.size W a0:=Vg M;have k3:=zh (dU.copy (P:=λb=>ok b\/gm<b) (B:=gm+1) (v:=Z) p8 k0 (by simpa using a1) g7 (λb _ a=>⟨.inl a,aV (S.o b a) d8.o.lm⟩));have g8:=zh (d8.o.keep g7);have q1:=kp g7 j9;clear k2 w6 p8 k0 p9 q0 a1 M c0 g7 d8 j9 p7;have k2:=g8.o.km.cell 3;have g9:=g8.o.km.frozen 3;obtain⟨q2,q3,h0,_⟩:=k3.o.form (λb a=>.inr aa);subst h0;go_upto_region 10 with(fail)
      have I:=zh (g8.o.put k3.o);have q4:=zh (q1.o.grown (show a0.grownBy (a0.setCell (ag gm (3)) (.slice q2 d.scr.length q3)) (some gm) from kJ a0 (ag gm (3)) _) λe=>aV (sj e) g4.o);clear k2 g9 g8 q1 k3;generalize a0.setCell (ag gm (3)) (.slice q2 d.scr.length q3)=f5 at*;have C1:=q4.o.cell 7;have p6:=q4.o.cell 6
      by_cases N:d.vr.data.toList=[]
      ·have k4:d.vr.toList.isEmpty=true:=by rw[bz,N];rfl
       have w8:(!d.vr.toList.isEmpty)=false:=by rw[k4];rfl
       have Q:=ah (uL q=4/\qK q=⟨#[]⟩/\qL u.kind q=iW u.kind++d.fin/\zk q=d.scr) (by rw[g2.o];unfold uL qK qL zk;dsimp only;rw[ak N,ak N,ak N];exact⟨rfl,rfl,rfl,rfl⟩);clear N;go_wp2;go_meet;rw[Q.o.1,Q.o.2.1,Q.o.2.2.1,Q.o.2.2.2];exact⟨_,I⟩
      ·have k4:d.vr.toList.isEmpty=false:=by rw[bz];exact uX.2 N
       have w8:(!d.vr.toList.isEmpty)=true:=by rw[k4];rfl
       have Q:=ah (uL q=5/\qK q=d.vr/\qL u.kind q=mh++d.fin/\zk q=d.scr) (by rw[g2.o];unfold uL qK qL zk;dsimp only;rw[ai N,ai N,ai N];exact⟨rfl,rfl,rfl,rfl⟩);clear N;have C2:=I.o.km.cell 0;have C3:=I.o.km.cell 2;have p4:=I.o.km.cell 4;have C4:=I.o.km.frozen 0;have C5:=I.o.km.frozen 2;have p5:=I.o.km.frozen 4;have C6:gm≠p3:=av g4.o
       have C7:p3≠gm:=av g4.o
       go_upto_region 11 with(fail)
       go_region;go_wp2;go_meet;rw[Q.o.1,Q.o.2.1,Q.o.2.2.1,Q.o.2.2.2];have q5:=I.o.keep (fC (aL f5.heap.size f5));have q6:=q5.set_ (kk':=5) 0 (qI 5) (q5.km.set_ 0 (qI 5));have q7:=q6.set_ (kk':=5) (vr':=d.vr) 2 (af d.vr) (q6.km.set_ 2 (af d.vr));exact⟨_,zh (q7.set_ (kk':=5) (vr':=d.vr) (frm':=mh++d.fin) 4 (af (mh++d.fin)) (q7.km.set_ 4 (af (mh++d.fin))))⟩
    obtain⟨w9,k5⟩:=hcut;have k6:=ah ((qK q).size<=1000/\(qL u.kind q).size<=2000/\(zk q).length<=1000) (Vi d6.o c5.o);clear d5 F;generalize uL q=kk at*;generalize qK q=vr at*;generalize qL u.kind q=k7 at*;generalize zk q=e0 at*;have x0:=ah ((iI rs x j).length=x.kids.length) i9.o;have q8:=k5.o.k0.cell 2;dsimp only[dw] at q8;go_wp2_with fail
    go_loopw [78] (λi wr=>∃(t:Nat) (v:Value),t<=x.kids.length/\i=qI t/\Hy (xe ok w (dw (r:Int) x.at_ J x.kids.length K) gm kk u.nam vr k7 v (e0++iF rs ps (x.kids.take t) ((iI rs x j).take t)) ge cur wr)) (λi _=>x.kids.length -(intOf i).toNat)
    case atStart=>exact⟨0,w9,aa,rfl,by rw[eZ,eZ,show iF rs ps ([]:List Rd) ([]:List Int)=[] by simp[iF],bX];exact k5⟩
    case round=>
     clear k5 q8;obtain⟨t,v,C8,rfl,n⟩:=hrel
     by_cases c4:t<x.kids.length
     ·obtain⟨y,e1⟩:∃y,x.kids[t]?=some y:=⟨_,gE c4⟩
      obtain⟨x1,e2,k8,q9,d9,r0⟩:=t8.o t y e1;obtain⟨e3,c1,c2,rfl,d1,r1,C9,D0,x2,c8,c9,d0⟩:=iE.at_ s6.o e1;have k9:∀o,(⟨(e3.add (t*3)).block,o,none⟩:Addr).block<w.heap.size:=λo=>by show(e3.add (t*3)).block<_;rw[gX];exact d1
      have x3:=(n.o.bel.cell (p:=e3.add (t*3)) (by rw[gX];exact d1)).trans c8;have f3:=(n.o.bel.cell (k9 ((e3.add (t*3)).off+1))).trans c9;have x4:=(n.o.bel.cell (k9 ((e3.add (t*3)).off+2))).trans d0;have x5:=zh (NI (rs:=rs) (ps:=ps) e1 k8);have x6:=zh (v5.o t _ k8);have x7:=zh q9;have x8:=zh (And.intro d9 r0);have x9:=ah (og y<=m) (by have L:=zf e1;have:=s7.o;omega);have r2:=zh (show(e0++iF rs ps (x.kids.take t) ((iI rs x j).take t)).length<=1000+t by
       have L:=NJ (rs:=rs) (ps:=ps) (ks:=x.kids.take t) (es:=(iI rs x j).take t);rw[eU] at L;rw[aO];have:=k6.o.2.2;omega)
      have y0:=ah (x.kids.length<=3) (Vj t7.o);have h1:=zh (r1.keep n.o.bel);have h2:=zh (m3.o.keep n.o.bel);have h3:=zh (c5.o.keep n.o.bel);clear c8 c9 d0 r1 x2 q9 d9 r0 k8 k9 e1;obtain⟨xs,l0⟩:∃xs,xs=e0++iF rs ps (x.kids.take t) ((iI rs x j).take t):=⟨_,rfl⟩
      have y1:=zh l0;rw[<-l0] at n r2;clear l0;go_upto_region 15 with(fail)
      have s:=aN wr (.cells (dw y.rule y.at_ c1 y.kids.length c2) 139);have e4:=zh (au.new wr 139 (dw y.rule y.at_ c1 y.kids.length c2));have y2:=ah (gm<wr.heap.size) n.o.km.lt;replace n:=zh (n.o.keep s);replace h1:=zh (h1.o.keep s);replace h2:=zh (h2.o.keep s);replace h3:=zh (h3.o.keep s);clear s x3 f3 x4;generalize wr.heap.size=D1 at*;generalize wr.alloc (.cells (dw y.rule y.at_ c1 y.kids.length c2) 139)=Y at*;have D2:(t:Int)<((x.kids.length:Nat):Int):=aa
      refine qm [2,1,2,1,2,2,2,1,2,1,1,3,2,3] (List.replicate 14 false) (λf=>[aR gm (3),v,qP g,.agg (dw y.rule y.at_ c1 y.kids.length c2),ay (ag ge (0)) x.kids.length v3,qI (↑t),aR ge t,qI (e2:Int),ay a2 ps.length a3,f.v 92,ay ⟨f.n 93,0,none⟩ 1 1,undef,aR gm (3),undef]) [(9,λf U=>∃z,f.v 92= .agg z/\bH (λb=>ok b\/f.n 92<=b) U (mi rs ps y e2) z/\Y.heap.size<=f.n 92),(10,λf U=>∃z,f.v 92= .agg z/\au U (f.n 93) 25 z)] (λ_ _=>True) (bV.cons (λf U d2 ⟨z,L,c6,a5⟩ a=>⟨z,L,c6.keep a,a5⟩) (bV.cons (λf U d2 ⟨z,L,c6⟩ a=>⟨z,L,ae a c6⟩) bV.nil)) (trivial) ?_ ?_
      ·refine⟨jI,jR λf l k=>(ae k n.o.km).cell 3,jC,λf l k O H=>?_,jC,jC,λf l=>?_,jR λf l k=>((ae k n.o.ke).cell t).trans x6.o,jC,λf l k O H=>?_,λf l k O H=>?_,jI,trivial⟩
       ·have j1:=(ae k e4.o).cell 0;have j2:=(ae k e4.o).cell 1;have j3:=(ae k e4.o).cell 2;exact gs (.agg (dw y.rule y.at_ c1 y.kids.length c2)) O aj (om j1 j2 j3) rfl
       ·exact jp (aR ge t) (gY c4) rfl
       ·refine jc 101 (#[qP g,.agg (dw y.rule y.at_ c1 y.kids.length c2),qI (e2:Int),ay a2 ps.length a3]) l aj ((m2.o y x1 e2 _ l x9.o x7.o (h2.o.keep k) (h1.o.keep k) (h3.o.keep k) (λb a=>ll (S.o b a) (ax n.o.bel.size k.size)) (aV x8.o.1 i0.o)).mono ?_);rintro e v7 ⟨z,rfl,G,a⟩;exact⟨_,rfl,(f.setV 92 (.agg z)).setN 92 l.heap.size,rfl,jD,a,⟨⟨z,rfl,G,k.size⟩,jG,trivial⟩,trivial⟩
       ·have y3:=jE H.1;obtain⟨z,h0,G,_⟩:=y3;obtain⟨y4,y5,y6,y7,y8,y9,z0,rfl⟩:=G.ext;exact jv (ay (ag l.heap.size (0)) 1 1) (l.alloc (.cells #[qI y4,af y5,af y6,.slice y7 y8 y9,af z0] 25)) (bT h0) ⟨f.setN 93 l.heap.size,rfl,jD,aN l _,⟨jH,⟨_,h0,au.new l _ _⟩,trivial⟩,trivial⟩
      ·refine λf l k O H=>?_
       dsimp only[ji] at H;change wpOps _ _ _ [11,13] _ _;obtain⟨⟨z,l1,G,z1⟩,⟨l2,l3,r3⟩,-⟩:=H;have z2:l2=z:=by rw[l1] at l3;injection l3 with z3;exact z3.symm
       subst z2;have c3:=zh (n.o.keep k);have h4:=zh (λb a=>(n.o.app.ltT b a));have l4:=zh (G.any (ok':=λb=>v.ownBlock≠some b/\(ok b\/gm<b)) λb _ a=>by
        have D3:=y2.o;have s5:=n.o.lm;have e7:=e4.o.lt;refine⟨λe=>?_,a.imp id λh=>aa⟩;have L:=h4.o b e;rcases a with h|h
        ·have:=S.o b h;omega
        ·omega)
       have z4:=zh r3;rw[l1];clear G z1 r3 l1 l3 k O n e4 h3 h2 h1;generalize f.n 93=z5 at*;clear f;generalize l=W at*;obtain⟨g6,d3,r4,r5⟩:=c3.o.app;have D4:xs.length<=1100:=aV r2.o y0.o
       have r6:=Sp.vF z4.o l4.o.size;have r7:=yI l4.o;have r8:gm+1<=W.heap.size:=c3.o.km.lt;refine wo (o:=_) (R:=λZ l5=>l5.ownsRow (gm+1) 25 5 Z (xs.length+1) (g6.flatMap (·.toList)++l2.toList)/\W.grownBy l5 v.ownBlock/\(Z.ownBlock=v.ownBlock\/Z.ownBlock=some W.heap.size)) rfl rfl (wQ (.tmp 84) (.tmp 93) 23 rfl (gm+1) 25 l7 (.agg qT) 5 80 underlying23 l8 l9 m0 m1 rfl aI v _ _ rfl d3 W.heap.size (some (ag z5 (0))) 1 1 l2.toList rfl r6 r7 gy aa r8 λZ l5 a1 M c0=>⟨a1,M,c0⟩) ?_;rintro Z a0 ⟨a1,M,c0⟩;have l6:=dU.push r4 r5 l4.o a1 M c0;obtain⟨z6,j4,b5,_⟩:=l6.form (λb a=>.inr aa);rw[aO,gN] at b5;subst b5;have r9:=(c3.o.km.grown M λe=>by have:=(h4.o _ e.symm).1;omega).cell 3;have g9:=(c3.o.km.grown M λe=>by have:=(h4.o _ e.symm).1;omega).frozen 3;have I:=zh (c3.o.push M (λb a=>(h4.o b a).1) l6);refine oL (o:=_) rfl rfl (w':=a0.setCell (ag gm (3)) (.slice z6 (xs.length+1) j4)) (ek r9 g9) ?_;refine jo ?_;clear r9 g9 l6 d3 r4 r5 a1 M c0 c3 r6 r7 r8;have z7:xs++[mi rs ps y e2]=e0++iF rs ps (x.kids.take (t+1)) ((iI rs x j).take (t+1)):=by rw[y1.o,cu,<-x5.o]
       rw[z7] at I;go_wp2;go_roundw
       case rel=>exact⟨t+1,_,aa,bi,I⟩
       case measure=>simp[intOf];omega
     ·obtain rfl:t=x.kids.length:=by omega
      rw[bW,fA (by rw[x0.o];exact aH _)] at n;generalize e0++iF rs ps x.kids (iI rs x j)=xs at*;obtain⟨s0,s2,rfl,z8,z9,d7⟩:=n.o.app.form λb a=>.inr aa
      have g3:=zh d7;have D5:=λi=>n.o.km.cell i
      have t3:=λi=>n.o.k1.cell i
      have t4:=λi=>n.o.k1.frozen i
      have A0:=zh n.o.k1;clear d7;go_wp2_with fail;obtain⟨f5,b5,i1,i2,f6⟩:=gQ A0.o n.o.bel aa (qI kk) (af u.nam) (af vr) (.slice s0 xs.length s2) (af k7);rw[b5];obtain⟨i3,i4,i5,i6,i7⟩:=jF i1;exact aB (v:=.agg #[qI kk,af u.nam,af vr,.slice s0 xs.length s2,af k7]) (by simp[results,results101,go_sem,i3,i4,i5,i6,i7]) rfl (by rw[n5.o];exact⟨_,rfl,bH.of (u5.o.2) (av k6.o.1) (av k6.o.2.1) z8 z9 (g3.o.map f6.o.size (λb _ a=>a.elim .inl λa=>.inr (av n.o.lm)) λd _ a=>dm (f6.o.block _ ‹_› λe=>by have:=sj e;have:=n.o.lm;rcases a with a|a<;>(try have:=S.o _ a)<;>omega)),i2.o⟩)
end Go.Proofs.YtlefbenkhgbifaaGreatDoor.El
