/- list: the meaning of the items of a row. -/
import Derived.Test.YtlefbenkhgbifaaGreatDoorHd8ddaff0
import Derived.Test.YtlefbenkhgbifaaGreatDoorHdd7a3b3e
set_option linter.all false
set_option maxRecDepth 100000
set_option maxHeartbeats 8000000
namespace Go.Proofs.YtlefbenkhgbifaaGreatDoor.El
open At Ch Sp Sy Go.RowKit Tryz
def Vp:(prog.info? 143).map (λi=>(i.zero,i.size,i.bytes))=some (some (.agg qU),8,136):=aj
structure Ca (w w3:World)(gr gp:Nat)(RA:List Int)(ps:List gP)(x:World):Prop where
 b3:Below w3.heap.size w3 x
 k0:au x w.heap.size 25 cK
 rl:yJ x gr RA
 pa:kP (λb=>gp<b) x gp ps
 l3:w3.heap.size<=gr
 lp:gr<gp
def Ca.keep {w w3 x b:World}{c d:Nat}{e:List Int}{ps:List gP}(h:Ca w w3 c d e ps x)(a:Below x.heap.size x b):Ca w w3 c d e ps b:=
 ⟨h.b3.trans (a.mono h.b3.size),jL a h.k0,jL a h.rl,h.pa.keep a,h.l3,h.lp⟩
def kP.cells {ok:Nat->Prop}{w:World}{a:Nat}{ps:List gP}(h:kP ok w a ps){q:Nat}(d:q<ps.length):∃u:Nat->Value,∀j,j<8->w.cell? (ag a (q*8+j))=some (u j)/\w.frozen? (ag a (q*8+j))=false:=by
 obtain⟨b,c,e,f⟩:=h;refine⟨λj=>b.getD (q*8+j) undef,λj g=>⟨?_,c.frozen _⟩⟩;rw[c.cell];show b[q*8+j]?=some (b.getD (q*8+j) undef);rw[bR,cB aa];rfl
def Vq {M:List aG->List Int->Nat->bO aC}{n:aG}{path:List Int}{p:gP}(h:qH M n path= .ok p):p=⟨p.opnd,[],⟨#[]⟩,⟨#[]⟩⟩:=by
 unfold qH at h
 split at h
 ·injection h with h;rw[<-h]
 ·split at h
  ·injection h with h;rw[<-h]
  ·split at h
   ·injection h with h;rw[<-h]
   ·unfold bO.then_ at h
    split at h
    ·injection h with h;rw[<-h]
    ·cases h
def Vr (a:List (Int×Int))(n:Nat):(wT a n).length=n:=by
 unfold wT;rw[show ∀l:List Int,a.foldl (λl p=>l.set p.1.toNat p.2) l=yf l a from λ_=>rfl,Ji,mG]
def zl (lo:Nat)(m:bO gP)(w:World)(c f:Value):Prop:=match m with
 | .ok p=>∃cc,c= .agg cc/\f= .pointer none/\uV (λb=>lo<=b) w p cc
 | .bad er p=>c= .agg qU/\∃g,f=qP g/\wY (λb=>lo<=b) w g er p
def zl.keep {lo:Nat}{m:bO gP}{w w':World}{c f:Value}(h:zl lo m w c f)(e:Below w.heap.size w w'):zl lo m w' c f:=by
 cases m with
 |ok t=>obtain⟨i,a,b,d⟩:=h;exact⟨i,a,b,d.keep e⟩
 |bad j p=>obtain⟨a,g,b,d⟩:=h;exact⟨a,g,b,d.keep e⟩
def yl.res {m:bO gP}{w:World}{e:Ending}{w':World}{lo:Nat}(h:yl m w e w')(a:lo<=w.heap.size):∃c f,e= .returned (.tuple #[c,f])/\zl lo m w' c f/\Below w.heap.size w w':=by
 obtain⟨d,i⟩:=h;cases m with
 |ok p=>
  obtain⟨c,rfl,j⟩:=d;exact⟨_,_,rfl,⟨c,rfl,rfl,j.any λb _ h=>ax a h⟩,i⟩
 |bad l q=>
  obtain⟨g,rfl,k⟩:=d;exact⟨_,_,rfl,⟨rfl,g,rfl,k.any λb _ h=>ax a h⟩,i⟩
def Vs (g:Nat)(A:Option Addr)(cap:Nat)(rs:List aD)(v1:rs.length<=cap)(v2:cap<=9223372036854775807)(f:Nat)(p4:Eu g A cap rs f):Eu g A cap rs (f+1):=by
 intro G z j v3 c9 b3 d0 J p5 p6 A5 A6 p7 p8 p9 q0 A7;obtain⟨A8,A9,B0,B1,B2⟩:=Sp.info_parts zN;have r:=zh (aN J (.cells cK 25));have B:=zh (au.new J 25 cK);have g1:=zh p5;have q1:=zh p6;have g2:=zh p7;have d1:=zh p8;have q2:=zh p9;have v4:=zh q0;have q3:=zh p4;have i2:=ah (G.length<=1000000) (av (JA G));have b1:=ah (J.heap.size<(J.alloc (.cells cK 25)).heap.size) aS;clear p5 p6 p7 p8 p9 q0 p4;go_enter func69,ntmps69;go_upto_region 1 with(fail)
 generalize J.alloc (.cells cK 25)=d2 at*
 by_cases i3:G.length<=j
 ·have v5:(G.length:Int)<=(j:Int):=by omega
  have i4:=ah (dE rs (f+1) G z j= .bad 15 (z++[(j:Int)])) (by rw[dE];unfold xN;rw[ak i3]);clear i3;go_wp2_with fail;refine(Er c9 z d0 ((j:Int)) 15 d2 (g2.o.keep r.o) (av d1.o)).mono ?_;rintro e i5 ⟨H,rfl,I,d⟩;have R:=zh I;have i6:=zh r.o.size;replace r:=jt r d;replace B:=kp d B;have a9:=ah (J.heap.size<d2.heap.size) b1.o;clear d I;have g3:=B.o.cell;have g4:=B.o.frozen;go_wp2_with fail;obtain⟨m,S,T,U,V⟩:=gQ B.o r.o aa (qI 0) qE qE qN qE;rw[S];obtain⟨W,X,Y,Z,a0⟩:=jF T;exact aB (v:=.tuple #[.agg qT,qP H]) (by simp[results,results69,go_sem,W,X,Y,Z,a0]) rfl (show rZ _ _ _ _ by rw[i4.o];exact⟨⟨H,rfl,(R.o.grown V.o λd=>av a9.o).any λb _ d=>av a9.o⟩,U.o⟩)
 have v5:¬((G.length:Int)<=(j:Int)):=aa
 have i4:=ah (dE rs (f+1) G z j=xN rs (dE rs f) G z j) (by rw[dE]);obtain⟨e8,rfl⟩:∃e8,v3=some e8:=by
  obtain⟨e8,h,_⟩:=q1.o 0 _ (gE aa);exact⟨e8,h⟩
 obtain⟨l,h2⟩:∃l,l=G.drop j:=⟨_,rfl⟩
 have l8:=zh h2;have g5:=ah (l.length=G.length -j) (by rw[h2,lg]);have q4:=ah (mO d2 (some (e8.add (j*4))) l) (by rw[h2];exact NG (q1.o.keep r.o) j);have v6:=zh (g1.o.keep r.o);have q5:=zh i3;have l9:=ah (∀n∈l,fJ n=true/\sF 1 n.kind=false) (λn b2=>Ew v4.o n (by rw[h2] at b2;exact pq b2));have B3:¬(b3=j):=aa
 have B4:j<=b3:=aa
 have B5:j<=G.length:=aa
 clear h2 i3;go_upto_region 3 with(fail)
 go_wp2_with fail;rw[<-g5.o];refine(Uo g A (some (e8.add (j*4))) cap (b3 -j) rs l d2 v6.o q4.o (λn b2 v7=>by obtain⟨q6,sub,i7,e⟩:=Jv (l9.o n b2).1 v7;rw[e];simp) (aV g5.o i2.o)).mono ?_;rintro e e9 ⟨b7,d⟩;replace r:=jt r d;replace B:=kp d B;have q7:=ah (J.heap.size<e9.heap.size) (ll b1.o d.size);have B6:=zh d.size;have q8:=zh d;clear d;cases Q:jP rs l with
 |inr i8=>
  rw[Q] at b7;subst b7;have m0:i8<l.length:=Jy Q;have c1:=zh (show dE rs (f+1) G z j= .bad 15 (z++[(j:Int)+(i8:Int)]) by
   rw[i4.o];unfold xN;rw[ai q5.o,<-l8.o,Q];dsimp only;rw[pu])
  have B7:(j:Int)+(i8:Int)<=2000000:=aV g5.o i2.o
  clear Q m0;replace b1:=q7;go_wp2_with fail;refine(Er c9 z d0 ((j:Int)+(i8:Int)) 15 e9 (g2.o.keep r.o) (av d1.o)).mono ?_;rintro e i5 ⟨H,rfl,I,d⟩;have R:=zh I;have i6:=zh r.o.size;replace r:=jt r d;replace B:=kp d B;have a9:=ah (J.heap.size<e9.heap.size) b1.o;clear d I;have g3:=B.o.cell;have g4:=B.o.frozen;go_wp2_with fail;obtain⟨m,S,T,U,V⟩:=gQ B.o r.o aa (qI 0) qE qE qN qE;rw[S];obtain⟨W,X,Y,Z,a0⟩:=jF T;exact aB (v:=.tuple #[.agg qT,qP H]) (by simp[results,results69,go_sem,W,X,Y,Z,a0]) rfl (show rZ _ _ _ _ by rw[c1.o];exact⟨⟨H,rfl,(R.o.grown V.o λd=>av a9.o).any λb _ d=>av a9.o⟩,U.o⟩)
 |inl i=>
  rw[Q] at b7;obtain⟨v,rfl,q9⟩:=b7;have v8:=zh (Jz (λn b2=>(l9.o n b2).1) Q);have h3:=zh (Al Q);obtain⟨v9,w0,rfl,B8,B9,r0⟩:=q9.at_ v8.o;have i9:=zh r0;have r1:=zh Q;have r2:=zh (g1.o.keep r.o);obtain⟨w1,w2,w4,h4,w5,w6⟩:=r2.o.box;have q6:=h4.cell 0;clear q9 r0 Q h4 w5 w6;go_upto_region 6 with(fail)
  go_wp2_with fail;refine(Ch.Ux A v9 cap w0 rs i e9 r2.o.rul i9.o v1 v2).mono ?_;rintro e D ⟨C0,C1,rfl,m1,C2,r3,d⟩;have j0:=zh r3;replace r:=jt r d;replace B:=kp d B;replace i9:=zh (i9.o.keep d);replace b1:=ah (J.heap.size<D.heap.size) (ll q7.o d.size);have C3:=zh d.size;have r4:=ah (Below d2.heap.size d2 D) (q8.o.trans (d.mono q8.o.size));clear r3 d q6;have f0:=ah (qJ rs i=(xM rs i).take 2) (by unfold qJ xM;split<;>simp);have c2:=zh (show dE rs (f+1) G z j=(match xM rs i with
   |[]=>.bad 15 (z++[(j:Int)])
   |[F]=>(pR rs (dE rs f) z (λa1=>dF rs ((wT (eQ rs F i.length) i.length).getD a1 0)) j l i 0).then_ λh5=>.ok (mi rs h5 F i.length)
   |_::_::_=>.bad 14 (z++[(j:Int)])) by
   rw[i4.o];unfold xN;rw[ai q5.o,<-l8.o,r1.o];rfl)
  cases K:xM rs i with
  |nil=>
   have c1:=ah (dE rs (f+1) G z j= .bad 15 (z++[(j:Int)])) (by rw[c2.o,K]);rw[f0.o,K];rw[f0.o,K] at m1 j0;have h6:wm rs i=0\/wm rs i=1:=by unfold wm;split<;>simp
   generalize wm rs i=C4 at*;clear K c2 f0;rcases h6 with rfl|rfl
   ·go_wp2_with fail;refine(Er c9 z d0 ((j:Int)) 15 D (g2.o.keep r.o) (av d1.o)).mono ?_;rintro e i5 ⟨H,rfl,I,d⟩;have R:=zh I;have i6:=zh r.o.size;replace r:=jt r d;replace B:=kp d B;have a9:=ah (J.heap.size<D.heap.size) b1.o;clear d I;have g3:=B.o.cell;have g4:=B.o.frozen;go_wp2_with fail;obtain⟨m,S,T,U,V⟩:=gQ B.o r.o aa (qI 0) qE qE qN qE;rw[S];obtain⟨W,X,Y,Z,a0⟩:=jF T;exact aB (v:=.tuple #[.agg qT,qP H]) (by simp[results,results69,go_sem,W,X,Y,Z,a0]) rfl (show rZ _ _ _ _ by rw[c1.o];exact⟨⟨H,rfl,(R.o.grown V.o λd=>av a9.o).any λb _ d=>av a9.o⟩,U.o⟩)
   ·go_wp2_with fail;refine(Er c9 z d0 ((j:Int)) 15 D (g2.o.keep r.o) (av d1.o)).mono ?_;rintro e i5 ⟨H,rfl,I,d⟩;have R:=zh I;have i6:=zh r.o.size;replace r:=jt r d;replace B:=kp d B;have a9:=ah (J.heap.size<D.heap.size) b1.o;clear d I;have g3:=B.o.cell;have g4:=B.o.frozen;go_wp2_with fail;obtain⟨m,S,T,U,V⟩:=gQ B.o r.o aa (qI 0) qE qE qN qE;rw[S];obtain⟨W,X,Y,Z,a0⟩:=jF T;exact aB (v:=.tuple #[.agg qT,qP H]) (by simp[results,results69,go_sem,W,X,Y,Z,a0]) rfl (show rZ _ _ _ _ by rw[c1.o];exact⟨⟨H,rfl,(R.o.grown V.o λd=>av a9.o).any λb _ d=>av a9.o⟩,U.o⟩)
  |cons F w7=>
   have h6:wm rs i=0:=by
    unfold wm;unfold xM at K
    by_cases m2:(fZ rs&&qQ i)=true
    ·rw[ak m2]
    ·rw[ai m2] at K;cases K
   cases j1:w7 with
   |cons C5 C6=>
    rw[j1] at K;have c1:=ah (dE rs (f+1) G z j= .bad 14 (z++[(j:Int)])) (by rw[c2.o,K]);rw[f0.o,K];clear K c2 f0 j1 h6 m1 j0;go_wp2_with fail;refine(Er c9 z d0 ((j:Int)) 14 D (g2.o.keep r.o) (av d1.o)).mono ?_;rintro e i5 ⟨H,rfl,I,d⟩;have R:=zh I;have i6:=zh r.o.size;replace r:=jt r d;replace B:=kp d B;have a9:=ah (J.heap.size<D.heap.size) b1.o;clear d I;have g3:=B.o.cell;have g4:=B.o.frozen;go_wp2_with fail;obtain⟨m,S,T,U,V⟩:=gQ B.o r.o aa (qI 0) qE qE qN qE;rw[S];obtain⟨W,X,Y,Z,a0⟩:=jF T;exact aB (v:=.tuple #[.agg qT,qP H]) (by simp[results,results69,go_sem,W,X,Y,Z,a0]) rfl (show rZ _ _ _ _ by rw[c1.o];exact⟨⟨H,rfl,(R.o.grown V.o λd=>av a9.o).any λb _ d=>av a9.o⟩,U.o⟩)
   |nil=>
    rw[j1] at K;have m3:F∈aX rs i 0 i.length:=by
     unfold xM at K
     split at K
     ·rw[K];exact bZ
     ·cases K
    have j2:=zh (yH _ 0 i.length F (aH _) m3);have w8:=zh m3;replace c2:=ah (dE rs (f+1) G z j=(pR rs (dE rs f) z (λa1=>dF rs ((wT (eQ rs F i.length) i.length).getD a1 0)) j l i 0).then_ λh5=>.ok (mi rs h5 F i.length)) (by rw[c2.o,K]);rw[f0.o,K] at m1 j0⊢;rw[h6];clear K f0 j1 h6 m3;obtain⟨c8,r5,r6,rfl,g6,r7,C7,C8,w9,m4,m5,m6⟩:=Ch.iE.at_ j0.o (k:=0) (x:=F) rfl;rw[show c8.add (0*3)=c8 by unfold Addr.add;cases c8;simp] at m4 m5 m6;have r8:=zh r7;have g7:=ah (i.length<=1000000) (fD h3.o g5.o i2.o);obtain⟨x0,x1,x2,x3,m0⟩:=Sp.info_parts BG;have f1:=run_make (P:=prog) D 32 3 x0 (qI 0) underlying32 x1 x2 .i64 .i64 (i.length:Int) (i.length:Int) aa (Int.le_refl _) (by rw[m0];have:=g7.o;omega) (av g7.o);rw[x3,fU,Nat.mul_one] at f1;have r9:madeCells (Value.int .i64 0).cells i.length=(dG (List.replicate i.length 0)).toArray:=Va i.length;rw[r9] at f1;have C9:(0:Int)<(([F]:List Rd).length:Int):=aS
    clear r7 w9 r9;go_upto_region 12 with(fail)
    have O:=aN D (.cells (dG (List.replicate i.length 0)).toArray 3);have s0:=ah (yJ (D.alloc (.cells (dG (List.replicate i.length 0)).toArray 3)) D.heap.size (List.replicate i.length 0)) (au.new D _ _);have j3:=zh O;replace B:=kp O B;have m7:=(O.cell (p:=c8) g6).trans m4;have m8:=(O.cell (p:=aF c8 1) g6).trans m5;have m9:=(O.cell (p:=aF c8 2) g6).trans m6;clear O f1;generalize D.alloc (.cells (dG (List.replicate i.length 0)).toArray 3)=x4 at*;go_wp2_with fail;refine(Nt (λb=>e9.heap.size<=b) g A cap rs D.heap.size i.length g7.o (og F) F 0 i.length (dw F.rule F.at_ r5 F.kids.length r6) (List.replicate i.length 0) D x4 (aH _) j2.o (g1.o.keep r.o) r8.o j3.o (aH _) s0.o (mG ..) (aH _)).mono ?_;rintro e d3 ⟨rfl,n0,n1⟩;have s2:=ah (yJ d3 D.heap.size (wT (eQ rs F i.length) i.length)) n0;have n2:=zh (j3.o.trans (n1.down j3.o.size (aH _)));replace B:=zh (n1.blk B.o (av b1.o));have x5:=ah (D.heap.size<d3.heap.size) n0.lt;clear n0 n1 m7 m8 m9 s0;obtain⟨x6,x7,x8,x9,y0⟩:=Sp.info_parts Vp;have f1:=run_make (P:=prog) d3 140 143 x6 (.agg qU) underlying140 x7 x8 .i64 .i64 (i.length:Int) (i.length:Int) aa (Int.le_refl _) (by rw[y0];have:=g7.o;omega) (av g7.o);rw[x9,fU] at f1;rw[show(Value.agg qU).cells=qU from rfl] at f1;go_upto_region 14 with(fail)
    have O:=aN d3 (.cells (madeCells qU (i.length*8)) 143);have s3:=zh (Vb (λb=>d3.heap.size<b) d3 i.length);have n3:=zh (Ca.mk (w:=J) (n2.o.trans (O.mono n2.o.size)) (ae O B.o) (show yJ _ _ _ from ae O s2.o) s3.o (aH _) x5.o);clear O f1 s3 B s2 j3 n2;generalize d3.alloc (.cells (madeCells qU (i.length*8)) 143)=D0 at*;generalize d3.heap.size=c at*;go_wp2_with fail;rw[<-g5.o];generalize e8.add (j*4)=D1 at*;obtain⟨b4,n4⟩:∃b4,b4=wT (eQ rs F i.length) i.length:=⟨_,rfl⟩
    rw[<-n4] at n3 c2;have s4:=zh n4;clear n4
    go_loopw [91] (λa1 wr=>∃(a:Nat) (done:List gP),a<=l.length/\a1=qI a/\done.length=a/\Hy (ww (pR rs (dE rs f) z (λa1=>dF rs (b4.getD a1 0)) j l i 0) done (pR rs (dE rs f) z (λa1=>dF rs (b4.getD a1 0)) j (l.drop a) (i.drop a) a))/\Hy (Ca J D D.heap.size c b4 (done++List.replicate (i.length -a) lZ) wr)) (λa1 _=>l.length -(intOf a1).toNat)
    case atStart=>exact⟨0,[],aa,rfl,rfl,zh (ww.start _),by rw[iA,Nat.sub_zero];exact n3⟩
    case round=>
     clear n3;obtain⟨a,done,m2,rfl,j4,j5,u⟩:=hrel
     by_cases n5:a<l.length
     ·obtain⟨n,b2⟩:∃n,l[a]?=some n:=⟨_,gE n5⟩
      obtain⟨d4,g8⟩:∃d4,i[a]?=some d4:=⟨_,gE (by rw[h3.o];exact n5)⟩
      have y1:=ah (c<wr.heap.size) u.o.pa.choose_spec.1.lt;have s5:=ah (Below d2.heap.size d2 wr) (r4.o.trans (u.o.b3.mono r4.o.size));obtain⟨D2,g9,h0,s6,y2,D3,D4,D5,y3,s7,y4,y5,y6,y7⟩:=(q4.o.keep s5.o).at_ b2;obtain rfl:=sj s6;have c3:=zh s7;have n6:=zh (l9.o n (dQ b2));have j6:=zh (show dK n<=bK G from by
       have j7:G[j+a]?=some n:=by rw[<-b2,l8.o,rO]
       exact Jw j7)
      have d5:=zh (show ww _ done ((if d4.data.toList=[35] then qH (dE rs f) n (z++[((j+a:Nat):Int)]) else lL rs (dE rs f) n (z++[((j+a:Nat):Int)]) (decide (dF rs (b4.getD a 0)=2))).then_ λC=>(pR rs (dE rs f) z (λa1=>dF rs (b4.getD a1 0)) j (l.drop (a+1)) (i.drop (a+1)) (a+1)).then_ λh5=>.ok (C::h5)) by
       have y8:=UX (rs:=rs) (M:=dE rs f) (path:=z) (kd:=λa1=>dF rs (b4.getD a1 0)) (k:=j) b2 g8;have h:=j5.o;rw[y8] at h;exact h)
      obtain⟨D6,n7,rfl,s8,n8⟩:=(i9.o.keep u.o.b3) a d4 g8;have c4:=zh (And.intro s8 n8);have s9:=zh (show d4.data.toList≠[35]->(n.kind=2\/fO n.kind=true)/\∃(b5:Nat) (f2:aD),b4.getD a 0=(b5:Int)/\rs[b5]?=some f2 from λt0=>by
       have j7:=Ey r1.o a n b2;rw[g8] at j7;refine⟨NY (JE (by rw[<-sj j7.1];exact t0)),?_⟩;rcases qy _ 0 i.length F (aH _) w8.o a (dZ _) (bP.1 g8).1 with h7|⟨b5,h7⟩
       ·rw[Dj g8] at h7;exact absurd (bD h7) t0
       ·obtain⟨D7,b,e,_,_,y9⟩:=BO j2.o _ h7;injection e with D8 z0;refine⟨b,_,?_,gE y9⟩;rw[s4.o,BV j2.o h7,z0])
      have D9:=ah (yJ wr D.heap.size b4) u.o.rl;have c5:=zh j4;have f3:=ah (a<i.length) (by rw[h3.o];exact n5);have E0:(j:Int)+(a:Int)<=2000000:=aV g5.o i2.o
      obtain⟨b8,j8⟩:∃b8,b8=z++[(j:Int)+(a:Int)]:=⟨_,rfl⟩
      have z1:=zh j8;have t1:=ah (b8.length=z.length+1) (by rw[j8,aO];rfl);rw[pu,<-j8] at d5;clear j8 b2 g8 s6 y3 s7 j5 n8 s8 j4;go_upto_region 17 with(fail)
      have O:=aN wr (qO n g9 h0);have b9:=zh (au.new wr 31 (qC n g9 h0));replace u:=zh (u.o.keep O);replace c3:=zh (c3.o.keep O);replace c4:=zh (And.intro (ll c4.o.1 O.size) ((O.cell (p:=n7.add a) (by rw[gX];exact c4.o.1)).trans c4.o.2));have E1:=ah (c<wr.heap.size) y1.o;clear O y4 y5 y6 y7 y2 s5;generalize wr.heap.size=E2 at*;generalize wr.alloc (qO n g9 h0)=c6 at*;have n9:=aN c6 (.cells #[qI ((j:Int)+(a:Int))] 3);have s1:(c6.alloc (.cells #[qI ((j:Int)+(a:Int))] 3)).heap.size=c6.heap.size+1:=aS
      have o0:=aN (c6.alloc (.cells #[qI ((j:Int)+(a:Int))] 3)) (.cells #[.slice c9 z.length d0,ay (ag c6.heap.size (0)) 1 1] 32);have t2:=zh (ae o0 (au.new c6 3 #[qI ((j:Int)+(a:Int))]));have o1:=zh (au.new (c6.alloc (.cells #[qI ((j:Int)+(a:Int))] 3)) 32 #[.slice c9 z.length d0,ay (ag c6.heap.size (0)) 1 1]);rw[s1] at o1;have f4:=n9.trans (o0.mono n9.size);have t3:=zh ((g2.o.keep r.o).keep (u.o.b3.trans (f4.mono u.o.b3.size)));have t4:=zh (u.o.keep f4);have t5:=zh (c3.o.keep f4);have t6:=kp f4 b9;have j9:=zh (And.intro (ll c4.o.1 f4.size) ((f4.cell (p:=n7.add a) (by rw[gX];exact c4.o.1)).trans c4.o.2));have E3:(0:Int)<=(j:Int)+(a:Int):=aa
      clear n9 o0 s1 f4 u c3 b9 c4;go_wp2_with fail;refine(Ep (c6.heap.size+1) c6.heap.size c9 z d0 ((j:Int)+(a:Int)) _ o1.o t2.o t3.o (av d1.o)).mono ?_;rintro e d6 ⟨⟨E4,h8,h9,k0,rfl,z2,z3,t7,_⟩,d⟩;rw[<-z1.o] at k0;have o2:=ah (kK d6 h8 b8) (by rw[<-k0];exact t7);have u:=zh (t4.o.keep d);have c3:=zh (t5.o.keep d);have b9:=kp d t6;have c4:=zh (And.intro (ll j9.o.1 d.size) ((d.cell (p:=n7.add a) (by rw[gX];exact j9.o.1)).trans j9.o.2));rw[k0];clear d t7 t4 t5 t6 j9 k0 t2 o1 t3 z2 z3;have n8:=c4.o.2;have t8:(a:Int)<(i.length:Int):=av f3.o
      by_cases Q:d4.data.toList=[35]
      ·have qt:(d4.toList==[35])=true:=by rw[bz,Q];rfl
       rw[ak Q] at d5;clear Q;obtain⟨k1,k2,k3,k4⟩:=qb b9;go_wp2_with fail;refine(UR g A cap rs f q3.o n _ b8 h8 h9 d6 ((g1.o.keep r.o).keep u.o.b3) c3.o o2.o n6.o.1 (λe=>by have h:=n6.o.2;rw[e] at h;simp[sF] at h) (aV q2.o j6.o) (fD t1.o d1.o j6.o)).mono ?_;rintro e m b7;cases b0:qH (dE rs f) n b8 with
       |bad o3 C=>
        rw[b0] at b7;obtain⟨⟨H,rfl,I⟩,d⟩:=b7;have R:=zh I;have y:=zh (u.o.keep d);have c1:=ah (dE rs (f+1) G z j= .bad o3 C) (by rw[c2.o,d5.o.bad b0];rfl);have d7:=ah (c<d6.heap.size) u.o.pa.choose_spec.1.lt;have d8:=ah (J.heap.size<c) (fD u.o.l3 u.o.lp b1.o);have c7:a<(done++List.replicate (i.length -a) lZ).length:=by rw[aO,mG,c5.o];have:=f3.o;omega
        obtain⟨b6,s⟩:=y.o.pa.cells c7;have d9:m.cell? (ag c (a*8))=some (b6 0):=(s 0 aa).1;have b3:=(s 1 aa).1;have e0:=(s 2 aa).1;have e1:=(s 3 aa).1;have e2:=(s 4 aa).1;have e3:m.frozen? (ag c (a*8))=false:=(s 0 aa).2;have e4:=(s 1 aa).2;have e5:=(s 2 aa).2;have e6:=(s 3 aa).2;have e7:=(s 4 aa).2;clear k1 k2 k3 k4 b0 c7 s I d;go_upto_region 22 with(fail)
        have L:=zh (Dc [qI 0,qE,qE,qN,qE] m c (a*8));change Code.wp _ _ _ _ (zO m c (a*8) [qI 0,qE,qE,qN,qE]);have o4:=zh (r.o.trans ((y.o.b3.grown L.o y.o.b3.size λi7 e=>fD (sj e) y.o.l3 y.o.lp).mono r.o.size));have f5:=zh (y.o.k0.grown L.o λe=>aV (sj e) d8.o);have o5:=zh (R.o.grown L.o λd=>av d7.o);clear L y u b9 c3 d9 b3 e0 e1 e2 e3 e4 e5 e6 e7 R;generalize zO m c (a*8) [qI 0,qE,qE,qN,qE]=o6 at*;have g3:=f5.o.cell;have g4:=f5.o.frozen;go_wp2_with fail;obtain⟨m,S,T,U,V⟩:=gQ f5.o o4.o aa (qI 0) qE qE qN qE;rw[S];obtain⟨W,X,Y,Z,a0⟩:=jF T;exact aB (v:=.tuple #[.agg qT,qP H]) (by simp[results,results69,go_sem,W,X,Y,Z,a0]) rfl (show rZ _ _ _ _ by rw[c1.o];exact⟨⟨H,rfl,(o5.o.grown V.o λd=>aV d8.o d7.o).any λb _ d=>aV d8.o d7.o⟩,U.o⟩)
       |ok C=>
        rw[b0] at b7;obtain⟨⟨t9,rfl,o7⟩,d⟩:=b7;obtain⟨a2,a3,a4,a5,a6,a7,a8,rfl⟩:=o7.ext;have y:=zh (u.o.keep d);have o8:=zh (d5.o.next b0);have z4:=zh (Vq b0);obtain⟨f6,i0⟩:∃f6,i.length -a=f6+1:=⟨i.length -a -1,av f3.o⟩
        have h1:=zh i0;have c7:a<(done++List.replicate (i.length -a) lZ).length:=by rw[aO,mG,c5.o];have:=f3.o;omega
        obtain⟨b6,s⟩:=y.o.pa.cells c7;have d9:m.cell? (ag c (a*8))=some (b6 0):=(s 0 aa).1;have b3:=(s 1 aa).1;have e0:=(s 2 aa).1;have e1:=(s 3 aa).1;have e2:=(s 4 aa).1;have e3:m.frozen? (ag c (a*8))=false:=(s 0 aa).2;have e4:=(s 1 aa).2;have e5:=(s 2 aa).2;have e6:=(s 3 aa).2;have e7:=(s 4 aa).2;have u0:=zh (o7.any (ok':=λb=>c<b) λb _ h=>av u.o.pa.choose_spec.1.lt);clear k1 k2 k3 k4 b0 i0 c7 s o7 d;go_upto_region 22 with(fail)
        have L:=zh (Dc [qI a2,af a3,af a4,.slice a5 a6 a7,af a8] m c (a*8));have f7:=zh (y.o.pa.putT (q:=a) (t:=C.opnd) (tk:=a2) (ta:=a3) (tv:=a4) (tf:=a8) (tA:=a5) (tn:=a6) (tc:=a7) (by rw[h1.o,<-c5.o];exact UZ) u0.o (λb d=>aa));rw[h1.o,<-c5.o,NP,<-z4.o,c5.o] at f7;change Code.wp _ _ _ _ (zO m c (a*8) [qI a2,af a3,af a4,.slice a5 a6 a7,af a8]);have o9:=zh (Ca.mk (w:=J) (w3:=D) (y.o.b3.grown L.o y.o.b3.size λi7 e=>fD (sj e) y.o.l3 y.o.lp) (y.o.k0.grown L.o λe=>by have:=sj e;have:=y.o.l3;have:=y.o.lp;have:=b1.o;omega) (show yJ _ _ _ from au.grown y.o.rl L.o λe=>aV (sj e) y.o.lp) f7.o y.o.l3 y.o.lp);clear L f7 y u b9 c3 d9 b3 e0 e1 e2 e3 e4 e5 e6 e7 u0;generalize zO m c (a*8) [qI a2,af a3,af a4,.slice a5 a6 a7,af a8]=o6 at*;go_wp2;go_roundw
        case rel=>exact⟨a+1,done++[C],aa,bi,by rw[aO,gN,c5.o],o8,by rw[show i.length -(a+1)=f6 from av h1.o];exact o9⟩
        case measure=>simp[intOf];omega
      ·have qt:(d4.toList==[35])=false:=by rw[aZ,bz];exact Q
       rw[ai Q] at d5;clear Q;obtain⟨u1,b5,f2,k5,k6⟩:=s9.o (by rw[aZ,bz] at qt;exact qt);have z5:=zh u1;rw[k5,mZ k6] at d5;have k7:=zh ((g1.o.keep r.o).keep u.o.b3);obtain⟨-,f8,z6,u2,u3,-⟩:=k7.o.rul.at_ k6;subst z6;obtain⟨w1,w2,w4,h4,-,-⟩:=k7.o.box;have u4:=zh h4;have z7:=zh u3;have z8:=ah ((f8.add (b5*6)).block<d6.heap.size) (by rw[gX];exact u2);have u5:=ah (au _ _ _ _) u.o.rl;have z9:=zh (show(dG b4).toArray[a]?=some (Value.int .i64 (b5:Int)) by
        have u6:a<b4.length:=by rw[s4.o,Vr];exact f3.o
        rw[rf,gE u6,fB] at k5;rw[List.getElem?_toArray,dG,gL,gE u6,je,k5])
       have A0:b5<rs.length:=(bP.1 k6).1;clear u1 k5 k6 h4 u3 u2 s9;go_upto_region 21 with(fail)
       refine qm [2,2,2,1,2,2,2,2,1,2,2,2,1,2,2,1,1,2,2,2,2,3,2] (List.replicate 23 false) (λE=>[ay (ag c (0)) i.length i.length,qI (↑a),qP g,.agg (qC n g9 h0),.slice h8 b8.length h9,qP g,qP g,qP g,ay f8 rs.length cap,ay (ag D.heap.size (0)) i.length i.length,qI (↑a),aR D.heap.size a,qI (b5:Int),az (f8.add (b5*6)),az (f8.add (b5*6)),qI f2.kind,.tuple #[E.v 136,E.v 138],.tuple #[E.v 136,E.v 138],E.v 136,E.v 138,az (ag c (a*8)),undef,E.v 138]) [(16,λE u7=>zl d6.heap.size (lL rs (dE rs f) n b8 (decide (f2.kind=2))) u7 (E.v 136) (E.v 138))] (λ_ _=>True) (bV.cons (λE u7 e9 h d=>h.keep d) bV.nil) (trivial) ?_ ?_
       ·refine⟨jC,jC,jC,λE c0 N k8 k9=>?_,jC,jC,jI,jI,jR λE c0 N=>(ae N u4.o).cell 0,jC,jC,λE c0=>?_,jR λE c0 N=>((ae N u5.o).cell a).trans z9.o,λE c0=>?_,jI,jR λE c0 N=>(N.cell (p:=f8.add (b5*6)) z8.o).trans z7.o,λE c0 N k8 k9=>?_,jC,jC,jC,λE c0=>?_,jC,trivial⟩
        ·have k1:=(ae N b9.o).cell 0;have k2:=(ae N b9.o).cell 1;have k3:=(ae N b9.o).cell 2;have k4:=(ae N b9.o).cell 3;exact gs (.agg (qC n g9 h0)) k8 aj (jZ k1 k2 k3 k4) rfl
        ·exact jp (aR D.heap.size a) (gY t8) rfl
        ·exact jp (az (f8.add (b5*6))) (gY A0) rfl
        ·refine jc 100 (#[qP g,.agg (qC n g9 h0),.slice h8 b8.length h9,qI f2.kind]) c0 aj ((UV g (some f8) cap rs f q3.o n _ b8 h8 h9 f2.kind c0 (k7.o.keep N) (c3.o.keep N) (o2.o.keep N) n6.o.1 z5.o (aV q2.o j6.o) (fD t1.o d1.o j6.o)).mono ?_);rintro e E5 b7;obtain⟨t9,u8,rfl,l0,d⟩:=b7.res N.size;exact⟨_,rfl,((E.setV 136 t9).setV 138 u8),rfl,jD,d,⟨l0,trivial⟩,trivial⟩
        ·exact jp (az (ag c (a*8))) (gY t8) rfl
       ·refine λE c0 N k8 k9=>?_
        dsimp only[ji] at k9;change wpOps _ _ _ [21] _ _;obtain⟨l0,-⟩:=k9;have y:=zh (u.o.keep N);have l1:=zh l0;have d7:=ah (c<d6.heap.size) u.o.pa.choose_spec.1.lt;have d8:=ah (J.heap.size<c) (fD u.o.l3 u.o.lp b1.o);clear l0 N k8 u b9 c3 k7 u4 u5 o2;generalize E.v 136=E6 at*;generalize E.v 138=u8 at*;clear E;generalize c0=m at*;have c7:a<(done++List.replicate (i.length -a) lZ).length:=by rw[aO,mG,c5.o];have:=f3.o;omega
        obtain⟨b6,s⟩:=y.o.pa.cells c7;have d9:m.cell? (ag c (a*8))=some (b6 0):=(s 0 aa).1;have e3:m.frozen? (ag c (a*8))=false:=(s 0 aa).2;have b3:m.cell? (ag c (a*8+1))=some (b6 1):=(s 1 aa).1;have e4:m.frozen? (ag c (a*8+1))=false:=(s 1 aa).2;have e0:m.cell? (ag c (a*8+2))=some (b6 2):=(s 2 aa).1;have e5:m.frozen? (ag c (a*8+2))=false:=(s 2 aa).2;have e1:m.cell? (ag c (a*8+3))=some (b6 3):=(s 3 aa).1;have e6:m.frozen? (ag c (a*8+3))=false:=(s 3 aa).2;have e2:m.cell? (ag c (a*8+4))=some (b6 4):=(s 4 aa).1;have e7:m.frozen? (ag c (a*8+4))=false:=(s 4 aa).2;have l2:m.cell? (ag c (a*8+5))=some (b6 5):=(s 5 aa).1;have l3:m.frozen? (ag c (a*8+5))=false:=(s 5 aa).2;have l4:m.cell? (ag c (a*8+6))=some (b6 6):=(s 6 aa).1;have l5:m.frozen? (ag c (a*8+6))=false:=(s 6 aa).2;have l6:m.cell? (ag c (a*8+7))=some (b6 7):=(s 7 aa).1;have l7:m.frozen? (ag c (a*8+7))=false:=(s 7 aa).2;cases b0:lL rs (dE rs f) n b8 (decide (f2.kind=2)) with
        |bad o3 C=>
         have i1:=l1.o;rw[b0] at i1;obtain⟨rfl,H,rfl,I⟩:=i1;have R:=zh I;have c1:=ah (dE rs (f+1) G z j= .bad o3 C) (by rw[c2.o,d5.o.bad b0];rfl);have L:=ah (m.grownBy (((((((((m).setCell (ag c (a*8)) (qI 0)).setCell (ag c (a*8+1)) qE).setCell (ag c (a*8+2)) qE).setCell (ag c (a*8+3)) qN).setCell (ag c (a*8+4)) qE).setCell (ag c (a*8+5)) qN).setCell (ag c (a*8+6)) qE).setCell (ag c (a*8+7)) qE) (some c)) (Dc [qI 0,qE,qE,qN,qE,qN,qE,qE] m c (a*8));refine oL (o:=_) rfl rfl (w':=((((((((m).setCell (ag c (a*8)) (qI 0)).setCell (ag c (a*8+1)) qE).setCell (ag c (a*8+2)) qE).setCell (ag c (a*8+3)) qN).setCell (ag c (a*8+4)) qE).setCell (ag c (a*8+5)) qN).setCell (ag c (a*8+6)) qE).setCell (ag c (a*8+7)) qE) (by simp[go_sem,d9,b3,e0,e1,e2,l2,l4,l6,e3,e4,e5,e6,e7,l3,l5,l7]) ?_;refine jo ?_;clear I l1 b0 c7 s d9 b3 e0 e1 e2 l2 l4 l6 e3 e4 e5 e6 e7 l3 l5 l7;generalize ((((((((m).setCell (ag c (a*8)) (qI 0)).setCell (ag c (a*8+1)) qE).setCell (ag c (a*8+2)) qE).setCell (ag c (a*8+3)) qN).setCell (ag c (a*8+4)) qE).setCell (ag c (a*8+5)) qN).setCell (ag c (a*8+6)) qE).setCell (ag c (a*8+7)) qE=o6 at*;have o4:=zh (r.o.trans ((y.o.b3.grown L.o y.o.b3.size λi7 e=>fD (sj e) y.o.l3 y.o.lp).mono r.o.size));have f5:=zh (y.o.k0.grown L.o λe=>aV (sj e) d8.o);have o5:=zh (R.o.grown L.o λd=>av d7.o);clear L y R;have g3:=f5.o.cell;have g4:=f5.o.frozen;go_wp2_with fail;obtain⟨m,S,T,U,V⟩:=gQ f5.o o4.o aa (qI 0) qE qE qN qE;rw[S];obtain⟨W,X,Y,Z,a0⟩:=jF T;exact aB (v:=.tuple #[.agg qT,qP H]) (by simp[results,results69,go_sem,W,X,Y,Z,a0]) rfl (show rZ _ _ _ _ by rw[c1.o];exact⟨⟨H,rfl,(o5.o.grown V.o λd=>aV d8.o d7.o).any λb _ d=>aV d8.o d7.o⟩,U.o⟩)
        |ok C=>
         have i1:=l1.o;rw[b0] at i1;obtain⟨E7,rfl,rfl,A1⟩:=i1;obtain⟨a2,a3,a4,a8,a5,a6,a7,f9,g0,rfl,u9⟩:=A1;have v0:=ah (uV (λb=>c<b) m C #[qI a2,af a3,af a4,.slice a5 a6 a7,af a8,.slice f9 C.scr.length g0,af C.fin,af C.vr]) (uV.any (ok:=λb=>d6.heap.size<=b) ⟨a2,a3,a4,a8,a5,a6,a7,f9,g0,rfl,u9⟩ λb _ h=>av d7.o);have o8:=zh (d5.o.next b0);obtain⟨f6,i0⟩:∃f6,i.length -a=f6+1:=⟨i.length -a -1,av f3.o⟩
         have h1:=zh i0;have L:=ah (m.grownBy (((((((((m).setCell (ag c (a*8)) (qI a2)).setCell (ag c (a*8+1)) (af a3)).setCell (ag c (a*8+2)) (af a4)).setCell (ag c (a*8+3)) (.slice a5 a6 a7)).setCell (ag c (a*8+4)) (af a8)).setCell (ag c (a*8+5)) (.slice f9 C.scr.length g0)).setCell (ag c (a*8+6)) (af C.fin)).setCell (ag c (a*8+7)) (af C.vr)) (some c)) (Dc [qI a2,af a3,af a4,.slice a5 a6 a7,af a8,.slice f9 C.scr.length g0,af C.fin,af C.vr] m c (a*8));have f7:=ah (kP (λb=>c<b) (((((((((m).setCell (ag c (a*8)) (qI a2)).setCell (ag c (a*8+1)) (af a3)).setCell (ag c (a*8+2)) (af a4)).setCell (ag c (a*8+3)) (.slice a5 a6 a7)).setCell (ag c (a*8+4)) (af a8)).setCell (ag c (a*8+5)) (.slice f9 C.scr.length g0)).setCell (ag c (a*8+6)) (af C.fin)).setCell (ag c (a*8+7)) (af C.vr)) c ((done++List.replicate (i.length -a) lZ).set a C)) (y.o.pa.putP c7 v0.o (λb d=>aa));rw[h1.o,<-c5.o,NP,c5.o] at f7;refine oL (o:=_) rfl rfl (w':=((((((((m).setCell (ag c (a*8)) (qI a2)).setCell (ag c (a*8+1)) (af a3)).setCell (ag c (a*8+2)) (af a4)).setCell (ag c (a*8+3)) (.slice a5 a6 a7)).setCell (ag c (a*8+4)) (af a8)).setCell (ag c (a*8+5)) (.slice f9 C.scr.length g0)).setCell (ag c (a*8+6)) (af C.fin)).setCell (ag c (a*8+7)) (af C.vr)) (by simp[go_sem,d9,b3,e0,e1,e2,l2,l4,l6,e3,e4,e5,e6,e7,l3,l5,l7]) ?_;refine jo ?_;clear u9 l1 b0 c7 s i0 d9 b3 e0 e1 e2 l2 l4 l6 e3 e4 e5 e6 e7 l3 l5 l7;generalize ((((((((m).setCell (ag c (a*8)) (qI a2)).setCell (ag c (a*8+1)) (af a3)).setCell (ag c (a*8+2)) (af a4)).setCell (ag c (a*8+3)) (.slice a5 a6 a7)).setCell (ag c (a*8+4)) (af a8)).setCell (ag c (a*8+5)) (.slice f9 C.scr.length g0)).setCell (ag c (a*8+6)) (af C.fin)).setCell (ag c (a*8+7)) (af C.vr)=o6 at*;have o9:=zh (Ca.mk (w:=J) (w3:=D) (y.o.b3.grown L.o y.o.b3.size λi7 e=>fD (sj e) y.o.l3 y.o.lp) (y.o.k0.grown L.o λe=>aV (sj e) d8.o) (show yJ _ _ _ from au.grown y.o.rl L.o λe=>aV (sj e) y.o.lp) f7.o y.o.l3 y.o.lp);clear L f7 y v0;go_wp2;go_roundw
         case rel=>exact⟨a+1,done++[C],aa,bi,by rw[aO,gN,c5.o],o8,by rw[show i.length -(a+1)=f6 from av h1.o];exact o9⟩
         case measure=>simp[intOf];omega
     ·obtain rfl:a=l.length:=by omega
      have p0:done.length=i.length:=by rw[j4,h3.o]
      rw[UY] at j5;have A2:=ah (dE rs (f+1) G z j= .ok (mi rs done F i.length)) (by rw[c2.o,j5.o.end];rfl);rw[show i.length -l.length=0 by rw[h3.o];omega,List.replicate_zero,bX] at u;have E8:=zh p0;have m7:=(u.o.b3.cell (p:=c8) g6).trans m4;have m8:=(u.o.b3.cell (p:=aF c8 1) g6).trans m5;have m9:=(u.o.b3.cell (p:=aF c8 2) g6).trans m6;have p1:=zh (NR (λb=>e9.heap.size<=b) (λb=>c<b/\b<wr.heap.size) g A cap rs (ag c (0)) done i.length aa (av g7.o) (og F) F 0 i.length (dw F.rule F.at_ r5 F.kids.length r6) wr (aH _) j2.o ((g1.o.keep r.o).keep u.o.b3) (r8.o.keep u.o.b3) (u.o.pa.any (λb d h=>⟨h,d⟩)).at_ (λb d=>d.2) aa);rw[p0] at p1;clear p0 j4;go_wp2_with fail;refine p1.o.mono ?_;rintro e d6 ⟨h9,rfl,p2,d⟩;obtain⟨a2,a3,a4,a5,a6,a7,a8,rfl⟩:=p2.ext;have A3:=zh (p2.any (ok':=λb=>J.heap.size<b) λb _ h=>by have:=b1.o;have:=u.o.b3.size;have:=u.o.l3;have:=u.o.lp;rcases h with h|h<;>omega);have A4:=zh (r.o.trans ((u.o.b3.trans (d.mono u.o.b3.size)).mono r.o.size));have p3:=zh (ae d u.o.k0);have E9:=p3.o.cell;have F0:=p3.o.frozen;clear p2 d p1 u m7 m8 m9;go_wp2_with fail;obtain⟨m,S,T,U,V⟩:=gQ p3.o A4.o aa (qI a2) (af a3) (af a4) (.slice a5 a6 a7) (af a8);rw[S];obtain⟨W,X,Y,Z,a0⟩:=jF T;exact aB (v:=.tuple #[.agg #[qI a2,af a3,af a4,.slice a5 a6 a7,af a8],.pointer none]) (by simp[results,results69,go_sem,W,X,Y,Z,a0]) rfl (show rZ _ _ _ _ by rw[A2.o];exact⟨⟨_,rfl,(A3.o.grown V.o (λb _ d e=>av (sj e)) (λb _ d=>nR d))⟩,U.o⟩)
end Go.Proofs.YtlefbenkhgbifaaGreatDoor.El
