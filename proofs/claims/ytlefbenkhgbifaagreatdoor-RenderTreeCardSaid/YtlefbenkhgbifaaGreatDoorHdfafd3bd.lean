/- build of the reference: part b. -/
import Derived.Test.YtlefbenkhgbifaaGreatDoorHc4d961df
set_option linter.all false
set_option maxRecDepth 100000
set_option maxHeartbeats 400000000
namespace Go.Proofs.YtlefbenkhgbifaaGreatDoor.El
open At Ch Sp Sy Go.RowKit
def ZC:EU.b:=by
 intro h8 ok g a3 h h9 i0 d6 d7 i1 i2 d8 i3 i4 i5 i6 i7 a4 b9 a5 w i8 i9 j0 j1 j2 j3 j4 j5 j6 j7 d9 j8 j9 u k0 k1 k2 k3 k4 k5 k6 k7 k8 a6 e0 e1 k9 wc _ _ _ _ _ _ _ _ _ _ _ _ _ _ _ _ _ _ _ _ _ _ _ _ _ _ _ _ _ _ _ _ _ _ _ _ _ _ _ _ _ _ _ _ _ _ _ _ _ _ _ _ _ _ _ _ _ _ _ _ _ _ _ _ _ _ _ _ _ _ _ _ _ _ _ _ _ _ _ _ _ _ _ _ _ _ _ _ _ _ _ _ _ _ _ _ _ _ _ _ _ _ _ _ _ _ _ _ _ _ _ _ _ _ _ _ _ _ _ _ _ _ _ _ _ _ _ _ _ _ _ _ _ _ _ _ _ _ _ _ _ _ _ _ _ _ _ _ _ _ _ _ _ _ _ _ _ _ _ _ _ _ _ _ _ l0 i L S z l1 l2 _ _ _ _ _ q l3 n y X l4 _ c0 a7 l5 D E l6 l7 l8 l9 M m0 m1 m2 e2 m c1 c2 m3 m4 e3 F e4 e5 e6 e7 a8 c3 m5 m6 e8 e9;obtain⟨f0,a9,f1,c4,f2⟩:=Sp.info_parts zN
 skip
 go_upto_region 9 with(fail)
 have A:=aN L (qO n D E);have r:=zh (au.new L 31 (qC n D E));have f3:=ah (w.heap.size+4<L.heap.size) S.o.km.lt;have f4:=ah ((M.add q).block<_) (ll c3 A.size);replace S:=zh (S.o.keep A);replace a8:=(A.cell (p:=M.add q) c3).trans a8;replace z:=zh (z.o.keep A);replace F:=zh (F.o.keep A);replace m:=kp A m;clear A e4 e5 e6 e7 e9;generalize L.heap.size=f5 at*;generalize L.alloc (qO n D E)=m7 at*;refine qm [2,1,2,2,2,1,2,2,1,3,2,3] (List.replicate 12 false) (λa=>[aR (w.heap.size+4) (3),qN,qP g,qP g,aR g (4),ay M d7.length d6,qI (q:Int),az (M.add q),.slice c1 y.length c2,undef,aR (w.heap.size+4) (3),undef]) [] (λ_ _=>True) bV.nil (trivial) ?_ ?_
 ·refine⟨jI,jR λa i d=>(ae d S.o.km).cell 3,jC,jI,jI,jR λa i d=>(ae d m.o).cell 4,jC,λa i=>?_,jR λa i d=>(d.cell f4.o).trans a8,jI,trivial⟩
  ·exact jp (az (M.add q)) (gY e8) rfl
 ·refine λa i d G B=>?_
  dsimp only[ji] at B;change wpOps _ _ _ [9,11] _ _;have f6:(Value.slice none 0 0).ownBlock=none:=rfl;replace S:=zh (S.o.keep d);replace r:=kp d r;replace z:=zh (z.o.keep d);replace F:=zh (F.o.keep d);replace m:=kp d m;have c5:=ah (w.heap.size+4<f5) f3.o;have f7:=ah (w.heap.size+5<=i.heap.size) S.o.km.lt;clear d B G;clear a;generalize i=N at*;obtain⟨c6,b0,b1,c7⟩:=NH F.o;have c8:=Zz b0 b1;refine wo (o:=_) (R:=λO b2=>b2.ownsRow (w.heap.size+5) 25 5 O (0+y.length) ([]++c6.flatMap (·.toList))/\N.grownBy b2 (Value.slice none 0 0).ownBlock/\(O.ownBlock=(Value.slice none 0 0).ownBlock\/O.ownBlock=some N.heap.size)) rfl rfl (wQ (.tmp 68) (.tmp 75) 23 rfl (w.heap.size+5) 25 f0 (.agg qT) 5 80 Tryz.underlying23 a9 f1 c4 f2 rfl aI qN 0 [] rfl (iR _ _ _ _) N.heap.size c1 y.length c2 (c6.flatMap (·.toList)) rfl c7 c8 (by unfold maxLen;have:=a7.o;omega) (av a7.o) (av f7.o) λO b2 Q s Y=>⟨Q,s,Y⟩) ?_;rintro O H ⟨Q,s,Y⟩;have Z:=dU.zF8 (P:=λb=>ok b\/w.heap.size+4<b) (v:=qN) (xs:=[]) (css:=[]) rfl (λa5 c a4 b3=>by simp at b3) b0 (λa5 c a4 f8 f9=>(b1 a5 c a4 f8 f9).any λb _ T=>⟨by rw[f6];simp,.inl T⟩) Q s Y;rw[iA] at Z;obtain⟨U,V,g0,m8,m9,_⟩:=Z.form (λb T=>.inr aa);subst g0;have C:Below N.heap.size N H:=⟨s.os,s.tape,s.output,s.size,λb9 a9=>s.block b9 a9 (by simp[Value.ownBlock])⟩
  have c9:=(ae C S.o.km).cell 3;have d0:=(ae C S.o.km).frozen 3;have I:=zh ((S.o.keep C).set_ 3 (.slice U y.length V) ((ae C S.o.km).set_ 3 (.slice U y.length V)) Z);have b4:H.grownBy (H.setCell ⟨w.heap.size+4,3,none⟩ (.slice U y.length V)) (some (w.heap.size+4)):=kJ H ⟨w.heap.size+4,3,none⟩ _;have b5:=zh ((ae C r.o).grown b4 λe=>aV (sj e) c5.o);have g1:=zh ((ae C m.o).grown b4 λe=>aV (sj e) d9.o);refine oL (o:=_) rfl rfl (w':=H.setCell ⟨w.heap.size+4,3,none⟩ (.slice U y.length V)) (ek c9 d0) ?_;refine jo ?_;clear c9 d0 Z b0 b1 c7 c8 Q s Y C b4 S r F m z;generalize H.setCell ⟨w.heap.size+4,3,none⟩ (.slice U y.length V)=g2 at*;have g3:=b5.o.cell 0
  go_upto_block 0 with(fail)
  go_cut [12] (λg4 wc=>g4=af (eT n.kind)/\wc=g2)
  case first=>
   skip
   by_cases l:n.kind=7
   ·have g5:(n.kind==7)=true:=aT.2 l;have f:=ah (eT n.kind=dM) (by unfold eT;rw[ak l]);clear l;go_wp2;go_meet;exact⟨by rw[f.o];rfl,rfl⟩
   have g5:(n.kind==7)=false:=bn l
   by_cases x:n.kind=8
   ·have g6:(n.kind==8)=true:=aT.2 x;have f:=ah (eT n.kind=dV) (by unfold eT;rw[ai l,ak x]);clear l x;go_wp2;go_meet;exact⟨by rw[f.o];rfl,rfl⟩
   have g6:(n.kind==8)=false:=bn x
   by_cases J:n.kind=9
   ·have g7:(n.kind==9)=true:=aT.2 J;have f:=ah (eT n.kind=jU) (by unfold eT;rw[ai l,ai x,ak J]);clear l x J;go_wp2;go_meet;exact⟨by rw[f.o];rfl,rfl⟩
   have g7:(n.kind==9)=false:=bn J;have f:=ah (eT n.kind=⟨#[]⟩) (by unfold eT;rw[ai l,ai x,ai J]);clear l x J;go_wp2;go_meet;exact⟨by rw[f.o],rfl⟩
  obtain⟨rfl,rfl⟩:=hcut;clear g3;have g8:=I.o.km.cell 4;have g9:=I.o.km.frozen 4;have c4:=Qw u.kind;have n0:=Zw n.kind;go_upto_region 19 with(fail)
  have a0:=zh (I.o.set_ (kk':=4) (vr':=⟨#[]⟩) (frm':=iW u.kind++eT n.kind) 4 (af (iW u.kind++eT n.kind)) (I.o.km.set_ 4 (af (iW u.kind++eT n.kind))) I.o.app);have d1:wc.grownBy (wc.setCell ⟨w.heap.size+4,4,none⟩ (af (iW u.kind++eT n.kind))) (some (w.heap.size+4)):=kJ wc ⟨w.heap.size+4,4,none⟩ _;replace r:=zh (b5.o.grown d1 λe=>aV (sj e) c5.o);clear g8 g9 d1 I b5 g1;generalize wc.setCell ⟨w.heap.size+4,4,none⟩ (af (iW u.kind++eT n.kind))=n1 at*;have z:=zh (e0.o.keep a0.o.bel);have m:=zh (ae a0.o.bel e2.o);have h0:=zh (e3.o.keep a0.o.bel);have S:=a0;refine qm [2,2,2,1,1,1,2,2,2,2,2] (List.replicate 11 false) (λa=>[qP g,qP g,qP g,ay a6 h.length a3,.agg (qC n D E),.tuple #[a.v 98,a.v 99],.tuple #[a.v 98,a.v 99],a.v 98,a.v 99,a.v 98,a.v 99]) [(5,λa h1=>∃j k,a.v 98=af j/\a.v 99= .bool k/\qV h n=(if k=true then some j else none))] (λ_ _=>True) (bV.cons (λa h1 e1 b3 T=>b3) bV.nil) (trivial) ?_ ?_
  ·refine⟨jC,jI,jI,jR λa i d=>(ae d m.o).cell 0,λa i d G B=>?_,λa i d G B=>?_,jC,jC,jC,jC,jC,trivial⟩
   ·have h2:=(ae d r.o).cell 0;have h3:=(ae d r.o).cell 1;have h4:=(ae d r.o).cell 2;have h5:=(ae d r.o).cell 3;exact gs (.agg (qC n D E)) G aj (jZ h2 h3 h4 h5) rfl
   ·refine jc 169 (#[ay a6 h.length a3,.agg (qC n D E)]) i aj ((Qi (some a6) a3 h n _ i (z.o.keep d) d8 (h0.o.keep d) (Qu c0.o.1)).mono ?_);rintro e n2 ⟨j,k,rfl,a1,T⟩;exact⟨_,rfl,((a.setV 98 (af j)).setV 99 (.bool k)),rfl,jD,T,⟨⟨j,k,rfl,rfl,a1⟩,trivial⟩,trivial⟩
  ·refine λa i d G B=>?_
   dsimp only[ji] at B;change wpOps _ _ _ [] _ _;obtain⟨⟨j,k,d2,d3,a1⟩,-⟩:=B;rw[d2,d3];refine jo ?_;have d4:=zh a1;replace S:=zh (S.o.keep d);clear a1 d2 d3 G d;clear a;generalize i=n3 at*;have a2:=ah (y.length<=1000) a7.o;have n4:=S.o.ku.cell 0;cases t:dN h n (decide (u.kind=2)) with
   |none=>
    have f:=ah (uS h u.kind (some (n,y))=4/\sV h u.kind (some (n,y))=⟨#[]⟩/\sW h u.kind (some (n,y))=iW u.kind++eT n.kind/\sZ (some (n,y))=y) (by unfold uS sV sW sZ;dsimp only;rw[t];exact⟨rfl,rfl,rfl,rfl⟩);have d5:k=false\/(u.kind==2)=false:=by
     by_cases K:u.kind=2
     ·rw[aJ K,(ES h n).1,d4.o] at t;cases k
      ·exact .inl rfl
      ·cases t
     ·exact .inr (bn K)
    clear t;rcases d5 with rfl|d5
    ·go_wp2;go_meet;rw[X.o,f.o.1,f.o.2.1,f.o.2.2.1,f.o.2.2.2];exact⟨_,S,zh ⟨aI,by rw[Bg];omega,a2.o⟩⟩
    ·cases k
     ·go_wp2;go_meet;rw[X.o,f.o.1,f.o.2.1,f.o.2.2.1,f.o.2.2.2];exact⟨_,S,zh ⟨aI,by rw[Bg];omega,a2.o⟩⟩
     ·go_wp2;go_meet;rw[X.o,f.o.1,f.o.2.1,f.o.2.2.1,f.o.2.2.2];exact⟨_,S,zh ⟨aI,by rw[Bg];omega,a2.o⟩⟩
   |some v=>
    have K:u.kind=2:=bD (JD t).2.2;have b6:qV h n=some v:=by rw[aJ K,(ES h n).1] at t;exact t
    have h6:=zh (Zx c0.o.1 b6);have h7:k=true/\j=v:=by
     have W:=d4.o;rw[b6] at W;cases k
     ·cases W
     ·injection W with W;exact⟨rfl,W.symm⟩
    obtain⟨rfl,rfl⟩:=h7;have f:=ah (uS h u.kind (some (n,y))=5/\sV h u.kind (some (n,y))=j/\sW h u.kind (some (n,y))=mh++eT n.kind/\sZ (some (n,y))=y) (by unfold uS sV sW sZ;dsimp only;rw[t];exact⟨rfl,rfl,rfl,rfl⟩);have Q:(u.kind==2)=true:=aT.2 K;clear t K b6;have n5:=S.o.km.cell 0;have n6:=S.o.km.cell 2;have n7:=S.o.km.cell 4;have n8:=S.o.km.frozen 0;have n9:=S.o.km.frozen 2;have o0:=S.o.km.frozen 4;go_wp2;go_meet;rw[X.o,f.o.1,f.o.2.1,f.o.2.2.1,f.o.2.2.2];have b7:=S.o.set_ (kk':=5) (vr':=⟨#[]⟩) (frm':=iW u.kind++eT n.kind) 0 (qI 5) (S.o.km.set_ 0 (qI 5)) S.o.app;have b8:=b7.set_ (kk':=5) (vr':=j) (frm':=iW u.kind++eT n.kind) 2 (af j) (b7.km.set_ 2 (af j)) b7.app;exact⟨_,zh (b8.set_ (kk':=5) (vr':=j) (frm':=mh++eT n.kind) 4 (af (mh++eT n.kind)) (b8.km.set_ 4 (af (mh++eT n.kind))) b8.app),zh ⟨h6.o,by rw[Bg];have:mh.size=4:=rfl;omega,a2.o⟩⟩
end Go.Proofs.YtlefbenkhgbifaaGreatDoor.El
