/- prefixes of the reference: which tokens are operators of prefix rules. -/
import Derived.Test.YtlefbenkhgbifaaGreatDoorH5c82a728
import Derived.Test.YtlefbenkhgbifaaGreatDoorHdfafd3bd
import Derived.Test.YtlefbenkhgbifaaGreatDoorH6a5844b0
set_option linter.all false
set_option maxRecDepth 100000
set_option maxHeartbeats 400000000
namespace Go.Proofs.YtlefbenkhgbifaaGreatDoor.El
open At Ch Sp Sy Go.RowKit Tryz
def ZF:EU.d:=by
 intro a5 ok a6 a7 a8 a9 b0 b1 b2 b3 b4 b5 b6 b7 r s t x b8 b9 i c0 w c1 c2 c3 c4 y z A c5 B c6 C D c7 c8 E u c9 d0 F d1 d2 d3 d4 d5 d6 d7 d8 G H I d9 e0 e1 e2 J e3 e4 e5 K _ _ _ _ _ _ _ _ d vr e e6 L e7 l e8 e9 f0 S f1 f2 _ M N O P Q _ _ wc _ _ _ _ _ _ _ _ _ _ _ _ _ _ _ _ _ _ _ _ _ _ _ _ _ _ _ _ _ _ _ _ _ _ _ _ _ _ _ _ _ _ _ _ _ _ _ _ _ _ _ _ _ _ _ _ _ _ _ _ _ _ _ _ _ _ _ _ _ _ _ _ _ _ _ _ _ _ _ _ _ _ _ _ _ _ _ _ _ _ _ _ _ _ _ _ _ _ _ _ _ _ _ _ _ _ _ _ _ _ _ _ _ _ _ _ _ _ _ _ _ _ _ _ _ _ _ _ _ _ _ _ _ _ _ _ _ _ _ _ _ _ _ _ _ _ _ _ _ _ _ _ _ _ _ _ _ _ _ _ _ _ _ _ _ _ _ _ c f h R T j U;obtain⟨f3,f4,f5,f6,f7⟩:=Sp.info_parts zN
 skip
 clear S M N O P Q L F K J G E y B I H z r s t x C D;generalize wc=o at*;obtain⟨V,f8,k,_,_,m⟩:=j.o.app.form (λb a=>.inr aa);have p:V=c:=by injection k with k _ _;exact k.symm
 rw[p] at m;clear k p;have W:=zh m;have n:=zh j.o.k1;clear m;have f9:=n.o.cell;have g0:=n.o.frozen;have g1:=λi=>j.o.km.cell i
 go_wp2_with fail;have X:=zh (sK n.o (qI d) (af u.nam) (af vr) (.slice c h.length f) (af e));have Y:=zh (Da (g:=w.heap.size+1) j.o.bel j.o.bel.size aa (qI d) (af u.nam) (af vr) (.slice c h.length f) (af e));have q:=zh (xP o (w.heap.size+1) (qI d) (af u.nam) (af vr) (.slice c h.length f) (af e));generalize (((((o).setCell ⟨w.heap.size+1,0,none⟩ (qI d)).setCell ⟨w.heap.size+1,1,none⟩ (af u.nam)).setCell ⟨w.heap.size+1,2,none⟩ (af vr)).setCell ⟨w.heap.size+1,3,none⟩ (.slice c h.length f)).setCell ⟨w.heap.size+1,4,none⟩ (af e)=g2 at*;obtain⟨Z,a0,a1,a2,a3⟩:=qc X;exact aB (v:=.agg #[qI d,af u.nam,af vr,.slice c h.length f,af e]) (by simp[results,results152,go_sem,Z,a0,a1,a2,a3]) rfl (show vP _ _ _ _ _ by rw[U.o];exact⟨_,rfl,bH.of l.o.1 l.o.2.1 l.o.2.2 R T (W.o.map q.o.size (λb _ a=>a.imp id λg3=>aa) λg4 _ a=>dm (q.o.block _ ‹_› λa4=>by have:=sj a4;rcases a with a|a<;>(try have:=A.o _ a)<;>omega)),Y.o⟩)
def Qz (a ok:Nat->Prop)(g:Nat)(A:Option Addr)(cap:Nat)(rs:List aD)(b:Option Addr)(c:Nat)(its:List aG)(d:Option Addr)(e:Nat)(xs:List (List aC))(f h:Value)(i:rs.length<=1000000)(j:∀n∈its,fJ n=true/\n.kind≠1)(k:∀y∈xs,y.length<=1000)(l:∀u∈rs,u.kind=1\/u.kind=2\/u.kind=3\/u.kind=4)(o:∀u∈rs,u.nam.size<=9223372036854775807):∀m:Nat,KE a ok g A cap rs b c its d e xs f h m
 |0=>λx _ _ _ _ p=>absurd (Gb x) aa
 |m+1=>EU.o (λ_=>ZB) (λ_=>ZC) (λ_=>ZE) (λ_=>ZF) a ok g A cap rs b c its d e xs f h i j k l o m (Qz a ok g A cap rs b c its d e xs f h i j k l o m)
def mW (L:List Bool)(qs:List Int):List Bool:=qs.foldl (λl q=>l.set q.toNat true) L
def QA (L:List Bool)(a b:List Int):mW L (a++b)=mW (mW L a) b:=by unfold mW;rw[List.foldl_append]
def QB (L:List Bool):∀a:List Int,(mW L a).length=L.length:=by
 intro a
 induction a generalizing L with
 |nil=>rfl
 |cons p a b=>
  show(mW (L.set p.toNat true) a).length=_;rw[b,uu]
def QC {rs:List aD}:∀{ks:List Rd} {t:Nat} {y:Rd},ks[t]?=some y->kQ rs (ks.take (t+1))=kQ rs (ks.take t)++kH rs y
 |[],_,_,h=>by simp at h
 |k::ks,0,y,h=>by
  simp only[iD,gV] at h;subst h;simp[kQ]
 |k::ks,t+1,y,h=>by
  simp only[eD] at h;rw[fo,fo,kQ,kQ,QC h,cu]
abbrev DD (w:World)(gr:Nat)(L:List Bool):Prop:=au w gr 4 (L.map Value.bool).toArray
def ZG (L:List Bool)(q:Nat):(L.map Value.bool).toArray.setIfInBounds q (.bool true)=((L.set q true).map Value.bool).toArray:=by
 rw[List.setIfInBounds_toArray,List.map_set]
def ok_i {rs:List aD}{x:Rd}{i j:Nat}(h:mf rs x i j):x.at_=(i:Int):=by cases h<;>rfl
def ZH (rs:List aD)(x:Rd):kH rs x=(if 0<=x.rule/\dF rs x.rule=2 then[x.at_] else[])++kQ rs x.kids:=by
 obtain⟨r,a,b⟩:=x;rw[kH];rfl
def KF (rs:List aD)(x:Rd)(gr:Nat)(L:List Bool)(w:World)(e:Ending)(w':World):Prop:=e= .returned (.tuple #[])/\DD w' gr (mW L (kH rs x))/\Gr gr w w'
def QD (ok:Nat->Prop)(A:Option Addr)(cap:Nat)(rs:List aD)(a n:Nat)(c5:n<=1000000)(c6:rs.length<=1000000):∀(m:Nat) (x:Rd) (i j:Nat) (c:Array Value) (L:List Bool) (b w:World),og x<=m->mf rs x i j->fG b A rs->dS ok b x c->Below b.heap.size b w->b.heap.size<=a->DD w a L->L.length=n->j<=n->
  Calls prog 150 #[.slice A rs.length cap,.agg c,ay (ag a (0)) n n] w (KF rs x a L w)
 |0,x,i,j,c,L,b,w,N,_,_,_,_,_,_,_,_=>absurd (Gb x) aa
 |m+1,x,i,j,c,L,b,w,N,q,Y,Z,a0,a1,O,a2,f9=>by
  have c7:=zh (QD ok A cap rs a n c5 c6 m);obtain⟨D,E,rfl,g0,g1,a3⟩:=Z.form;have P:=aN w (.cells (dw x.rule x.at_ D x.kids.length E) 139);have Q:=zh P;have s:=zh (au.new w 139 (dw x.rule x.at_ D x.kids.length E));have F:=zh (ae P O);have a4:=zh Y;have c8:=zh a3;have G:=zh a0;have R:=zh a1;have a5:=zh (O.lt);have c9:=zh N;have a6:=zh a2;have H:=ah (x.at_=(i:Int)/\i<n) ⟨ok_i q,av (CY q)⟩;have d0:=zh (ZH rs x);have d1:=zh (show ∀(t:Nat) y,x.kids[t]?=some y->∃z f,mf rs y z f/\f<=n by
   rcases Ga q aa with⟨_,I,_,_⟩|⟨r,u,_,_,_,_,_,d2⟩
   ·intro t y h;rw[I] at h;simp at h
   ·intro t y h;obtain⟨z,f,_,d3,g2,_⟩:=d2 t y h;exact⟨z,f,d3,aa⟩)
  have d4:=zh (show(x.rule<0/\¬(0<=x.rule/\dF rs x.rule=2))\/∃(r:Nat) (u:aD),x.rule=(r:Int)/\rs[r]?=some u/\dF rs x.rule=u.kind by
   rcases Ga q aa with⟨d,_,_,_⟩|⟨r,u,J,g,_⟩
   ·exact .inl ⟨aa,aa⟩
   ·exact .inr ⟨r,u,J,g,by unfold dF;rw[J,fU,g]⟩)
  clear q Y Z a0 O a2 a3 P N a1;go_enter func150,ntmps150;go_upto_region 1 with(fail)
  have K:=zh ((Gr.refl a w).below Q.o);have g3:=ah (w.heap.size<(w.alloc (.cells (dw x.rule x.at_ D x.kids.length E) 139)).heap.size) aS;have d5:=zh (G.o.trans (Q.o.mono G.o.size));clear Q;generalize w.alloc (.cells (dw x.rule x.at_ D x.kids.length E) 139)=a7 at*;have S:=s.o.cell
  go_cut [18] (λd6 wc=>d6= .bool (decide (0<=x.rule/\dF rs x.rule=2))/\wc=a7)
  case first=>
   rcases d4.o with⟨d,I⟩|⟨r,u,J,g,a8⟩
   ·have T:=zh (aK I);have g4:¬(0<=x.rule):=by omega
    clear I;go_wp2;go_meet;exact⟨by rw[T.o],rfl⟩
   ·obtain⟨d7,e,rfl,M,a9,d8,d9,e0,e1,e2⟩:=a4.o.at_ g;have g5:r<rs.length:=(bP.1 g).1;have e3:=d5.o.cell (p:=e.add (r*6)) (by rw[gX];exact M);rw[a9] at e3;have T:=zh (show decide (0<=x.rule/\dF rs x.rule=2)=(u.kind==2) by
     rw[a8,fI,rq,aT];exact⟨λh=>h.2,λh=>⟨aa,h⟩⟩)
    have g6:a7.cell? (ag w.heap.size (0))=some (qI (r:Int)):=by rw[S 0,<-J];rfl
    clear d7 a9 d8 d9 e0 e1 e2 a8 g S;go_wp2;go_meet;exact⟨by rw[T.o],rfl⟩
  obtain⟨e4,rfl⟩:=hcut;subst e4;clear S;go_upto_if 18 with(fail)
  go_cut [] (λb0=>Hy (DD b0 a (mW L (if 0<=x.rule/\dF rs x.rule=2 then[x.at_] else[])))/\Hy (Gr a wc b0))
  case first=>
   by_cases k:0<=x.rule/\dF rs x.rule=2
   ·rw[aJ k];have U:=zh k;clear k;obtain⟨V,b1⟩:∃V,L[i]?=some V:=⟨_,gE (by rw[a6.o];exact H.o.2)⟩
    have g7:wc.cell? (ag a i)=some (.bool V):=by
     have d:wc.cell? (ag a i)=(L.map Value.bool).toArray[i]?:=F.o.cell i;rw[d];simp[b1]
    have g8:=F.o.frozen i;have g9:wc.cell? (ag w.heap.size (1))=some (qI (i:Int)):=by rw[s.o.cell 1,<-H.o.1];rfl
    have h0:(i:Int)<(n:Int):=av H.o.2
    clear b1;go_wp2;go_meet;refine⟨zh ?_,zh ((Gr.refl a wc).set (p:=ag a i) (.inr rfl) _)⟩;have d:=au.set_ F.o i (.bool true);rw[ZG] at d;rw[ak U.o,H.o.1];exact d
   ·rw[aK k];have U:=zh k;clear k;go_wp2;go_meet;exact⟨by rw[ai U.o];exact F,zh (Gr.refl _ _)⟩
  obtain⟨e5,b2⟩:=hcut;replace s:=zh (b2.o.blk s.o (av a5.o));replace K:=zh (K.o.trans b2.o);have b3:=ah (Below b.heap.size b wc) (G.o.trans (K.o.down G.o.size R.o));go_wp2_with fail
  go_loopw [6] (λi wr=>∃t:Nat,t<=x.kids.length/\i=qI t/\Hy (DD wr a (mW (mW L (if 0<=x.rule/\dF rs x.rule=2 then[x.at_] else[])) (kQ rs (x.kids.take t))))/\Hy (Gr a wc wr)) (λi _=>x.kids.length -(intOf i).toNat)
  case atStart=>exact⟨0,aa,rfl,by rw[eZ,kQ];exact e5,zh (Gr.refl _ _)⟩
  case round=>
   obtain⟨t,h1,rfl,W,l⟩:=hrel;have e6:=zh (l.o.blk s.o (av a5.o));have b4:=e6.o.cell 2;dsimp only[dw] at b4
   by_cases e7:t<x.kids.length
   ·obtain⟨y,B⟩:∃y,x.kids[t]?=some y:=⟨_,gE e7⟩
    obtain⟨z,f,b5,b6⟩:=d1.o t y B;have C:=b3.o.trans (l.o.down b3.o.size R.o);obtain⟨e,e8,e9,rfl,M,b7,h2,h3,f0,b8,b9,c0⟩:=iE.at_ c8.o B;have X:∀o,(⟨(e.add (t*3)).block,o,none⟩:Addr).block<b.heap.size:=λo=>by show(e.add (t*3)).block<_;rw[gX];exact M
    have f1:=(C.cell (p:=e.add (t*3)) (by rw[gX];exact M)).trans b8;have f2:=(C.cell (X ((e.add (t*3)).off+1))).trans b9;have f3:=(C.cell (X ((e.add (t*3)).off+2))).trans c0;have f4:=zh b7;have f5:=zh (QC (rs:=rs) B);have c1:=zh (And.intro b5 b6);have f6:=zh (show og y<=m by
     have d:=zf B;have:=c9.o;omega)
    have f7:=zh C;have f8:=ah ((mW (mW L (if 0<=x.rule/\dF rs x.rule=2 then[x.at_] else[])) (kQ rs (x.kids.take t))).length=n) (by rw[QB,QB];exact a6.o);clear C b8 b9 c0 b7 f0 b5 b6 X B;go_wp2_with fail;refine(c7.o y z f (dw y.rule y.at_ e8 y.kids.length e9) _ b wr f6.o c1.o.1 a4.o f4.o f7.o R.o W.o f8.o c1.o.2).mono ?_;rintro h4 h5 ⟨rfl,c2,c3⟩;have c4:=zh c2;replace l:=zh (l.o.trans c3);clear c2 c3 f1 f2 f3 b4;rw[<-QA,<-f5.o] at c4;go_wp2;go_roundw
    case rel=>exact⟨t+1,aa,bi,c4,l⟩
    case measure=>simp[intOf];omega
   ·obtain rfl:t=x.kids.length:=by omega
    rw[bW,<-QA,<-d0.o] at W;go_wp2;exact aB (v:=.tuple #[]) (by simp[results,results150,go_sem]) rfl ⟨rfl,W.o,K.o.trans l.o⟩
end Go.Proofs.YtlefbenkhgbifaaGreatDoor.El
