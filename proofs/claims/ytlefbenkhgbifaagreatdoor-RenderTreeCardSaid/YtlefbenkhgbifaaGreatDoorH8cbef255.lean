/- A shared reading in new memory. -/
import Derived.Test.YtlefbenkhgbifaaGreatDoorH49a24d68
import Derived.Lib.Case
import Derived.Lib.ItoaNum
import Derived.StringKeys
import Derived.Lib.SmallJoins
import Derived.Lib.ItoaLen
import Derived.Shelf.Strings.BuilderK
import Derived.Deep.WholeRow
set_option linter.all false
set_option maxRecDepth 100000
set_option maxHeartbeats 4000000
namespace Go.Proofs.YtlefbenkhgbifaaGreatDoor
open Tryz
namespace Ch
open Go.RowKit
variable{k:Nat}{ts:List ByteArray}{s:ByteArray}
def jh.kids {rs:List aD}{w:World}{g:Nat}{x:Rd}(h:jh rs w g x):∃f:Nat->Value,au w g 212 (uE rs x.rule x.at_ (f 0) (f 1))/\x.kids.length<=2/\∀k,k<2->(x.kids.length<=k/\f k= .pointer none)\/∃b y,x.kids[k]?=some y/\f k=bB b/\jh rs w b y:=by
 cases h with
 |leaf _ r a c=>
  refine⟨λ_=>.pointer none,c,by simp[Rd.kids],λk _=>.inl ⟨by simp[Rd.kids],rfl⟩⟩
 |one _ r a d x c i=>
  refine⟨λk=>if k=0 then bB d else .pointer none,c,by simp[Rd.kids],λk l=>?_⟩
  by_cases e:k=0
  ·subst e;exact .inr ⟨d,x,rfl,rfl,i⟩
  ·exact .inl ⟨by simp[Rd.kids];omega,ai e⟩
 |two _ r a d j x y c i m=>
  refine⟨λk=>if k=0 then bB d else bB j,c,by simp[Rd.kids],λk l=>?_⟩
  by_cases e:k=0
  ·subst e;exact .inr ⟨d,x,rfl,rfl,i⟩
  ·obtain rfl:k=1:=by omega
   exact .inr ⟨j,y,rfl,rfl,m⟩
def zf {ks:List Rd}{y:Rd}(h:ks[k]?=some y):og y<=Cx ks:=by
 induction ks generalizing k with
 |nil=>simp at h
 |cons a ks b=>
  rw[Cx];cases k with
  |zero=>simp at h;subst h;omega
  |succ k=>have:=b (k:=k) (by simpa using h);omega
def Tj (x:Rd)(w:World)(e:Ending)(w':World):Prop:=∃c,e= .returned (.agg c)/\dS (λb=>w.heap.size<=b) w' x c/\Below w.heap.size w w'
abbrev zK:Array Value:= #[qI 0,qI 0,qN]
def IK (w1:World)(r a:Int):List Bool->Unit->World->Prop
 |[ba,bs],_,wq=>Below w1.heap.size w1 wq/\(ba=false->wq.heap.size=w1.heap.size)/\(ba=true->au wq w1.heap.size 139 (if bs then #[qI r,qI a,qN] else zK))
 |_,_,_=>False
def zg (wr:World)(B gB:Nat)(r a:Int)(v:Value)(xs:List Rd)(y:Rd):List Bool->Array Value×Nat×Value->World->Prop
 |[be,bb,ba,bs],gx,wq=>Below B wr wq/\au wq B 139 zK/\au wq gB 139 #[qI r,qI a,if bs then gx.2.2 else v]/\(ba=false->bM (λb=>B<b/\b≠gB) wq (gB+1) v xs)/\(be=true->ba=false->dS (λb=>v.ownBlock≠some b/\B<b/\b≠gB) wq y gx.1)/\(bb=true->ba=false->au wq gx.2.1 139 gx.1)/\
   (ba=true->bM (λb=>B<b/\b≠gB) wq (gB+1) gx.2.2 (xs++[y]))
 |_,_,_=>False
def Mo (a b:Value)(w:World):(Instr.index 210 (.agg #[a,b]) (qI 0)).run prog w= .ok a w:=aj
def Mq (a b:Value)(w:World):(Instr.index 210 (.agg #[a,b]) (qI 1)).run prog w= .ok b w:=aj
def zg.keep {wr:World}{B f:Nat}{r a:Int}{v:Value}{xs:List Rd}{y:Rd}{g i j bs:Bool}{k:Array Value×Nat×Value}{c w':World}(h:zg wr B f r a v xs y [g,i,j,bs] k c)(l:B<=c.heap.size)(b:Below c.heap.size c w'):zg wr B f r a v xs y [g,i,j,bs] k w':=by
 obtain⟨m,n,o,p,q,s,t⟩:=h;exact⟨m.trans (b.mono l),jL b n,jL b o,λe=>(p e).keep b,λe d=>(q e d).keep b,λe d=>jL b (s e d),λe=>(t e).keep b⟩
def Tk (rs:List aD):∀(m:Nat) (b:Nat) (x:Rd) (w:World),og x<=m->jh rs w b x->Calls prog 134 #[bB b] w (Tj x w):=by
 intro m
 induction m with
 |zero=>intro b x w h;obtain⟨r,a,g9⟩:=x;simp only[og] at h;omega
 |succ m c3=>
  intro b x w c4 c5;have c6:=zh c3;clear c3;obtain⟨c7,c8,c9,d0,d1⟩:=info_parts zJ;have V:=aN w (.cells zK 139);obtain⟨a2,l,d2,d3⟩:=c5.kids;have h0:=zh l;have a3:=zh (ae V l);have e4:=zh d3;have e5:=zh d2;have e6:=zh c4;have D:=zh V;have t:=zh (au.new w 139 zK);have R:=zh (dY w (.cells zK 139));clear V l d3 d2 c4 c5;go_enter func134,ntmps134;go_upto_region 1 with(fail)
  generalize w.alloc (.cells zK 139)=e7 at*;refine xX (X:=Unit) aj _ (λg=>[qP b,qP b,qP b,qI x.rule,qP b,qP b,aR b (1),qI x.at_,.agg #[qI x.rule,qI x.at_,qN],qP (w.heap.size+1),undef]) [true,true,true,true,true,true,true,true,true,true,true] [9,10] (IK e7 x.rule x.at_) () aj (λg=>by simp[fin,mX,fK,List.range,List.range.loop,Act.put];rfl) (λ_=>aj) aj ⟨fC (aL _ _),(λ_=>rfl),λh=>by cases h⟩ ?_ ?_
  ·refine⟨jS,jT,jT,λL g f q j n d=>?_,jS,jT,jT,λL g f q j n d=>?_,jT,λL g f q j n d=>?_,λL g f q j n d=>?_,trivial⟩
   ·have E:=(ae d.1 a3.o).cell 0;exact jq (qI x.rule) f (bE E) rfl d
   ·have E:=(ae d.1 a3.o).cell 1;exact jq (qI x.at_) f (bE E) rfl d
   ·have N:L 9=false:=q;have a5:L 10=false:=n 10 aj;simp only[List.map,N,a5] at d⊢;obtain⟨O,I,_⟩:=d;have I:=I rfl;have V:=aN f (.cells zK 139);exact jv (qP f.heap.size) (f.alloc (.cells zK 139)) ol ⟨(),by rw[I,R.o];rfl,lK.same,O.trans (V.mono O.size),(λh=>by cases h),λ_=>by rw[<-I];exact au.new _ _ _⟩
   ·have N:L 9=true:=j 9 aj;have a5:L 10=false:=q;simp only[List.map,N,a5] at d⊢;obtain⟨O,_,M⟩:=d;have M:au f (w.heap.size+1) 139 zK:=by rw[<-R.o];exact M rfl
    have d4:=M.cell 0;have d5:=M.cell 1;have e8:=M.cell 2;have e9:=λi=>M.frozen i
    exact aP.skip (w':=((f.setCell ⟨w.heap.size+1,0,none⟩ (qI x.rule)).setCell ⟨w.heap.size+1,1,none⟩ (qI x.at_)).setCell ⟨w.heap.size+1,2,none⟩ qN) (DK d4 d5 e8 e9) ⟨(),rfl,lK.same,((O.setCell (p:=ag (w.heap.size+1) (0)) (by rw[R.o];exact aH _) _).setCell (p:=ag (w.heap.size+1) (1)) (by rw[R.o];exact aH _) _).setCell (p:=ag (w.heap.size+1) (2)) (by rw[R.o];exact aH _) _,(λh=>by cases h),λ_=>by rw[R.o];exact((M.set_ 0 _).set_ 1 _).set_ 2 _⟩
  ·intro g f d;obtain⟨O,_,M⟩:=d;have F:Hy (au f (w.heap.size+1) 139 #[qI x.rule,qI x.at_,qN]):=zh (by rw[<-R.o];exact M rfl);have d6:=kp O a3;have t:=kp O t;have D:=jt D O;clear O M a3 R;have f0:=d6.o.cell 3;have f1:=d6.o.cell 4;go_wp2_with fail;clear f0 f1
   go_loopw [19] (λi wr=>∃(k:Nat) (v:Value),k<=2/\i=qI k/\Hy (bM (λb=>w.heap.size<b/\b≠w.heap.size+1) wr (w.heap.size+1+1) v (x.kids.take k))/\Hy (au wr (w.heap.size+1) 139 #[qI x.rule,qI x.at_,v])/\Hy (au wr w.heap.size 139 zK)/\Hy (Below w.heap.size w wr)) (λi _=>2 -(intOf i).toNat)
   case atStart=>exact⟨0,_,aa,rfl,by rw[eZ];exact bM.nil _ _ _,F,t,D⟩
   case round=>
    clear F t D;obtain⟨k,v,h1,rfl,G,F,t,D⟩:=hrel
    by_cases f2:k<2
    ·rcases e4.o k f2 with⟨d7,P⟩|⟨S,y,a6,P,d8⟩
     ·have a4:=ah (x.kids.take (k+1)=x.kids.take k) (by rw[fA aa,fA d7]);rw[<-a4.o] at G;have a7:k=0\/k=1:=by omega
      clear d7;rcases a7 with rfl|rfl
      ·rw[P,show((0:Nat):Int)=0 from rfl];have W:=Mo (.pointer none) (a2 1);clear P;go_wp2;go_roundw
       case rel=>exact⟨1,_,aa,rfl,G,F,t,D⟩
       case measure=>simp[intOf]
      ·rw[P,show((1:Nat):Int)=1 from rfl];have W:=Mq (a2 0) (.pointer none);clear P;go_wp2;go_roundw
       case rel=>exact⟨2,_,aa,rfl,G,F,t,D⟩
       case measure=>simp[intOf]
     ·have a4:=ah (x.kids.take (k+1)=x.kids.take k++[y]) (by rw[dA,a6];rfl);have d9:=zh d8;have e0:=zh (show og y<=m by
       have z:=e6.o;obtain⟨f3,f4,e1⟩:=x;rw[og] at z;have u:=zf (show e1[k]?=some y from a6);omega)
      have e2:=ah ((x.kids.take k).length<=2) (by rw[eU];omega);have a7:k=0\/k=1:=aa
      clear a6 d8;rcases a7 with rfl|rfl
      ·rw[P,show((0:Nat):Int)=0 from rfl];have W:=Mo (bB S) (a2 1);clear P;go_upto_region 6 with(fail)
       clear W;refine xX (X:=Array Value×Nat×Value) aj _ (λg=>[aR (w.heap.size+1) (2),v,bB S,.agg g.1,.slice (some (ag g.2.1 (0))) 1 1,g.2.2,aR (w.heap.size+1) (2),undef]) [true,true,true,true,true,true,true,true] [3,4,5,7] (zg w w.heap.size (w.heap.size+1) x.rule x.at_ v (x.kids.take 0) y) (#[],0,.nilFunc) aj (λg=>by simp[fin,mX,fK,List.range,List.range.loop,Act.put];rfl) (λ_=>aj) aj ⟨fC D.o,t.o.drew,F.o.drew,(λ_=>G.o.keep (fC (aL _ _))),(λh=>by cases h),(λh=>by cases h),λh=>by cases h⟩ ?_ ?_
       ·refine⟨jT,λL g f q j n d=>?_,jS,λL g f q j n d=>?_,λL g f q j n d=>?_,λL g f q j n d=>?_,jT,λL g f q j n d=>?_,trivial⟩
        ·have K:L 7=false:=n 7 aj;have E:=d.2.2.1.cell 2;simp only[K] at E;exact jq v f (bE E) rfl d
        ·have A:L 3=false:=q;have B:L 4=false:=n 4 aj;have C:L 5=false:=n 5 aj;simp only[List.map,A,B,C] at d⊢;have I:w.heap.size<=f.heap.size:=by have:=d.2.1.lt;omega
         refine jc 134 (#[bB S]) f aj ((c6.o S y f e0.o (d9.o.keep d.1)).mono ?_);rintro e f5 ⟨c,rfl,a8,a9⟩;have l:=d.keep I a9;exact⟨_,rfl,(c,g.2),rfl,jD,l.1,l.2.1,l.2.2.1,l.2.2.2.1,(λ_ _=>a8.any λb _ j=>⟨λh=>av (((d.2.2.2.1 rfl).lt b h).2),av d.2.1.lt,av d.2.2.1.lt⟩),(λh=>by cases h),λh=>by cases h⟩
        ·have A:L 3=true:=j 3 aj;have B:L 4=false:=q;have C:L 5=false:=n 5 aj;simp only[List.map,A,B,C] at d⊢;have I:w.heap.size<=f.heap.size:=by have:=d.2.1.lt;omega
         have l:=d.keep I (aN f (.cells g.1 139));have f6:=(d.2.2.2.2.1 rfl rfl).size;obtain⟨b0,b1,Y⟩:=g;obtain⟨b2,b3,rfl,_⟩:=(d.2.2.2.2.1 rfl rfl).form;exact jv (.slice (some (ag f.heap.size (0))) 1 1) (f.alloc (.cells (dw y.rule y.at_ b2 y.kids.length b3) 139)) ol ⟨(_,f.heap.size,Y),rfl,jD,l.1,l.2.1,l.2.2.1,l.2.2.2.1,l.2.2.2.2.1,(λ_ _=>au.new _ _ _),λh=>by cases h⟩
        ·have A:L 3=true:=j 3 aj;have B:L 4=true:=j 4 aj;have C:L 5=false:=q;have K:L 7=false:=n 7 aj;simp only[List.map,A,B,C,K] at d⊢;obtain⟨z,u,s,Z,T,b4,_⟩:=d;obtain⟨f7,b5,b6,b7⟩:=Z rfl;have f8:=e2.o;have U:∀b,v.ownBlock=some b->w.heap.size+1+1<=b:=λb j=>((Z rfl).lt b j).1
         exact wQ (.tmp 25) (.tmp 28) 119 rfl (w.heap.size+1+1) 139 c7 (.agg #[qI 0,qI 0,qN]) 3 40 underlying119 c8 c9 d0 d1 rfl aI v _ _ rfl b5 f.heap.size (some (ag g.2.1 (0))) 1 1 g.1.toList rfl (vF (b4 rfl rfl) (T rfl rfl).size) (Aj (T rfl rfl)) gy aa (av s.lt) (λb8 w' b9 Q c0=>⟨(g.1,g.2.1,b8),rfl,jD,z.grown Q (av u.lt) (λb j=>av (U b j)),u.grown Q (λe=>by have:=U _ e.symm;omega),s.grown Q (λe=>by have:=U _ e.symm;omega),(λh=>by cases h),(λ_ h=>by cases h),(λ_ h=>by cases h),λ_=>bM.push b6 b7 (T rfl rfl) b9 Q c0⟩)
        ·have A:L 3=true:=j 3 aj;have B:L 4=true:=j 4 aj;have C:L 5=true:=j 5 aj;have K:L 7=false:=q;simp only[List.map,A,B,C,K] at d⊢;obtain⟨b0,b1,Y⟩:=g;obtain⟨z,u,s,_,_,_,H⟩:=d;have s:au f (w.heap.size+1) 139 #[qI x.rule,qI x.at_,v]:=s;obtain⟨J,a0,N,_⟩:=(H rfl).form (λb j=>⟨aa,aa⟩);dsimp only at N;subst N;have E:=s.cell 2;have c1:=s.frozen 2;have f9:∀b,(Value.slice J (x.kids.take 0++[y]).length a0).ownBlock=some b->w.heap.size+1+1<=b:=λb j=>((H rfl).lt b j).1
         exact aP.skip (w':=f.setCell ⟨w.heap.size+1,2,none⟩ (.slice J (x.kids.take 0++[y]).length a0)) (ek E c1) ⟨_,rfl,lK.same,z.setCell (p:=ag (w.heap.size+1) (2)) (by show w.heap.size<=w.heap.size+1;omega) _,u.far (by show w.heap.size≠w.heap.size+1;omega) _,s.set_ 2 _,(λh=>by cases h),(λ_ h=>by cases h),(λ_ h=>by cases h),λ_=>(H rfl).set_ (p:=ag (w.heap.size+1) (2)) (λh=>h.2 rfl) (by show w.heap.size+1<_;omega) _⟩
       ·intro g f d;obtain⟨z,u,s,_,_,_,H⟩:=d;have D:=zh z;have t:=zh u;have F:=zh s;have G:=zh (H rfl);rw[<-a4.o] at G;clear z u s H;go_wp2;go_roundw
        case rel=>exact⟨1,_,aa,rfl,G,F,t,D⟩
        case measure=>simp[intOf]
      ·rw[P,show((1:Nat):Int)=1 from rfl];have W:=Mq (a2 0) (bB S);clear P;go_upto_region 6 with(fail)
       clear W;refine xX (X:=Array Value×Nat×Value) aj _ (λg=>[aR (w.heap.size+1) (2),v,bB S,.agg g.1,.slice (some (ag g.2.1 (0))) 1 1,g.2.2,aR (w.heap.size+1) (2),undef]) [true,true,true,true,true,true,true,true] [3,4,5,7] (zg w w.heap.size (w.heap.size+1) x.rule x.at_ v (x.kids.take 1) y) (#[],0,.nilFunc) aj (λg=>by simp[fin,mX,fK,List.range,List.range.loop,Act.put];rfl) (λ_=>aj) aj ⟨fC D.o,t.o.drew,F.o.drew,(λ_=>G.o.keep (fC (aL _ _))),(λh=>by cases h),(λh=>by cases h),λh=>by cases h⟩ ?_ ?_
       ·refine⟨jT,λL g f q j n d=>?_,jS,λL g f q j n d=>?_,λL g f q j n d=>?_,λL g f q j n d=>?_,jT,λL g f q j n d=>?_,trivial⟩
        ·have K:L 7=false:=n 7 aj;have E:=d.2.2.1.cell 2;simp only[K] at E;exact jq v f (bE E) rfl d
        ·have A:L 3=false:=q;have B:L 4=false:=n 4 aj;have C:L 5=false:=n 5 aj;simp only[List.map,A,B,C] at d⊢;have I:w.heap.size<=f.heap.size:=by have:=d.2.1.lt;omega
         refine jc 134 (#[bB S]) f aj ((c6.o S y f e0.o (d9.o.keep d.1)).mono ?_);rintro e f5 ⟨c,rfl,a8,a9⟩;have l:=d.keep I a9;exact⟨_,rfl,(c,g.2),rfl,jD,l.1,l.2.1,l.2.2.1,l.2.2.2.1,(λ_ _=>a8.any λb _ j=>⟨λh=>av (((d.2.2.2.1 rfl).lt b h).2),av d.2.1.lt,av d.2.2.1.lt⟩),(λh=>by cases h),λh=>by cases h⟩
        ·have A:L 3=true:=j 3 aj;have B:L 4=false:=q;have C:L 5=false:=n 5 aj;simp only[List.map,A,B,C] at d⊢;have I:w.heap.size<=f.heap.size:=by have:=d.2.1.lt;omega
         have l:=d.keep I (aN f (.cells g.1 139));have f6:=(d.2.2.2.2.1 rfl rfl).size;obtain⟨b0,b1,Y⟩:=g;obtain⟨b2,b3,rfl,_⟩:=(d.2.2.2.2.1 rfl rfl).form;exact jv (.slice (some (ag f.heap.size (0))) 1 1) (f.alloc (.cells (dw y.rule y.at_ b2 y.kids.length b3) 139)) ol ⟨(_,f.heap.size,Y),rfl,jD,l.1,l.2.1,l.2.2.1,l.2.2.2.1,l.2.2.2.2.1,(λ_ _=>au.new _ _ _),λh=>by cases h⟩
        ·have A:L 3=true:=j 3 aj;have B:L 4=true:=j 4 aj;have C:L 5=false:=q;have K:L 7=false:=n 7 aj;simp only[List.map,A,B,C,K] at d⊢;obtain⟨z,u,s,Z,T,b4,_⟩:=d;obtain⟨f7,b5,b6,b7⟩:=Z rfl;have f8:=e2.o;have U:∀b,v.ownBlock=some b->w.heap.size+1+1<=b:=λb j=>((Z rfl).lt b j).1
         exact wQ (.tmp 25) (.tmp 28) 119 rfl (w.heap.size+1+1) 139 c7 (.agg #[qI 0,qI 0,qN]) 3 40 underlying119 c8 c9 d0 d1 rfl aI v _ _ rfl b5 f.heap.size (some (ag g.2.1 (0))) 1 1 g.1.toList rfl (vF (b4 rfl rfl) (T rfl rfl).size) (Aj (T rfl rfl)) gy aa (av s.lt) (λb8 w' b9 Q c0=>⟨(g.1,g.2.1,b8),rfl,jD,z.grown Q (av u.lt) (λb j=>av (U b j)),u.grown Q (λe=>by have:=U _ e.symm;omega),s.grown Q (λe=>by have:=U _ e.symm;omega),(λh=>by cases h),(λ_ h=>by cases h),(λ_ h=>by cases h),λ_=>bM.push b6 b7 (T rfl rfl) b9 Q c0⟩)
        ·have A:L 3=true:=j 3 aj;have B:L 4=true:=j 4 aj;have C:L 5=true:=j 5 aj;have K:L 7=false:=q;simp only[List.map,A,B,C,K] at d⊢;obtain⟨b0,b1,Y⟩:=g;obtain⟨z,u,s,_,_,_,H⟩:=d;have s:au f (w.heap.size+1) 139 #[qI x.rule,qI x.at_,v]:=s;obtain⟨J,a0,N,_⟩:=(H rfl).form (λb j=>⟨aa,aa⟩);dsimp only at N;subst N;have E:=s.cell 2;have c1:=s.frozen 2;have f9:∀b,(Value.slice J (x.kids.take 1++[y]).length a0).ownBlock=some b->w.heap.size+1+1<=b:=λb j=>((H rfl).lt b j).1
         exact aP.skip (w':=f.setCell ⟨w.heap.size+1,2,none⟩ (.slice J (x.kids.take 1++[y]).length a0)) (ek E c1) ⟨_,rfl,lK.same,z.setCell (p:=ag (w.heap.size+1) (2)) (by show w.heap.size<=w.heap.size+1;omega) _,u.far (by show w.heap.size≠w.heap.size+1;omega) _,s.set_ 2 _,(λh=>by cases h),(λ_ h=>by cases h),(λ_ h=>by cases h),λ_=>(H rfl).set_ (p:=ag (w.heap.size+1) (2)) (λh=>h.2 rfl) (by show w.heap.size+1<_;omega) _⟩
       ·intro g f d;obtain⟨z,u,s,_,_,_,H⟩:=d;have D:=zh z;have t:=zh u;have F:=zh s;have G:=zh (H rfl);rw[<-a4.o] at G;clear z u s H;go_wp2;go_roundw
        case rel=>exact⟨2,_,aa,rfl,G,F,t,D⟩
        case measure=>simp[intOf]
    ·obtain rfl:k=2:=by omega
     rw[fA e5.o] at G;obtain⟨J,a1,rfl,g0,g1,g2⟩:=G.o.form (λb j=>⟨aa,aa⟩);have g3:=zh g2;have d5:=F.o.cell;have d4:=t.o.cell;have h2:=F.o.frozen;have h3:=t.o.frozen;go_wp2_with fail;have g4:=((t.o.set_ 0 (qI x.rule)).set_ 1 (qI x.at_)).set_ 2 (.slice J x.kids.length a1);have g5:=((D.o.setCell (p:=ag w.heap.size (0)) (aH _) (qI x.rule)).setCell (p:=ag w.heap.size (1)) (aH _) (qI x.at_)).setCell (p:=ag w.heap.size (2)) (aH _) (.slice J x.kids.length a1);have g6:iE (λb=>w.heap.size<=b) (((wr.setCell (ag w.heap.size (0)) (qI x.rule)).setCell (ag w.heap.size (1)) (qI x.at_)).setCell (ag w.heap.size (2)) (.slice J x.kids.length a1)) J x.kids:=by
      refine g3.o.map (ax (xY _ _ _).size (ax (xY _ _ _).size (xY _ _ _).size)) (λb _ h=>aa) λg7 _ e3=>?_
      have c2:∀o,g7≠⟨w.heap.size,o,none⟩:=λo e=>by rw[e] at e3;exact Nat.lt_irrefl _ e3.1
      rw[kZ _ _ _ _ (λe=>c2 2 e.symm),kZ _ _ _ _ (λe=>c2 1 e.symm),kZ _ _ _ _ (λe=>c2 0 e.symm)]
     generalize ((wr.setCell (ag w.heap.size (0)) (qI x.rule)).setCell (ag w.heap.size (1)) (qI x.at_)).setCell (ag w.heap.size (2)) (.slice J x.kids.length a1)=h4 at*;have g8:=λi=>g4.cell i
     refine aB (v:=.agg (dw x.rule x.at_ J x.kids.length a1)) (by simp[results,results134,go_sem,g8]) rfl ⟨_,rfl,?_,g5⟩;obtain⟨f3,f4,e1⟩:=x;exact dS.of g0 g1 g6
def wS (s:ByteArray):Bool:=s.toList==oD||fV s.toList
def qQ (ts:List ByteArray):Bool:=decide (ts.length<=200)&&ts.all wS
def FI (c:ts[k]?=some s)(h:∀(j:Nat) t,ts[j]?=some t->j<k->wS t=true)(d:wS s=true):∀(j:Nat) t,ts[j]?=some t->j<k+1->wS t=true:=λj t a e=>by
 rcases bu j k with b|b
 ·exact h j t a b
 ·obtain rfl:j=k:=by omega
  rw[c] at a;obtain rfl:=sj a;exact d
def Mr (a:ts[k]?=some s)(b:wS s=false):qQ ts=false:=by
 unfold qQ;have:ts.all wS=false:=uY.2 ⟨s,dQ a,by rw[b];simp⟩;rw[this,bF]
def Ms {ts:List ByteArray}(h:∀(j:Nat) t,ts[j]?=some t->j<ts.length->wS t=true):qQ ts=decide (ts.length<=200):=by
 unfold qQ;have:ts.all wS=true:=cz.2 λs b=>by
  obtain⟨j,a⟩:=gz.1 b;exact h j s a (bP.1 a).1
 rw[this,Bool.and_true]
def Mt (h:s.toList=oD):wS s=true:=by unfold wS;rw[h];rfl
def Mv (h:¬s.toList=oD):wS s=fV s.toList:=by
 unfold wS;rw[show(s.toList==oD)=false from bn h,ow]
def Ed (T:Option Addr)(x:Nat)(ts:List ByteArray)(w:World)(r:uT w T ts):Calls prog 131 #[.slice T ts.length x] w λe w'=>e= .returned (.bool (qQ ts))/\Below w.heap.size w w':=by
 have a:=zh r;clear r
 by_cases E:200<ts.length
 ·have d:=ah (qQ ts=false) (by unfold qQ;rw[aK aa];rfl);go_enter func131,ntmps131;go_wp2;go_ret;exact⟨aU d.o.symm,aL _ _⟩
 ·have d:=zh (@Ms ts);rw[aJ (show ts.length<=200 from aa)] at d;go_enter func131,ntmps131;go_wp2_with fail
  go_loopw [10] (λi wr=>∃k:Nat,k<=ts.length/\i=qI k/\Hy (∀(j:Nat) t,ts[j]?=some t->j<k->wS t=true)/\Hy (uT wr T ts)/\Hy (Below w.heap.size w wr)) (λi _=>ts.length -(intOf i).toNat)
  case atStart=>exact⟨0,aa,rfl,(λj _ _ h=>aa),a,aL _ _⟩
  case round=>
   clear a;obtain⟨k,F,rfl,c,a,f⟩:=hrel
   by_cases y:k<ts.length
   ·obtain⟨s,m⟩:∃s,ts[k]?=some s:=⟨_,gE y⟩
    obtain⟨u,G,rfl,z,A⟩:=a.o k s m;have n:=zh m;have B:=zh u;clear m u z
    by_cases b:s.toList=oD
    ·have o:=zh (FI n.o c.o (Mt b));have p:(s.toList==oD)=true:=aT.2 b;unfold oD at p b;clear c;go_wp2;go_roundw
     case rel=>exact⟨k+1,aa,bi,o,a,f⟩
     case measure=>simp[intOf];omega
    ·have g:=zh (Mv b);have p:(s.toList==oD)=false:=bn b;unfold oD at p;clear b;go_wp2_with fail;refine(CF s _ B.o).mono ?_;rintro e H ⟨rfl,q⟩;have C:=zh (a.o.keep q);have v:=jt f q;clear a f q A;cases l:fV s.toList
     ·rw[l] at g;have D:=zh (Mr n.o g.o);clear l;go_wp2;go_ret;exact⟨aU D.o.symm,v.o⟩
     ·rw[l] at g;have o:=zh (FI n.o c.o g.o);clear l c;go_wp2;go_roundw
      case rel=>exact⟨k+1,aa,bi,o,C,v⟩
      case measure=>simp[intOf];omega
   ·obtain rfl:k=ts.length:=by omega
    go_wp2;go_ret;exact⟨aU (d.o c.o).symm,f.o⟩
def Tm (ts:List ByteArray):(∀(j:Nat) t,ts[j]?=some t->j<ts.length->wS t=true)->decide (ts.length<=200)=qQ ts:=λh=>(Ms h).symm
def Tn (T:Option Addr)(v:Nat)(ts:List ByteArray)(w:World)(q:uT w T ts)(E:ts.length<=1000000):Calls prog 187 #[.slice T ts.length v] w λe w'=>e= .returned (.bool (qQ ts))/\Below w.heap.size w w':=by
 have a:=zh q;have x:=zh (Tm ts);clear q;go_enter func187,ntmps187;go_wp2_with fail
 go_loopw [3] (λi wr=>∃k:Nat,k<=ts.length/\i=qI k/\Hy (∀(j:Nat) t,ts[j]?=some t->j<k->wS t=true)/\Hy (uT wr T ts)/\Hy (Below w.heap.size w wr)) (λi _=>ts.length -(intOf i).toNat)
 case atStart=>exact⟨0,aa,rfl,(λj _ _ h=>aa),a,aL _ _⟩
 case round=>
  clear a;obtain⟨k,F,rfl,c,a,d⟩:=hrel
  by_cases y:k<ts.length
  ·obtain⟨s,l⟩:∃s,ts[k]?=some s:=⟨_,gE y⟩
   obtain⟨r,G,rfl,z,A⟩:=a.o k s l;have m:=zh l;have B:=zh r;clear l r z
   by_cases b:s.toList=oD
   ·have n:=zh (FI m.o c.o (Mt b));have o:(s.toList==oD)=true:=aT.2 b;unfold oD at o b;clear c;go_wp2;go_roundw
    case rel=>exact⟨k+1,aa,bi,n,a,d⟩
    case measure=>simp[intOf];omega
   ·have f:=zh (Mv b);have o:(s.toList==oD)=false:=bn b;unfold oD at o;clear b;go_wp2_with fail;refine(yD s _ B.o).mono ?_;rintro e H ⟨rfl,p⟩;have C:=zh (a.o.keep p);have u:=jt d p;clear a d p A;cases g:fV s.toList
    ·rw[g] at f;have D:=zh (Mr m.o f.o);clear g;go_wp2;go_ret;exact⟨aU D.o.symm,u.o⟩
    ·rw[g] at f;have n:=zh (FI m.o c.o f.o);clear g c;go_wp2;go_roundw
     case rel=>exact⟨k+1,aa,bi,n,C,u⟩
     case measure=>simp[intOf];omega
  ·obtain rfl:k=ts.length:=by omega
   go_wp2;go_ret;exact⟨aU ((fE.2 aa).trans (x.o c.o)),d.o⟩
end Ch
namespace Sp
open At
inductive aC where
 |mk (kind:Int) (nam vr form:ByteArray) (args:List aC)
def aC.kind:aC->Int
 | .mk k _ _ _ _=>k
def aC.nam:aC->ByteArray
 | .mk _ a _ _ _=>a
def aC.vr:aC->ByteArray
 | .mk _ _ v _ _=>v
def aC.form:aC->ByteArray
 | .mk _ _ _ f _=>f
def aC.args:aC->List aC
 | .mk _ _ _ _ ts=>ts
mutual
def bg:aC->Nat
 | .mk _ _ _ _ ts=>bq ts+1
def bq:List aC->Nat
 |[]=>0
 |t::ts=>bg t+bq ts
end
def oH (a:Nat)(l:List UInt8):Bool:=l.all λc=>decide (a<=c.toNat)&&decide (c.toNat<=126)
def mY (l:List UInt8):Bool:=ky l&&fV l
def Mw (l:List UInt8):Bool:= !l.isEmpty&&(bU (l.headD 0)&&fV l)
def Tp (l:List UInt8):Mw l=mY l:=by
 unfold Mw mY
 match l with
 |[]=>rfl
 |[c]=>
  rw[show ky [c]=bU c by simp[ky,tY],show fV [c]=(bU c||lI yA c) from rfl];show(true&&(bU c&&_))=_;rw[aW]
 |c::d::r=>
  rw[show fV (c::d::r)=(decide (2<=(c::d::r).length)&&(decide ((c::d::r).length<=16)&&(tY (c::d::r)&&(!kV vw (c::d::r)&& !kV rT (c::d::r))))) from rfl];unfold ky;rw[show(c::d::r).isEmpty=false from rfl,show(c::d::r).headD 0=c from rfl,ry,aW];have b:decide (1<=(c::d::r).length)=true:=aS
  rw[b,aW];cases a:tY (c::d::r)
  ·simp
  ·have e:bU c=true:=by
    unfold tY at a;rw[tF,aM] at a;exact a.1
   rw[e,aW];cases decide ((c::d::r).length<=16)<;>simp
def gq (k:Int)(a v f:List UInt8)(n:Nat):Bool:=
 if k=1 then(v.isEmpty&&(f.isEmpty&&decide (n=0)))&&oG a
 else if k=2 then(v.isEmpty&&(f.isEmpty&&decide (n=0)))&&mY a
 else if k=3 then(v.isEmpty&&(f.isEmpty&&decide (n=0)))&&(oH 32 a&&decide (a.length<=200))
 else if k=4 then(oH 33 f&&decide (f.length<=16))&&(ky a&&v.isEmpty)
 else if k=5 then(oH 33 f&&decide (f.length<=16))&&(ky a&&(mY v&&decide (0<n)))
 else false
mutual
def qj:aC->Bool
 | .mk k a v f ts=>gq k a.data.toList v.data.toList f.data.toList ts.length&&qo ts
def qo:List aC->Bool
 |[]=>true
 |t::ts=>qj t&&qo ts
end
def nV (t:aC):Bool:=qj t&&decide (bg t<=1000)
mutual
def iV:aC->Nat->Bool×Nat
 | .mk k a v f ts,n=>if 1000<n+1\/gq k a.data.toList v.data.toList f.data.toList ts.length=false then(false,n+1) else oK ts (n+1)
def oK:List aC->Nat->Bool×Nat
 |[],n=>(true,n)
 |t::ts,n=>if(iV t n).1 then oK ts (iV t n).2 else(false,(iV t n).2)
end
mutual
def FJ:∀(t:aC) (n:Nat),((iV t n).1=true↔qj t=true/\n+bg t<=1000)/\((iV t n).1=true->(iV t n).2=n+bg t)
 | .mk k a v f ts,n=>by
  unfold iV qj bg
  by_cases h:1000<n+1\/gq k a.data.toList v.data.toList f.data.toList ts.length=false
  ·rw[ak h];refine⟨⟨λe=>by simp at e,λ⟨h1,h2⟩=>?_⟩,λe=>by simp at e⟩;rw[aM] at h1;rcases h with h|h
   ·omega
   ·rw[h] at h1;simp at h1
  ·rw[ai h];simp only[not_or,Bool.not_eq_false] at h;obtain⟨g1,g2⟩:=h;obtain⟨i1,i2⟩:=Mx ts (n+1) aa;rw[g2,aW];refine⟨i1.trans ⟨λ⟨a,b⟩=>⟨a,aa⟩,λ⟨a,b⟩=>⟨a,aa⟩⟩,λe=>?_⟩;rw[i2 e];omega
def Mx:∀(ts:List aC) (n:Nat),n<=1000->((oK ts n).1=true↔qo ts=true/\n+bq ts<=1000)/\((oK ts n).1=true->(oK ts n).2=n+bq ts)
 |[],n,hn=>by
  unfold oK qo bq;simp;omega
 |t::ts,n,hn=>by
  unfold oK qo bq;obtain⟨a1,a2⟩:=FJ t n;cases hc:(iV t n).1
  ·rw[ai aS];rw[hc] at a1;refine⟨⟨λe=>by simp at e,λ⟨h1,h2⟩=>?_⟩,λe=>by simp at e⟩;simp only[aM] at h1;have:=a1.2 ⟨h1.1,aa⟩;cases this
  ·rw[ak rfl];obtain⟨f1,f2⟩:=a1.1 hc;have e2:=a2 hc;rw[e2];obtain⟨b1,b2⟩:=Mx ts (n+bg t) f2;rw[f1,aW];refine⟨b1.trans ⟨λ⟨p,q⟩=>⟨p,aa⟩,λ⟨p,q⟩=>⟨p,aa⟩⟩,λe=>?_⟩;rw[b2 e];omega
end
def MB (t:aC):(iV t 0).1=nV t:=by
 unfold nV;rw[fI,(FJ t 0).1,aM,eF,fe]
def Tq {t:aC}(h:nV t=true):(iV t 0).2=bg t:=by
 rw[(FJ t 0).2 (by rw[MB,h]),fe]
def vW (t:aC):1<=bg t:=by cases t;rw[bg];omega
def Ak:∀{ts:List aC} {i:Nat} {t:aC},ts[i]?=some t->bg t<=bq ts
 |[],i,t,h=>by simp at h
 |x::r,0,t,h=>by simp at h;subst h;rw[bq];omega
 |x::r,i+1,t,h=>by rw[eD] at h;have:=Ak h;rw[bq];omega
def MC {ks:List aC}{k:Nat}{x:aC}(h:ks[k]?=some x):bq (ks.take (k+1))=bq (ks.take k)+bg x:=by
 rw[dA,h,Option.toList];generalize ks.take k=l
 induction l with
 |nil=>simp[bq]
 |cons a r b=>rw[iB,bq,bq,b];omega
def Tt (ks:List aC)(k:Nat):bq (ks.take k)<=bq ks:=by
 induction ks generalizing k with
 |nil=>simp[bq]
 |cons a r b=>
  cases k with
  |zero=>simp[bq]
  |succ k=>rw[fo,bq,bq];have:=b k;omega
def Ee (ks:List aC):ks.length<=bq ks:=by
 induction ks with
 |nil=>simp
 |cons a r b=>rw[aY,bq];have:=vW a;omega
def Tu {ks:List aC}{k:Nat}{x:aC}(h:ks[k]?=some x):qo (ks.take (k+1))=(qo (ks.take k)&&qj x):=by
 rw[dA,h,Option.toList];generalize ks.take k=l
 induction l with
 |nil=>simp[qo]
 |cons a r b=>rw[iB,qo,qo,b];simp[Bool.and_assoc]
def Tv {ks:List aC}{k:Nat}(h:qo (ks.take k)=false):qo ks=false:=by
 induction ks generalizing k with
 |nil=>rw[qX] at h;rw[qo] at h;cases h
 |cons a r b=>
  cases k with
  |zero=>rw[eZ,qo] at h;cases h
  |succ k=>
   rw[fo,qo] at h;rw[qo];cases c:qj a
   ·rfl
   ·rw[c,aW] at h;rw[b h];rfl
def ME:∀{ts:List aC} {i:Nat} {t:aC},qo ts=true->ts[i]?=some t->qj t=true
 |[],i,t,_,h=>by simp at h
 |x::r,0,t,a,h=>by simp at h;subst h;rw[qo,aM] at a;exact a.1
 |x::r,i+1,t,a,h=>by rw[eD] at h;rw[qo,aM] at a;exact ME a.2 h
def nW (t:aC):Int:=if qj t=true/\bg t<=1000 then(bg t:Int) else -1
def Tw (t:aC):decide (0<nW t)=nV t:=by
 unfold nW nV;have:=vW t
 by_cases h:qj t=true/\bg t<=1000
 ·rw[ak h,h.1,aJ h.2];simp;omega
 ·rw[ai h];cases a:qj t
  ·rfl
  ·rw[aW,aK (λb=>h ⟨a,b⟩)];rfl
end Sp
namespace El
open At Ch Sp
inductive bO (α:Type) where
 |ok (a:α)
 |bad (e:Int) (pos:List Int)
def bO.then_ {α β:Type}(m:bO α)(f:α->bO β):bO β:=match m with
 | .ok a=>f a
 | .bad e p=>.bad e p
def mD (rs:List aD)(s:List UInt8):Bool:= !s.isEmpty&&rs.any λr=>decide (r.sym.data.toList=s)
def eH (n:aG):aG:=if n.kind=7\/n.kind=8\/n.kind=9 then(match n.kids with
 |b::_=>match b.kids with
  |[x]=>x
  |_=>n
 |[]=>n) else n
def oh (rs:List aD)(n:aG):Bool:=decide ((eH n).kind=2)&&mD rs (eH n).text.data.toList
def xK:ByteArray:=⟨#[35]⟩
def xZ (rs:List aD)(n:aG):Option ByteArray:=
 if oh rs n=true then some (eH n).text else if n.kind=2/\mY n.text.data.toList=false then none else some xK
def jP (rs:List aD):List aG->Sum (List ByteArray) Nat
 |[]=>.inl []
 |n::ns=>match xZ rs n with
  |none=>.inr 0
  |some t=>match jP rs ns with
   | .inl ts=>.inl (t::ts)
   | .inr i=>.inr (i+1)
def dF (rs:List aD)(r:Int):Int:=match rs[r.toNat]? with
 |some x=>x.kind
 |none=>0
def xL (ks:List Rd):Int:=match ks with
 |_::k::_=>k.at_
 |_=>0
def eY (rs:List aD)(x:Rd)(fin:Int):Int:=
 if dF rs x.rule=1 then xL x.kids -1 else if dF rs x.rule=2 then x.at_ else if dF rs x.rule=3 then fin -1 else -1
def iI (rs:List aD)(x:Rd)(fin:Int):List Int:=
 if dF rs x.rule=1 then[xL x.kids -1,fin] else if dF rs x.rule=2 then[fin] else if dF rs x.rule=3 then[fin -1] else[xL x.kids,fin]
mutual
def eQ (rs:List aD):Rd->Int->List (Int×Int)
 | .mk r a ks,fin=>if r<0 then[] else(if 0<=eY rs (.mk r a ks) fin then[(eY rs (.mk r a ks) fin,r)] else[])++nC rs ks (iI rs (.mk r a ks) fin)
def nC (rs:List aD):List Rd->List Int->List (Int×Int)
 |k::ks,e::es=>eQ rs k e++nC rs ks es
 |_,_=>[]
end
def wT (ws:List (Int×Int))(n:Nat):List Int:=ws.foldl (λl p=>l.set p.1.toNat p.2) (List.replicate n 0)
structure gP where
 opnd:aC
 scr:List aC
 fin:ByteArray
 vr:ByteArray
def pO:aC:=.mk 0 ⟨#[]⟩ ⟨#[]⟩ ⟨#[]⟩ []
def lZ:gP:=⟨pO,[],⟨#[]⟩,⟨#[]⟩⟩
def gG:ByteArray:=⟨#[105,110,102,105,120]⟩
def ic:ByteArray:=⟨#[112,114,101,102,105,120]⟩
def iL:ByteArray:=⟨#[112,111,115,116,102,105,120]⟩
def kE:ByteArray:=⟨#[106,117,120,116,97,112,111,115,101]⟩
def mh:ByteArray:=⟨#[98,105,110,100]⟩
def iW (k:Int):ByteArray:=if k=1 then gG else if k=2 then ic else if k=3 then iL else kE
def pQ (nam:ByteArray)(k:Int)(p:Option gP)(args:List aC):aC:=match p with
 |none=>.mk 4 nam ⟨#[]⟩ (iW k) args
 |some p=>if p.vr.data.toList=[] then .mk 4 nam ⟨#[]⟩ (iW k++p.fin) (p.scr++args) else .mk 5 nam p.vr (mh++p.fin) (p.scr++args)
def vX (rs:List aD)(r:Int):ByteArray:=match rs[r.toNat]? with
 |some x=>x.nam
 |none=>⟨#[]⟩
mutual
def mi (rs:List aD)(ps:List gP):Rd->Int->aC
 | .mk r a ks,fin=>if r<0 then(match ps[a.toNat]? with
   |some p=>p.opnd
   |none=>pO) else pQ (vX rs r) (dF rs r) (if 0<=eY rs (.mk r a ks) fin then ps[(eY rs (.mk r a ks) fin).toNat]? else none) (iF rs ps ks (iI rs (.mk r a ks) fin))
def iF (rs:List aD)(ps:List gP):List Rd->List Int->List aC
 |k::ks,e::es=>mi rs ps k e::iF rs ps ks es
 |_,_=>[]
end
def vY (rs:List aD)(sub:aG):Option ByteArray:=match sub.kids with
 |a::b::_::_=>if(a.kind=2/\mY a.text.data.toList=true/\mD rs a.text.data.toList=false)/\b.kind=2/\b.text.data.toList=[61] then some a.text else none
 |_=>none
def dM:ByteArray:=⟨#[115,117,98]⟩
def dV:ByteArray:=⟨#[115,117,112]⟩
def jU:ByteArray:=⟨#[98,111,116,104]⟩
def wU:ByteArray:=⟨#[100,105,118,105,100,101]⟩
def mM:ByteArray:=⟨#[102,114,97,99]⟩
def vG:ByteArray:=⟨#[115,113,114,116]⟩
def jW:ByteArray:=⟨#[114,111,111,116]⟩
def wV:ByteArray:=⟨#[105,110,100,101,120]⟩
def wW:ByteArray:=⟨#[112,111,119,101,114]⟩
def BL:ByteArray:=⟨#[105,110,100,101,120,112,111,119,101,114]⟩
def jb:ByteArray:=⟨#[97,99,99,101,110,116]⟩
def eX:ByteArray:=⟨#[109,97,116,114,105,120]⟩
def ik:ByteArray:=⟨#[102,101,110,99,101]⟩
def vH:ByteArray:=⟨#[97,98,115]⟩
def uH:ByteArray:=⟨#[103,114,111,117,112]⟩
def nD (k:Int):ByteArray:=if k=7 then dM else if k=8 then dV else jU
def mo (n:aG):ByteArray×ByteArray:=
 if n.kind=5 then(wU,mM)
 else if n.kind=6 then((match n.kids with
  |d::_=>if d.kids.isEmpty then vG else jW
  |[]=>jW),jW)
 else if n.kind=7 then(wV,dM) else if n.kind=8 then(wW,dV) else if n.kind=9 then(BL,jU)
 else if n.kind=10 then(n.text,jb)
 else if n.kind=12 then(eX,eX++jy (Lib.decDigits n.cols.toNat))
 else((if n.text.data.toList=[124,124] then vH else uH),ik++n.text)
def kF (M:List aG->List Int->Nat->bO aC)(path:List Int):List aG->Nat->Nat->bO (List aC)
 |[],_,_=>.ok []
 |n::ns,s,b=>(M n.kids (path++[(s:Int)]) b).then_ λt=>(kF M path ns (s+1) 0).then_ λts=>.ok (t::ts)
def qH (M:List aG->List Int->Nat->bO aC)(n:aG)(path:List Int):bO gP:=
 if n.kind=2 then .ok ⟨.mk 2 n.text ⟨#[]⟩ ⟨#[]⟩ [],[],⟨#[]⟩,⟨#[]⟩⟩
 else if n.kind=3 then .ok ⟨.mk 1 n.text ⟨#[]⟩ ⟨#[]⟩ [],[],⟨#[]⟩,⟨#[]⟩⟩
 else if n.kind=4 then .ok ⟨.mk 3 n.text ⟨#[]⟩ ⟨#[]⟩ [],[],⟨#[]⟩,⟨#[]⟩⟩
 else((match n.kids with
  |d::ks=>if n.kind=6/\d.kids.isEmpty=true then kF M path ks 1 0 else kF M path (d::ks) 0 0
  |[]=>.ok []):bO (List aC)).then_ λts=>.ok ⟨.mk 4 (mo n).1 ⟨#[]⟩ (mo n).2 ts,[],⟨#[]⟩,⟨#[]⟩⟩
def dN (rs:List aD)(n:aG)(p:Bool):Option ByteArray:=if p=true/\(n.kind=7\/n.kind=9) then(match n.kids with
 |_::sub::_=>vY rs sub
 |_=>none) else none
def lL (rs:List aD)(M:List aG->List Int->Nat->bO aC)(n:aG)(path:List Int)(p:Bool):bO gP:=
 if n.kind=2 then .ok lZ
 else(kF M path n.kids.tail 1 (if(dN rs n p).isSome then 2 else 0)).then_ λts=>.ok ⟨pO,ts,nD n.kind,(dN rs n p).getD ⟨#[]⟩⟩
def pR (rs:List aD)(M:List aG->List Int->Nat->bO aC)(path:List Int)(kd:Nat->Int)(k:Nat):List aG->List ByteArray->Nat->bO (List gP)
 |n::ns,t::ts,i=>(if t.data.toList=[35] then qH M n (path++[((k+i:Nat):Int)]) else lL rs M n (path++[((k+i:Nat):Int)]) (decide (kd i=2))).then_ λp=>(pR rs M path kd k ns ts (i+1)).then_ λps=>.ok (p::ps)
 |_,_,_=>.ok []
def xM (rs:List aD)(ts:List ByteArray):List Rd:=if(fZ rs&&qQ ts)=true then aX rs ts 0 ts.length else[]
def xN (rs:List aD)(M:List aG->List Int->Nat->bO aC)(items:List aG)(path:List Int)(k:Nat):bO aC:=
 if items.length<=k then .bad 15 (path++[(k:Int)])
 else match jP rs (items.drop k) with
  | .inr i=>.bad 15 (path++[((k+i:Nat):Int)])
  | .inl ts=>match xM rs ts with
   |[]=>.bad 15 (path++[(k:Int)])
   |[x]=>(pR rs M path (λi=>dF rs ((wT (eQ rs x ts.length) ts.length).getD i 0)) k (items.drop k) ts 0).then_ λps=>.ok (mi rs ps x ts.length)
   |_::_::_=>.bad 14 (path++[(k:Int)])
def dE (rs:List aD):Nat->List aG->List Int->Nat->bO aC
 |0,_,path,_=>.bad 0 path
 |f+1,items,path,k=>xN rs (dE rs f) items path k
end El
section
open Go.Maps (Keyed)
variable{P:Program}{e:TypeId}{ops:Array Oper}{rest:List Oper}{o:Oper}{a:Act}{Q:Exit->Act->World->Prop}
def Tx {H:Type}(b:P.underlying e=some .bool){v:Value}{z:DataW H×List MemPlace}(h:plainElem P e v=some z):∃a,v= .bool a/\z=(.lit (.bool a),[]):=by
 unfold plainElem at h;rw[b] at h;cases v<;>simp at h
 exact⟨_,rfl,h.symm⟩
def MF {H:Type}{w:World}{k b n:Nat}{D:DataW H}{t:TypeId}(h:w.ownsMap P k (plainElem P e) b n D)(K:Keyed P k)(i:P.underlying t=some (.map k e))(a:P.underlying e=some .bool)(j:(zeroValue e).run P w= .ok (.bool false) w)
  {d:Value} {f:Lit} (l:keyOf P k d=some f):∃c,(Instr.lookup t (.map (some b)) d false).run P w= .ok (.bool c) w/\D.atKey f (.lit (.bool false))= .lit (.bool c):=by
 obtain⟨v,p,m,o⟩:=h.lookup K i j (plainElem_bool a false) l;obtain⟨c,rfl,g⟩:=Tx a o;simp only[nP] at g;exact⟨c,m,g.1⟩
def MG {H:Type}(w:World)
  (h:o.guard=none) (m x:Operand) (t:TypeId) (i:o.op=Op.lookup t m x false)
  (k e:TypeId) (K:Keyed P k) (j:P.underlying t=some (.map k e)) (l:P.underlying e=some .bool) (p:(zeroValue e).run P w= .ok (.bool false) w) (b n:Nat) (D:DataW H)
  (q:a.eval m= .map (some b)) (r:w.ownsMap P k (plainElem P e) b n D) (d:Value) (f:Lit) (s:a.eval x=d) (u:keyOf P k d=some f)
  (c:Bool) (v:D.atKey f (.lit (.bool false))= .lit (.bool c)) (y:wpList P ops Q rest (a.put o.dst (.bool c)) w):
  wpList P ops Q (o::rest) a w:=by
 refine wpList_plain h λC z=>?_
 obtain⟨A,B,g⟩:=MF r K j l p u;obtain rfl:c=A:=by
  rw[v] at g
  simpa using g
 unfold Oper.wp;simp[execOp,i,q,s,B,Result.andThen];exact z _ _ y
def MH {H:Type}(w:World)
  (h:o.guard=none) (m x v:Operand) (t:TypeId) (i:o.op=Op.insert t m x v)
  (k e:TypeId) (K:Keyed P k) (j:P.underlying t=some (.map k e)) (R:Value->Option (DataW H×List MemPlace)) (b n:Nat) (D:DataW H)
  (l:a.eval m= .map (some b)) (p:w.ownsMap P k R b n D) (q:n<maxLen) (c f:Value) (g:Lit) (r:a.eval x=c) (s:a.eval v=f) (u:keyOf P k c=some g)
  (d:DataW H) (ps:List MemPlace) (y:R f=some (d,ps))
  (z:∀w',w'.ownsMap P k R b (n+1) (D.put g d)->w.grownBy w' (some b)->wpList P ops Q rest (a.put o.dst undef) w'):
  wpList P ops Q (o::rest) a w:=by
 refine wpList_plain h λF A=>?_
 obtain⟨w',B,C,E⟩:=p.update K j q u y;unfold Oper.wp;simp[execOp,i,l,r,s,B,Result.andThen];exact A _ _ (z w' C E)
def zL (D:DataW Unit)(ss:List (List UInt8)):Prop:=∀x:List UInt8,D.atKey (.string x) (.lit (.bool false))= .lit (.bool (ss.contains x))
def MI:zL (.map []) []:=λx=>by simp[DataW.atKey]
def IL {D:DataW Unit}{ss:List (List UInt8)}(h:zL D ss)(a:Maps.IsMap D)(s:List UInt8):zL (D.put (.string s) (.lit (.bool true))) (ss++[s]):=λx=>by
 by_cases e:x=s
 ·subst e;rw[Maps.atKey_put_same a (by trivial)];simp
 ·rw[um (by simpa using e),h x]
  congr 2
  simp[e]
end
section
open Go.RowKit
def FL:(prog.info? 9).map (λi=>(i.zero,i.size,i.bytes))=some (some qE,1,16):=aj
end
namespace Sy
open Go.RowKit
variable{w w':World}{n b B:Nat}{r:aD}
def own_below {base:Nat}{e:TypeId}{size:Nat}{v:Value}{xs:List Value}(h:w.ownsRow base e size v n xs)(a:Below w.heap.size w w'):w'.ownsRow base e size v n xs:=
 h.kept (row:=none) ⟨a.os,a.tape,a.output,a.size,λi b _=>a.block i b⟩ (by cases v.ownBlock<;>simp)
def info_parts {P:Program}{t:TypeId}{z:Value}{a:Nat}(h:(P.info? t).map (λi=>(i.zero,i.size,i.bytes))=some (some z,a,b)):∃i,P.info? t=some i/\i.zero=some z/\i.size=a/\i.bytes=b:=by
 cases c:P.info? t with
 |none=>rw[c] at h;cases h
 |some i=>
  rw[c] at h;simp only[je,gV,nP] at h;exact⟨i,rfl,h.1,h.2.1,h.2.2⟩
def MJ (w:World)(a:List Value)(t:TypeId):∀j u,a[j]?=some u->(w.alloc (.cells a.toArray t)).cell? ((⟨w.heap.size,0,none⟩:Addr).add j)=some u:=by
 intro j u b;rw[show(⟨w.heap.size,0,none⟩:Addr).add j=(ag w.heap.size j) by unfold Addr.add;simp;omega,au.cell (au.new w t _)]
 simpa using b
def rX (ps:List (List UInt8))(x:List UInt8):Bool:=ps.contains x
def Bd (acc:List (List UInt8))(r:aD):List (List UInt8):=if r.sym.data.toList=[]\/acc.contains r.sym.data.toList=true then acc else acc++[r.sym.data.toList]
def qp (rs:List aD):List (List UInt8):=rs.foldl Bd []
def IM {rs:List aD}{k:Nat}(h:rs[k]?=some r):qp (rs.take (k+1))=Bd (qp (rs.take k)) r:=by
 unfold qp;rw[dA,h];simp
def Ef:∀(rs:List aD) (k:Nat),(qp (rs.take k)).length<=k
 |rs,0=>by simp[qp]
 |rs,k+1=>by
  have a:=Ef rs k;cases h:rs[k]? with
  |none=>rw[dA,h];simp;omega
  |some r=>
   rw[IM h];unfold Bd
   split<;>simp<;>omega
def xO (w:World)(B:Nat)(v:Value)(ps:List (List UInt8)):Prop:=w.ownsRow B 9 1 v ps.length (ps.map λp=>Value.string (jy p))
def xO.keep {v:Value}{ps:List (List UInt8)}(h:xO w B v ps)(a:Below w.heap.size w w'):xO w' B v ps:=own_below h a
def BM (w:World)(A:Option Addr)(ps:List (List UInt8)):Prop:=∀(j:Nat) (p:List UInt8),ps[j]?=some p->∃g:Nat,A=some (ag g (0))/\g<w.heap.size/\w.cell? (ag g j)=some (.string (jy p))
def xO.form {v:Value}{ps:List (List UInt8)}(h:xO w B v ps):∃A cap,v= .slice A ps.length cap/\ps.length<=cap/\cap<=9223372036854775807/\BM w A ps:=by
 obtain⟨n,d⟩:=h;rcases d with⟨rfl,e⟩|⟨g,cap,f,rfl,o,i,k,l,q,m⟩
 ·obtain rfl:ps=[]:=eP.1 e;exact⟨none,0,rfl,aS,aa,λj p b=>by simp at b⟩
 ·have c:au w g 9 f:=i;refine⟨_,cap,rfl,k,by unfold maxLen at l;omega,λj p b=>⟨g,rfl,c.lt,?_⟩⟩;rw[c.cell];have a:(ps.map λp=>Value.string (jy p))[j]?=some (.string (jy p)):=by simp[b]
  rw[<-m,gU] at a
  split at a
  ·simpa using a
  ·cases a
def BM.keep {A:Option Addr}{ps:List (List UInt8)}(h:BM w A ps)(a:Below w.heap.size w w'):BM w' A ps:=λj c d=>by
 obtain⟨g,e,b,f⟩:=h j c d;exact⟨g,e,ll b a.size,(a.cell (p:=ag g j) b).trans f⟩
def MK (p:List UInt8)(s:ByteArray):((jy p).toList==s.toList)=(p==s.data.toList):=by rw[bz,bz,Lr]
def IP (A:Option Addr)(cap:Nat)(ps:List (List UInt8))(s:ByteArray)(w:World)(l:BM w A ps)(u:ps.length<=1000000):Calls prog 185 #[.slice A ps.length cap,.string s] w λe w'=>e= .returned (.bool (rX ps s.data.toList))/\w=w':=by
 have o:=zh l;clear l;go_enter func185,ntmps185;go_wp2_with fail
 go_loop [5] (λi=>∃k:Nat,k<=ps.length/\i= .int .i64 k/\Hy (∀(j:Nat) p,ps[j]?=some p->j<k->(p==s.data.toList)=false)) (λi=>ps.length -(intOf i).toNat)
 case atStart=>exact⟨0,aa,rfl,λj _ _ h=>aa⟩
 case round=>
  obtain⟨k,v,rfl,m⟩:=hrel
  by_cases q:k<ps.length
  ·obtain⟨p,b⟩:∃p,ps[k]?=some p:=⟨_,gE q⟩
   obtain⟨g,rfl,x,c⟩:=o.o k p b;have r:=zh b;cases d:((jy p).toList==s.toList)
   ·have t:=zh d;clear b;go_wp2;go_round
    case rel=>exact⟨k+1,aa,bi,λj y a h=>by
     rcases bu j k with n|n
     ·exact m.o j y a n
     ·obtain rfl:j=k:=by omega
      rw[r.o] at a;obtain rfl:=sj a;rw[<-MK];exact t.o⟩
    case measure=>simp[intOf];omega
   ·have f:=zh (show rX ps s.data.toList=true by
     unfold rX;rw[MK,aT] at d;rw[rz,<-d];exact dQ b)
    clear b;go_wp2;go_ret;exact⟨aU f.o.symm,rfl⟩
  ·have f:=zh (show rX ps s.data.toList=false by
    unfold rX;rw[tH];intro c;rw[rz] at c;obtain⟨j,a⟩:=gz.1 c;have:=m.o j _ a (av ((bP.1 a).1));simp at this)
   go_wp2;go_ret;exact⟨aU f.o.symm,rfl⟩
def IQ {acc:List (List UInt8)}(h:r.sym.data.toList=[]\/acc.contains r.sym.data.toList=true):Bd acc r=acc:=ak h
def ML {acc:List (List UInt8)}(a:r.sym.data.toList≠[])(b:acc.contains r.sym.data.toList=false):Bd acc r=acc++[r.sym.data.toList]:=ai (λh=>by
 rcases h with h|h
 ·exact a h
 ·rw[b] at h;cases h)
def MM {v:Value}{ps:List (List UInt8)}{s:ByteArray}(a:ps.length=n)(h:w.ownsRow B 9 1 v (n+1) ((ps.map λp=>Value.string (jy p))++[.string s])):xO w B v (ps++[s.data.toList]):=by
 unfold xO;rw[aO,a,dX,di,jl,Rm];exact h
def Eg (rs:List aD)(w:World)(e:Ending)(w':World):Prop:=∃v,e= .returned v/\xO w' w.heap.size v (qp rs)/\Below w.heap.size w w'
def MN (A:Option Addr)(cap:Nat)(rs:List aD)(w:World)(n:fG w A rs)(W:rs.length<=1000000):Calls prog 186 #[.slice A rs.length cap] w (Eg rs w):=by
 obtain⟨D,E,F,G,H⟩:=info_parts FL;have I:=zh n;clear n;go_enter func186,ntmps186;go_wp2_with fail
 go_loopw [3,4] (λv i wr=>∃k:Nat,k<=rs.length/\i= .int .i64 k/\Hy (xO wr w.heap.size v (qp (rs.take k)))/\Hy (Below w.heap.size w wr)) (λ_ i _=>rs.length -(intOf i).toNat)
 case atStart=>exact⟨0,aa,rfl,iR _ _ _ _,aL _ _⟩
 case round=>
  obtain⟨k,o,rfl,c,b⟩:=hrel
  by_cases J:k<rs.length
  ·obtain⟨x,g⟩:∃x,rs[k]?=some x:=⟨_,gE J⟩
   obtain⟨q,X,rfl,Y,K,Z,L,M,N,O⟩:=(I.o.keep b.o).at_ g;have h:=zh (IM g);have a0:x.sym.size<=9223372036854775807:=q.1;have a1:=Ef rs k;clear g q K L M N O;obtain⟨j,l,rfl,a2,a3,s⟩:=c.o.form;have P:=zh s;clear s;generalize qp (rs.take k)=a at*
   by_cases d:x.sym.data.toList=[]
   ·have t:x.sym.toList.isEmpty=true:=by rw[lG,bz];exact d
    have m:=zh (IQ (acc:=a) (.inl d));clear d;go_wp2;go_roundw
    case rel=>exact⟨k+1,aa,bi,by rw[h.o,m.o];exact c,b⟩
    case measure=>simp[intOf];omega
   ·have t:x.sym.toList.isEmpty=false:=by rw[tH,ne_eq,lG,bz];exact d
    have a4:(!x.sym.toList.isEmpty)=true:=by rw[t];rfl
    have Q:=zh d;clear d;go_wp2_with fail;refine(IP j l a x.sym wr P.o aa).mono ?_;rintro e a5 ⟨rfl,rfl⟩;cases f:rX a x.sym.data.toList
    ·have R:=zh (ML Q.o f);clear f;have u:=(show wr.ownsRow w.heap.size 9 1 (.slice j a.length l) a.length (a.map λp=>Value.string (jy p)) from c.o).alloc (.cells #[.string x.sym] 9);have S:=zh (bA (show wr.ownsRow w.heap.size 9 1 (.slice j a.length l) a.length (a.map λp=>Value.string (jy p)) from c.o));have y:=zh b.o.size;go_wp2_with (at_builtin;refine oV _ rfl (.tmp 27) (.tmp 33) 62 rfl w.heap.size 9 D qE 1 16 underlying62 E F G H rfl aI _ _ _ rfl u (ag wr.heap.size (0)) 1 1 [.string x.sym] rfl rfl (MJ _ _ _) ?c2a ?c3a ?c4a ?c5a ?_)
     case c2a=>intro a6 z;simp at z;subst z;rfl
     case c3a=>unfold maxLen;omega
     case c4a=>omega
     case c5a=>have:=y.o;simp;omega
     intro a7 a8 B C _;have T:=zh ((b.o.alloc b.o.size (.cells #[.string x.sym] 9)).grown C (by have:=y.o;simp;omega) (λk o=>(S.o k o).1));have U:=zh (MM rfl B);clear u B C c b;go_wp2;go_roundw
     case rel=>exact⟨k+1,aa,bi,by rw[h.o,R.o];exact U,T⟩
     case measure=>simp[intOf];omega
    ·have m:=zh (IQ (acc:=a) (r:=x) (.inr f));clear f;go_wp2;go_roundw
     case rel=>exact⟨k+1,aa,bi,by rw[h.o,m.o];exact c,b⟩
     case measure=>simp[intOf];omega
  ·obtain rfl:k=rs.length:=by omega
   have V:=ah (rs.take rs.length=rs) bW;go_wp2;go_ret;exact⟨_,rfl,by have:=c.o;rwa [V.o] at this,b.o⟩
def uI:Maps.Keyed prog 9:=Maps.string_keyed underlying9
def IR (w:World):(zeroValue 4).run prog w= .ok (.bool false) w:=by simp[tT]
abbrev sG (w:World)(b n:Nat)(D:DataW Unit):Prop:=w.ownsMap prog 9 (plainElem prog 4) b n D
def IU {m:Nat}{D:DataW Unit}{v:Value}{ps:List (List UInt8)}(h:sG w b n D)(c:w.ownsRow B 9 1 v m (ps.map λp=>Value.string (jy p))):v.ownBlock≠some b:=by
 intro e;obtain⟨f,i,a,_⟩:=h;rcases c.2 with⟨rfl,_⟩|⟨g,j,k,rfl,_,d,_⟩
 ·cases e
 ·obtain rfl:g=b:=by simpa [Value.ownBlock] using e
  rw[d] at a;cases a
def Ty (A:Option Addr)(cap:Nat)(rs:List aD)(w:World)(z:fG w A rs)(c5:rs.length<=1000000):Calls prog 94 #[.slice A rs.length cap] w (Eg rs w):=by
 obtain⟨X,Y,Z,a0,a1⟩:=info_parts FL;have a2:=zh z;clear z;have B:=uo (H:=Unit) w prog 9 (plainElem prog 4);have a3:= @run_makeMap prog;go_enter func94,ntmps94;go_wp2_with (refine MH (H:=Unit) _ rfl _ _ _ 128 rfl 9 4 uI underlying128 _ w.heap.size 0 (.map []) rfl B gy _ _ (.string []) rfl rfl (rH underlying9 (by unfold maxLen;decide)) (.lit (.bool true)) [] (plainElem_bool underlying4 true) ?_)
 intro a4 C E;have F:=zh ((aN w (.map #[] 0)).grown E aS (λk f=>by cases f;exact aH _));have G:=ah (sG a4 w.heap.size 1 (DataW.put (.map []) (.string []) (.lit (.bool true)))) C;have I:Hy (zL (DataW.put (.map []) (.string []) (.lit (.bool true))) ([]::[])):=IL MI ⟨_,rfl⟩ [];clear C E B a3;generalize DataW.put (.map []) (.string []) (.lit (.bool true))=a5 at*;go_wp2_with fail
 go_loopw [3,11] (λv i wr=>∃(k:Nat) (D:DataW Unit),k<=rs.length/\i= .int .i64 k/\Hy (sG wr w.heap.size (k+1) D)/\Hy (zL D ([]::qp (rs.take k)))/\Hy (xO wr w.heap.size v (qp (rs.take k)))/\Hy (Below w.heap.size w wr)) (λ_ i _=>rs.length -(intOf i).toNat)
 case atStart=>exact⟨0,a5,aa,rfl,G,I,iR _ _ _ _,F⟩
 case round=>
  clear G I F;obtain⟨k,D,f,rfl,h,p,j,b⟩:=hrel
  by_cases a6:k<rs.length
  ·obtain⟨x,q⟩:∃x,rs[k]?=some x:=⟨_,gE a6⟩
   obtain⟨J,c6,rfl,c7,a7,a8,a9,b0,b1,b2⟩:=(a2.o.keep b.o).at_ q;have l:=zh (IM q);have c8:x.sym.size<=9223372036854775807:=J.1;have c9:=Ef rs k;clear q J;generalize qp (rs.take k)=c at*;have d:=(show sG wr w.heap.size (k+1) D from h.o).alloc (.cells x.c 41);have r:=zh (rH (P:=prog) (k:=9) underlying9 (s:=x.sym) gy);have K:D.atKey (.string x.sym.data.toList) (.lit (.bool false))= .lit (.bool (rX ([]::c) x.sym.data.toList)):=p.o x.sym.data.toList;have m:=zh K;clear K;cases a:rX ([]::c) x.sym.data.toList
   ·rw[a] at m;have g:x.sym.data.toList≠[]/\c.contains x.sym.data.toList=false:=by
     unfold rX at a;rw[kg,Bool.or_eq_false_iff,aZ] at a;exact a
    have L:=zh (ML g.1 g.2);have b3:=ah (zL (D.put (.string x.sym.data.toList) (.lit (.bool true))) ([]::Bd c x)) (by rw[L.o];exact IL p.o (World.ownsMap.isMap h.o) _);clear a g;go_wp2_with (first|(at_lookup;refine MG (H:=Unit) _ rfl _ _ 128 rfl 9 4 uI underlying128 underlying4 (IR _) w.heap.size (k+1) D rfl d _ _ rfl r.o false m.o ?_)|(at_mapUpdate;refine wpList_mapUpdate_own _ rfl _ _ _ 128 rfl 9 4 uI underlying128 _ w.heap.size (k+1) D rfl d gy _ _ _ rfl rfl r.o (.lit (.bool true)) [] (plainElem_bool underlying4 true) ?_))
    intro M N n;have t:=(show wr.ownsRow w.heap.size 9 1 u3 c.length (c.map λb4=>Value.string (jy b4)) from j.o).alloc (.cells x.c 41);have O:=IU d t;have o:=t.kept n (.inr O);have Q:=zh ((au.new wr 41 x.c).grown n (λe=>by
     have d0:=d.lt;have b5:sG wr w.heap.size (k+1) D:=h.o;have d1:=b5.lt;have:wr.heap.size=w.heap.size:=by simpa using e
     omega))
    have u:=zh ((b.o.alloc b.o.size (.cells x.c 41)).grown n (by have:=b.o.size;simp;omega) (λk f=>by cases f;exact aH _));have R:=ah (sG M w.heap.size (k+1+1) (D.put (.string x.sym.data.toList) (.lit (.bool true)))) N;clear d t O n N h j b a7 a8 a9 b0 b1 b2;have S:=o.alloc (.cells #[.string x.sym] 9);have b6:=zh o.lt;have b7:=zh (IU R.o o);have T:=zh u.o.size;have b8:=Q.o.cell;have b9:=Q.o.lt;go_wp2_with (at_builtin;refine oV _ rfl (.tmp 23) (.tmp 26) 62 rfl w.heap.size 9 X qE 1 16 underlying62 Y Z a0 a1 rfl aI _ _ _ rfl S (ag M.heap.size (0)) 1 1 [.string x.sym] rfl rfl (MJ _ _ _) ?c2a ?c3a ?c4a ?c5a ?_)
    case c2a=>intro d2 U;simp at U;subst U;rfl
    case c3a=>unfold maxLen;omega
    case c4a=>omega
    case c5a=>have:=T.o;simp;omega
    intro d3 c0 V y _;have c1:=zh ((u.o.alloc u.o.size (.cells #[.string x.sym] 9)).grown y (by have:=T.o;simp;omega) (λk f=>(b6.o k f).1));have c2:=ah (sG c0 w.heap.size (k+1+1) (D.put (.string x.sym.data.toList) (.lit (.bool true)))) ((R.o.alloc _).kept y (λe=>b7.o e.symm));have c3:=zh (MM rfl V);clear S V y o b8 b9;go_wp2;go_roundw
    case rel=>exact⟨k+1,_,aa,bi,c2,zh (by rw[l.o];exact b3.o),zh (by rw[l.o,L.o];exact c3.o),c1⟩
    case measure=>simp[intOf];omega
   ·rw[a] at m;have g:x.sym.data.toList=[]\/c.contains x.sym.data.toList=true:=by
     unfold rX at a;rw[kg,kT,aT] at a;exact a
    have W:=zh (IQ (acc:=c) g);clear a g;go_wp2_with (at_lookup;refine MG (H:=Unit) _ rfl _ _ 128 rfl 9 4 uI underlying128 underlying4 (IR _) w.heap.size (k+1) D rfl d _ _ rfl r.o true m.o ?_)
    go_roundw
    case rel=>exact⟨k+1,D,aa,bi,zh (World.ownsMap.mono d aa),by rw[l.o,W.o];exact p,zh (by rw[l.o,W.o];exact j.o.keep (aN _ _)),zh (b.o.alloc b.o.size _)⟩
    case measure=>simp[intOf];omega
  ·obtain rfl:k=rs.length:=by omega
   have c4:=ah (rs.take rs.length=rs) bW;go_wp2;go_ret;exact⟨_,rfl,by have:=j.o;rwa [c4.o] at this,b.o⟩
end Sy
namespace At
open Go.RowKit
def vZ (c:UInt8):Bool:=decide (32<=c.toNat)&&decide (c.toNat<=126)
def MO (s:ByteArray)(w:World)(l:s.size<=9223372036854775807):Calls prog 140 #[.string s] w λe w'=>e= .returned (.bool (yB s.toList))/\w=w':=by
 go_enter func140,ntmps140;go_wp2_with fail
 go_loop [3] (λi=>∃k:Nat,k<=s.size/\i=qI k/\Hy (∀(j:Nat) (b:j<s.size),j<k->qi s[j]=true)) (λi=>s.size -(intOf i).toNat)
 case atStart=>exact⟨0,aa,rfl,λj _ h=>aa⟩
 case round=>
  obtain⟨k,m,rfl,c⟩:=hrel
  by_cases d:k<s.size
  ·by_cases n:(s[k].toNat:Int)<48
   ·have a:=zh (vV (p:=qi) d (by unfold qi;rw[aK aa];rfl));go_wp2;go_ret;exact⟨aU (by unfold yB;rw[a.o];rfl),rfl⟩
   ·by_cases o:57<(s[k].toNat:Int)
    ·have a:=zh (vV (p:=qi) d (by unfold qi;rw[aK (p:=s[k].toNat<=57) aa,bF]));go_wp2;go_ret;exact⟨aU (by unfold yB;rw[a.o];rfl),rfl⟩
    ·have g:=ah (qi s[k]=true) (by unfold qi;rw[aJ aa,aJ aa];rfl);go_wp2;go_round
     case rel=>exact⟨k+1,aa,bi,λj b h=>by
      rcases bu j k with f|f
      ·exact c.o j b f
      ·obtain rfl:j=k:=by omega
       exact g.o⟩
     case measure=>simp[intOf];omega
  ·have a:=zh (yY (s:=s) (p:=qi) λj b=>c.o j b aa);go_wp2;go_ret;exact⟨aU (by unfold yB;rw[a.o];rfl),rfl⟩
def Tz (s:ByteArray)(w:World)(l:s.size<=9223372036854775807):Calls prog 104 #[.string s] w λe w'=>e= .returned (.bool (decide (s.size<=200)&&zG s.toList))/\w=w':=by
 go_enter func104,ntmps104;go_wp2_with fail
 go_loop [3] (λi=>∃k:Nat,k<=s.size/\i=qI k/\Hy (∀(j:Nat) (b:j<s.size),j<k->vZ s[j]=true)) (λi=>s.size -(intOf i).toNat)
 case atStart=>exact⟨0,aa,rfl,λj _ h=>aa⟩
 case round=>
  obtain⟨k,m,rfl,c⟩:=hrel
  by_cases d:k<s.size
  ·by_cases n:(s[k].toNat:Int)<32
   ·have a:=zh (vV (p:=vZ) d (by unfold vZ;rw[aK aa];rfl));go_wp2;go_ret;exact⟨aU (by rw[show zG s.toList=false from a.o,bF]),rfl⟩
   ·by_cases o:126<(s[k].toNat:Int)
    ·have a:=zh (vV (p:=vZ) d (by unfold vZ;rw[aK (p:=s[k].toNat<=126) aa,bF]));go_wp2;go_ret;exact⟨aU (by rw[show zG s.toList=false from a.o,bF]),rfl⟩
    ·have g:=ah (vZ s[k]=true) (by unfold vZ;rw[aJ aa,aJ aa];rfl);go_wp2;go_round
     case rel=>exact⟨k+1,aa,bi,λj b h=>by
      rcases bu j k with f|f
      ·exact c.o j b f
      ·obtain rfl:j=k:=by omega
       exact g.o⟩
     case measure=>simp[intOf];omega
  ·have a:=zh (yY (s:=s) (p:=vZ) λj b=>c.o j b aa);go_wp2;go_ret;exact⟨aU (by rw[show zG s.toList=true from a.o,Bool.and_true];simp;omega),rfl⟩
def TA (s:ByteArray)(w:World)(l:s.size<=9223372036854775807):Calls prog 184 #[.string s] w λe w'=>e= .returned (.bool (zG s.toList))/\w=w':=by
 go_enter func184,ntmps184;go_wp2_with fail
 go_loop [3] (λi=>∃k:Nat,k<=s.size/\i=qI k/\Hy (∀(j:Nat) (b:j<s.size),j<k->vZ s[j]=true)) (λi=>s.size -(intOf i).toNat)
 case atStart=>exact⟨0,aa,rfl,λj _ h=>aa⟩
 case round=>
  obtain⟨k,m,rfl,c⟩:=hrel
  by_cases d:k<s.size
  ·by_cases n:(s[k].toNat:Int)<32
   ·have a:=zh (vV (p:=vZ) d (by unfold vZ;rw[aK aa];rfl));go_wp2;go_ret;exact⟨aU (by rw[show zG s.toList=false from a.o]),rfl⟩
   ·by_cases o:126<(s[k].toNat:Int)
    ·have a:=zh (vV (p:=vZ) d (by unfold vZ;rw[aK (p:=s[k].toNat<=126) aa,bF]));go_wp2;go_ret;exact⟨aU (by rw[show zG s.toList=false from a.o]),rfl⟩
    ·have g:=ah (vZ s[k]=true) (by unfold vZ;rw[aJ aa,aJ aa];rfl);go_wp2;go_round
     case rel=>exact⟨k+1,aa,bi,λj b h=>by
      rcases bu j k with f|f
      ·exact c.o j b f
      ·obtain rfl:j=k:=by omega
       exact g.o⟩
     case measure=>simp[intOf];omega
  ·have a:=zh (yY (s:=s) (p:=vZ) λj b=>c.o j b aa);go_wp2;go_ret;exact⟨aU (by rw[show zG s.toList=true from a.o]),rfl⟩
def TB (s:ByteArray)(w:World):Calls prog 102 #[.string s] w λe w'=>e= .returned (.bool s.toList.isEmpty)/\w=w':=by
 go_enter func102,ntmps102;go_wp2;go_ret;exact⟨rfl,rfl⟩
def FM (c:UInt8)(w:World):Calls prog 143 #[.int .u8 (c.toNat:Int)] w λe w'=>e= .returned (.bool (qi c))/\w=w':=by
 by_cases b:48<=c.toNat
 ·have a:=ah (qi c=decide ((c.toNat:Int)<=57)) (by unfold qi;rw[aJ b,aW,fE];omega);go_enter func143,ntmps143;go_wp2;go_ret;exact⟨aU (by rw[a.o]),rfl⟩
 ·have a:=ah (qi c=false) (by unfold qi;rw[aK b];rfl);go_enter func143,ntmps143;go_wp2;go_ret;exact⟨aU a.o.symm,rfl⟩
end At
end Go.Proofs.YtlefbenkhgbifaaGreatDoor
