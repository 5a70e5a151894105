/- read of the reference: the meaning of a list. -/
import Derived.Test.YtlefbenkhgbifaaGreatDoorH831e10ee
set_option linter.all false
set_option maxRecDepth 100000
set_option maxHeartbeats 8000000
namespace Go.Proofs.YtlefbenkhgbifaaGreatDoor.El
open At Ch Sp Sy Go.RowKit Tryz
variable{w w':World}{g B lo:Nat}{rs:List aD}{its:List aG}{e:Ending}{n:aG}{pth:List Int}{op pre:Bool}{cs:Array Value}
def QE {a:Int}(h:au w g 3 #[qI a]):kK w (some (ag g (0))) [a]:=by
 refine⟨rfl,λ_=>⟨_,rfl,h.lt,λj u b=>?_⟩⟩;rw[show(⟨g,0,none⟩:Addr).add j=(ag g j) by unfold Addr.add;split<;>simp_all,h.cell]
 match j,b with
 |0,b=>exact b
 |j+1,b=>simp[dG] at b
def KG {v:Value}{l:List Int}(h:zM w B v l):∃A c,v= .slice A l.length c/\l.length<=c/\c<=9223372036854775807/\kK w A l/\∀a,A=some a->B<=a.block:=by
 have b:w.ownsRow B 3 1 v l.length (dG l):=h;rcases b.2 with⟨rfl,d⟩|⟨j,e,k,rfl,f,m,g,i,n,o⟩
 ·obtain rfl:l=[]:=eP.1 d;exact⟨none,0,rfl,aH _,aa,⟨rfl,λh=>absurd h aS⟩,λa h=>by cases h⟩
 ·exact⟨_,e,rfl,g,by unfold maxLen at i;omega,dL.zIi b,λa h=>by cases h;exact f⟩
def ZI {v:Value}{ts:List ByteArray}(h:uJ w B v ts)(d:∀t∈ts,t.size<=1000):∃a b,v= .slice a ts.length b/\ts.length<=b/\b<=9223372036854775807/\uT w a ts/\∀c,a=some c->B<=c.block:=by
 obtain⟨a,b,rfl,f,g,i⟩:=uJ.at_ h d;refine⟨a,b,rfl,f,g,i,λc j=>?_⟩;subst j;rcases h.2 with⟨e,_⟩|⟨l,m,n,e,k,_⟩
 ·cases e
 ·injection e with e _ _;injection e with e;rw[e];exact k
def zV (rs:List aD)(its:List aG)(lo:Nat)(w:World)(a b c:Value):Prop:=match jP rs its with
 | .inl ts=>(b=qI 0/\c= .bool true)/\uJ w lo a ts
 | .inr i=>a=qN/\b=qI (i:Int)/\c= .bool false
def zV.keep {a b c:Value}(h:zV rs its lo w a b c)(d:Below w.heap.size w w'):zV rs its lo w' a b c:=by
 unfold zV at*;cases e:jP rs its with
 |inl g=>rw[e] at h;exact⟨h.1,gM (row:=none) h.2 ⟨d.os,d.tape,d.output,d.size,λi f _=>d.block i f⟩ (by cases a.ownBlock<;>simp)⟩
 |inr i=>rw[e] at h;exact h
def ZJ (h:FW rs its w e w')(j:lo<=w.heap.size):∃a b c,e= .returned (.tuple #[a,b,c])/\zV rs its lo w' a b c/\Below w.heap.size w w':=by
 unfold FW at h;obtain⟨d,g⟩:=h;cases f:jP rs its with
 |inl l=>
  rw[f] at d;obtain⟨v,rfl,k⟩:=d;refine⟨v,_,_,rfl,?_,g⟩;unfold zV;rw[f];exact⟨⟨rfl,rfl⟩,Sp.CO k j⟩
 |inr i=>
  rw[f] at d;refine⟨_,_,_,d,?_,g⟩;unfold zV;rw[f];exact⟨rfl,rfl,rfl⟩
def zW (rs:List aD)(M:List aG->List Int->Nat->bO aC)(items:List aG)(path:List Int)(k:Nat)(n:aG)(pth:List Int)(op pre:Bool)(lo:Nat)(w:World)(a b:Value):Prop:=match iX rs M n pth op pre with
 | .ok ts=>(∃A cap,a= .slice A ts.length cap/\ts.length<=cap/\cap<=9223372036854775807/\qw (λb=>lo<=b) w A ts)/\b= .pointer none
 | .bad er p=>a=qN/\∃gf,b=qP gf/\yx (λrds=>er=14->yP rs items path k p rds) (λb=>lo<=b) w gf er p
def zW.keep {rs:List aD}{M:List aG->List Int->Nat->bO aC}{items:List aG}{path:List Int}{k:Nat}{n:aG}{pth:List Int}{op pre:Bool}{lo:Nat}{w w':World}{a b:Value}(h:zW rs M items path k n pth op pre lo w a b)(f:Below w.heap.size w w'):zW rs M items path k n pth op pre lo w' a b:=by
 unfold zW at*;cases g:iX rs M n pth op pre with
 |ok o=>rw[g] at h;obtain⟨⟨A,i,c,d,e,j⟩,l⟩:=h;exact⟨⟨A,i,c,d,e,j.keep f⟩,l⟩
 |bad q p=>rw[g] at h;obtain⟨c,m,d,e⟩:=h;exact⟨c,m,d,e.keep f⟩
def ZK {M:List aG->List Int->Nat->bO aC}{items:List aG}{path:List Int}{k:Nat}(h:zC (λp i=>yP rs items path k p i) (iX rs M n pth op pre) w e w')(f:lo<=w.heap.size):∃a b,e= .returned (.tuple #[a,b])/\zW rs M items path k n pth op pre lo w' a b/\Below w.heap.size w w':=by
 unfold zC at h;obtain⟨c,g⟩:=h;cases d:iX rs M n pth op pre with
 |ok s=>
  rw[d] at c;obtain⟨A,j,rfl,l,m,o⟩:=c;refine⟨_,_,rfl,?_,g⟩;unfold zW;rw[d];exact⟨⟨A,j,rfl,l,m,o.any λb _ h=>ax f h⟩,rfl⟩
 |bad t p=>
  rw[d] at c;obtain⟨q,rfl,r⟩:=c;refine⟨_,_,rfl,?_,g⟩;unfold zW;rw[d];exact⟨rfl,q,rfl,r.any (λ_ h=>h) λb _ h=>ax f h⟩
def ZL {M:List aG->List Int->Nat->bO aC}{ts:List aC}(h:iX rs M n pth op pre= .ok ts):ts.length<=n.kids.length:=by
 unfold iX at h
 split at h
 ·have:=De h;rw[this,List.length_tail];omega
 ·cases a:n.kids with
  |nil=>rw[a] at h;injection h with h;rw[<-h];simp
  |cons d b=>
   rw[a] at h;dsimp only at h
   split at h
   ·have:=De h;rw[this,aY];omega
   ·have:=De h;rw[this];exact aH _
def ZM (n:Nat):((List.replicate n false).map Value.bool).toArray=Array.replicate n (.bool false):=aS
def ZN (n:Nat):madeCells #[.bool false] n=Array.replicate n (.bool false):=by
 refine Array.ext (by simp[madeCells]) λi a b=>?_
 simp[madeCells,Nat.mod_one]
def QF:∀(a:List Int) (L:List Bool) (q:Nat) (b:Bool),(∀p∈a,0<=p)->L[q]?=some b->(mW L a)[q]?=some (b||decide ((q:Int)∈a))
 |[],L,q,b,_,h=>by simp[mW,h]
 |p::a,L,q,b,c,h=>by
  have i:=c p bZ;have j:=(bP.1 h).1;have d:(L.set p.toNat true)[q]?=some (b||decide ((q:Int)=p)):=by
   rw[List.getElem?_set]
   by_cases e:p.toNat=q
   ·rw[ak e,aJ (show(q:Int)=p by omega),Bool.or_true,ak aa]
   ·rw[ai e,h,aK (λk=>e aa),Bool.or_false]
  have f:=QF a _ q _ (λr g=>c r (dP _ g)) d;show(mW (L.set p.toNat true) a)[q]?=_;rw[f,Bool.or_assoc,<-Bool.decide_or];simp only[dD]
def ZO {x:Rd}{m q:Nat}(h:mf rs x 0 m)(c:q<m):(mW (List.replicate m false) (kH rs x))[q]?=some (decide ((q:Int)∈kH rs x)):=by
 rw[QF (kH rs x) _ q false (λp d=>by
  obtain⟨n,f,_⟩:=(Ex h p).1 d;obtain⟨a,b,e,_⟩:=BO h _ f;injection e with e _;omega) (by rw[List.getElem?_replicate,ak c]),ow]
def Kr {i:Nat}{v:Value}(a:cs[i]?=some v):cs.setIfInBounds i v=cs:=by
 refine tX λk=>?_
 rw[tV]
 split
 ·next e=>
  subst e
  split
  ·exact a.symm
  ·next hn=>rw[ig (lH hn)] at a;cases a
 ·rfl
def zU {t:TypeId}(h:au w g t cs)(i:Nat)(v:Value)(a:cs[i]?=some v):w.setCell (ag g i) v=w:=by
 have e:(w.setCell (ag g i) v).heap=w.heap:=by
  unfold World.setCell;refine tX λk=>?_
  rw[Array.getElem?_modify]
  split
  ·next e=>
   subst e;have b:w.heap[g]?=some (.cells cs t (0,0)):=h;dsimp only;rw[b];simp[Kr a]
  ·rfl
 cases w;simp only[World.setCell] at e⊢;rw[e]
def QG (h:au w g 25 cK):((((w.setCell (ag g (0)) (qI 0)).setCell (ag g (1)) qE).setCell (ag g (2)) qE).setCell (ag g (3)) qN).setCell (ag g (4)) qE=w:=by
 rw[zU h 0 (qI 0) rfl,zU h 1 qE rfl,zU h 2 qE rfl,zU h 3 qN rfl,zU h 4 qE rfl]
def ZP:(prog.info? 4).map (λi=>(i.zero,i.size,i.bytes))=some (some (.bool false),1,1):=aj
def ZQ:(prog.info? 23).map (λi=>(i.zero,i.size,i.bytes))=some (some qN,1,24):=aj
structure EW (g lo:Nat)(w6:World)(cs:Array Value)(v:Value)(xs:List (List aC))(x:World):Prop where
 gr:Gr g w6 x
 box:au x g 158 cs
 own:df (λb=>v.ownBlock≠some b/\lo<=b) x w6.heap.size v xs
def EW.keep {g lo:Nat}{b:World}{cs:Array Value}{v:Value}{xs:List (List aC)}{x c:World}(h:EW g lo b cs v xs x)(a:Below x.heap.size x c):EW g lo b cs v xs c:=
 ⟨h.gr.below a,jL a h.box,h.own.keep a⟩
def ZR (h:sF 1 n.kind=false):n.kind≠1:=by
 intro e;rw[e] at h;revert h;decide
def ZT (A:Option Addr)(cap:Nat)(rs:List aD)(u3:fZ rs=true)(u4:rs.length<=1000)(f:Nat)(u5:Hq A cap rs f):Hq A cap rs (f+1):=by
 intro items z k c6 Z d4 b2 g D8 w k4 n9 o0 o1 o2 o3 o4 o5 o6 o7 k5 o8 u6 a0 k6 o9 k7;have d5:=zh (show ∀n∈items.drop k,fJ n=true/\n.kind≠1 from λn O=>by
  have h:=Ew o8 n (pq O);exact⟨h.1,ZR h.2⟩)
 have u7:=zh (λ(s:Nat) (n:aG) (op pre:Bool) (v:Value) (r:World) (d6:fG r A rs) (b3:mO r c6 (items.drop k)) (d7:kK r Z z) (d8:au r g 158 (sU A cap rs c6 d4 (items.drop k) Z b2 z k v)) (O:(items.drop k)[s]?=some n)=>
  have f5:n∈items:=pq (dQ O);have D9:dK n<=bK items:=by obtain⟨p0,g7⟩:=gz.1 f5;exact Jw g7
  have E0:s<items.length:=by have:=(bP.1 O).1;rw[lg] at this;omega
  AJ A cap rs f u5 items z k c6 Z d4 b2 g v s n op pre r d6 aa b3 d7 o6 o7 d8 O (d5.o n (dQ O)).1 (d5.o n (dQ O)).2 aa aa (KD o9 n f5) k7 aa)
 have u8:=zh (λl r y d9 g8 t=>yP.here (rs:=rs) items z k l r y d9 g8 t);have u9:=zh (λh=>YX (rs:=rs) (f:=f) (items:=items) (path:=z) (k:=k) h);have v0:=zh (λN e0 h=>YY (rs:=rs) (f:=f) (items:=items) (path:=z) (k:=k) (i:=N) e0 h);have v1:=zh (λl e0 h t=>YZ (rs:=rs) (f:=f) (items:=items) (path:=z) (k:=k) (ts:=l) e0 h t);have v2:=zh (λl r y d9 e0 h t=>Za (rs:=rs) (f:=f) (items:=items) (path:=z) (k:=k) (ts:=l) (x:=r) (y:=y) (zs:=d9) e0 h t);have v3:=zh (λl r e0 h t=>Zb (rs:=rs) (f:=f) (items:=items) (path:=z) (k:=k) (ts:=l) (x:=r) e0 h t (λn O=>Zc (d5.o n O).1));have p1:(items.drop k).length<=7:=by rw[lg];omega
 generalize items.drop k=its at*;have v4:=ah (∀n∈its,fO n.kind=true->n.kids≠[]) (λn O v5=>by obtain⟨E1,sub,i0,e⟩:=Jv (d5.o n O).1 v5;rw[e];simp);have v6:=zh (λl (h:jP rs its= .inl l)=>Jz (λn O=>(d5.o n O).1) h);have i1:=aN w (.cells cK 25);have B:=zh (au.new w 25 cK);have M:=zh i1;have c7:=ah (g<w.heap.size) k5.lt;have U:=zh (ae i1 k5);have b4:=zh (o4.keep i1);have b5:=zh o0;have i2:=zh k4;have p2:=zh n9;have g9:=zh p1;have i3:=zh u4;have v7:=zh (show ∀c0∈rs,c0.kind=1\/c0.kind=2\/c0.kind=3\/c0.kind=4 from λc0 h0=>by
  obtain⟨p0,g7⟩:=gz.1 h0;rcases Ia (Fe u3 g7) with h|h|h|h
  ·exact .inl h
  ·exact .inr (.inl h)
  ·exact .inr (.inr (.inl h))
  ·exact .inr (.inr (.inr h.1)))
 have v8:=zh (show ∀c0∈rs,c0.nam.size<=9223372036854775807 from λc0 h0=>by
  obtain⟨p0,g7⟩:=gz.1 h0;obtain⟨v9,_⟩:=k4.at_ g7;exact v9.2)
 have p3:=ah (z.length<=900000) aa;have w0:=zh o5;have w1:=zh o1;have E2:=zh (And.intro o2 o3);have w2:=zh k7;clear k4 n9 o0 o1 o2 o3 o4 o5 o6 o7 k5 o8 u6 a0 k6 o9 k7 p1 i1;go_enter func119,ntmps119;go_upto_region 1 with(fail)
 generalize w.alloc (.cells cK 25)=E3 at*;obtain⟨Q,p4⟩:∃Q,Q=z++[(k:Int)]:=⟨_,rfl⟩
 have f6:=zh p4;clear p4;refine qm [2,2,2,1,2,2,2,1,1,1,2] (List.replicate 11 false) (λc=>[qP g,qP g,aR g (2),.slice Z z.length b2,qP g,qP g,aR g (3),qI (k:Int),ay ⟨c.n 22,0,none⟩ 1 1,c.v 23,c.v 23]) [(8,λc E=>au E (c.n 22) 3 #[qI (k:Int)]),(9,λc E=>∃F G,c.v 23= .slice F Q.length G/\Q.length<=G/\G<=9223372036854775807/\kK E F Q/\∀H,F=some H->w.heap.size<H.block)] (λ_ _=>True) (bV.cons (λc E W h m=>ae m h) (bV.cons (λc E W ⟨F,G,d6,b3,d7,d8,c1⟩ m=>⟨F,G,d6,b3,d7,d8.keep m,c1⟩) bV.nil)) (trivial) ?_ ?_
 ·refine⟨jC,jI,jI,jR λc j d=>(ae d U.o).cell 2,jC,jI,jI,jR λc j d=>(ae d U.o).cell 3,λc j d D u=>?_,λc j d D u=>?_,jC,trivial⟩
  ·exact jv (ay (ag j.heap.size (0)) 1 1) (j.alloc (.cells #[qI (k:Int)] 3)) iw ⟨c.setN 22 j.heap.size,rfl,jD,aN j _,⟨au.new j _ _,jG,trivial⟩,trivial⟩
  ·have w3:=jE u.1;refine jc 147 (#[.slice Z z.length b2,ay ⟨c.n 22,0,none⟩ 1 1]) j aj ((KA Z (some ⟨c.n 22,0,none⟩) b2 1 z [(k:Int)] j (b4.o.keep d) (QE w3) (by have:=p3.o;simp;omega)).mono ?_);rintro e c8 ⟨w4,rfl,a1,m⟩;obtain⟨F,G,rfl,a2,c2,a3,a0⟩:=KG a1;rw[<-f6.o] at a2 a3;rw[<-f6.o];exact⟨_,rfl,c.setV 23 (.slice F Q.length G),rfl,jD,m,⟨jH,⟨F,G,rfl,a2,c2,a3,λH t=>ll (ae d B.o).lt (a0 H t)⟩,trivial⟩,trivial⟩
 ·refine λc j d D u=>?_
  dsimp only[ji] at u;change wpOps _ _ _ [] _ _;obtain⟨-,⟨F,G,e1,a2,c2,a3,a0⟩,-⟩:=u;rw[e1];refine jo ?_;have b6:=zh a3;have e2:=zh a0;replace M:=jt M d;replace B:=kp d B;replace U:=kp d U;replace b4:=zh (b4.o.keep d);clear a3 a0 D e1 d;generalize c.n 22=E4 at*;clear c;generalize j=W at*;have i4:=U.o.cell 1
  by_cases f7:its=[]
  ·have p5:((its.length:Int)==0)=true:=by rw[f7];rfl
   have b7:=ah (dE rs (f+1) items z k= .bad 15 Q) (by rw[f6.o];exact u9.o f7);clear f7;have S:=aN W (.cells #[qI 15,.slice F Q.length G,qN] 121);have k8:=jt M S;have e3:=kp S B;have e4:=e3.o.cell;have e5:=e3.o.frozen;have e6:=zh (au.new W 121 #[qI 15,.slice F Q.length G,qN]);have h1:=zh (b6.o.keep S);have h2:=ah (w.heap.size<W.heap.size) B.o.lt;go_wp2_with fail;obtain⟨k9,T,e7,c9,a4⟩:=gQ e3.o k8.o aa (qI 0) qE qE qN qE;rw[T];obtain⟨a5,a6,a7,a8,a9⟩:=jF e7;exact aB (v:=.tuple #[.agg qT,qP W.heap.size]) (by simp[results,results119,go_sem,a5,a6,a7,a8,a9]) rfl (show Cu _ _ _ _ _ _ _ _ _ by rw[b7.o];exact⟨⟨_,rfl,F,G,none,0,[],e6.o.grown a4.o (λe=>aV (sj e) h2.o),a2,c2,ET h1.o a4.o (λH t _ e=>av (e2.o H t)),av h2.o,λH t _=>nR (e2.o H t),aH _,aa,iE.nil _ _ _,λe=>absurd e aI⟩,(Gr.refl g w).below c9.o⟩)
  have i5:=zh f7;have p5:((its.length:Int)==0)=false:=by
   rw[aZ];have:=oU.2 f7;omega
  have d0:=zh (i2.o.keep (b5.o.trans (M.o.mono b5.o.size)));have f8:=zh (p2.o.keep (b5.o.trans (M.o.mono b5.o.size)));clear f7;go_upto_region 4 with(fail)
  clear i4 p5;refine qm [2,2,2,1,2,2,2,1,1,2,2,2,2,2,2,2] (List.replicate 16 false) (λc=>[qP g,qP g,qP g,.slice A rs.length cap,qP g,qP g,aR g (1),.slice c6 its.length d4,.tuple #[c.v 44,c.v 45,c.v 46],.tuple #[c.v 44,c.v 45,c.v 46],c.v 44,c.v 45,c.v 46,c.v 44,c.v 45,c.v 46]) [(8,λc E=>zV rs its W.heap.size E (c.v 44) (c.v 45) (c.v 46))] (λ_ _=>True) (bV.cons (λc E W h m=>h.keep m) bV.nil) (trivial) ?_ ?_
  ·refine⟨jC,jI,jI,jR λc j d=>(ae d U.o).cell 0,jC,jI,jI,jR λc j d=>(ae d U.o).cell 1,λc j d D u=>?_,jC,jC,jC,jC,jC,jC,jC,trivial⟩
   ·refine jc 148 (#[.slice A rs.length cap,.slice c6 its.length d4]) j aj ((Yz A c6 cap d4 rs its j (d0.o.keep d) (av i3.o) (f8.o.keep d) v4.o (av g9.o)).mono ?_);rintro e c8 f5;obtain⟨h3,p6,p7,rfl,i6,m⟩:=ZJ f5 d.size;exact⟨_,rfl,((c.setV 44 h3).setV 45 p6).setV 46 p7,rfl,jD,m,⟨i6,trivial⟩,trivial⟩
  ·refine λc j d D u=>?_
   dsimp only[ji] at u;change wpOps _ _ _ [] _ _;obtain⟨i6,-⟩:=u;refine jo ?_;have i7:=zh i6;have w5:=ah (w.heap.size<W.heap.size) B.o.lt;replace M:=jt M d;replace B:=kp d B;replace U:=kp d U;replace b4:=zh (b4.o.keep d);replace b6:=zh (b6.o.keep d);clear i6 D d;generalize c.v 44=h3 at*;generalize c.v 45=p6 at*;generalize c.v 46=p7 at*;clear c;generalize j=w6 at*;cases c3:jP rs its with
   |inr X=>
    have C:=i7.o;unfold zV at C;rw[c3] at C;obtain⟨rfl,rfl,rfl⟩:=C;have l0:=Jy c3;obtain⟨b8,l1⟩:∃b8,b8=z++[(k:Int)+(X:Int)]:=⟨_,rfl⟩
    have p8:=zh l1;have b7:=ah (dE rs (f+1) items z k= .bad 15 b8) (by rw[l1,<-pu];exact v0.o X i5.o c3);have w7:IntKind.i64.wrap ((k:Int)+(X:Int))=(k:Int)+(X:Int):=lc _ (aV w2.o g9.o);clear l1 c3 l0 i7;go_upto_region 6 with(fail)
    refine qm [2,2,2,2,1,2,2,2,1,2,2,1,1,1,1,1,2] (List.replicate 17 false) (λc=>[.agg qT,qP g,qP g,aR g (2),.slice Z z.length b2,qP g,qP g,aR g (3),qI (k:Int),qI (X:Int),qI ((k:Int)+(X:Int)),ay ⟨c.n 60,0,none⟩ 1 1,c.v 61,.agg #[qI 15,c.v 61,qN],qP (c.n 63),undef,qP (c.n 63)]) [(11,λc E=>au E (c.n 60) 3 #[qI ((k:Int)+(X:Int))]),(12,λc E=>∃K V,c.v 61= .slice K b8.length V/\b8.length<=V/\V<=9223372036854775807/\kK E K b8/\∀H,K=some H->w.heap.size<H.block),(14,λc E=>(∃K V,c.v 61= .slice K b8.length V/\b8.length<=V/\V<=9223372036854775807/\kK E K b8/\(∀H,K=some H->w.heap.size<H.block))/\au E (c.n 63) 121 #[qI 15,c.v 61,qN]/\w.heap.size<c.n 63)] (λ_ _=>True) (bV.cons (λc E W h m=>ae m h) (bV.cons (λc E W ⟨F,G,d6,b3,d7,d8,c1⟩ m=>⟨F,G,d6,b3,d7,d8.keep m,c1⟩) (bV.cons (λc E W ⟨⟨F,G,d6,b3,d7,d8,c1⟩,w8,k6⟩ m=>⟨⟨F,G,d6,b3,d7,d8.keep m,c1⟩,ae m w8,k6⟩) bV.nil))) (trivial) ?_ ?_
    ·refine⟨jI,jC,jI,jI,jR λc j d=>(ae d U.o).cell 2,jC,jI,jI,jR λc j d=>(ae d U.o).cell 3,jC,λc j=>?_,λc j d D u=>?_,λc j d D u=>?_,λc j d D u=>?_,λc j d D u=>?_,λc j d D u=>?_,jC,trivial⟩
     ·exact jp (qI ((k:Int)+(X:Int))) (bT w7) rfl
     ·exact jv (ay (ag j.heap.size (0)) 1 1) (j.alloc (.cells #[qI ((k:Int)+(X:Int))] 3)) iw ⟨c.setN 60 j.heap.size,rfl,jD,aN j _,⟨au.new j _ _,jG,jG,trivial⟩,trivial⟩
     ·have l2:=jE u.1;refine jc 147 (#[.slice Z z.length b2,ay ⟨c.n 60,0,none⟩ 1 1]) j aj ((KA Z (some ⟨c.n 60,0,none⟩) b2 1 z [(k:Int)+(X:Int)] j (b4.o.keep d) (QE l2) (by have:=p3.o;simp;omega)).mono ?_);rintro e c8 ⟨w4,rfl,a1,m⟩;obtain⟨K,V,rfl,a2,c2,a3,a0⟩:=KG a1;rw[<-p8.o] at a2 a3;rw[<-p8.o];exact⟨_,rfl,c.setV 61 (.slice K b8.length V),rfl,jD,m,⟨jH,⟨K,V,rfl,a2,c2,a3,λH t=>ll (ae d B.o).lt (a0 H t)⟩,jG,trivial⟩,trivial⟩
     ·have l2:=jE u.1;have l3:=jE u.2.1;obtain⟨K,V,e1,_⟩:=l3;exact jv (.agg #[qI 15,c.v 61,qN]) j (bT e1) ⟨c,rfl,jD,(aL _ _),⟨jH,jH,jG,trivial⟩,trivial⟩
     ·have l2:=jE u.1;have l3:=jE u.2.1;obtain⟨K,V,e1,T,w9,x0,x1⟩:=l3;exact jv (qP j.heap.size) (j.alloc (.cells #[qI 15,c.v 61,qN] 121)) (bT e1) ⟨c.setN 63 j.heap.size,rfl,jD,aN j _,⟨jH,jH,⟨⟨K,V,e1,T,w9,x0.keep (aN j _),x1⟩,au.new j _ _,(ae d B.o).lt⟩,trivial⟩,trivial⟩
     ·have e8:=ae d B.o;have e4:=λN=>e8.cell N
      have e5:=λN=>e8.frozen N
      have c1:=QG e8;exact aP.skip (w':=j) (by simp[go_sem,evAct,e4,e5];exact c1) ⟨c,rfl,lK.same,aL _ _,yh.same aj,D⟩
    ·refine λc j d D u=>?_
     dsimp only[ji] at u;change wpOps _ _ _ [] _ _;obtain⟨-,-,⟨⟨K,V,T,a2,c2,a3,a0⟩,f9,h4⟩,-⟩:=u;rw[T] at f9;rw[T];have e6:=zh f9;have l4:=zh h4;have h1:=zh a3;replace e2:=zh a0;replace M:=jt M d;replace B:=kp d B;clear f9 h4 a3 a0 D d T;generalize c.n 63=x2 at*;generalize c.n 60=E5 at*;clear c;refine jo ?_;have l5:=zh B.o;go_wp2_with fail;obtain⟨a5,a6,a7,a8,a9⟩:=qc l5;exact aB (v:=.tuple #[.agg qT,qP x2]) (by simp[results,results119,go_sem,a5,a6,a7,a8,a9]) rfl (show Cu _ _ _ _ _ _ _ _ _ by rw[b7.o];exact⟨⟨_,rfl,K,V,none,0,[],e6.o,a2,c2,h1.o,av l4.o,λH t _=>av (e2.o H t),aH _,aa,iE.nil _ _ _,λe=>absurd e aI⟩,(Gr.refl g w).below M.o⟩)
   |inl l=>
    have C:=i7.o;unfold zV at C;rw[c3] at C;obtain⟨⟨rfl,rfl⟩,a1⟩:=C;obtain⟨x3,p9,rfl,E6,E7,q0,q1⟩:=ZI a1 (v6.o l c3);have h5:=zh q0;have x4:=zh q1;have e9:=ah (l.length=its.length) (Al c3);have i8:=zh c3;have x5:=U.o.cell 0;replace d0:=zh (i2.o.keep (b5.o.trans (M.o.mono b5.o.size)));clear q0 q1 a1 i7 c3 f8;go_wp2_with fail;refine(YW A x3 cap p9 rs l w6 d0.o h5.o (av i3.o) (aV e9.o g9.o)).mono ?_;rintro e J ⟨d1,b0,rfl,q2,q3,q4,m⟩;have h6:=zh (q4.any (ok':=λb=>w.heap.size<b) λb _ h=>ll B.o.lt h);have x6:=zh (And.intro q2 q3);replace M:=jt M m;replace B:=kp m B;replace U:=kp m U;replace b4:=zh (b4.o.keep m);replace b6:=zh (b6.o.keep m);replace h5:=zh (h5.o.keep m);clear q4 m q2 q3 x5 d0;rcases t:lD rs l with _|⟨r,_|⟨h7,d9⟩⟩
    ·have i9:(((lD rs l).length:Int)==0)=true:=by rw[t];rfl
     have b7:=ah (dE rs (f+1) items z k= .bad 15 Q) (by rw[f6.o];exact v1.o l i5.o i8.o t);clear t;have S:=aN J (.cells #[qI 15,.slice F Q.length G,qN] 121);have k8:=jt M S;have e3:=kp S B;have e4:=e3.o.cell;have e5:=e3.o.frozen;have e6:=zh (au.new J 121 #[qI 15,.slice F Q.length G,qN]);have h1:=zh (b6.o.keep S);have h2:=ah (w.heap.size<J.heap.size) B.o.lt;go_wp2_with fail;obtain⟨k9,T,e7,c9,a4⟩:=gQ e3.o k8.o aa (qI 0) qE qE qN qE;rw[T];obtain⟨a5,a6,a7,a8,a9⟩:=jF e7;exact aB (v:=.tuple #[.agg qT,qP J.heap.size]) (by simp[results,results119,go_sem,a5,a6,a7,a8,a9]) rfl (show Cu _ _ _ _ _ _ _ _ _ by rw[b7.o];exact⟨⟨_,rfl,F,G,none,0,[],e6.o.grown a4.o (λe=>aV (sj e) h2.o),a2,c2,ET h1.o a4.o (λH t _ e=>av (e2.o H t)),av h2.o,λH t _=>nR (e2.o H t),aH _,aa,iE.nil _ _ _,λe=>absurd e aI⟩,(Gr.refl g w).below c9.o⟩)
    ·have g0:=zh t;have i9:(((lD rs l).length:Int)==0)=false:=by rw[t];rfl
     have l6:¬((1:Int)<((lD rs l).length:Int)):=by rw[t];show ¬((1:Int)<1);omega
     clear t;have q5:=Qt (rs:=rs) (ts:=l) (x:=r) (by rw[g0.o];exact bZ);have l7:=zh (yH _ 0 l.length r (aH _) q5.2);have b7:=zh (v3.o l r i5.o i8.o g0.o);obtain⟨I,K,h8,rfl,h9,q6,E8,E9,x7,g1,g2,g3⟩:=Ch.iE.at_ h6.o (k:=0) (x:=r) (by rw[g0.o];rfl);rw[show I.add (0*3)=I by unfold Addr.add;cases I;simp] at g1 g2 g3;have l8:=zh q6;have l9:=zh (And.intro g1 (And.intro g2 g3));have x8:=ah (w.heap.size<I.block) (by obtain⟨F0,T,_,C,_⟩:=h6.o 0 r (by rw[g0.o];rfl);rw[sj T];exact C);have F1:=ah ((lD rs l).length=1) (by rw[g0.o];rfl);have j0:=ah (l.length<=7) (aV e9.o g9.o);obtain⟨X,l0,x9,y0,y1⟩:=Sp.info_parts ZP;have m0:=run_make (P:=prog) J 189 4 X (.bool false) underlying189 l0 x9 .i64 .i64 (l.length:Int) (l.length:Int) aa (Int.le_refl _) (by rw[y1];have:=j0.o;omega) (av j0.o);rw[y0,fU,Nat.mul_one] at m0;have q7:madeCells (Value.bool false).cells l.length=(Array.replicate l.length (.bool false)):=ZN l.length;rw[q7] at m0;have q8:=zh (i2.o.keep (b5.o.trans (M.o.mono b5.o.size)));have y2:=ah (w.heap.size<J.heap.size) B.o.lt;clear q6 x7 q7 q5;go_upto_region 13 with(fail)
     have S:=aN J (.cells (Array.replicate l.length (.bool false)) 4);have q9:=ah (DD (J.alloc (.cells (Array.replicate l.length (.bool false)) 4)) J.heap.size (List.replicate l.length false)) (by show au _ _ _ _;rw[ZM];exact au.new J _ _);have j1:=zh S;replace g1:=(S.cell (p:=I) h9).trans g1;replace g2:=(S.cell (p:=aF I 1) h9).trans g2;replace g3:=(S.cell (p:=aF I 2) h9).trans g3;have r0:=kp S U;have d2:=zh h9;clear S m0 i9 l6 h9;generalize J.alloc (.cells (Array.replicate l.length (.bool false)) 4)=r1 at*;have j2:=ah (I.block<r1.heap.size/\∀o,(⟨I.block,o,none⟩:Addr).block<r1.heap.size) ⟨ll d2.o j1.o.size,λ_=>ll d2.o j1.o.size⟩;refine qm [2,2,2,1,2,2,1,2,3] (List.replicate 9 false) (λc=>[qP g,qP g,qP g,.slice A rs.length cap,ay I 1 b0,az I,.agg (dw r.rule r.at_ K r.kids.length h8),ay (ag J.heap.size (0)) l.length l.length,undef]) [] (λ_ _=>True) bV.nil (trivial) ?_ ?_
     ·refine⟨jC,jI,jI,jR λc j d=>(ae d r0.o).cell 0,jC,λc j=>?_,λc j d D u=>?_,jC,trivial⟩
      ·exact jp (az I) (by simp[go_sem,evAct];try omega) rfl
      ·have y3:=(d.cell j2.o.1).trans g1;have y4:=(d.cell (j2.o.2 _)).trans g2;have y5:=(d.cell (j2.o.2 _)).trans g3;exact gs (.agg (dw r.rule r.at_ K r.kids.length h8)) D aj (om y3 y4 y5) rfl
     ·refine λc j d D u=>?_
      dsimp only[ji] at u;change wpOps _ _ _ [8] _ _;have c9:=jt j1 d;refine wo (o:=_) (R:=λv w'=>v= .tuple #[]/\DD w' J.heap.size (mW (List.replicate l.length false) (kH rs r))/\Gr J.heap.size j w') rfl rfl (jc 150 (#[.slice A rs.length cap,.agg (dw r.rule r.at_ K r.kids.length h8),ay (ag J.heap.size (0)) l.length l.length]) j (by first|kernel_rfl|simp[go_sem,evAct]) ((QD (λb=>w.heap.size<b) A cap rs J.heap.size l.length (av j0.o) (av i3.o) (og r) r 0 l.length _ (List.replicate l.length false) J j (aH _) l7.o q8.o l8.o c9.o (aH _) (ae d q9.o) mG (aH _)).mono λe c8 h=>⟨_,h.1,rfl,h.2⟩)) ?_;rintro v b1 ⟨rfl,r2,r3⟩;refine jo ?_;have Y:=zh (c9.o.trans (r3.down c9.o.size (aH _)));have r4:=zh r2;have r5:=zh (M.o.trans (Y.o.mono M.o.size));have r6:=zh (b5.o.trans (r5.o.mono b5.o.size));have r7:=zh (ae Y.o B.o);have r8:=zh (ae Y.o U.o);have y6:=zh (b4.o.keep Y.o);have y7:=zh (h5.o.keep Y.o);have y8:=zh (l8.o.keep Y.o);have m1:=ah (I.block≠g) (aV x8.o c7.o);have m2:=ah (b1.cell? I=some (qI r.rule)/\b1.cell? (aF I 1)=some (qI r.at_)/\b1.cell? (aF I 2)=some (.slice K r.kids.length h8)) ⟨(Y.o.cell (p:=I) d2.o).trans l9.o.1,(Y.o.cell (p:=aF I 1) d2.o).trans l9.o.2.1,(Y.o.cell (p:=aF I 2) d2.o).trans l9.o.2.2⟩;have g4:=ah (w.heap.size+1<=b1.heap.size) r7.o.lt;have F2:=r8.o.cell 1;clear r2 r3 u D d g1 g2 g3 B U b4 h5 l8 q9 c9 j1 r0 h6 b6 q8 j2;clear c;obtain⟨c4,m3⟩:∃c4:Nat->bO (List (List aC)),c4=λs=>uM rs (dE rs f) z (λN=>decide ((N:Int)∈kH rs r)) k (its.drop s) (l.drop s) s:=⟨_,rfl⟩
      have r9:=zh m3;have s0:=ah (dE rs (f+1) items z k=(c4 0).then_ λxs=>.ok (dO rs its xs r l.length)) (by rw[m3,b7.o];rfl);clear m3 b7;go_wp2_with fail
      go_loopw [11] (λN wr=>∃(s:Nat) (xs:List (List aC)) (v:Value),s<=its.length/\N=qI s/\xs.length=s/\Hy (wE (c4 0) xs (c4 s))/\Hy (∀y∈xs,y.length<=1000)/\Hy (EW g (w.heap.size+1) b1 (sU A cap rs c6 d4 its Z b2 z k v) v xs wr)) (λN _=>its.length -(intOf N).toNat)
      case atStart=>exact⟨0,[],_,aa,rfl,rfl,zh (wE.start _),zh (λy h=>by cases h),zh ⟨Gr.refl g b1,r8.o,df.nil _ _ _⟩⟩
      case round=>
       obtain⟨s,xs,v,F3,rfl,s1,j3,s2,L⟩:=hrel;have i4:=L.o.box.cell 1;have m4:=zh s1;have m5:=zh (r6.o.trans (L.o.gr.down r6.o.size w1.o));have d0:=zh (i2.o.keep m5.o);have f8:=zh (p2.o.keep m5.o);have j4:=zh (((Gr.refl g w).below r5.o).trans L.o.gr);have g5:=zh (L.o.gr.blk r7.o (av c7.o));have d3:=ah (b1.heap.size<=wr.heap.size) L.o.gr.size;clear s1
       by_cases y9:s<its.length
       ·obtain⟨n,O⟩:∃n,its[s]?=some n:=⟨_,gE y9⟩
        obtain⟨f0,g8⟩:∃f0,l[s]?=some f0:=⟨_,gE (av e9.o)⟩
        have z0:=zh O;obtain⟨z1,g6,rfl,m6,s3⟩:=y7.o s f0 g8;have z2:=x4.o g6 rfl;have z3:=ah (wr.cell? (g6.add s)=some (af f0)) (by rw[<-s3];exact dm (L.o.gr.block _ (by rw[gX];exact m6) (by rw[gX];have:=c7.o;have:=w5.o;omega)));have z4:=ah ((g6.add s).block<wr.heap.size) (by rw[gX];exact ll m6 d3.o);obtain⟨c5,m7⟩:∃c5,c5=decide ((s:Int)∈kH rs r):=⟨_,rfl⟩
        have z5:=zh (show wr.cell? (ag J.heap.size s)=some (.bool c5) by
         rw[(L.o.gr.blk r4.o (aV c7.o y2.o)).cell s,m7];have C:=ZO l7.o (q:=s) (av e9.o);simp only[List.getElem?_toArray,gL,C,je])
        have z6:=ah ((⟨J.heap.size,s,none⟩:Addr).block<wr.heap.size) (ll r4.o.lt d3.o);obtain⟨b9,m8⟩:∃b9,b9= !decide (f0.data.toList=[35]):=⟨_,rfl⟩
        have z7:(f0.toList==[35])= !b9:=by
         rw[m8,Bool.not_not,bz,fI,aT,rq]
        have m9:=zh (show wE (c4 0) xs ((iX rs (dE rs f) n (z++[((k+s:Nat):Int)]) b9 c5).then_ λj5=>(c4 (s+1)).then_ λz8=>.ok (j5::z8)) by
         have C:=j3.o;rw[r9.o] at C⊢;dsimp only at C⊢;rw[Zi O g8] at C;rw[m8,m7];exact C)
        have s4:=zh (ET y6.o L.o.gr.own w0.o);have s5:(s:Int)<(l.length:Int):=av e9.o
        have z9:=ah (n.kids.length<=1000) (av (Ev (d5.o n (dQ O)).1));clear O g8 z2 s3 m7 m8 z1 j3 m6;go_upto_region 17 with(fail)
        clear i4;refine qm [2,2,2,2,2,1,2,2,2,2,1,1,2,2,2,2,2] (List.replicate 17 false) (λc=>[qP g,qI (↑s),ay g6 l.length p9,qI (↑s),az (g6.add s),af f0,.bool b9,ay (ag J.heap.size (0)) l.length l.length,qI (↑s),aR J.heap.size s,.bool c5,.tuple #[c.v 125,c.v 126],.tuple #[c.v 125,c.v 126],c.v 125,c.v 126,c.v 125,c.v 126]) [(11,λc E=>zW rs (dE rs f) items z k n (z++[((k+s:Nat):Int)]) b9 c5 wr.heap.size E (c.v 125) (c.v 126))] (λ_ _=>True) (bV.cons (λc E W h m=>h.keep m) bV.nil) (trivial) ?_ ?_
        ·refine⟨jC,jC,jC,jC,λc j=>?_,jR λc j d=>(d.cell z4.o).trans z3.o,λc j=>?_,jC,jC,λc j=>?_,jR λc j d=>(d.cell z6.o).trans z5.o,λc j d D u=>?_,jC,jC,jC,jC,jC,trivial⟩
         ·exact jp (az (g6.add s)) (gY s5) rfl
         ·exact jp (.bool b9) (bT z7) rfl
         ·exact jp (aR J.heap.size s) (gY s5) rfl
         ·refine jc 151 (#[qP g,qI (s:Int),.bool b9,.bool c5]) j aj ((u7.o s n b9 c5 _ j (d0.o.keep d) (f8.o.keep d) (s4.o.keep d) (ae d L.o.box) z0.o).mono ?_);rintro e c8 f5;obtain⟨A0,A1,rfl,j6,m⟩:=ZK f5 d.size;exact⟨_,rfl,(c.setV 125 A0).setV 126 A1,rfl,jD,m,⟨j6,trivial⟩,trivial⟩
        ·refine λc j d D u=>?_
         dsimp only[ji] at u;change wpOps _ _ _ [] _ _;obtain⟨j6,-⟩:=u;have j7:=zh j6;have s6:=zh (λb (m:v.ownBlock=some b)=>(show b1.heap.size<=b/\b<wr.heap.size from by obtain⟨cs,a1,_⟩:=L.o.own;exact bA a1 b m));replace L:=zh (L.o.keep d);replace g5:=kp d g5;replace j4:=zh (j4.o.below d);have A2:=ah (wr.heap.size<=j.heap.size) d.size;clear j6 D d d0 f8 s4 m5;cases f1:iX rs (dE rs f) n (z++[((k+s:Nat):Int)]) b9 c5 with
         |bad A3 j5=>
          have C:=j7.o;unfold zW at C;rw[f1] at C;obtain⟨f2,s7,f3,s8⟩:=C;have A4:=zh s8;have A5:=ah (dE rs (f+1) items z k= .bad A3 j5) (by rw[s0.o,m9.o.bad f1];rfl);rw[f2,f3];refine jo ?_;clear s8 f1 f2 f3 j7;clear c;have e4:=g5.o.cell;have e5:=g5.o.frozen;go_wp2_with fail;obtain⟨k9,T,e7,a4⟩:=Bh g5.o (qI 0) qE qE qN qE;rw[T];obtain⟨a5,a6,a7,a8,a9⟩:=jF e7;exact aB (v:=.tuple #[.agg qT,qP s7]) (by simp[results,results119,go_sem,a5,a6,a7,a8,a9]) rfl (show Cu _ _ _ _ _ _ _ _ _ by rw[A5.o];exact⟨⟨s7,rfl,(A4.o.grown a4.o λm=>aV d3.o g4.o).any (λ_ h=>h) λb _ m=>aV d3.o g4.o⟩,j4.o.grown a4.o λi0 e=>.inl (av (sj e))⟩)
         |ok y=>
          have C:=j7.o;unfold zW at C;rw[f1] at C;obtain⟨⟨n0,n1,f2,A6,A7,s9⟩,f3⟩:=C;have A8:=zh (m9.o.next f1);have A9:=ah (y.length<=1000) (aV (ZL f1) z9.o);rw[f2,f3];refine jo ?_;clear f1 f2 f3 j7 m9;clear c;obtain⟨j8,j9,rfl,B0,B1,_⟩:=L.o.own.form;have B2:=L.o.box.cell 4;have S:=aN j (.cells #[.slice n0 y.length n1] 23);have k0:=zh (L.o.keep S);have t0:=zh (au.new j 23 #[.slice n0 y.length n1]);have B3:=zh ((s9.keep S).any (ok':=λb=>(Value.slice j8 xs.length j9).ownBlock≠some b/\w.heap.size+1<=b) λb _ h=>⟨λe=>av ((s6.o b e).2),aV d3.o g4.o⟩);have B4:=ah (b1.heap.size<=j.heap.size) (ax d3.o A2.o);obtain⟨F4,a1,t1,t2⟩:=k0.o.own;obtain⟨B5,B6,B7,B8,B9⟩:=Sp.info_parts ZQ;have t3:=Ch.Fz t0.o;have F5:xs.length<=7:=aV m4.o g9.o
          clear s9 S;go_wp2_with (at_builtin;refine Ch.uG _ rfl (.tmp 135) (.tmp 137) 156 rfl b1.heap.size 23 B5 qN 1 24 underlying156 B6 B7 B8 B9 rfl aI _ _ _ rfl a1 _ (some (ag j.heap.size (0))) 1 1 [.slice n0 y.length n1] rfl t3 (λc0 h0=>by rw[iT.1 h0];rfl) gy aa (by have:=B4.o;simp;omega) ?_)
          intro C0 c8 t4 k1 t5;have n2:=df.snoc (ok':=λb=>C0.ownBlock≠some b/\w.heap.size+1<=b) t1 t2 A6 A7 B3.o t4 k1 (λb _ m e=>m.1 e.symm) (λb m h=>⟨by
           rcases t5 with e|e
           ·rw[e];exact h.1
           ·rw[e];intro b3;have:=sj b3;rw[dY] at m;omega,h.2⟩)
          have n3:∀b,(Value.slice j8 xs.length j9).ownBlock=some b->b1.heap.size<=b:=λb m=>(s6.o b m).1
          have C1:=zh (k0.o.gr.grown k1 λi0 e=>.inl (n3 i0 e));have n4:=zh (k0.o.box.grown k1 λe=>by have:=n3 _ e.symm;have:=c7.o;have:=g4.o;omega);obtain⟨k2,k3,T,F6,F7,_⟩:=n2.form;have C2:=zh n2;rw[aO,gN] at T;subst T;have F8:=n4.o.frozen 4;have F9:=n4.o.cell 4;clear a1 t1 t2 t4 k1 t5 n3 t3 k0 t0 B2 n2;go_wp2_with fail;have C3:c8.grownBy (c8.setCell (ag g (4)) (.slice k2 (xs.length+1) k3)) (some g):=kJ c8 (ag g (4)) _;have C4:=zh (EW.mk (lo:=w.heap.size+1) (xs:=xs++[y]) (v:=.slice k2 (xs.length+1) k3) (C1.o.set (p:=ag g (4)) (.inr rfl) (.slice k2 (xs.length+1) k3)) (n4.o.set_ 4 (.slice k2 (xs.length+1) k3)) (C2.o.yI6 C3 (aV c7.o g4.o) λb m e=>fD m.2 c7.o (sj e)));go_roundw
          case rel=>exact⟨s+1,xs++[y],_,aa,bi,by rw[aO,gN,m4.o],A8,zh (λC5 C6=>by
           rcases iZ.1 C6 with h|h
           ·exact s2.o C5 h
           ·rw[iT.1 h];exact A9.o),C4⟩
          case measure=>simp[intOf];omega
       ·obtain rfl:s=its.length:=by omega
        obtain⟨j8,j9,rfl,B0,B1,t6⟩:=L.o.own.form;have C7:=zh (show c4 0= .ok xs by
         have C:=j3.o;have C8:c4 its.length= .ok []:=by rw[r9.o];exact Zj (aH _)
         rw[C8] at C;exact C.end)
        have C9:=ah (dE rs (f+1) items z k= .ok (dO rs its xs r l.length)) (by rw[s0.o,C7.o];rfl);have D0:=zh (t6.any (ok':=λb=>w.heap.size+1<=b/\b<wr.heap.size) λb m h=>⟨h.2,m⟩);have D1:=ah (dS (λb=>w.heap.size<b) wr r _) (y8.o.map d3.o (λ_ _ h=>h) λj5 D2 m=>dm (L.o.gr.block _ D2 (av c7.o)));have D3:wr.cell? I=some (qI r.rule):=(dm (L.o.gr.block _ (ll d2.o Y.o.size) m1.o)).trans m2.o.1;have f2:wr.cell? (aF I 1)=some (qI r.at_):=(dm (a:=aF I 1) (L.o.gr.block _ (ll d2.o Y.o.size) m1.o)).trans m2.o.2.1;have f3:wr.cell? (aF I 2)=some (.slice K r.kids.length h8):=(dm (a:=aF I 2) (L.o.gr.block _ (ll d2.o Y.o.size) m1.o)).trans m2.o.2.2;have G0:¬((its.length:Int)<(its.length:Int)):=aa
        clear t6 j3;go_wp2_with fail;refine(Qz (λb=>w.heap.size<b) (λb=>w.heap.size+1<=b/\b<wr.heap.size) g A cap rs c6 d4 its j8 j9 xs (.slice Z z.length b2) (qI (k:Int)) (av i3.o) d5.o s2.o v7.o v8.o (og r) r 0 l.length _ wr (aH _) l7.o d0.o D1.o f8.o L.o.box D0.o (λb h=>h.2) (av e9.o) (aV e9.o m4.o) (av j0.o)).mono ?_;rintro e G1 ⟨G2,rfl,n5,m⟩;obtain⟨t7,h3,t8,t9,u0,u1,u2,rfl⟩:=n5.ext;have D4:=zh (n5.any (ok':=λb=>w.heap.size+1<=b) λb _ h=>h.elim (λh=>h.1) λh=>aV d3.o g4.o);have n6:=kp m g5;have D5:=zh (j4.o.below m);clear n5 m D3 f2 f3 i4;have e4:=n6.o.cell;have e5:=n6.o.frozen;go_wp2_with fail;obtain⟨k9,T,e7,a4⟩:=Bh n6.o (qI t7) (af h3) (af t8) (.slice t9 u0 u1) (af u2);rw[T];obtain⟨a5,a6,a7,a8,a9⟩:=jF e7;exact aB (v:=.tuple #[.agg #[qI t7,af h3,af t8,.slice t9 u0 u1,af u2],.pointer none]) (by simp[results,results119,go_sem,a5,a6,a7,a8,a9]) rfl (show Cu _ _ _ _ _ _ _ _ _ by rw[C9.o];exact⟨⟨_,rfl,(D4.o.grown (ok':=λb=>w.heap.size+1<=b) a4.o (λb _ m e=>av (sj e)) (λ_ _ h=>h)).any λb _ m=>aa⟩,D5.o.grown a4.o λi0 e=>.inl (av (sj e))⟩)
    ·have g0:=zh t;have i9:(((lD rs l).length:Int)==0)=false:=by rw[t];rw[aZ];simp;omega
     have l6:(1:Int)<((lD rs l).length:Int):=by rw[t,aY,aY];omega
     have b7:=ah (dE rs (f+1) items z k= .bad 14 Q) (by rw[f6.o];exact v2.o l r h7 d9 i5.o i8.o t);have D6:=ah (yP rs items z k Q [r,h7]) (by rw[f6.o];exact u8.o l r h7 d9 i8.o t);have n7:=ah (2<=(lD rs l).length/\2<=b0/\b0<=9223372036854775807) (by have:=x6.o;rw[t,aY,aY] at*;omega);have n8:=zh (show iE (λb=>w.heap.size<b) J d1 [r,h7] from λN r f4=>h6.o N r (by
      rw[t]
      match N,f4 with
      |0,f4=>exact f4
      |1,f4=>exact f4
      |N+2,f4=>simp at f4))
     clear t h6;go_upto_region 11 with(fail)
     clear i9 l6;refine qm [2,2,2,2,2,1,1,2] (List.replicate 8 false) (λc=>[.agg qT,.slice F Q.length G,.slice d1 (d9.length+1+1) b0,.slice d1 2 b0,.agg #[qI 14,.slice F Q.length G,.slice d1 2 b0],qP (c.n 90),undef,qP (c.n 90)]) [(5,λc E=>au E (c.n 90) 121 #[qI 14,.slice F Q.length G,.slice d1 2 b0]/\w.heap.size<c.n 90)] (λ_ _=>True) (bV.cons (λc E W h m=>⟨ae m h.1,h.2⟩) bV.nil) (trivial) ?_ ?_
     ·refine⟨jI,jC,jC,λc j=>?_,jI,λc j d D u=>?_,λc j d D u=>?_,jC,trivial⟩
      ·have b3:2<=b0:=n7.o.2.1;exact jp (.slice d1 2 b0) (by simp[go_sem,evAct];try omega) rfl
      ·exact jv (qP j.heap.size) (j.alloc (.cells #[qI 14,.slice F Q.length G,.slice d1 2 b0] 121)) iw ⟨c.setN 90 j.heap.size,rfl,jD,aN j _,⟨⟨au.new j _ _,(ae d B.o).lt⟩,trivial⟩,trivial⟩
      ·have e8:=ae d B.o;have e4:=λN=>e8.cell N
       have e5:=λN=>e8.frozen N
       have c1:=QG e8;exact aP.skip (w':=j) (by simp[go_sem,evAct,e4,e5];exact c1) ⟨c,rfl,lK.same,aL _ _,yh.same aj,D⟩
     ·refine λc j d D u=>?_
      dsimp only[ji] at u;change wpOps _ _ _ [] _ _;obtain⟨⟨f9,h4⟩,-⟩:=u;have e6:=zh f9;have l4:=zh h4;replace M:=jt M d;replace B:=kp d B;replace b6:=zh (b6.o.keep d);replace n8:=zh (n8.o.keep d);clear f9 h4 D d;generalize c.n 90=D7 at*;clear c;refine jo ?_;have l5:=zh B.o;go_wp2_with fail;obtain⟨a5,a6,a7,a8,a9⟩:=qc l5;exact aB (v:=.tuple #[.agg qT,qP D7]) (by simp[results,results119,go_sem,a5,a6,a7,a8,a9]) rfl (show Cu _ _ _ _ _ _ _ _ _ by rw[b7.o];exact⟨⟨_,rfl,F,G,d1,b0,[r,h7],e6.o,a2,c2,b6.o,av l4.o,λH t _=>av (e2.o H t),by have:=n7.o;simp;omega,n7.o.2.2,n8.o.any (λb _ m=>aa),λ_=>D6.o⟩,(Gr.refl g w).below M.o⟩)
end Go.Proofs.YtlefbenkhgbifaaGreatDoor.El
