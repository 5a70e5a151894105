/- The table is filled by increasing length. -/
import Derived.Test.YtlefbenkhgbifaaGreatDoorH722177bb
set_option linter.all false
set_option maxRecDepth 100000
set_option maxHeartbeats 4000000
namespace Go.Proofs.YtlefbenkhgbifaaGreatDoor.Ch
open Go.RowKit Tryz
variable{w w' w0 wr wq:World}{B B' i j gr cap n s g gc k:Nat}{rs:List aD}{ts:List ByteArray}{bs:List Nat}{A:Option Addr}{fill':Nat->Nat->Bool}{rows:Nat->Nat}{b7 b9:Bool}{ok' P:Nat->Prop}{x:Rd}{ks xs:List Rd}{css:List (Array Value)}
def lY.stay {c:Nat}{done:List ja}{D:DataW Unit}{a:Nat->Value}{f:Nat->List Nat}(h:lY w B c rs ts i done D a f){v:Value}(g:df w B' v bs)(d:w.grownBy w' v.ownBlock)(j:∀r b,(a r).ownBlock=some b->v.ownBlock≠some b):lY w' B c rs ts i done D a f:=by
 refine⟨h.own.kept d λe=>?_,h.at_,λr=>?_,λr=>(h.shs r).grow d λk l=>(g.row k l).2.2,h.dis⟩
 ·obtain⟨o,m⟩:=(g.row c e.symm).2.2;exact Eb h.own m
 ·refine gM (h.rows r) d ?_;cases n:(a r).ownBlock with
  |none=>exact .inl rfl
  |some b=>exact .inr λe=>j r b n e.symm
def lY.made :lY (w.alloc (.map #[] 0)) w.heap.size w.heap.size rs ts i [] (.map []) (λ_=>qN) (λ_=>[]):=
 ⟨uo _ _ _ _,λr=>rfl,λr=>df.nil _ _,λr=>jm.nil,λr a _ b h=>by cases h⟩
def IG (w4 w6:World)(g gm gt gi bm:Nat)(rs:List aD)(ts:List ByteArray)(i j:Nat):List Bool->Unit->World->Prop
 |[false],_,wq=>Below w6.heap.size w6 wq
 |[true],_,wq=>yF w4 g gm gt gi bm rs ts i (rU rs ts i j) wq
 |_,_,_=>False
def Mm (h:j=i+1/\ed ts i oD=true):qB ts i j=[.mk (-1) i []]:=by unfold qB;rw[ak h]
def II (h:¬(j=i+1/\ed ts i oD=true)):qB ts i j=[]:=by unfold qB;rw[ai h]
def SY {α:Type}(f:Nat->List α)(r:Nat):(List.range (r+1)).flatMap f=(List.range r).flatMap f++f r:=by
 rw[oQ,fH];simp
def Ta {r:Nat}{l:List ja}:((List.range r).flatMap λn=>kN rs ts i n l).length<=2*r:=by
 have:=DZ (f:=λn=>kN rs ts i n l) (b:=2) (l:=List.range r) λn _=>Fg
 rw[List.length_range] at this;omega
def Tc {v:Value}{a:List Nat}(h:w.ownsRow B 174 1 v (bs.length+a.length) (bs.map bB++a.map bB)):df w B v (bs++a):=by
 unfold df;rw[aO,dX];exact h
def Td :∀u∈bs.map bB,u.oneCell'=true:=by
 intro u a;obtain⟨b,_,rfl⟩:=nM.1 a;rfl
def Te (g:Nat)(F:pK)(rs:List aD)(ts:List ByteArray)(gc:Nat)(rows:Nat->Nat)(fill:Nat->Nat->Bool)(i j:Nat)(w:World)(Q:fZ rs=true)(c7:iP w g F rs ts gc rows fill)(b5:i<j)(W:j<=ts.length)(c8:∀p q,i<=p->p<q->q<=j->q -p<j -i->fill p q=true)(f6:rs.length<=1000000)(c9:ts.length<=1000000):
  Calls prog 161 #[bB g,.int .i64 i,.int .i64 j] w (Mh rs (vS rs ts i j) w):=by
 obtain⟨d0,d1,d2,d3,d4⟩:=info_parts Fw;obtain⟨R,Y,i1,Z,I,a0,P,a1,a2,a3⟩:=F;have f7:=zh (Rj Q b5 W);have f8:∀(d5:Fn) (first cap:Array Value) (w:World),(Instr.makeFunc d5 first cap).run prog w= .ok (.func d5 first cap) w:=λ_ _ _ _=>rfl
 have f9:= @run_makeMap prog;have b6:=(aN w (.cells #[bB g] 170)).trans ((aN (w.alloc (.cells #[bB g] 170)) (.cells #[.int .i64 i] 3)).mono aS);have m:=zh (c7.keep b6);have G:=zh b6;have B:=zh ((au.new w 170 #[bB g]).alloc (.cells #[.int .i64 i] 3));have t:=au.new (w.alloc (.cells #[bB g] 170)) 3 #[.int .i64 i];rw[dY] at t;have t:=zh t;have g0:=zh c8;clear b6 c7 c8 Q;have i2:j<=ts.length:=W;obtain⟨s,b7⟩:∃s,ts[i]?=some s:=⟨_,gE aa⟩
 have d6:=ah (ed ts i oD=(s.toList==oD)) (by unfold ed;rw[b7]);obtain⟨_,a4,d7,g1,g2⟩:=m.o.fin.toks i s b7;dsimp only at d7;subst d7;clear b7;go_enter func161,ntmps161;go_upto_region 2 with(fail)
 generalize (w.alloc (.cells #[bB g] 170)).alloc (.cells #[.int .i64 i] 3)=d8 at*;have b8:(⟨#[35]⟩:ByteArray).toList=oD:=by rw[bz];rfl
 go_cut [24] (λb wc=>b= .bool (!(qB ts i j).isEmpty)/\∃n,wc=d8.drewN n)
 case first=>
  by_cases a5:j=i+1
  ·have g3:((j:Int)==(i:Int)+1)=true:=by rw[aT];omega
   have g4:=m.o.blk.cell 1;have b9:=t.o.cell 0;have d9:=B.o.cell 0;have i3:(i:Int)<(ts.length:Int):=aa
   dsimp only at g4;have y:=zh (show(!(qB ts i j).isEmpty)=(s.toList==oD) by
    cases e0:(s.toList==oD)
    ·rw[II (λh=>by rw[d6.o,e0] at h;exact absurd h.2 aS)];rfl
    ·rw[Mm ⟨a5,by rw[d6.o];exact e0⟩];rfl)
   clear a5 b8
   go_quiet (fail)
   go_wp2;go_meet;exact⟨by rw[y.o];rfl,⟨_,rfl⟩⟩
  ·have g3:((j:Int)==(i:Int)+1)=false:=by rw[aZ];omega
   have b9:=t.o.cell 0;have y:=ah ((!(qB ts i j).isEmpty)=false) (by rw[II (λh=>a5 h.1)];rfl);clear a5 b8
   go_quiet (fail)
   go_wp2;go_meet;exact⟨by rw[y.o],⟨_,rfl⟩⟩
 case rest=>
  clear g2 g1 b8;obtain⟨rfl,S,g5⟩:=hcut;subst g5;have m:=zh (m.o.keep (below_drewN (aL _ _) S));have G:=zh (below_drewN G.o S);have B:=zh (au.drewN B.o S);have t:=zh (au.drewN t.o S);generalize d8.drewN S=e at*;go_upto_if 24 with(fail)
  go_cut [7] (λv wc=>∃bs,Hy (df wc w.heap.size v bs)/\Hy (jm rs wc bs (qB ts i j))/\Hy (Below e.heap.size e wc))
  case first=>
   by_cases d:j=i+1/\ed ts i oD=true
   ·have y:=zh (Mm d);rw[y.o];have b9:=t.o.cell 0;clear d;have C:=(aN e (.cells (uE rs (-1) i (.pointer none) (.pointer none)) 212)).trans ((aN (e.alloc (.cells (uE rs (-1) i (.pointer none) (.pointer none)) 212)) (.cells #[bB e.heap.size] 174)).mono aS);have e1:=zh ((au.new e 212 (uE rs (-1) i (.pointer none) (.pointer none))).alloc (.cells #[bB e.heap.size] 174));have K:World.ownsRow _ w.heap.size 174 1 qN 0 []:=df.nil ((e.alloc (.cells (uE rs (-1) i (.pointer none) (.pointer none)) 212)).alloc (.cells #[bB e.heap.size] 174)) w.heap.size;have a6:=Bb (e.alloc (.cells (uE rs (-1) i (.pointer none) (.pointer none)) 212)) [bB e.heap.size] 174;rw[dY] at a6;have c0:=zh G.o.size;have e2:=zh C;clear C;rw[show uE rs (-1) i (.pointer none) (.pointer none)= #[.int .i64 (-1),.int .i64 i,.int .i64 101,.pointer none,.pointer none] from rfl] at a6 K;go_wp2_with (at_builtin;refine uj _ rfl (.tmp 25) (.tmp 29) 172 rfl w.heap.size 174 d0 (.pointer none) 1 8 underlying172 d1 d2 d3 d4 rfl aI _ _ _ rfl K ⟨e.heap.size+1,0,none⟩ 1 1 [bB e.heap.size] rfl rfl a6 ?c2a ?c3a ?c4a ?c5a ?_)
    case c2a=>intro i4 e3;simp at e3;subst e3;rfl
    case c3a=>unfold maxLen;omega
    case c4a=>omega
    case c5a=>have:=c0.o;simp;omega
    intro e4 c T z _ a7;have c1:=zh (Fx (bs:=[]) (b:=e.heap.size) rfl T);have a8:=zh (jm.snoc (rs:=rs) jm.nil (jh.leaf _ _ _ (e1.o.grown z (by simp[Value.ownBlock]))));have a9:=zh (e2.o.grown z e2.o.size (λk c2=>by simp[Value.ownBlock] at c2));clear K T z a7 a6 e1 b9;go_wp2;go_meet;exact⟨_,c1,by rw[y.o];exact a8,a9⟩
   ·have y:=zh (II d);rw[y.o];clear d;go_wp2;go_meet;exact⟨[],df.nil _ _,by rw[y.o];exact jm.nil,aL _ _⟩
  case rest=>
   obtain⟨bs,o,A,d⟩:=hcut;have m:=zh (m.o.keep d.o);have G:=zh (G.o.trans (d.o.mono G.o.size));have B:=zh (ae d.o B.o);have t:=zh (ae d.o t.o);generalize wc=c at*;clear d;have e5:=o;go_upto_region 5 with(fail)
   have C:=(aN c (.map #[] 0)).trans ((aN (c.alloc (.map #[] 0)) (.cells #[.map (some c.heap.size)] 226)).mono aS);have x:=au.new (c.alloc (.map #[] 0)) 226 #[.map (some c.heap.size)];rw[dY] at x;have b0:=ah (yF c g (c.heap.size+1) w.heap.size (w.heap.size+1) c.heap.size rs ts i [] _) ⟨x,ae C B.o,ae C t.o,C,⟨_,_,_,lY.made.keep ((aN (c.alloc (.map #[] 0)) (.cells #[.map (some c.heap.size)] 226)))⟩,aH _⟩;have e6:=zh (m.o.keep C);clear C x f9;generalize (c.alloc (.map #[] 0)).alloc (.cells _ 226)=g6 at*;refine xX (X:=Unit) aj _ (λM=>[qP g,qP g,qP g,.agg #[.slice R rs.length Y,.slice (some a4) ts.length Z,.slice I ts.length a0,.slice P ts.length a1,.slice a2 ts.length a3,.int .i64 (eB rs 4 [])],.int .i64 i,.int .i64 j,.func (.func 181) #[] #[qP (c.heap.size+1),qP w.heap.size,qP (w.heap.size+1)],undef]) [true,true,true,true,true,true,true,true] [7] (IG c g6 g (c.heap.size+1) w.heap.size (w.heap.size+1) c.heap.size rs ts i j) () aj (λM=>by simp[fin,mX,fK,List.range,List.range.loop,Act.put];rfl) (λ_=>aj) aj (fC (aL _ _)) ?_ ?_
   ·refine⟨λL M wq b1 d N f=>?_,jT,jT,λL M wq b1 d N f=>?_,λL M wq b1 d N f=>?_,jS,jT,λL M wq b1 d N f=>?_,trivial⟩
    ·have H:L 7=false:=N 7 aj;have D:=f;simp only[List.map,H] at D;have U:=(b0.o.keep D).vt.cell 0;exact jq (qP g) wq (bE U) rfl f
    ·have H:L 7=false:=N 7 aj;have D:=f;simp only[List.map,H] at D;have U:=λk=>(e6.o.keep D).blk.cell k
     exact jq (.agg #[.slice R rs.length Y,.slice (some a4) ts.length Z,.slice I ts.length a0,.slice P ts.length a1,.slice a2 ts.length a3,.int .i64 (eB rs 4 [])]) wq (bE U) rfl f
    ·have H:L 7=false:=N 7 aj;have D:=f;simp only[List.map,H] at D;have U:=(b0.o.keep D).vi.cell 0;exact jq (.int .i64 i) wq (bE U) rfl f
    ·have H:L 7=false:=b1;simp only[List.map,H] at f⊢;refine jc 180 (#[.agg #[.slice R rs.length Y,.slice (some a4) ts.length Z,.slice I ts.length a0,.slice P ts.length a1,.slice a2 ts.length a3,.int .i64 (eB rs 4 [])],.int .i64 i,.int .i64 j,.func (.func 181) #[] #[qP (c.heap.size+1),qP w.heap.size,qP (w.heap.size+1)]]) wq aj ((SA 181 #[bB (c.heap.size+1),bB w.heap.size,bB (w.heap.size+1)] ⟨R,Y,(some a4),Z,I,a0,P,a1,a2,a3⟩ rs ts i j (yF c g (c.heap.size+1) w.heap.size (w.heap.size+1) c.heap.size rs ts i) wq b5 W c9 (λg7 w V=>m.o.fin.keep V.below) (λg7 w w' V d=>V.keep d) (SX g _ rs ts gc rows fill i j _ _ _ _ c m.o b5 W g0.o f6 c9) (b0.o.keep f) (λ_ _=>by rfl)).mono ?_);rintro i5 i6 ⟨rfl,V⟩;exact⟨_,rfl,(),rfl,lK.same,V⟩
   ·intro M wq f;have e7:Hy (yF c g (c.heap.size+1) w.heap.size (w.heap.size+1) c.heap.size rs ts i (rU rs ts i j) wq):=f;clear f b0 e6;obtain⟨e8,e9,g8,d,⟨g9,b2,J,c3⟩,_⟩:=e7.o;have x:=zh e8;have B:=zh e9;have u:=zh c3;have E:=jt G d;have o:=zh (o.o.keep d);have A:=zh (A.o.keep d);have m:=zh (m.o.keep d);have O:=zh (show ∀r b,(b2 r).ownBlock=some b->u7.ownBlock≠some b from λr b b3 c4=>by
     have:=((c3.rows r).row b b3).1;have:=(e5.o.row b c4).2.1;omega)
    clear e8 e9 g8 d c3 e7 t e5 f8;have d9:=B.o.cell 0;have f0:=m.o.blk.cell 0;dsimp only at f0;go_wp2_with fail;clear d9 f0
    go_loopw [7,46] (λv n wr=>∃(r:Nat) (bs:List Nat),r<=rs.length/\n= .int .i64 r/\Hy (df wr w.heap.size v bs)/\Hy (jm rs wr bs (qB ts i j++(List.range r).flatMap λn=>kN rs ts i n (rU rs ts i j)))/\Hy (lY wr c.heap.size c.heap.size rs ts i (rU rs ts i j) g9 b2 J)/\Hy (au wr (c.heap.size+1) 226 #[.map (some c.heap.size)])/\Hy (Below w.heap.size w wr)/\Hy (∀r b,(b2 r).ownBlock=some b->v.ownBlock≠some b)) (λ_ n _=>rs.length -(intOf n).toNat)
    case atStart=>exact⟨0,bs,aa,rfl,o,by rw[show(List.range 0).flatMap (λn=>kN rs ts i n (rU rs ts i j))=[] from rfl,bX];exact A,u,x,E,O⟩
    case round=>
     clear o A u x E O m;obtain⟨r,b4,f1,rfl,o,A,u,x,E,O⟩:=hrel
     by_cases i7:r<rs.length
     ·have h0:=zh (SY (λn=>kN rs ts i n (rU rs ts i j)) r);have h1:=zh (Maps.keyOf_int_mk (P:=prog) (k:=3) underlying3 (q:=.i64) (a:=(r:Int)) (WalkArith.wf_i64 aa));obtain⟨v,i8,f2,Q⟩:=u.o.own.lookup Ae underlying226 (IE _) (show qG qN=some (nU qN,[]) from rfl) h1.o;obtain rfl:=IC (u.o.rows r).ok (by rw[<-u.o.at_ r];exact Q);obtain⟨f3,f4,c5,i9,_,_⟩:=(u.o.rows r).form;rw[c5] at f2;have h2:=x.o.cell 0;have f5:=dL.zIi (show wr.ownsRow c.heap.size 174 1 (.slice f3 (J r).length f4) (J r).length ((J r).map bB) from by rw[<-c5];exact u.o.rows r);have h3:b4.length<=2*r+1:=by
       rw[A.o.1,aO];have:=Ta (rs:=rs) (ts:=ts) (i:=i) (r:=r) (l:=rU rs ts i j);have:(qB ts i j).length<=1:=by unfold qB;split<;>simp
       omega
      have h4:(J r).length<=2:=by rw[(u.o.shs r).1];exact Fg
      obtain⟨h5,h6,h7,j0,j1,_⟩:=o.o.form;subst h7;have K:World.ownsRow wr w.heap.size 174 1 (.slice h5 b4.length h6) b4.length (b4.map bB):=o.o;have c0:=zh E.o.size;clear Q c5;go_wp2_with (at_builtin;refine uG _ rfl (.tmp 49) (.tmp 52) 172 rfl w.heap.size 174 d0 (.pointer none) 1 8 underlying172 d1 d2 d3 d4 rfl aI _ _ _ rfl K wr.heap.size f3 (J r).length f4 ((J r).map bB) rfl f5 Td ?c3a ?c4a ?c5a ?_)
      case c3a=>unfold maxLen;omega
      case c4a=>omega
      case c5a=>exact c0.o
      intro e4 j2 T z a7;have c1:=zh (Tc T);have a8:=zh (u.o.stay o.o z O.o);have c6:=λr f1=>(o.o.row r f1).2.2
      have a9:=zh ((A.o.grow z c6).append (a8.o.shs r));have h8:=zh (x.o.stay z c6 aI);have h9:=zh (show ∀r b,(b2 r).ownBlock=some b->e4.ownBlock≠some b from λr b b3=>by
       rcases a7 with h|h
       ·rw[h];exact O.o r b b3
       ·rw[h];intro c4;have:=((u.o.rows r).row b b3).2.1;have:=sj c4;omega)
      have i0:=zh (E.o.grown z E.o.size (λk c2=>(o.o.row k c2).1));rw[cu,<-h0.o] at a9;clear K T z a7 c6 f5 f2 h2 o A u x E O h3 h4;go_wp2;go_roundw
      case rel=>exact⟨r+1,_,aa,bi,c1,a9,a8,h8,i0,h9⟩
      case measure=>simp[intOf];omega
     ·obtain rfl:r=rs.length:=by omega
      go_wp2;go_ret;exact⟨_,_,rfl,o.o,by rw[f7.o];exact A.o,E.o⟩
def Tf:(prog.info? 172).map (λi=>(i.zero,i.size,i.bytes))=some (some qN,1,24):=aj
def Tg:(prog.info? 208).map (λi=>(i.zero,i.size,i.bytes))=some (some qN,1,24):=aj
abbrev BI (n:Nat):Array Value:=madeCells #[qN] n
structure kD (w0 w:World)(g:Nat)(F:pK)(rs:List aD)(ts:List ByteArray)(gc:Nat)(rows:Nat->Nat)(k:Nat)(fill:Nat->Nat->Bool):Prop where
 blk:au w g 207 #[.slice F.R rs.length F.cR,.slice F.T ts.length F.cT,.slice F.I ts.length F.cI,.slice F.P ts.length F.cP,.slice F.Q ts.length F.cQ,qI (eB rs 4 []),.slice (some (ag gc (0))) ts.length ts.length]
 i1:vD w F.I (vE rs ts 1)
 i2:vD w F.P (vE rs ts 2)
 i3:vD w F.Q (vE rs ts 3)
 outer:∃cs,au w gc 208 cs/\cs.size=ts.length/\∀i,i<k->cs[i]?=some (.slice (some ⟨rows i,0,none⟩) (ts.length+1) (ts.length+1))
 row:∀i,i<k->∃cs,au w (rows i) 172 cs/\cs.size=ts.length+1/\∀j,fill i j=true->∃A cap bs,cs[j]?=some (.slice A bs.length cap)/\bs.length<=cap/\cap<=9223372036854775807/\uF w A bs/\jm rs w bs (vS rs ts i j)
 inj:∀i i',i<k->i'<k->rows i=rows i'->i=i'
 below:Below w0.heap.size w0 w
 low:w0.heap.size<=gc/\∀i,i<k->w0.heap.size<=rows i
section
variable {w0 w : World} {g : Nat} {F : pK} {rs : List aD} {ts : List ByteArray} {gc : Nat} {rows : Nat -> Nat} {k : Nat} {fill : Nat -> Nat -> Bool}
def kD.keep {w':World}(h:kD w0 w g F rs ts gc rows k fill)(a:Below w.heap.size w w'):kD w0 w' g F rs ts gc rows k fill:=by
 obtain⟨l,m,n,o,⟨c,p,q,r⟩,d,e,b,f⟩:=h;refine⟨jL a l,m.keep a,n.keep a,o.keep a,⟨c,jL a p,q,r⟩,λi s=>?_,e,b.trans (a.mono b.size),f⟩;obtain⟨c,d,e,b⟩:=d i s;refine⟨c,jL a d,e,λj t=>?_⟩;obtain⟨A,cap,bs,f,u,v,x,y⟩:=b j t;exact⟨A,cap,bs,f,u,v,x.keep a,y.keep a⟩
def kD.tab (h:kD w0 w g F rs ts gc rows ts.length fill)(b:fG w0 F.R rs)(c:uT w0 F.T ts):iP w g F rs ts gc rows fill:=by
 obtain⟨d,e,f,i,⟨j,k,n,l⟩,m,o,a,p⟩:=h;exact⟨d,⟨b.keep a,c.keep a,e,f,i⟩,⟨j,k,l⟩,m⟩
def kD.grow (h:kD w0 w g F rs ts gc rows k λ_ _=>false)(v:k<ts.length)(x:au w gr 172 (BI (ts.length+1)))(r:∀i,i<k->rows i≠gr)(y:w0.heap.size<=gr):
  kD w0 (w.setCell (ag gc k) (.slice (some (ag gr (0))) (ts.length+1) (ts.length+1))) g F rs ts gc (λi=>if i=k then gr else rows i) (k+1) λ_ _=>false:=by
 obtain⟨z,A,B,C,⟨s,c,u,D⟩,E,G,H,m⟩:=h;have far:∀b t d,au w b t d->t≠208->au (w.setCell (ag gc k) (.slice (some (ag gr (0))) (ts.length+1) (ts.length+1))) b t d:=λb t d f I=>f.far (λe=>by
  have e:b=gc:=e;rw[e] at f;exact I (zH f c)) _
 refine⟨far _ _ _ z aI,A.set_ c aI _,B.set_ c aI _,C.set_ c aI _,⟨_,c.set_ k _,by simpa using u,λi n=>?_⟩,λi n=>?_,λi a n K e=>?_,H.setCell (p:=ag gc k) m.1 _,m.1,λi n=>?_⟩
 ·by_cases e:i=k
  ·rw[ak e,e];simp[u,v]
  ·rw[ai e,wG (λh=>e h.symm)];exact D i aa
 ·show ∃s,au _ (if i=k then gr else rows i) _ s/\_
  by_cases e:i=k
  ·rw[ak e];exact⟨_,far _ _ _ x aI,by simp[size_madeCells],λj o=>by cases o⟩
  ·rw[ai e];obtain⟨d,J,f,L⟩:=E i aa;exact⟨d,far _ _ _ J aI,f,λj o=>by cases o⟩
 ·have e:(if i=k then gr else rows i)=(if a=k then gr else rows a):=e
  by_cases q:i=k
  ·by_cases l:a=k
   ·omega
   ·rw[ak q,ai l] at e;exact(r a aa e.symm).elim
  ·by_cases l:a=k
   ·rw[ai q,ak l] at e;exact(r i aa e).elim
   ·rw[ai q,ai l] at e;exact G i a aa aa e
 ·show _<=(if i=k then gr else rows i)
  by_cases e:i=k
  ·rw[ak e];exact y
  ·rw[ai e];exact m.2 i aa
def kD.store (h:kD w0 w g F rs ts gc rows ts.length fill)(l:i<ts.length)(a3:j<=ts.length)(H:bs.length<=cap)(I:cap<=9223372036854775807)(J:uF w A bs)(K:jm rs w bs (vS rs ts i j))(C:∀p q,fill' p q=true->fill p q=true\/(p=i/\q=j)):
  kD w0 (w.setCell (ag (rows i) j) (.slice A bs.length cap)) g F rs ts gc rows ts.length fill':=by
 obtain⟨L,M,N,O,⟨P,Q,R,S⟩,D,E,T,G⟩:=h;obtain⟨U,c,V,W⟩:=D i l;have far:∀b t m,au w b t m->t≠172->au (w.setCell (ag (rows i) j) (.slice A bs.length cap)) b t m:=λb t m d X=>d.far (λe=>by
  have e:b=rows i:=e;rw[e] at d;exact X (zH d c)) _
 have n:∀f a,uF w f a->uF (w.setCell (ag (rows i) j) (.slice A bs.length cap)) f a:=λf a k=>k.set_ (p:=ag (rows i) j) c aI _
 have o:∀a xs,jm rs w a xs->jm rs (w.setCell (ag (rows i) j) (.slice A bs.length cap)) a xs:=λa xs k=>k.set_ (p:=ag (rows i) j) c aI _
 refine⟨far _ _ _ L aI,M.set_ (p:=ag (rows i) j) c aI _,N.set_ (p:=ag (rows i) j) c aI _,O.set_ (p:=ag (rows i) j) c aI _,⟨P,far _ _ _ Q aI,R,S⟩,λp k=>?_,E,T.setCell (p:=ag (rows i) j) (G.2 i l) _,G⟩
 by_cases e:p=i
 ·subst e;refine⟨_,c.set_ j _,by simpa using V,λq r=>?_⟩
  by_cases s:q=j
  ·subst s;exact⟨A,cap,bs,(show(U.setIfInBounds q (.slice A bs.length cap))[q]?=some (.slice A bs.length cap) by rw[tV];simp;omega),H,I,n _ _ J,o _ _ K⟩
  ·have u:fill p q=true:=by
    rcases C p q r with h|h
    ·exact h
    ·exact(s h.2).elim
   obtain⟨f,v,a,x,d,y,z,B⟩:=W q u;exact⟨f,v,a,by rw[wG (λh=>s h.symm)];exact x,d,y,n _ _ z,o _ _ B⟩
 ·obtain⟨Y,Z,a0,a1⟩:=D p k;refine⟨Y,Z.far (λa2=>e (E p i k l a2)) _,a0,λq r=>?_⟩;have u:fill p q=true:=by
   rcases C p q r with h|h
   ·exact h
   ·exact(e h.1).elim
  obtain⟨f,v,a,x,d,y,z,B⟩:=a1 q u;exact⟨f,v,a,x,d,y,n _ _ z,o _ _ B⟩
end
def Ag (w:World)(rs:List aD)(ts:List ByteArray):List Bool->pK×Nat×Nat->World->Prop
 |[b2,b4,b6],gx,wq=>Below w.heap.size w wq/\(b2=true->Ab wq gx.1 rs ts/\fG w gx.1.R rs/\uT w gx.1.T ts)/\(b4=true->au wq gx.2.1 208 (BI ts.length)/\w.heap.size<=gx.2.1)/\(b6=true->au wq gx.2.2 207 #[.slice gx.1.R rs.length gx.1.cR,.slice gx.1.T ts.length gx.1.cT,.slice gx.1.I ts.length gx.1.cI,.slice gx.1.P ts.length gx.1.cP,.slice gx.1.Q ts.length gx.1.cQ,qI (eB rs 4 []),.slice (some (ag gx.2.1 (0))) ts.length ts.length])
 |_,_,_=>False
def Ag.keep {w:World}{rs:List aD}{ts:List ByteArray}{b c d:Bool}{f:pK×Nat×Nat}{wq w':World}(h:Ag w rs ts [b,c,d] f wq)(a:Below wq.heap.size wq w'):Ag w rs ts [b,c,d] f w':=
 ⟨h.1.trans (a.mono h.1.size),λe=>⟨(h.2.1 e).1.keep a,(h.2.1 e).2⟩,λe=>⟨jL a (h.2.2.1 e).1,(h.2.2.1 e).2⟩,λe=>jL a (h.2.2.2 e)⟩
def IJ (rs:List aD)(ts:List ByteArray)(w:World)(e:Ending)(w':World):Prop:=∃g F gc rows,e= .returned (bB g)/\iP w' g F rs ts gc rows (λp q=>decide (p<q)&&decide (q<=ts.length))/\Below w.heap.size w w'
def Ah (n s i:Nat)(p q:Nat):Bool:=decide (p<q)&&(decide (q<=n)&&(decide (q -p<s)||(decide (q -p=s)&&decide (p<i))))
def Ec {p q:Nat}:Ah n s i p q=true↔p<q/\q<=n/\(q -p<s\/(q -p=s/\p<i)):=by
 unfold Ah;simp
def BJ (w0 wr:World)(g:Nat)(F:pK)(rs:List aD)(ts:List ByteArray)(gc:Nat)(rows:Nat->Nat)(k:Nat):List Bool->Nat->World->Prop
 |[false,_],_,wq=>Below wr.heap.size wr wq
 |[true,false],gr,wq=>Below wr.heap.size wr wq/\au wq gr 172 (BI (ts.length+1))/\wr.heap.size<=gr
 |[true,true],gr,wq=>kD w0 wq g F rs ts gc (λi=>if i=k then gr else rows i) (k+1) λ_ _=>false
 |_,_,_=>False
def BJ.bel {F:pK}(h:BJ w0 wr g F rs ts gc rows k [b7,b9] gr wq)(a:b9=false):Below wr.heap.size wr wq:=by
 subst a;cases b7
 ·exact h
 ·exact h.1
def kD.sub {F:pK}{fill:Nat->Nat->Bool}(h:kD w0 w g F rs ts gc rows k fill)(a:∀p q,fill' p q=true->fill p q=true):kD w0 w g F rs ts gc rows k fill':=by
 obtain⟨b,c,d,e,f,l,m,n,o⟩:=h;refine⟨b,c,d,e,f,λi r=>?_,m,n,o⟩;obtain⟨s,t,u,v⟩:=l i r;exact⟨s,t,u,λj x=>v j (a i j x)⟩
def BK (w0 wr:World)(g:Nat)(F:pK)(rs:List aD)(ts:List ByteArray)(gc:Nat)(rows:Nat->Nat)(s i:Nat):List Bool->Value×List Nat->World->Prop
 |[false,_],_,wq=>Below wr.heap.size wr wq
 |[true,false],gx,wq=>Below wr.heap.size wr wq/\df wq wr.heap.size gx.1 gx.2/\jm rs wq gx.2 (vS rs ts i (i+s))
 |[true,true],_,wq=>kD w0 wq g F rs ts gc rows ts.length (Ah ts.length s (i+1))
 |_,_,_=>False
def BK.bel {F:pK}{gr:Value×List Nat}(h:BK w0 wr g F rs ts gc rows s i [b7,b9] gr wq)(a:b9=false):Below wr.heap.size wr wq:=by
 subst a;cases b7
 ·exact h
 ·exact h.1
def Ti (A T:Option Addr)(cap O:Nat)(rs:List aD)(ts:List ByteArray)(w:World)(a8:fZ rs=true)(a9:fG w A rs)(b0:uT w T ts)(b1:rs.length<=1000000)(b2:ts.length<=1000000):Calls prog 132 #[.slice A rs.length cap,.slice T ts.length O] w (IJ rs ts w):=by
 obtain⟨c1,D,c2,c3,c4⟩:=info_parts Tf;obtain⟨c5,c6,c7,c8,c9⟩:=info_parts Tg;have d0:=zh a8;have b3:=zh a9;have b4:=zh b0;clear a8 a9 b0;go_enter func132,ntmps132;go_upto_region 2 with(fail)
 refine xX (X:=pK×Nat×Nat) aj _ (λa=>[.slice A rs.length cap,.slice T ts.length O,.agg #[.slice a.1.R rs.length a.1.cR,.slice a.1.T ts.length a.1.cT,.slice a.1.I ts.length a.1.cI,.slice a.1.P ts.length a.1.cP,.slice a.1.Q ts.length a.1.cQ,qI (eB rs 4 [])],qI ts.length,.slice (some (ag a.2.1 (0))) ts.length ts.length,.agg #[.slice a.1.R rs.length a.1.cR,.slice a.1.T ts.length a.1.cT,.slice a.1.I ts.length a.1.cI,.slice a.1.P ts.length a.1.cP,.slice a.1.Q ts.length a.1.cQ,qI (eB rs 4 []),.slice (some (ag a.2.1 (0))) ts.length ts.length],aR a.2.2 (0),aR a.2.2 (0)]) [true,true,true,true,true,true,true,true] [2,4,6] (Ag w rs ts) (⟨none,0,none,0,none,0,none,0,none,0⟩,0,0) aj (λa=>by simp[fin,mX,fK,List.range,List.range.loop,Act.put];rfl) (λ_=>aj) aj ⟨fC (aL _ _),(λh=>by cases h),(λh=>by cases h),λh=>by cases h⟩ ?_ ?_
 ·refine⟨jS,jS,λL a wq d e f b=>?_,jS,λL a wq d e f b=>?_,jT,λL a wq d e f b=>?_,jS,trivial⟩
  ·have U:L 2=false:=d;have J:L 6=false:=f 6 aj;simp only[List.map,U,J] at b⊢;refine jc 160 (#[.slice A rs.length cap,.slice T ts.length O]) wq aj ((Sg A T cap O rs ts wq (b3.o.keep b.1) (b4.o.keep b.1) b1 b2).mono ?_);rintro b5 d1 ⟨F,rfl,C,d2,V⟩;have n:=b.keep V;obtain⟨rfl,rfl⟩:=d2;exact⟨_,rfl,(F,a.2),rfl,jD,n.1,(λ_=>⟨C,b3.o,b4.o⟩),n.2.2.1,λh=>by cases h⟩
  ·have W:L 4=false:=d;have J:L 6=false:=f 6 aj;simp only[List.map,W,J] at b⊢;have K:=run_make (P:=prog) wq 205 208 c5 qN underlying205 c6 c7 .i64 .i64 ts.length ts.length aa aa (by rw[c9];omega) aa;rw[c8,Nat.mul_one,fU] at K;have n:=b.keep (aN wq (.cells (BI ts.length) 208));exact jv (.slice (some (ag wq.heap.size (0))) ts.length ts.length) (wq.alloc (.cells (BI ts.length) 208)) (by simp[go_sem,K]) ⟨(a.1,wq.heap.size,a.2.2),rfl,jD,n.1,n.2.1,(λ_=>⟨au.new _ _ _,b.1.size⟩),λh=>by cases h⟩
  ·have U:L 2=true:=e 2 aj;have W:L 4=true:=e 4 aj;have J:L 6=false:=d;simp only[List.map,U,W,J] at b⊢;have n:=b.keep (aN wq (.cells #[.slice a.1.R rs.length a.1.cR,.slice a.1.T ts.length a.1.cT,.slice a.1.I ts.length a.1.cI,.slice a.1.P ts.length a.1.cP,.slice a.1.Q ts.length a.1.cQ,qI (eB rs 4 []),.slice (some (ag a.2.1 (0))) ts.length ts.length] 207));exact jv (qP wq.heap.size) (wq.alloc (.cells #[.slice a.1.R rs.length a.1.cR,.slice a.1.T ts.length a.1.cT,.slice a.1.I ts.length a.1.cI,.slice a.1.P ts.length a.1.cP,.slice a.1.Q ts.length a.1.cQ,qI (eB rs 4 []),.slice (some (ag a.2.1 (0))) ts.length ts.length] 207)) ol ⟨(a.1,a.2.1,wq.heap.size),rfl,jD,n.1,n.2.1,n.2.2.1,λ_=>au.new _ _ _⟩
 ·intro a wq b;obtain⟨F,gc,g⟩:=a;obtain⟨e,C,Y,b6⟩:=b;obtain⟨C,b7,b8⟩:=C rfl;have Z:=zh b7;have a0:=zh b8;have c:Hy (kD w wq g F rs ts gc (λ_=>0) 0 λ_ _=>false):=⟨b6 rfl,C.inf,C.pre,C.post,⟨_,(Y rfl).1,by simp[size_madeCells],(λi D=>aa)⟩,(λi D=>aa),(λi e7 D=>aa),e,(Y rfl).2,λi D=>aa⟩
  clear e C Y b6 b7 b8;obtain⟨R,o,r,t,I,u,P,x,Q,y⟩:=F;dsimp only at Z a0;have d3:=c.o.blk.cell 6;go_wp2_with fail;clear d3
  go_loopw [24] (λi wr=>∃(k:Nat) (rows:Nat->Nat),k<=ts.length/\i=qI k/\Hy (kD w wr g ⟨R,o,r,t,I,u,P,x,Q,y⟩ rs ts gc rows k λ_ _=>false)) (λi _=>ts.length -(intOf i).toNat)
  case atStart=>exact⟨0,_,aa,rfl,c⟩
  case round=>
   clear c;obtain⟨k,rows,e8,rfl,c⟩:=hrel
   by_cases b9:k<ts.length
   ·go_upto_region 6 with(fail)
    refine xX (X:=Nat) aj _ (λgr=>[qP g,qP g,aR g (6),.slice (some (ag gc (0))) ts.length ts.length,qI k,qI ts.length,qI ((ts.length:Int)+1),.slice (some (ag gr (0))) (ts.length+1) (ts.length+1),aR gc k,undef]) [true,true,true,true,true,true,true,true,true,true] [7,9] (BJ w wr g ⟨R,o,r,t,I,u,P,x,Q,y⟩ rs ts gc rows k) 0 aj (λgr=>by simp[fin,mX,fK,List.range,List.range.loop,Act.put];rfl) (λ_=>aj) aj (fC (aL _ _)) ?_ ?_
    ·refine⟨jS,jT,jT,λL gr l d e f b=>?_,jS,jS,λL gr l d e f b=>?_,λL gr l d e f b=>?_,λL gr l d e f b=>?_,λL gr l d e f b=>?_,trivial⟩
     ·have B:=(c.o.keep (b.bel (f 9 aj))).blk.cell 6;exact jq (.slice (some (ag gc (0))) ts.length ts.length) l (bE B) rfl b
     ·have M:IntKind.i64.wrap ((ts.length:Int)+1)=(ts.length:Int)+1:=lc _ aa;exact jq (qI ((ts.length:Int)+1)) l (bE M) rfl b
     ·have a1:L 7=false:=d;have G:L 9=false:=f 9 aj;simp only[List.map,a1,G] at b⊢;have K:=run_make (P:=prog) l 208 172 c1 qN underlying208 D c2 .i64 .i64 ((ts.length:Int)+1) ((ts.length:Int)+1) aa aa (by rw[c4];omega) aa;rw[c3,Nat.mul_one,show((ts.length:Int)+1).toNat=ts.length+1 by omega] at K;have m:Below wr.heap.size wr l:=b;have d4:=aN l (.cells (BI (ts.length+1)) 172);exact jv (.slice (some (ag l.heap.size (0))) (ts.length+1) (ts.length+1)) (l.alloc (.cells (BI (ts.length+1)) 172)) (by simp[go_sem,K]) ⟨l.heap.size,rfl,jD,m.trans (d4.mono m.size),au.new _ _ _,m.size⟩
     ·have S:=b9;exact jq (aR gc k) l sI rfl b
     ·have a1:L 7=true:=e 7 aj;have G:L 9=false:=d;simp only[List.map,a1,G] at b⊢;obtain⟨m,d5,d6⟩:=b;have N:=c.o.keep m;obtain⟨H,E,d7,_⟩:=N.outer;have a2:k<H.size:=by omega
      have B:l.cell? (ag gc k)=some H[k]:=by rw[E.cell];exact cB a2
      have a3:=E.frozen k;exact aP.skip (w':=l.setCell (ag gc k) (.slice (some (ag gr (0))) (ts.length+1) (ts.length+1))) (ek B a3) ⟨gr,rfl,lK.same,N.grow b9 d5 (λi D b5=>by
       obtain⟨e9,c0,_⟩:=c.o.row i D;have:=c0.lt;omega) (ax c.o.below.size d6)⟩
    ·intro gr l b;have c:=ah (kD w l g ⟨R,o,r,t,I,u,P,x,Q,y⟩ rs ts gc (λi=>if i=k then gr else rows i) (k+1) λ_ _=>false) b;clear b;go_wp2;go_roundw
     case rel=>exact⟨k+1,_,aa,bi,c⟩
     case measure=>simp[intOf];omega
   ·obtain rfl:k=ts.length:=by omega
    have c:Hy (kD w wr g ⟨R,o,r,t,I,u,P,x,Q,y⟩ rs ts gc rows ts.length (Ah ts.length 1 0)):=zh (c.o.sub λp q h=>by rw[Ec] at h;omega);go_wp2_with fail
    go_loopw [8] (λz wr=>∃s:Nat,1<=s/\s<=ts.length+1/\z=qI s/\Hy (kD w wr g ⟨R,o,r,t,I,u,P,x,Q,y⟩ rs ts gc rows ts.length (Ah ts.length s 0))) (λz _=>ts.length+1 -(intOf z).toNat)
    case atStart=>exact⟨1,aa,aa,rfl,c⟩
    case round=>
     clear c;obtain⟨s,f0,f1,rfl,c⟩:=hrel
     by_cases f2:s<=ts.length
     ·go_wp2_with fail
      go_loopw [9] (λz wr=>∃i:Nat,i+s<=ts.length+1/\z=qI i/\Hy (kD w wr g ⟨R,o,r,t,I,u,P,x,Q,y⟩ rs ts gc rows ts.length (Ah ts.length s i))) (λz _=>ts.length+1 -(intOf z).toNat)
      case atStart=>exact⟨0,aa,rfl,c⟩
      case round=>
       clear c;obtain⟨i,f3,rfl,c⟩:=hrel
       by_cases f4:i+s<=ts.length
       ·go_upto_region 14 with(fail)
        refine xX (X:=Value×List Nat) aj _ (λgr=>[qP g,qP g,aR g (6),.slice (some (ag gc (0))) ts.length ts.length,qI i,aR gc i,.slice (some ⟨rows i,0,none⟩) (ts.length+1) (ts.length+1),qI i,qI s,qI ((i:Int)+(s:Int)),qP g,qI i,qI i,qI s,qI ((i:Int)+(s:Int)),gr.1,az ⟨rows i,i+s,none⟩,undef]) [true,true,true,true,true,true,true,true,true,true,true,true,true,true,true,true,true,true] [15,17] (BK w wr g ⟨R,o,r,t,I,u,P,x,Q,y⟩ rs ts gc rows s i) (.nilFunc,[]) aj (λgr=>by simp[fin,mX,fK,List.range,List.range.loop,Act.put];rfl) (λ_=>aj) aj (fC (aL _ _)) ?_ ?_
        ·refine⟨jS,jT,jT,λL gr j d e f b=>?_,jS,λL gr j d e f b=>?_,λL gr j d e f b=>?_,jS,jS,λL gr j d e f b=>?_,jS,jS,jS,jS,λL gr j d e f b=>?_,λL gr j d e f b=>?_,λL gr j d e f b=>?_,λL gr j d e f b=>?_,trivial⟩
         ·have B:=(c.o.keep (b.bel (f 17 aj))).blk.cell 6;exact jq (.slice (some (ag gc (0))) ts.length ts.length) j (bE B) rfl b
         ·have S:i<ts.length:=by omega
          exact jq (aR gc i) j (bE S) rfl b
         ·obtain⟨H,E,_,d8⟩:=(c.o.keep (b.bel (f 17 aj))).outer;have B:=(E.cell i).trans (d8 i aa);exact jq (.slice (some ⟨rows i,0,none⟩) (ts.length+1) (ts.length+1)) j (bE B) rfl b
         ·have M:IntKind.i64.wrap ((i:Int)+(s:Int))=(i:Int)+(s:Int):=lc _ aa;exact jq (qI ((i:Int)+(s:Int))) j (bE M) rfl b
         ·have M:IntKind.i64.wrap ((i:Int)+(s:Int))=(i:Int)+(s:Int):=lc _ aa;exact jq (qI ((i:Int)+(s:Int))) j (bE M) rfl b
         ·have a4:L 15=false:=d;have a5:L 17=false:=f 17 aj;simp only[List.map,a4,a5] at b⊢;have m:Below wr.heap.size wr j:=b;have h:=Te g ⟨R,o,r,t,I,u,P,x,Q,y⟩ rs ts gc rows (Ah ts.length s i) i (i+s) j d0.o ((c.o.keep m).tab Z.o a0.o) aa aa (λp q c0 f5 f6 f7=>by rw[Ec];omega) b1 b2;rw[show((i+s:Nat):Int)=(i:Int)+(s:Int) by omega] at h;refine jc 161 (#[bB g,qI i,qI ((i:Int)+(s:Int))]) j aj (h.mono ?_);clear h;rintro b5 d1 ⟨v,bs,rfl,a6,a7,V⟩;exact⟨_,rfl,(v,bs),rfl,jD,m.trans (V.mono m.size),a6.more m.size,a7⟩
         ·have S:(i:Int)+(s:Int)<(ts.length:Int)+1:=by omega
          have d9:(0:Int)<=(i:Int)+(s:Int):=aa
          have e0:((i:Int)+(s:Int)).toNat=i+s:=aa
          exact jq (az ⟨rows i,i+s,none⟩) j (yV S d9 e0) rfl b
         ·have a4:L 15=true:=e 15 aj;have a5:L 17=false:=d;simp only[List.map,a4,a5] at b⊢;obtain⟨m,a6,a7⟩:=b;obtain⟨f8,e1⟩:=gr;obtain⟨e2,e3,G,e4,e5,e6⟩:=df.form a6;dsimp only at G;subst G;have N:=c.o.keep m;obtain⟨H,E,d7,_⟩:=N.row i aa;have a2:i+s<H.size:=by omega
          have B:j.cell? ⟨rows i,i+s,none⟩=some H[i+s]:=by rw[E.cell];exact cB a2
          have a3:=E.frozen (i+s);exact aP.skip (w':=j.setCell ⟨rows i,i+s,none⟩ (.slice e2 e1.length e3)) (ek B a3) ⟨_,rfl,lK.same,N.store aa aa e4 e5 e6 a7 (λp q h=>by rw[Ec] at h⊢;omega)⟩
        ·intro gr j b;have c:=ah (kD w j g ⟨R,o,r,t,I,u,P,x,Q,y⟩ rs ts gc rows ts.length (Ah ts.length s (i+1))) b;clear b;go_wp2;go_roundw
         case rel=>exact⟨i+1,aa,bi,c⟩
         case measure=>simp[intOf];omega
       ·have c:=zh (c.o.sub (fill':=Ah ts.length (s+1) 0) λp q h=>by rw[Ec] at h⊢;omega);go_wp2;go_roundw
        case rel=>exact⟨s+1,aa,aa,bi,c⟩
        case measure=>simp[intOf];omega
     ·have c:=zh (c.o.sub (fill':=λp q=>decide (p<q)&&decide (q<=ts.length)) λp q h=>by simp at h;rw[Ec];omega);go_wp2;go_ret;exact⟨_,_,_,_,rfl,c.o.tab Z.o a0.o,c.o.below⟩
abbrev dw (r a:Int)(A:Option Addr)(n cap:Nat):Array Value:= #[qI r,qI a,.slice A n cap]
inductive dS (ok:Nat->Prop) (w:World):Rd->Array Value->Prop
 |mk (r a:Int) (ks:List Rd) (A:Option Addr) (cap:Nat) (ad:Addr) (cs:Nat->Array Value) (hn:ks.length<=cap) (hc:cap<=9223372036854775807)
   (hA:ks=[]\/(A=some ad/\ad.block<w.heap.size/\ok ad.block)) (hcell:∀i,i<ks.length->∀j,j<3->w.cell? (ad.add (i*3+j))=(cs i)[j]?)
   (hk:∀(i:Nat) (h:i<ks.length),dS ok w ks[i] (cs i)):dS ok w (.mk r a ks) (dw r a A ks.length cap)
def iE (ok:Nat->Prop)(w:World)(A:Option Addr)(ks:List Rd):Prop:=∀(i:Nat) (x:Rd),ks[i]?=some x->∃ad:Addr,A=some ad/\ad.block<w.heap.size/\ok ad.block/\∃c,dS ok w x c/\∀j,j<3->w.cell? (ad.add (i*3+j))=c[j]?
def dS.map {ok:Nat->Prop}(l:w.heap.size<=w'.heap.size)(m:∀b,b<w.heap.size->ok b->ok' b)(n:∀p:Addr,p.block<w.heap.size->ok p.block->w'.cell? p=w.cell? p){c:Array Value}(h:dS ok w x c):dS ok' w' x c:=by
 induction h with
 |mk r a ks A cap o q s t f u z v=>
  refine .mk r a ks A cap o q s t (f.imp id λ⟨g,d,e⟩=>⟨g,ll d l,m _ d e⟩) (λi k j y=>?_) v;rcases f with h|⟨g,d,e⟩
  ·subst h;simp at k
  ·rw[n _ (by rw[add_block];exact d) (by rw[add_block];exact e)];exact u i k j y
def dS.keep {ok:Nat->Prop}{c:Array Value}(h:dS ok w x c)(a:Below w.heap.size w w'):dS ok w' x c:=h.map a.size (λ_ _ h=>h) λ_ b _=>a.cell b
def dS.any {ok:Nat->Prop}{c:Array Value}(h:dS ok w x c)(a:∀b,b<w.heap.size->ok b->ok' b):dS ok' w x c:=h.map (aH _) a λ_ _ _=>rfl
def dS.grown {ok:Nat->Prop}{row:Option Nat}{c:Array Value}(h:dS ok w x c)(a:w.grownBy w' row)(e:∀b,b<w.heap.size->ok b->some b≠row)(f:∀b,b<w.heap.size->ok b->ok' b):dS ok' w' x c:=
 h.map a.size f λ_ d g=>dm (a.block _ d (e _ d g))
def iE.map {ok ok':Nat->Prop}{w w':World}(d:w.heap.size<=w'.heap.size)(e:∀b,b<w.heap.size->ok b->ok' b)(f:∀p:Addr,p.block<w.heap.size->ok p.block->w'.cell? p=w.cell? p){A:Option Addr}{ks:List Rd}(h:iE ok w A ks):iE ok' w' A ks:=λi x k=>by
 obtain⟨l,m,a,g,c,n,o⟩:=h i x k;exact⟨l,m,ll a d,e _ a g,c,n.map d e f,λj q=>by rw[f _ (by rw[add_block];exact a) (by rw[add_block];exact g)];exact o j q⟩
def iE.keep {ok:Nat->Prop}(h:iE ok w A ks)(a:Below w.heap.size w w'):iE ok w' A ks:=h.map a.size (λ_ _ h=>h) λ_ b _=>a.cell b
def iE.any {ok:Nat->Prop}(h:iE ok w A ks)(a:∀b,b<w.heap.size->ok b->ok' b):iE ok' w A ks:=h.map (aH _) a λ_ _ _=>rfl
def dS.size {ok:Nat->Prop}{w:World}{x:Rd}{c:Array Value}(h:dS ok w x c):c.size=3:=by cases h;rfl
def dS.form {ok:Nat->Prop}{c:Array Value}(h:dS ok w x c):∃A cap,c=dw x.rule x.at_ A x.kids.length cap/\x.kids.length<=cap/\cap<=9223372036854775807/\iE ok w A x.kids:=by
 cases h with
 |mk r a ks A cap d e f g j k l=>
  refine⟨A,cap,rfl,f,g,λi x m=>?_⟩;obtain⟨b,rfl⟩:=bP.1 m;have b:i<ks.length:=b;rcases j with h|⟨n,o,p⟩
  ·subst h;simp at b
  ·exact⟨d,n,o,p,e i,l i b,k i b⟩
def dS.of {ok:Nat->Prop}{r a:Int}(e:ks.length<=cap)(f:cap<=9223372036854775807)(g:iE ok w A ks):dS ok w (.mk r a ks) (dw r a A ks.length cap):=by
 by_cases k:ks=[]
 ·subst k;exact .mk r a [] A cap ⟨0,0,none⟩ (λ_=> #[]) e f (.inl rfl) (λi b=>by simp at b) (λi b=>by simp at b)
 ·have o:0<ks.length:=oU.2 k;obtain⟨d,l,p,q,_⟩:=g 0 ks[0] (gE o);have s:∀i,∃c,∀h:i<ks.length,dS ok w ks[i] c/\∀j,j<3->w.cell? (d.add (i*3+j))=c[j]?:=λi=>by
   by_cases h:i<ks.length
   ·obtain⟨t,m,_,_,c,u,v⟩:=g i ks[i] (gE h);obtain rfl:d=t:=by rw[l] at m;exact sj m
    exact⟨c,λ_=>⟨u,v⟩⟩
   ·exact⟨#[],λx=>absurd x h⟩
  obtain⟨y,n⟩:=rG s;exact .mk r a ks A cap d y e f (.inr ⟨l,p,q⟩) (λi b=>(n i b).2) (λi b=>(n i b).1)
def iU (ok:Nat->Prop)(w:World)(B:Nat)(v:Value)(xs:List Rd):Prop:=∃css:List (Array Value),w.ownsRow B 139 3 v xs.length (css.flatMap (·.toList))/\css.length=xs.length/\(∀(j:Nat) c x,css[j]?=some c->xs[j]?=some x->dS ok w x c)
def Bc:∀(l:List (Array Value)) (k j:Nat) (c:Array Value),(∀c∈l,c.size=3)->l[k]?=some c->j<3->(l.flatMap (·.toList))[k*3+j]?=c[j]?
 |[],k,j,c,_,h,_=>by simp at h
 |x::r,0,j,c,a,h,b=>by
  obtain rfl:x=c:=by simpa using h
  have:=a x bZ;rw[gT,dz (by simp;omega)];simp
 |x::r,k+1,j,c,a,h,b=>by
  have d:=Bc r k j c (λc e=>a c (dP _ e)) (by simpa using h) b;have:=a x bZ;rw[gT,cO (by simp;omega),<-d]
  congr 1
  simp;omega
def iU.nil (ok:Nat->Prop)(w:World)(B:Nat):iU ok w B qN []:=⟨[],iR _ _ _ _,rfl,λj c x h=>by simp at h⟩
def iU.size {ok:Nat->Prop}{w:World}{xs:List Rd}{css:List (Array Value)}(d:css.length=xs.length)(h:∀(j:Nat) c x,css[j]?=some c->xs[j]?=some x->dS ok w x c):∀c∈css,c.size=3:=λc b=>by
 obtain⟨j,a⟩:=gz.1 b;have e:=(bP.1 a).1;exact(h j c xs[j] a (gE aa)).size
def iU.keep {ok:Nat->Prop}{w w':World}{B:Nat}{v:Value}{xs:List Rd}(h:iU ok w B v xs)(a:Below w.heap.size w w'):iU ok w' B v xs:=by
 obtain⟨css,b,d,e⟩:=h;exact⟨css,own_below b a,d,λj c x f g=>(e j c x f g).keep a⟩
def iU.more {ok:Nat->Prop}{v:Value}(h:iU ok w B v xs)(a:B'<=B):iU ok w B' v xs:=by
 obtain⟨css,b,c⟩:=h;exact⟨css,CO b a,c⟩
def iU.any {ok ok':Nat->Prop}{w:World}{B:Nat}{v:Value}{xs:List Rd}(h:iU ok w B v xs)(a:∀b,b<w.heap.size->ok b->ok' b):iU ok' w B v xs:=by
 obtain⟨css,d,e,f⟩:=h;exact⟨css,d,e,λj c x g i=>(f j c x g i).any a⟩
def iU.zP9 {ok:Nat->Prop}{v:Value}(h:iU ok w B v xs)(n:∀b,B<=b->P b)(o:∀b,ok b->P b):∃A cap,v= .slice A xs.length cap/\xs.length<=cap/\cap<=9223372036854775807/\iE P w A xs:=by
 obtain⟨css,q,r,f⟩:=h;have k:=iU.size r f;rcases q.2 with⟨rfl,s⟩|⟨g,cap,t,rfl,u,y,z,C,G,D⟩
 ·obtain rfl:xs=[]:=eP.1 s;exact⟨none,0,rfl,aS,aa,λj p d=>by simp at d⟩
 ·have l:au w g 139 t:=y;refine⟨_,cap,rfl,z,by unfold maxLen at C;omega,λi x m=>⟨(ag g (0)),rfl,l.lt,n g u,?_⟩⟩;have H:=(bP.1 m).1;obtain⟨c,e⟩:∃c,css[i]?=some c:=⟨_,gE aa⟩
  refine⟨c,(f i c x e m).any λb _ h=>o b h,λj d=>?_⟩;have a:=Bc css i j c k e d;have E:j<c.size:=by rw[k c (dQ e)];exact d
  have F:c[j]?=some c[j]:=cB E;rw[show(⟨g,0,none⟩:Addr).add (i*3+j)=(ag g (i*3+j)) by unfold Addr.add;split<;>simp_all,l.cell];rw[F] at a⊢;rw[<-D,gU] at a
  split at a
  ·rw[<-gF];exact a
  ·cases a
def iU.lt {ok:Nat->Prop}{w:World}{B:Nat}{v:Value}{xs:List Rd}(h:iU ok w B v xs):∀r,v.ownBlock=some r->B<=r/\r<w.heap.size:=by
 obtain⟨css,a,_⟩:=h;exact bA a
def iU.snoc {ok:Nat->Prop}{v v':Value}{c:Array Value}(g:css.length=xs.length)(h:∀(j:Nat) c x,css[j]?=some c->xs[j]?=some x->dS ok w x c)(m:dS ok w x c)(n:w'.ownsRow B 139 3 v' (xs.length+1) (css.flatMap (·.toList)++c.toList))(i:w.grownBy w' v.ownBlock)(k:∀b,b<w.heap.size->ok b->some b≠v.ownBlock)(l:∀b,b<w.heap.size->ok b->ok' b):iU ok' w' B v' (xs++[x]):=by
 refine⟨css++[c],?_,by simp[g],λj d y a f=>?_⟩
 ·rw[aO,fH]
  simpa using n
 ·rcases bu j css.length with o|p
  ·rw[dz o] at a;rw[dz aa] at f;exact(h j d y a f).grown i k l
  ·rw[cO p] at a;rw[cO aa,<-g] at f
   by_cases e:j -css.length=0
   ·rw[e] at a f;obtain rfl:c=d:=by simpa using a
    obtain rfl:x=y:=by simpa using f
    exact m.grown i k l
   ·rw[ko (by simp;omega)] at a;cases a
def bM (P:Nat->Prop)(w:World)(B:Nat)(v:Value)(xs:List Rd):Prop:=iU (λb=>v.ownBlock≠some b/\P b) w B v xs
def bM.nil (P:Nat->Prop)(w:World)(B:Nat):bM P w B qN []:=iU.nil _ _ _
def bM.keep {P:Nat->Prop}{w w':World}{B:Nat}{v:Value}{xs:List Rd}(h:bM P w B v xs)(a:Below w.heap.size w w'):bM P w' B v xs:=iU.keep h a
def bM.push {v v':Value}{c:Array Value}(f:css.length=xs.length)(h:∀(j:Nat) c x,css[j]?=some c->xs[j]?=some x->dS (λb=>v.ownBlock≠some b/\P b) w x c)(g:dS (λb=>v.ownBlock≠some b/\P b) w x c)(i:w'.ownsRow B 139 3 v' (xs.length+1) (css.flatMap (·.toList)++c.toList))(k:w.grownBy w' v.ownBlock)(l:v'.ownBlock=v.ownBlock\/v'.ownBlock=some w.heap.size):bM P w' B v' (xs++[x]):=
 iU.snoc f h g i k (λb _ a e=>a.1 e.symm) (λb a d=>⟨by
  rcases l with e|e
  ·rw[e];exact d.1
  ·rw[e];intro m;have:=sj m;omega,d.2⟩)
def bM.set_ {v:Value}(h:bM P w B v xs){p:Addr}(d:¬P p.block)(n:p.block<B)(u:Value):bM P (w.setCell p u) B v xs:=by
 obtain⟨css,a,f,g⟩:=h;refine⟨css,gM a (xY w p u) ?_,f,λj c x i k=>(g j c x i k).map (xY w p u).size (λ_ _ h=>h) λq _ l=>kZ w p q u (λe=>d (by rw[e];exact l.2))⟩;cases m:v.ownBlock with
 |none=>exact .inl rfl
 |some b=>
  refine .inr λe=>?_
  have:=(bA a b m).1;have:=sj e;omega
def bM.form {v:Value}(h:bM P w B v xs)(a:∀b,B<=b->P b):∃A cap,v= .slice A xs.length cap/\xs.length<=cap/\cap<=9223372036854775807/\iE P w A xs:=iU.zP9 h a λ_ c=>c.2
def vF {t:TypeId}{c:Array Value}(h:au w g t c)(a:c.size=n):dL w w.heap.size n (some (ag g (0))) 1 c.toList:=
 ⟨by simp[a],λ_=>⟨(ag g (0)),rfl,h.lt,λj v b=>by
  have e:(⟨g,0,none⟩:Addr).add j=⟨g,j,none⟩:=yR
  rw[e,h.cell]
  simpa using b⟩⟩
def Aj {ok:Nat->Prop}{c:Array Value}(h:dS ok w x c):∀u∈c.toList,u.oneCell'=true:=by
 obtain⟨A,cap,rfl,_⟩:=h.form;intro u a;simp at a;rcases a with rfl|rfl|rfl<;>rfl
def zJ:(prog.info? 139).map (λi=>(i.zero,i.size,i.bytes))=some (some (.agg #[qI 0,qI 0,qN]),3,40):=aj
end Go.Proofs.YtlefbenkhgbifaaGreatDoor.Ch
