/- The first readings of an application, appended to those of the same rule. -/
import Derived.Test.YtlefbenkhgbifaaGreatDoorH3573b284
import Derived.Maps.OwnOps
import Derived.Maps.OwnSet
import Derived.Maps.Views
set_option linter.all false
set_option maxRecDepth 100000
set_option maxHeartbeats 4000000
namespace Go.Proofs.YtlefbenkhgbifaaGreatDoor.Ch
open Go.RowKit Tryz
variable{rs:List aD}{r a:Int}{ts:List ByteArray}{i j k g B n bm:Nat}{w w' wr w2:World}{x z:Rd}{t:TypeId}{cs:Array Value}{bs:List Nat}{xs l m:List Rd}{v' l':Value}{A:Option Addr}{hd:Nat->Value}{bss:Nat->List Nat}
def Mi (fid:FuncId)(caps:Array Value)(rs:List aD)(ts:List ByteArray)(i j:Nat)(Inv:List ja->World->Prop):Prop:=
 ∀(l:List ja) (a:ja) (m:List ja) (w:World),rU rs ts i j=l++a::m->Inv l w->Calls prog fid (#[.agg a.c]++caps) w λe w'=>e= .returned undef/\Inv (l++[a]) w'/\∀g cs,au w g 203 cs->au w' g 203 cs
def sJ (rs:List aD)(ts:List ByteArray)(i j:Nat):Bool:=(ny rs 2 (cZ ts i)).isSome&&decide (i+1<j)
def zI (rs:List aD)(ts:List ByteArray)(i j:Nat):Bool:=(ny rs 3 (cZ ts (j -1))).isSome&&decide (i+1<j)
def inB_ (rs:List aD)(ts:List ByteArray)(j k:Nat):Bool:=(ny rs 1 (cZ ts k)).isSome&&decide (k+1<j)
def Ea {kind:Int}{s:List UInt8}{r:Nat}(h:ny rs kind s=some r):eB rs kind s=r:=by unfold eB;rw[h]
def Mj {kind:Int}{s:List UInt8}(h:ny rs kind s=none):eB rs kind s= -1:=by unfold eB;rw[h]
def Sn (h:sJ rs ts i j=true):∃r:Nat,eB rs 2 (cZ ts i)=r/\mK rs ts i j=[⟨r,i+1,j,0,0,1⟩]/\r<rs.length:=by
 unfold sJ at h;rw[aM] at h;obtain⟨r,a⟩:=uk.1 h.1;refine⟨r,Ea a,?_,?_⟩
 ·unfold mK;rw[a];exact ak (bD h.2)
 ·obtain⟨x,b,_⟩:=zY a;exact(bP.1 b).1
def Sq (h:sJ rs ts i j=false):mK rs ts i j=[]:=by
 unfold sJ at h;unfold mK;cases a:ny rs 2 (cZ ts i) with
 |none=>rfl
 |some r=>
  rw[a] at h;exact ai (kY (by simpa using h))
def Sr (h:zI rs ts i j=true):∃r:Nat,eB rs 3 (cZ ts (j -1))=r/\vT rs ts i j=[⟨r,i,j -1,0,0,1⟩]/\r<rs.length:=by
 unfold zI at h;rw[aM] at h;obtain⟨r,a⟩:=uk.1 h.1;refine⟨r,Ea a,?_,?_⟩
 ·unfold vT;rw[a];exact ak (bD h.2)
 ·obtain⟨x,b,_⟩:=zY a;exact(bP.1 b).1
def Su (h:zI rs ts i j=false):vT rs ts i j=[]:=by
 unfold zI at h;unfold vT;cases a:ny rs 3 (cZ ts (j -1)) with
 |none=>rfl
 |some r=>
  rw[a] at h;exact ai (kY (by simpa using h))
def Sv (h:inB_ rs ts j k=true):∃r:Nat,eB rs 1 (cZ ts k)=r/\xE rs ts i j k=[⟨r,i,k,k+1,j,2⟩]/\r<rs.length:=by
 unfold inB_ at h;rw[aM] at h;obtain⟨r,a⟩:=uk.1 h.1;refine⟨r,Ea a,?_,?_⟩
 ·unfold xE;rw[a];exact ak (bD h.2)
 ·obtain⟨x,b,_⟩:=zY a;exact(bP.1 b).1
def Sw (h:inB_ rs ts j k=false):xE rs ts i j k=[]:=by
 unfold inB_ at h;unfold xE;cases a:ny rs 1 (cZ ts k) with
 |none=>rfl
 |some r=>
  rw[a] at h;exact ai (kY (by simpa using h))
def IB {kind:Int}{s:List UInt8}:decide (0<=eB rs kind s)=(ny rs kind s).isSome:=by
 cases h:ny rs kind s with
 |none=>rw[Mj h];rfl
 |some r=>rw[Ea h];exact aJ aa
def nT (rs:List aD)(ts:List ByteArray)(i j k:Nat):List ja:=mK rs ts i j++vT rs ts i j++(List.range' (i+1) (k -(i+1))).flatMap (oF rs ts i j)
def Mk (h:i<k):nT rs ts i j (k+1)=nT rs ts i j k++(xE rs ts i j k++pI rs i j k):=by
 unfold nT;rw[show k+1 -(i+1)=(k -(i+1))+1 from aa,List.range'_concat,fH,cu (mK rs ts i j++vT rs ts i j)]
 congr 1
 rw[show i+1+1*(k -(i+1))=k from aa];simp[oF]
def Sz (h:i<k)(a:k<j):rU rs ts i j=nT rs ts i j k++(xE rs ts i j k++pI rs i j k)++(List.range' (k+1) (j -(k+1))).flatMap (oF rs ts i j):=by
 rw[<-Mk h];unfold rU nT;rw[cu (mK rs ts i j++vT rs ts i j),<-fH,show k+1 -(i+1)=k -i from aa]
 congr 2
 rw[show List.range' (k+1) (j -(k+1))=List.range' (i+1+1*(k -i)) (j -(k+1)) by rw[show i+1+1*(k -i)=k+1 from aa],List.range'_append]
 congr 1
 omega
def SA (O:FuncId)(a0:Array Value)(F:pK)(rs:List aD)(ts:List ByteArray)(i j:Nat)(Inv:List ja->World->Prop)(w:World)(c3:i<j)(c4:j<=ts.length)(c5:ts.length<=1000000)
  (a1:∀l w,Inv l w->Ab w F rs ts) (V:∀l w w',Inv l w->Below w.heap.size w w'->Inv l w') (a2:Mi O a0 rs ts i j Inv) (a3:Inv [] w) (c6:∀args w,Sem.run prog (callFunc O args) w= .ok (.enter O args) w):
  Calls prog 180 #[.agg (F.c rs.length ts.length (eB rs 4 [])),qI i,qI j,.func (.func O) #[] a0] w λe w'=>e= .returned undef/\Inv (rU rs ts i j) w':=by
 obtain⟨R,z,T,A,a4,B,a5,C,a6,D⟩:=F;have P:=zh a2;have c7:=zh V;have W:=zh a1;have a:=zh (V _ _ _ a3 (aN w (.cells #[.slice R rs.length z,.slice T ts.length A,.slice a4 ts.length B,.slice a5 ts.length C,.slice a6 ts.length D,qI (eB rs 4 [])] 203)));have c:=zh (au.new w 203 #[.slice R rs.length z,.slice T ts.length A,.slice a4 ts.length B,.slice a5 ts.length C,.slice a6 ts.length D,qI (eB rs 4 [])]);clear a2 V a1 a3;have t:=W.o _ _ a.o;obtain⟨Q,a7,S⟩:=t.pre.num (DY (rs:=rs) (kind:=2) (show i<ts.length from aa));obtain⟨G,H,E⟩:=t.post.num (DY (rs:=rs) (kind:=3) (show j -1<ts.length from aa));obtain⟨I,J,_⟩:=t.inf.num (DY (rs:=rs) (kind:=1) (show i<ts.length from aa));dsimp only at a7 H J;subst a7 H J;clear t E;have m:=zh (IB (rs:=rs) (kind:=2) (s:=cZ ts i));have c8:(i:Int)<(ts.length:Int):=aa
 go_enter func180,ntmps180;go_upto_region 2 with(fail)
 generalize w.alloc (.cells _ 203)=b2 at*
 go_cut [24] (λb wc=>b= .bool (sJ rs ts i j)/\wc=b2)
 case first=>
  cases d:(ny rs 2 (cZ ts i)).isSome
  ·have K:=m.o.trans d;have o:=ah (sJ rs ts i j=false) (by unfold sJ;rw[d];rfl);clear d S;generalize eB rs 2 (cZ ts i)=x at*;go_wp2;go_meet;exact⟨by rw[o.o],rfl⟩
  ·have K:=m.o.trans d;have o:=ah (sJ rs ts i j=decide (i+1<j)) (by unfold sJ;rw[d];rfl);clear d S;generalize eB rs 2 (cZ ts i)=x at*;have L:=ah (decide ((i:Int)+1<(j:Int))=decide (i+1<j)) (fE.2 aa);go_wp2;go_meet;exact⟨by rw[o.o,<-L.o],rfl⟩
 case rest=>
  obtain⟨rfl,M⟩:=hcut;subst M;go_upto_if 24 with(fail)
  go_cut [8] (λ_ wc=>Hy (Inv (mK rs ts i j) wc)/\Hy (au wc w.heap.size 203 #[.slice R rs.length z,.slice T ts.length A,.slice (some (ag I (0))) ts.length B,.slice (some (ag Q (0))) ts.length C,.slice (some (ag G (0))) ts.length D,qI (eB rs 4 [])]))
  case first=>
   cases g:sJ rs ts i j
   ·have f:=zh (Sq g);clear g;go_wp2;go_meet;exact⟨by rw[f.o];exact a,c⟩
   ·obtain⟨r,u,v,a8⟩:=Sn g;have f:=zh v;clear g v;rw[u];clear u S;go_wp2_with fail;have h:=P.o [] ⟨r,i+1,j,0,0,1⟩ (vT rs ts i j++(List.range' (i+1) (j -(i+1))).flatMap (oF rs ts i j)) wc (by unfold rU;rw[f.o,cu];rfl) a.o;refine h.mono ?_;clear h;rintro e w2 ⟨rfl,p,q⟩;have a:=zh p;have c:=zh (q _ _ c.o);clear p q;go_wp2;go_meet;exact⟨by rw[f.o];exact a,c⟩
  case rest=>
   clear a c S m;obtain⟨a,c⟩:=hcut;have t:=W.o _ _ a.o;obtain⟨b3,H,E⟩:=t.post.num (DY (rs:=rs) (kind:=3) (show j -1<ts.length from aa));obtain rfl:G=b3:=by simpa using H
   clear t H;have m:=zh (IB (rs:=rs) (kind:=3) (s:=cZ ts (j -1)));have b4:((j -1:Nat):Int)=(j:Int) -1:=by omega
   have b5:(0:Int)<=(j:Int) -1:=aa
   have b6:(j:Int) -1<(ts.length:Int):=aa
   have y:((j:Int) -1).toNat=j -1:=aa
   have b7:=c.o.cell 4;go_upto_region 5 with(fail)
   clear b7;generalize b8:wc=w2 at*;clear b8 b4 b5 b6 y
   go_cut [45] (λb wc=>b= .bool (zI rs ts i j)/\wc=w2)
   case first=>
    cases d:(ny rs 3 (cZ ts (j -1))).isSome
    ·have K:=m.o.trans d;have o:=ah (zI rs ts i j=false) (by unfold zI;rw[d];rfl);clear d E;generalize eB rs 3 (cZ ts (j -1))=x at*;go_wp2;go_meet;exact⟨by rw[o.o],rfl⟩
    ·have K:=m.o.trans d;have o:=ah (zI rs ts i j=decide (i+1<j)) (by unfold zI;rw[d];rfl);clear d E;generalize eB rs 3 (cZ ts (j -1))=x at*;have L:=ah (decide ((i:Int)<(j:Int) -1)=decide (i+1<j)) (fE.2 aa);go_wp2;go_meet;exact⟨by rw[o.o,<-L.o],rfl⟩
   case rest=>
    obtain⟨rfl,M⟩:=hcut;subst M;go_upto_if 45 with(fail)
    go_cut [9] (λ_ wc=>Hy (Inv (mK rs ts i j++vT rs ts i j) wc)/\Hy (au wc w.heap.size 203 #[.slice R rs.length z,.slice T ts.length A,.slice (some (ag I (0))) ts.length B,.slice (some (ag Q (0))) ts.length C,.slice (some (ag G (0))) ts.length D,qI (eB rs 4 [])]))
    case first=>
     cases g:zI rs ts i j
     ·have f:=zh (Su g);clear g;go_wp2;go_meet;exact⟨by rw[f.o,bX];exact a,c⟩
     ·obtain⟨r,u,v,a8⟩:=Sr g;have f:=zh v;clear g v;rw[u];clear u E;go_wp2_with fail;have h:=P.o (mK rs ts i j) ⟨r,i,j -1,0,0,1⟩ ((List.range' (i+1) (j -(i+1))).flatMap (oF rs ts i j)) wc (by unfold rU;rw[f.o,cu];rfl) a.o;rw[show ja.c ⟨r,i,j -1,0,0,1⟩= #[qI r,qI i,qI ((j:Int) -1),qI 0,qI 0,qI 1] by show #[_,_,Value.int .i64 ((j -1:Nat):Int),_,_,_]=_;rw[show((j -1:Nat):Int)=(j:Int) -1 by omega];rfl] at h;refine h.mono ?_;clear h;rintro e X ⟨rfl,p,q⟩;have a:=zh p;have c:=zh (q _ _ c.o);clear p q;go_wp2;go_meet;exact⟨by rw[f.o];exact a,c⟩
    case rest=>
     clear a c E m;obtain⟨a,c⟩:=hcut;have a:Hy (Inv (nT rs ts i j (i+1)) wc):=by
      rw[show nT rs ts i j (i+1)=mK rs ts i j++vT rs ts i j by unfold nT;rw[oq];exact bX _];exact a
     go_wp2_with fail
     go_loopw [10] (λk wr=>∃n:Nat,i<n/\n<=j/\k=qI n/\Hy (Inv (nT rs ts i j n) wr)/\Hy (au wr w.heap.size 203 #[.slice R rs.length z,.slice T ts.length A,.slice (some (ag I (0))) ts.length B,.slice (some (ag Q (0))) ts.length C,.slice (some (ag G (0))) ts.length D,qI (eB rs 4 [])])) (λk _=>j -(intOf k).toNat)
     case atStart=>exact⟨i+1,aa,aa,bi,a,c⟩
     case round=>
      clear a c;obtain⟨k,a9,c9,rfl,a,c⟩:=hrel
      by_cases b9:k<j
      ·have b0:=zh (Sz (rs:=rs) (ts:=ts) a9 b9);have b1:=zh (Mk (rs:=rs) (ts:=ts) (j:=j) a9);have t:=W.o _ _ a.o;obtain⟨c0,J,U⟩:=t.inf.num (DY (rs:=rs) (kind:=1) (show k<ts.length from aa));obtain rfl:I=c0:=by simpa using J
       clear t J;have m:=zh (IB (rs:=rs) (kind:=1) (s:=cZ ts k));have c1:=c.o.cell 2;have c2:(k:Int)<(ts.length:Int):=aa
       go_upto_region 11 with(fail)
       clear c1 c2
       go_cut [72] (λb wc=>b= .bool (inB_ rs ts j k)/\wc=wr)
       case first=>
        cases d:(ny rs 1 (cZ ts k)).isSome
        ·have K:=m.o.trans d;have o:=ah (inB_ rs ts j k=false) (by unfold inB_;rw[d];rfl);clear d U;generalize eB rs 1 (cZ ts k)=x at*;go_wp2;go_meet;exact⟨by rw[o.o],rfl⟩
        ·have K:=m.o.trans d;have o:=ah (inB_ rs ts j k=decide (k+1<j)) (by unfold inB_;rw[d];rfl);clear d U;generalize eB rs 1 (cZ ts k)=x at*;have L:=ah (decide ((k:Int)<(j:Int) -1)=decide (k+1<j)) (fE.2 aa);go_wp2;go_meet;exact⟨by rw[o.o,<-L.o],rfl⟩
       case rest=>
        obtain⟨rfl,M⟩:=hcut;subst M;go_upto_if 72 with(fail)
        go_cut [11] (λ_ wc=>Hy (Inv (nT rs ts i j k++xE rs ts i j k) wc)/\Hy (au wc w.heap.size 203 #[.slice R rs.length z,.slice T ts.length A,.slice (some (ag I (0))) ts.length B,.slice (some (ag Q (0))) ts.length C,.slice (some (ag G (0))) ts.length D,qI (eB rs 4 [])]))
        case first=>
         cases g:inB_ rs ts j k
         ·have f:=zh (Sw (i:=i) g);clear g;go_wp2;go_meet;exact⟨by rw[f.o,bX];exact a,c⟩
         ·obtain⟨r,u,v,a8⟩:=Sv (i:=i) g;have f:=zh v;clear g v;rw[u];clear u U;go_wp2_with fail;have h:=P.o (nT rs ts i j k) ⟨r,i,k,k+1,j,2⟩ (pI rs i j k++(List.range' (k+1) (j -(k+1))).flatMap (oF rs ts i j)) wc (by rw[b0.o,f.o];simp) a.o;refine h.mono ?_;clear h;rintro e X ⟨rfl,p,q⟩;have a:=zh p;have c:=zh (q _ _ c.o);clear p q;go_wp2;go_meet;exact⟨by rw[f.o];exact a,c⟩
        case rest=>
         clear a c U m;obtain⟨a,c⟩:=hcut;have Y:=c.o.cell 5;cases y:ny rs 4 [] with
         |none=>
          have f:=ah (pI rs i j k=[]) (by unfold pI;rw[y]);have N:=Mj y;clear y;rw[N] at Y;clear N;have Z:=ah (Inv (nT rs ts i j (k+1)) wc) (by rw[b1.o,f.o,bX];exact a.o);clear a;go_wp2;go_roundw
          case rel=>exact⟨k+1,aa,aa,bi,Z,c⟩
          case measure=>simp[intOf];omega
         |some r=>
          have f:=ah (pI rs i j k=[⟨r,i,k,k,j,2⟩]) (by unfold pI;rw[y]);have N:=Ea y;clear y;rw[N] at Y;clear N;go_wp2_with fail;have h:=P.o (nT rs ts i j k++xE rs ts i j k) ⟨r,i,k,k,j,2⟩ ((List.range' (k+1) (j -(k+1))).flatMap (oF rs ts i j)) wc (by rw[b0.o,f.o];simp) a.o;refine h.mono ?_;clear h Y;rintro e X ⟨rfl,p,q⟩;have Z:=ah (Inv (nT rs ts i j (k+1)) X) (by rw[b1.o,f.o,<-cu];exact p);have c:=zh (q _ _ c.o);clear p q a;go_wp2;go_roundw
          case rel=>exact⟨k+1,aa,aa,bi,Z,c⟩
          case measure=>simp[intOf];omega
      ·obtain rfl:k=j:=by omega
       go_wp2_with fail
       go_end0
       exact⟨rfl,by rw[show rU rs ts i k=nT rs ts i k k from rfl];exact a.o⟩
def _root_.Go.Proofs.YtlefbenkhgbifaaGreatDoor.jL {x:World}(a:Below w.heap.size w x)(h:au w g t cs):au x g t cs:=h.below a h.lt
def df.row {v:Value}(h:df w B v bs):∀r,v.ownBlock=some r->B<=r/\r<w.heap.size/\∃cs,au w r 174 cs:=by
 intro r a;refine⟨(bA h r a).1,(bA h r a).2,?_⟩;rcases h.2 with⟨b,_⟩|⟨c,e,f,b,_,d,_⟩
 ·rw[b] at a;cases a
 ·rw[b] at a;obtain rfl:c=r:=sj a;exact⟨_,d⟩
def jm.grow {row:Option Nat}(h:jm rs w bs xs)(b:w.grownBy w' row)(c:∀r,row=some r->∃cs,au w r 174 cs):jm rs w' bs xs:=
 h.map λg f a=>a.grown b λe=>by
  obtain⟨cs,d⟩:=c g e.symm;exact absurd (zH d a) aI
def _root_.Go.Proofs.YtlefbenkhgbifaaGreatDoor.au.stay {row:Option Nat}(h:au w g t cs)(a:w.grownBy w' row)(b:∀r,row=some r->∃cs,au w r 174 cs)(c:t≠174):au w' g t cs:=
 h.grown a λe=>by
  obtain⟨cs,d⟩:=b g e.symm;exact c (zH h d)
def SB {α:Type}{L:List α}{z:α}(h:(L.take 2).length<2):(L++[z]).take 2=L.take 2++[z]:=by
 rw[eU] at h;rw[nH,fA (l:=[z]) (by simp;omega)]
def SC {α:Type}{L:List α}{z:α}(h:¬(L.take 2).length<2):(L++[z]).take 2=L.take 2:=by
 rw[eU] at h;rw[nH,show 2 -L.length=0 from aa,eZ,bX]
structure jN (rs:List aD)(w0 w:World)(l:Value)(wr:World)(l':Value)(bs:List Nat)(L:List Rd):Prop where
 own:df wr w0.heap.size l' bs
 shs:jm rs wr bs (L.take 2)
 below:Below w0.heap.size w0 wr
 grown:w.grownBy wr l.ownBlock
 loc:l'.ownBlock=l.ownBlock\/∃b,w.heap.size<=b/\l'.ownBlock=some b
section
variable {rs : List aD} {w0 w : World} {l : Value} {wr : World} {l' : Value} {bs : List Nat} {L : List Rd}
def SE {row:Option Nat}(h:w.grownBy wr row)(a:Below wr.heap.size wr w'):w.grownBy w' row:=
 ⟨a.os.trans h.os,a.tape.trans h.tape,a.output.trans h.output,ax h.size a.size,λi b c=>(a.block i (ll b h.size)).trans (h.block i b c)⟩
def jN.keep {w':World}(h:jN rs w0 w l wr l' bs L)(a:Below wr.heap.size wr w'):jN rs w0 w l w' l' bs L:=
 ⟨h.own.keep a,h.shs.keep a,h.below.trans (a.mono h.below.size),SE h.grown a,h.loc⟩
def jN.len (h:jN rs w0 w l wr l' bs L):bs.length=(L.take 2).length:=h.shs.1
def jN.push {b:Nat}(h:jN rs w0 w l wr l' bs L)(m:bs.length<2)(n:jh rs wr b z)(o:df w2 w0.heap.size v' (bs++[b]))(a:wr.grownBy w2 l'.ownBlock)(c:v'.ownBlock=l'.ownBlock\/v'.ownBlock=some wr.heap.size):jN rs w0 w l w2 v' (bs++[b]) (L++[z]):=by
 have d:=h.own.row;refine⟨o,?_,h.below.grown a h.below.size (λk p=>(d k p).1),?_,?_⟩
 ·rw[SB (by rw[<-h.len];exact m)];exact(h.shs.snoc n).grow a λr q=>(d r q).2.2
 ·refine⟨a.os.trans h.grown.os,a.tape.trans h.grown.tape,a.output.trans h.grown.output,ax h.grown.size a.size,λi f g=>(a.block i (ll f h.grown.size) λe=>?_).trans (h.grown.block i f g)⟩;rcases h.loc with j|⟨t,j,s⟩
  ·exact g (e.trans j)
  ·rw[s] at e;obtain rfl:=sj e;omega
 ·rcases c with c|c
  ·rw[c];exact h.loc
  ·exact .inr ⟨_,h.grown.size,c⟩
def jN.full (h:jN rs w0 w l wr l' bs L)(a:¬bs.length<2):jN rs w0 w l wr l' bs (L++[z]):=
 ⟨h.own,by rw[SC (by rw[<-h.len];exact a)];exact h.shs,h.below,h.grown,h.loc⟩
end
def wR (rs:List aD)(wr:World)(A:Option Addr)(bs:List Nat)(xs:List Rd)(l':Value):Prop:=uF wr A bs/\jm rs wr bs xs/\∀g:Nat,A=some (ag g (0))->g<wr.heap.size/\l'.ownBlock≠some g
def wR.keep {rs:List aD}{wr w':World}{A:Option Addr}{bs:List Nat}{xs:List Rd}{l':Value}(h:wR rs wr A bs xs l')(a:Below wr.heap.size wr w'):wR rs w' A bs xs l':=⟨h.1.keep a,h.2.1.keep a,λg b=>⟨ll (h.2.2 g b).1 a.size,(h.2.2 g b).2⟩⟩
def wR.push {cs:List Nat}(h:wR rs wr A bs xs l')(l:df wr B l' cs)(c:wr.grownBy w2 l'.ownBlock)(a:v'.ownBlock=l'.ownBlock\/v'.ownBlock=some wr.heap.size):wR rs w2 A bs xs v':=by
 refine⟨λj b m=>?_,h.2.1.grow c λr n=>(l.row r n).2.2,λg o=>?_⟩
 ·obtain⟨g,d,⟨p,f⟩,q⟩:=h.1 j b m;have s:some g≠l'.ownBlock:=λe=>(h.2.2 g d).2 e.symm
  have i:=f.grown c s;refine⟨g,d,⟨p,i⟩,?_⟩;rw[i.cell,<-f.cell];exact q
 ·have k:=h.2.2 g o;refine⟨ll k.1 c.size,?_⟩;rcases a with a|a
  ·rw[a];exact k.2
  ·rw[a];intro e;have:=sj e;omega
def wR.zIi {cap:Nat}(a:df wr B (.slice A n cap) bs)(c:jm rs wr bs xs)(d:uF wr A bs)(f:∀b,l'.ownBlock=some b->b<B):wR rs wr A bs xs l':=by
 refine⟨d,c,λg i=>?_⟩;subst i;have h:=bA a g rfl;exact⟨h.2,λe=>av (f g e)⟩
def BH (rs:List aD)(w0:World)(l:Value)(L:List Rd)(w:World)(e:Ending)(w':World):Prop:=∃v' bs,e= .returned v'/\jN rs w0 w l w' v' bs L
def SF (b:l[k]?=some x):kI r a (l.take (k+1))=kI r a (l.take k)++[.mk r a [x]]:=by
 unfold kI;rw[dA,b,dX];rfl
def SG (b:l[k]?=some x):kM r a (l.take (k+1)) m=kM r a (l.take k) m++m.map λy=>.mk r a [x,y]:=by
 unfold kM;rw[dA,b,fH];simp
def SH {y:Rd}(b:m[k]?=some y):((m.take (k+1)).map λy=>Rd.mk r a [x,y])=((m.take k).map λy=>Rd.mk r a [x,y])++[.mk r a [x,y]]:=by
 rw[dA,b,dX];rfl
def SI (g:Nat)(a4:pK)(rs:List aD)(ts:List ByteArray)(U:Nat)(V:Nat->Nat)(D:Nat->Nat->Bool)(r e left right h at_:Nat)(l:Value)(bs:List Nat)(xs:List Rd)(w0 w:World)(E:iP w0 g a4 rs ts U V D)(F:Below w0.heap.size w0 w)(a5:df w w0.heap.size l bs)(a6:jm rs w bs xs)(t:xs.length<=2)(A:r<rs.length)(c4:e<left)(c5:left<=ts.length)(c6:D e left=true)(c7:rs.length<=1000000):
  Calls prog 182 #[bB g,l,qI at_,.agg #[qI r,qI e,qI left,qI right,qI h,qI 1]] w (BH rs w0 l (xs++xG rs ts at_ ⟨r,e,left,right,h,1⟩) w):=by
 obtain⟨c8,c9,d0,d1,d2⟩:=info_parts Fw;obtain⟨d3,G,T,H,I,J,P,K,Q,L⟩:=a4;obtain⟨p,rfl⟩:∃p,d3=some p:=by
  obtain⟨_,p,d4,_⟩:=E.fin.rules r rs[r] (gE A);exact⟨p,d4⟩
 have W:=zh A;have X:=aN w (.cells #[qI r,qI e,qI left,qI right,qI h,qI 1] 229);have f5:=zh E;have j:=zh (E.keep (F.trans (X.mono F.size)));have c:=zh (au.new w 229 #[qI r,qI e,qI left,qI right,qI h,qI 1]);have d:=ah (jN rs w0 w l (w.alloc (.cells #[qI r,qI e,qI left,qI right,qI h,qI 1] 229)) l bs xs) (jN.keep ⟨a5,by rw[fA t];exact a6,F,World.grownBy.refl w _,.inl rfl⟩ X);clear E F a5 a6 t X A;go_enter func182,ntmps182;go_upto_region 1 with(fail)
 generalize w.alloc (.cells _ 229)=f6 at*;refine ql [qP g,qP g,qP g,.agg #[.slice (some p) rs.length G,.slice T ts.length H,.slice I ts.length J,.slice P ts.length K,.slice Q ts.length L,qI (eB rs 4 [])],.agg #[qI r,qI e,qI left,qI right,qI h,qI 1],.tuple #[qI (lv rs r),qI (vz rs r)],.tuple #[qI (lv rs r),qI (vz rs r)],qI (lv rs r),qI (vz rs r),qI (lv rs r),qI (vz rs r)] (qt 11 []) (λm=>Hy (au m w.heap.size 229 #[qI r,qI e,qI left,qI right,qI h,qI 1])/\Hy (jN rs w0 w l m l bs xs)/\iP m g ⟨some p,G,T,H,I,J,P,K,Q,L⟩ rs ts U V D) ⟨c.o.drew,d.o.keep (fC (aL _ _)),j.o.drew⟩ ?_ ?_
 ·refine⟨jA,jB,jB,jQ λm f=>λi=>(f.2.2.blk.cell i),jQ λm f=>f.1.o.cell,λm f=>?_,jA,jB,jB,jA,jA,trivial⟩
  ·refine jc 192 (#[.agg #[.slice (some p) rs.length G,.slice T ts.length H,.slice I ts.length J,.slice P ts.length K,.slice Q ts.length L,qI (eB rs 4 [])],.agg #[qI r,qI e,qI left,qI right,qI h,qI 1]]) m aj ((Mg ⟨some p,G,T,H,I,J,P,K,Q,L⟩ rs ts (eB rs 4 []) ⟨r,e,left,right,h,1⟩ m f.2.2.fin W.o).mono ?_);rintro d5 f7 ⟨rfl,Y⟩;exact⟨_,rfl,rfl,ae Y f.1.o,f.2.1.o.keep Y,f.2.2.keep Y⟩
 ·intro m f;have c:=f.1;have d:=f.2.1;have j:=zh f.2.2;clear f;generalize a7:lv rs r=a8 at*;generalize a9:vz rs r=f8 at*;have d6:=zh a7;have f9:=zh a9;clear a7 a9;obtain⟨u,v⟩:∃u,rs[r]?=some u:=⟨_,gE W.o⟩
  have d7:=zh (Fb v);obtain⟨_,g0,b0,d8,_,_,_,b1,_,_⟩:=j.o.fin.rules.at_ v;obtain rfl:=sj b0;rw[<-d7.o] at b1;clear b0 v;have d9:=j.o.blk.cell 0;have Z:=c.o.cell 0;have e0:=W.o;go_upto_region 2 with(fail)
  go_quiet (fail)
  have c:=zh (au.drewN c.o nq);have d:=zh (d.o.keep (below_drewN (aL _ _) nq));have j:=zh (j.o.keep (below_drewN (aL _ _) nq));generalize m.drewN nq=w2 at*;clear b1 d9 e0 d8 Z;have e1:=c.o.cell 1;have e2:=c.o.cell 2;go_wp2_with fail;refine(FE g _ rs ts U V D e left a8 w2 j.o c4 c5 c6 c7).mono ?_;rintro d5 e3 ⟨g1,s,rfl,a0,M,o⟩;have e4:=ah (w2.heap.size<=e3.heap.size) o.size;obtain⟨e5,g2,rfl,g3,g4,b2⟩:=a0.form;have q:=zh (wR.zIi (l':=l) a0 M b2 (λb e6=>(d.o.own.row b e6).2.1));have b3:=zh M.1;have g5:s.length<=2:=by rw[M.1];exact Hz
  have c:=kp o c;have d:=zh (d.o.keep o);have j:=zh (j.o.keep o);clear o a0 M b2 e1 e2 e4;generalize b4:tZ rs ts e left a8=N at*;have e7:=zh b4;clear b4;go_wp2_with fail
  go_loopw [1,43] (λl' n wr=>∃(k:Nat) (y:List Nat),k<=s.length/\n=qI k/\Hy (jN rs w0 w l wr l' y (xs++kI r at_ (N.take k)))/\Hy (wR rs wr e5 s N l')/\Hy (au wr w.heap.size 229 #[qI r,qI e,qI left,qI right,qI h,qI 1])) (λ_ n _=>s.length -(intOf n).toNat)
  case atStart=>exact⟨0,bs,aa,rfl,by rw[eZ,Rf,bX];exact d,q,c⟩
  case round=>
   clear d q c j;obtain⟨k,y,g6,rfl,d,q,c⟩:=hrel
   by_cases b5:k<s.length
   ·obtain⟨b,o⟩:∃b,s[k]?=some b:=⟨_,gE b5⟩
    obtain⟨x,t⟩:∃x,N[k]?=some x:=⟨_,gE (by rw[<-b3.o];exact b5)⟩
    obtain⟨g7,rfl,_,e8⟩:=q.o.1 k b o;have b6:=zh (q.o.2.1.2 k b x o t);have b7:=zh (SF (r:=r) (a:=at_) t);clear o t;have e9:=c.o.cell 5;have Z:=c.o.cell 0;obtain⟨f0,f1,rfl,g8,g9,_⟩:=d.o.own.form
    by_cases b8:y.length<2
    ·have B:=(aN wr (.cells (uE rs r at_ (bB b) (.pointer none)) 212)).trans ((aN (wr.alloc (.cells (uE rs r at_ (bB b) (.pointer none)) 212)) (.cells #[bB wr.heap.size] 174)).mono aS);have b9:=zh ((au.new wr 212 (uE rs r at_ (bB b) (.pointer none))).alloc (.cells #[bB wr.heap.size] 174));have O:=zh (d.o.keep B);have c0:=zh (q.o.keep B);have c1:=kp B c;have c2:=zh (b6.o.keep B);have R:World.ownsRow _ w0.heap.size 174 1 (.slice f0 y.length f1) y.length (y.map bB):=O.o.own;have a1:=Bb (wr.alloc (.cells (uE rs r at_ (bB b) (.pointer none)) 212)) [bB wr.heap.size] 174;rw[dY] at a1;clear B d q c b6;go_wp2_with (at_builtin;refine uj _ rfl (.tmp 53) (.tmp 62) 172 rfl w0.heap.size 174 c8 (.pointer none) 1 8 underlying172 c9 d0 d1 d2 rfl aI _ _ _ rfl R ⟨wr.heap.size+1,0,none⟩ 1 1 [bB wr.heap.size] rfl rfl a1 ?c2a ?c3a ?c4a ?c5a ?_)
     case c2a=>intro u v;simp at v;subst v;rfl
     case c3a=>unfold maxLen;omega
     case c4a=>omega
     case c5a=>exact O.o.below.size
     intro v' h0 c3 S _ a2;have C:=zh (O.o.push b8 (.one _ _ _ _ _ b9.o c2.o) (Fx rfl c3) S (a2.imp id λa3=>a3.trans aS));have f2:=zh (c0.o.push R S (a2.imp id λa3=>a3.trans aS));have f3:=zh (c1.o.stay S (λr A=>(df.row R r A).2.2) aI);rw[cu,<-b7.o] at C;clear R c3 S a2 O c0 c1 c2 b9 a1 e8 e9 Z;go_wp2;go_roundw
     case rel=>exact⟨k+1,_,aa,bi,C,f2,f3⟩
     case measure=>simp[intOf];omega
    ·have C:=zh (d.o.full (z:=.mk r at_ [x]) b8);rw[cu,<-b7.o] at C;clear d;go_wp2;go_roundw
     case rel=>exact⟨k+1,_,aa,bi,C,q,c⟩
     case measure=>simp[intOf];omega
   ·obtain rfl:k=s.length:=by omega
    rw[b3.o,bW] at d;have f4:=ah (xG rs ts at_ ⟨r,e,left,right,h,1⟩=kI r at_ N) (by rw[<-e7.o,<-d6.o];rfl);go_wp2;go_ret;exact⟨_,_,rfl,by rw[f4.o];exact d.o⟩
def SK (g:Nat)(b8:pK)(rs:List aD)(ts:List ByteArray)(N:Nat)(O:Nat->Nat)(D:Nat->Nat->Bool)(r j left right f at_:Nat)(l:Value)(bs:List Nat)(xs:List Rd)(w0 w:World)(R:iP w0 g b8 rs ts N O D)(S:Below w0.heap.size w0 w)(b9:df w w0.heap.size l bs)(c0:jm rs w bs xs)(E:xs.length<=2)(H:r<rs.length)(e8:j<left)(e9:left<=ts.length)(f0:D j left=true)(f1:right<f)(f2:f<=ts.length)(f3:D right f=true)(c1:rs.length<=1000000):
  Calls prog 182 #[bB g,l,qI at_,.agg #[qI r,qI j,qI left,qI right,qI f,qI 2]] w (BH rs w0 l (xs++xG rs ts at_ ⟨r,j,left,right,f,2⟩) w):=by
 obtain⟨f4,f5,f6,f7,f8⟩:=info_parts Fw;obtain⟨f9,U,T,V,I,W,P,X,Q,Y⟩:=b8;obtain⟨u,rfl⟩:∃u,f9=some u:=by
  obtain⟨_,u,g0,_⟩:=R.fin.rules r rs[r] (gE H);exact⟨u,g0⟩
 have a4:=zh H;have a5:=aN w (.cells #[qI r,qI j,qI left,qI right,qI f,qI 2] 229);have g1:=zh R;have s:=zh (R.keep (S.trans (a5.mono S.size)));have e:=zh (au.new w 229 #[qI r,qI j,qI left,qI right,qI f,qI 2]);have d:=ah (jN rs w0 w l (w.alloc (.cells #[qI r,qI j,qI left,qI right,qI f,qI 2] 229)) l bs xs) (jN.keep ⟨b9,by rw[fA E];exact c0,S,World.grownBy.refl w _,.inl rfl⟩ a5);clear R S b9 c0 E a5 H;go_enter func182,ntmps182;go_upto_region 1 with(fail)
 generalize w.alloc (.cells _ 229)=i8 at*;refine ql [qP g,qP g,qP g,.agg #[.slice (some u) rs.length U,.slice T ts.length V,.slice I ts.length W,.slice P ts.length X,.slice Q ts.length Y,qI (eB rs 4 [])],.agg #[qI r,qI j,qI left,qI right,qI f,qI 2],.tuple #[qI (lv rs r),qI (vz rs r)],.tuple #[qI (lv rs r),qI (vz rs r)],qI (lv rs r),qI (vz rs r),qI (lv rs r),qI (vz rs r)] (qt 11 []) (λt=>Hy (au t w.heap.size 229 #[qI r,qI j,qI left,qI right,qI f,qI 2])/\Hy (jN rs w0 w l t l bs xs)/\iP t g ⟨some u,U,T,V,I,W,P,X,Q,Y⟩ rs ts N O D) ⟨e.o.drew,d.o.keep (fC (aL _ _)),s.o.drew⟩ ?_ ?_
 ·refine⟨jA,jB,jB,jQ λt q=>λi=>(q.2.2.blk.cell i),jQ λt q=>q.1.o.cell,λt q=>?_,jA,jB,jB,jA,jA,trivial⟩
  ·refine jc 192 (#[.agg #[.slice (some u) rs.length U,.slice T ts.length V,.slice I ts.length W,.slice P ts.length X,.slice Q ts.length Y,qI (eB rs 4 [])],.agg #[qI r,qI j,qI left,qI right,qI f,qI 2]]) t aj ((Mg ⟨some u,U,T,V,I,W,P,X,Q,Y⟩ rs ts (eB rs 4 []) ⟨r,j,left,right,f,2⟩ t q.2.2.fin a4.o).mono ?_);rintro c2 i9 ⟨rfl,a6⟩;exact⟨_,rfl,rfl,ae a6 q.1.o,q.2.1.o.keep a6,q.2.2.keep a6⟩
 ·intro t q;have e:=q.1;have d:=q.2.1;have s:=zh q.2.2;clear q;generalize c3:lv rs r=c4 at*;generalize c5:vz rs r=c6 at*;have g2:=zh c3;have g3:=zh c5;clear c3 c5;obtain⟨a7,F⟩:∃a7,rs[r]?=some a7:=⟨_,gE a4.o⟩
  have g4:=zh (Fb F);obtain⟨_,j0,c7,g5,_,_,_,c8,_,_⟩:=s.o.fin.rules.at_ F;obtain rfl:=sj c7;rw[<-g4.o] at c8;clear c7 F;have g6:=s.o.blk.cell 0;have a8:=e.o.cell 0;have g7:=a4.o;go_upto_region 2 with(fail)
  go_quiet (fail)
  have e:=zh (au.drewN e.o nq);have d:=zh (d.o.keep (below_drewN (aL _ _) nq));have s:=zh (s.o.keep (below_drewN (aL _ _) nq));generalize t.drewN nq=w2 at*;clear c8 g6 g7 g5 a8;have g8:=e.o.cell 1;have g9:=e.o.cell 2;go_wp2_with fail;refine(FE g _ rs ts N O D j left c4 w2 s.o e8 e9 f0 c1).mono ?_;rintro c2 h0 ⟨j1,v,rfl,a9,Z,o⟩;have h1:=ah (w2.heap.size<=h0.heap.size) o.size;obtain⟨h2,j2,rfl,j3,j4,c9⟩:=a9.form;have p:=zh (wR.zIi (l':=l) a9 Z c9 (λb b0=>(d.o.own.row b b0).2.1));have d0:=zh Z.1;have j5:v.length<=2:=by rw[Z.1];exact Hz
  have e:=kp o e;have d:=zh (d.o.keep o);have s:=zh (s.o.keep o);clear o a9 Z c9 g8 g9 h1;generalize d1:tZ rs ts j left c4=G at*;have h3:=zh d1;clear d1;go_wp2_with fail;generalize d2:tZ rs ts right f c6=F2;have b1:=zh d2;clear d2
  go_loopw [1,43] (λl' n wr=>∃(k:Nat) (J:List Nat),k<=v.length/\n=qI k/\Hy (jN rs w0 w l wr l' J (xs++kM r at_ (G.take k) F2))/\Hy (wR rs wr h2 v G l')/\Hy (au wr w.heap.size 229 #[qI r,qI j,qI left,qI right,qI f,qI 2])) (λ_ n _=>v.length -(intOf n).toNat)
  case atStart=>exact⟨0,bs,aa,rfl,by rw[eZ,show kM r at_ [] F2=[] from rfl,bX];exact d,p,e⟩
  case round=>
   clear d p e s;obtain⟨k,J,j6,rfl,d,p,e⟩:=hrel
   by_cases d3:k<v.length
   ·obtain⟨b,o⟩:∃b,v[k]?=some b:=⟨_,gE d3⟩
    obtain⟨x,E⟩:∃x,G[k]?=some x:=⟨_,gE (by rw[<-d0.o];exact d3)⟩
    obtain⟨h4,rfl,_,b2⟩:=p.o.1 k b o;have h5:=zh o;have h6:=zh E;have h7:=zh (SG (r:=r) (a:=at_) (m:=F2) E);clear o E;have h8:=e.o.cell 5;have h9:=e.o.cell 3;have i0:=e.o.cell 4;go_wp2_with fail;refine(FE g _ rs ts N O D right f c6 wr (g1.o.keep d.o.below) f1 f2 f3 c1).mono ?_;rw[b1.o];rintro c2 j7 ⟨j8,B,rfl,b3,a0,o⟩;obtain⟨i1,j9,rfl,k0,k1,d4⟩:=b3.form;have A:=zh (wR.zIi b3 a0 d4 (λb b0=>(d.o.own.row b b0).2.1));have d5:=zh a0.1;have k2:B.length<=2:=by rw[a0.1,<-b1.o];exact Hz
    have e:=kp o e;have d:=zh (d.o.keep o);have p:=zh (p.o.keep o);clear o b3 a0 d4 h8 h9 i0 b2;go_wp2_with fail
    go_loopw [1,72] (λb4 n wr=>∃(m:Nat) (J:List Nat),m<=B.length/\n=qI m/\Hy (jN rs w0 w l wr b4 J (xs++kM r at_ (G.take k) F2++(F2.take m).map λy=>Rd.mk r at_ [x,y]))/\Hy (wR rs wr (some (ag h4 (0))) v G b4)/\Hy (wR rs wr i1 B F2 b4)/\Hy (au wr w.heap.size 229 #[qI r,qI j,qI left,qI right,qI f,qI 2])) (λ_ n _=>B.length -(intOf n).toNat)
    case atStart=>exact⟨0,J,aa,rfl,by rw[eZ,jl,bX];exact d,p,A,e⟩
    case round=>
     clear d p A e;obtain⟨m,a1,k3,rfl,d,p,A,e⟩:=hrel
     by_cases d6:m<B.length
     ·obtain⟨c,b5⟩:∃c,B[m]?=some c:=⟨_,gE d6⟩
      obtain⟨y,b6⟩:∃y,F2[m]?=some y:=⟨_,gE (by rw[<-d5.o];exact d6)⟩
      obtain⟨k4,rfl,_,b2⟩:=A.o.1 m c b5;have d7:=zh (A.o.2.1.2 m c y b5 b6);have d8:=zh (p.o.2.1.2 k b x h5.o h6.o);have d9:=zh (SH (r:=r) (a:=at_) (x:=x) b6);clear b5 b6;have a8:=e.o.cell 0;obtain⟨i2,i3,rfl,k5,k6,_⟩:=d.o.own.form
      by_cases e0:a1.length<2
      ·have C:=(aN wr (.cells (uE rs r at_ (bB b) (bB c)) 212)).trans ((aN (wr.alloc (.cells (uE rs r at_ (bB b) (bB c)) 212)) (.cells #[bB wr.heap.size] 174)).mono aS);have e1:=zh ((au.new wr 212 (uE rs r at_ (bB b) (bB c))).alloc (.cells #[bB wr.heap.size] 174));have a2:=zh (d.o.keep C);have e2:=zh (p.o.keep C);have e3:=zh (A.o.keep C);have e4:=kp C e;have e5:=zh (d8.o.keep C);have e6:=zh (d7.o.keep C);have K:World.ownsRow _ w0.heap.size 174 1 (.slice i2 a1.length i3) a1.length (a1.map bB):=a2.o.own;have b7:=Bb (wr.alloc (.cells (uE rs r at_ (bB b) (bB c)) 212)) [bB wr.heap.size] 174;rw[dY] at b7;clear C d p A e d8 d7;go_wp2_with (at_builtin;refine uj _ rfl (.tmp 79) (.tmp 89) 172 rfl w0.heap.size 174 f4 (.pointer none) 1 8 underlying172 f5 f6 f7 f8 rfl aI _ _ _ rfl K ⟨wr.heap.size+1,0,none⟩ 1 1 [bB wr.heap.size] rfl rfl b7 ?c2a ?c3a ?c4a ?c5a ?_)
       case c2a=>intro a7 F;simp at F;subst F;rfl
       case c3a=>unfold maxLen;omega
       case c4a=>omega
       case c5a=>exact a2.o.below.size
       intro v' k7 e7 L _ a3;have M:=zh (a2.o.push e0 (.two _ _ _ _ _ _ _ e1.o e5.o e6.o) (Fx rfl e7) L (a3.imp id λh=>h.trans aS));have i4:=zh (e2.o.push K L (a3.imp id λh=>h.trans aS));have i5:=zh (e3.o.push K L (a3.imp id λh=>h.trans aS));have i6:=zh (e4.o.stay L (λr H=>(df.row K r H).2.2) aI);rw[cu,<-d9.o] at M;clear K e7 L a3 a2 e2 e3 e4 e5 e6 e1 b7 b2 a8;go_wp2;go_roundw
       case rel=>exact⟨m+1,_,aa,bi,M,i4,i5,i6⟩
       case measure=>simp[intOf];omega
      ·have M:=zh (d.o.full (z:=.mk r at_ [x,y]) e0);rw[cu,<-d9.o] at M;clear d;go_wp2;go_roundw
       case rel=>exact⟨m+1,_,aa,bi,M,p,A,e⟩
       case measure=>simp[intOf];omega
     ·obtain rfl:m=B.length:=by omega
      rw[d5.o,bW,cu,<-h7.o] at d;go_wp2;go_roundw
      case rel=>exact⟨k+1,_,aa,bi,d,p,e⟩
      case measure=>simp[intOf];omega
   ·obtain rfl:k=v.length:=by omega
    rw[d0.o,bW] at d;have i7:=ah (xG rs ts at_ ⟨r,j,left,right,f,2⟩=kM r at_ G F2) (by rw[<-h3.o,<-b1.o,<-g2.o,<-g3.o];rfl);go_wp2;go_ret;exact⟨_,_,rfl,by rw[i7.o];exact d.o⟩
def nU:Value->DataW Unit
 | .slice (some a) n c=>.agg [.lit (.int .i64 1),.lit (.int .i64 a.block),.lit (.int .i64 n),.lit (.int .i64 c)]
 |_=>.lit (.int .i64 0)
def FH:Value->Bool
 | .slice none 0 0=>true
 | .slice (some ⟨_,0,none⟩) _ _=>true
 |_=>false
def qG (v:Value):Option (DataW Unit×List MemPlace):=if FH v then some (nU v,[]) else none
def IC {u v:Value}{ps:List MemPlace}(b:FH u=true)(h:qG v=some (nU u,ps)):v=u:=by
 unfold qG at h
 split at h
 ·rename_i a
  simp only[gV,nP] at h;have h:=h.1;unfold FH at b a
  split at b
  ·split at a
   ·rfl
   ·simp[nU] at h
   ·cases a
  ·split at a
   ·simp[nU] at h
   ·simp only[nU,DataW.agg.injEq,ul,DataW.lit.injEq,Lit.int.injEq,true_and,and_true] at h;obtain⟨c,d,e⟩:=h;have f:=mE c;have g:=mE d;have i:=mE e;subst f g i;rfl
   ·cases a
  ·cases b
 ·cases h
def df.ok {v:Value}(h:df w B v bs):FH v=true:=by
 rcases h.2 with⟨a,_⟩|⟨b,c,d,a,_⟩
 ·rw[a];rfl
 ·rw[a];rfl
def Ae:Maps.Keyed prog 3:=Maps.int_keyed underlying3
def IE (w:World):(zeroValue 172).run prog w= .ok qN w:=by simp[Tryz.zeroValue172]
structure lY (w:World)(B bm:Nat)(rs:List aD)(ts:List ByteArray)(i:Nat)(done:List ja)(D:DataW Unit)(hd:Nat->Value)(bss:Nat->List Nat):Prop where
 own:w.ownsMap prog 3 qG bm done.length D
 at_:∀r:Nat,D.atKey (.int .i64 r) (nU qN)=nU (hd r)
 rows:∀r,df w B (hd r) (bss r)
 shs:∀r,jm rs w (bss r) (kN rs ts i r done)
 dis:∀r r',r≠r'->∀b,(hd r).ownBlock=some b->(hd r').ownBlock≠some b
def Eb {D:DataW Unit}(h:w.ownsMap prog 3 qG bm n D):¬au w bm t cs:=by
 obtain⟨b,c,a,_⟩:=h;unfold au;rw[a];simp
def lY.keep {w w':World}{B bm:Nat}{rs:List aD}{ts:List ByteArray}{i:Nat}{done:List ja}{D:DataW Unit}{hd:Nat->Value}{bss:Nat->List Nat}(h:lY w B bm rs ts i done D hd bss)(a:Below w.heap.size w w'):lY w' B bm rs ts i done D hd bss:=
 ⟨h.own.kept (row:=none) ⟨a.os,a.tape,a.output,a.size,λi b _=>a.block i b⟩ aS,h.at_,λr=>(h.rows r).keep a,λr=>(h.shs r).keep a,h.dis⟩
def lY.full {done:List ja}{D:DataW Unit}(h:lY w B bm rs ts i done D hd bss){a:ja}(b:¬(bss a.rule).length<2):lY w B bm rs ts i (done++[a]) D hd bss:=by
 refine⟨h.own.mono aS,h.at_,h.rows,λr=>?_,h.dis⟩;rw[Lh]
 split
 ·rename_i e
  subst e;rw[Ri (by rw[<-(h.shs a.rule).1];exact b)];exact h.shs _
 ·exact h.shs r
def lY.put {w j w2 w0:World}{bm:Nat}{rs:List aD}{ts:List ByteArray}{i:Nat}{done:List ja}{D:DataW Unit}{hd:Nat->Value}{bss:Nat->List Nat}(h:lY w w0.heap.size bm rs ts i done D hd bss){a:ja}{v':Value}{m:List Nat}
  (k:jN rs w0 w (hd a.rule) j v' m (kN rs ts i a.rule done++xG rs ts i a)) (A:w2.ownsMap prog 3 qG bm (done.length+1) (D.put (.int .i64 a.rule) (nU v'))) (s:j.grownBy w2 (some bm)) (u:∀t cs,¬au j bm t cs):
  ∃B C E,lY w2 w0.heap.size bm rs ts i (done++[a]) B C E:=by
 have stay:∀g t cs,au j g t cs->au w2 g t cs:=λg t cs c=>c.grown s λe=>by
  obtain rfl:=sj e;exact u _ _ c
 have x:∀v bs,df j w0.heap.size v bs->df w2 w0.heap.size v bs:=λv bs y=>by
  refine gM y s ?_;cases o:v.ownBlock with
  |none=>exact .inl rfl
  |some b=>
   refine .inr λe=>?_
   obtain rfl:=sj e;obtain⟨cs,F⟩:=(y.row _ o).2.2;exact u _ _ F
 have G:∀r,r≠a.rule->df j w0.heap.size (hd r) (bss r):=λr H=>by
  refine gM (h.rows r) k.grown ?_;cases o:(hd r).ownBlock with
  |none=>exact .inl rfl
  |some b=>exact .inr λe=>h.dis r a.rule H b o e.symm
 refine⟨_,λr=>if r=a.rule then v' else hd r,λr=>if r=a.rule then m else bss r,by rw[aO];exact A,λr=>?_,λr=>?_,λr=>?_,λr f p b c=>?_⟩
 ·show(D.put (.int .i64 a.rule) (nU v')).atKey _ _=nU (if r=a.rule then v' else hd r)
  by_cases e:r=a.rule
  ·rw[ak e,e];exact Maps.atKey_put_same (World.ownsMap.isMap h.own) (by trivial) _ _
  ·rw[ai e,um (λd=>e (by simp at d;omega))];exact h.at_ r
 ·show df w2 _ (if r=a.rule then v' else hd r) (if r=a.rule then m else bss r)
  by_cases e:r=a.rule
  ·rw[ak e,ak e];exact x _ _ k.own
  ·rw[ai e,ai e];exact x _ _ (G r e)
 ·show jm rs w2 (if r=a.rule then m else bss r) _;rw[Lh]
  by_cases e:r=a.rule
  ·subst e;rw[ak rfl,ak rfl];exact k.shs.map λg cs c=>stay g _ cs c
  ·rw[ai e,ai (λd=>e d.symm)];exact((h.shs r).grow k.grown λf I=>((h.rows a.rule).row f I).2.2).map λg cs c=>stay g _ cs c
 ·have z:∀r b,(hd r).ownBlock=some b->b<w.heap.size:=λr b c=>((h.rows r).row b c).2.1
  show(if f=a.rule then v' else hd f).ownBlock≠some b;have c:(if r=a.rule then v' else hd r).ownBlock=some b:=c
  by_cases e:r=a.rule
  ·rw[ak e] at c;rw[ai (λn=>p (e.trans n.symm))];rcases k.loc with l|⟨J,l,q⟩
   ·rw[l] at c;exact h.dis a.rule f (λd=>p (e.trans d)) b c
   ·rw[q] at c;obtain rfl:=sj c;intro d;have:=z f _ d;omega
  ·rw[ai e] at c
   by_cases n:f=a.rule
   ·rw[ak n];rcases k.loc with l|⟨J,l,q⟩
    ·rw[l];exact h.dis r a.rule e b c
    ·rw[q];intro d;obtain rfl:=sj d;have:=z r _ c;omega
   ·rw[ai n];exact h.dis r f p b c
structure yF (w0:World)(g gm gt gi bm:Nat)(rs:List aD)(ts:List ByteArray)(i:Nat)(done:List ja)(w:World):Prop where
 vm:au w gm 226 #[.map (some bm)]
 vt:au w gt 170 #[bB g]
 vi:au w gi 3 #[.int .i64 i]
 below:Below w0.heap.size w0 w
 map:∃D hd bss,lY w w0.heap.size bm rs ts i done D hd bss
 low:w0.heap.size<=bm
def yF.keep {w0:World}{g b c d bm:Nat}{rs:List aD}{ts:List ByteArray}{i:Nat}{done:List ja}{w w':World}(h:yF w0 g b c d bm rs ts i done w)(a:Below w.heap.size w w'):yF w0 g b c d bm rs ts i done w':=by
 obtain⟨f,j,k,e,⟨D,hd,bss,l⟩,m⟩:=h;exact⟨jL a f,jL a j,jL a k,e.trans (a.mono e.size),⟨D,hd,bss,l.keep a⟩,m⟩
def yF.put {w0:World}{g l m n bm:Nat}{rs:List aD}{ts:List ByteArray}{i:Nat}{done:List ja}{w f w2:World}{D:DataW Unit}{hd:Nat->Value}{bss:Nat->List Nat}{a:ja}{v':Value}{u:List Nat}
  (v:au w l 226 #[.map (some bm)]) (x:au w m 170 #[bB g]) (y:au w n 3 #[.int .i64 i]) (o:w0.heap.size<=bm) (c:lY w w0.heap.size bm rs ts i done D hd bss)
  (b:jN rs w0 w (hd a.rule) f v' u (kN rs ts i a.rule done++xG rs ts i a)) (z:w2.ownsMap prog 3 qG bm (done.length+1) (D.put (.int .i64 a.rule) (nU v'))) (h:f.grownBy w2 (some bm)):
  yF w0 g l m n bm rs ts i (done++[a]) w2/\∀k cs,au w k 203 cs->au w2 k 203 cs:=by
 have p:∀r,(hd a.rule).ownBlock=some r->∃cs,au w r 174 cs:=λr A=>((c.rows a.rule).row r A).2.2
 have q:f.ownsMap prog 3 qG bm done.length D:=c.own.kept b.grown λe=>by
  obtain⟨cs,B⟩:=p bm e.symm;exact Eb c.own B
 have d:∀k t cs,t≠174->au w k t cs->au w2 k t cs:=λk t cs C j=>by
  have s:=j.stay b.grown p C;exact s.grown h λe=>by
   obtain rfl:=sj e;exact Eb q s
 refine⟨⟨d _ _ _ aI v,d _ _ _ aI x,d _ _ _ aI y,b.below.grown h b.below.size (λk E=>by cases E;exact o),c.put b z h (λt cs=>Eb q),o⟩,λk cs j=>d _ _ _ aI j⟩
def pM (w0:World)(g gm gt gi bm:Nat)(rs:List aD)(ts:List ByteArray)(i:Nat)(done:List ja)(a:ja)(wa:World)(hd:Nat->Value):List Bool->Value×List Nat->World->Prop
 |[false,_],_,wq=>Below wa.heap.size wa wq
 |[true,false],gx,wq=>∃wb,Below wa.heap.size wa wb/\jN rs w0 wb (hd a.rule) wq gx.1 gx.2 (kN rs ts i a.rule done++xG rs ts i a)
 |[true,true],_,wq=>yF w0 g gm gt gi bm rs ts i (done++[a]) wq/\∀k cs,au wa k 203 cs->au wq k 203 cs
 |_,_,_=>False
def SL :(xE rs ts i j k).length<=1:=by
 unfold xE
 split
 ·split<;>simp
 ·simp
def SN :(pI rs i j k).length<=1:=by
 unfold pI
 split<;>simp
def SQ :(oF rs ts i j k).length<=2:=by
 unfold oF;rw[aO];have a:=SL (rs:=rs) (ts:=ts) (i:=i) (j:=j) (k:=k);have b:=SN (rs:=rs) (i:=i) (j:=j) (k:=k);omega
def SS :(rU rs ts i j).length<=2+2*(j -(i+1)):=by
 unfold rU;rw[aO,aO];have c:(mK rs ts i j).length<=1:=by
  unfold mK
  split
  ·split<;>simp
  ·simp
 have d:(vT rs ts i j).length<=1:=by
  unfold vT
  split
  ·split<;>simp
  ·simp
 have a:=DZ (f:=oF rs ts i j) (b:=2) (l:=List.range' (i+1) (j -(i+1))) λk _=>SQ
 rw[List.length_range'] at a;omega
def Ml (e:i<j){a:ja}(h:a∈rU rs ts i j):a.rule<rs.length/\i<=a.frm/\a.frm<a.left/\a.left<=j/\a.left -a.frm<j -i/\(a.kids=1\/(a.kids=2/\i<a.right/\a.right<a.to/\a.to=j)):=by
 unfold rU at h;rw[iZ,iZ,oo] at h;have b:∀{kind:Int} {s:List UInt8} {r:Nat},ny rs kind s=some r->r<rs.length:=λh=>by
  obtain⟨x,c,_⟩:=zY h;exact(bP.1 c).1
 rcases h with(h|h)|⟨k,d,h⟩
 ·unfold mK at h
  split at h
  ·split at h
   ·rw[iT] at h;subst h;exact⟨b ‹_›,by dsimp only;omega,by dsimp only;omega,by dsimp only;omega,by dsimp only;omega,.inl rfl⟩
   ·cases h
  ·cases h
 ·unfold vT at h
  split at h
  ·split at h
   ·rw[iT] at h;subst h;exact⟨b ‹_›,by dsimp only;omega,by dsimp only;omega,by dsimp only;omega,by dsimp only;omega,.inl rfl⟩
   ·cases h
  ·cases h
 ·have f:=Cy d;unfold oF at h;rw[iZ] at h;rcases h with h|h
  ·unfold xE at h
   split at h
   ·split at h
    ·rw[iT] at h;subst h;exact⟨b ‹_›,by dsimp only;omega,by dsimp only;omega,by dsimp only;omega,by dsimp only;omega,.inr ⟨rfl,by dsimp only;omega,by dsimp only;omega,rfl⟩⟩
    ·cases h
   ·cases h
  ·unfold pI at h
   split at h
   ·rw[iT] at h;subst h;exact⟨b ‹_›,by dsimp only;omega,by dsimp only;omega,by dsimp only;omega,by dsimp only;omega,.inr ⟨rfl,by dsimp only;omega,by dsimp only;omega,rfl⟩⟩
   ·cases h
def SV (g:Nat)(F:pK)(rs:List aD)(ts:List ByteArray)(d:Nat)(e:Nat->Nat)(c:Nat->Nat->Bool)(a:ja)(i j:Nat)(l:Value)(bs:List Nat)(xs:List Rd)(w0 w:World)(o:iP w0 g F rs ts d e c)(s:Below w0.heap.size w0 w)(t:df w w0.heap.size l bs)(u:jm rs w bs xs)(v:xs.length<=2)(C:i<j)(E:j<=ts.length)(D:a∈rU rs ts i j)(f:∀p q,i<=p->p<q->q<=j->q -p<j -i->c p q=true)(x:rs.length<=1000000):
  Calls prog 182 #[bB g,l,.int .i64 i,.agg a.c] w (BH rs w0 l (xs++xG rs ts i a) w):=by
 obtain⟨r,y,left,right,z,kids⟩:=a;obtain⟨h,k,b,m,n,A⟩:=Ml C D;dsimp only at h k b m n A;rcases A with rfl|⟨rfl,G,B,H⟩
 ·exact SI g F rs ts d e c r y left right z i l bs xs w0 w o s t u v h b aa (f _ _ k b m n) x
 ·exact SK g F rs ts d e c r y left right z i l bs xs w0 w o s t u v h b aa (f _ _ k b m n) B aa (f _ _ aa B aa aa) x
def pM.keeps {w0:World}{l m n:Nat}{done:List ja}{a:ja}{b:World}{D:DataW Unit}{c d:Bool}{p:Value×List Nat}{e:World}(h:pM w0 g l m n bm rs ts i done a b hd [c,d] p e)(q:lY b w0.heap.size bm rs ts i done D hd bss)(s:d=false)(f:au b k t cs)(u:t≠174)(o:Nat):e.cell? (ag k o)=cs[o]?:=by
 subst s;cases c
 ·exact(jL h f).cell o
 ·obtain⟨x,j,v⟩:=h;exact((jL j f).stay v.grown (λr w=>(((q.keep j).rows a.rule).row r w).2.2) u).cell o
def SX (g:Nat)(F:pK)(rs:List aD)(ts:List ByteArray)(U:Nat)(V:Nat->Nat)(H:Nat->Nat->Bool)(i j u x y bm:Nat)(w0:World)(W:iP w0 g F rs ts U V H)(Y:i<j)(b2:j<=ts.length)(z:∀p q,i<=p->p<q->q<=j->q -p<j -i->H p q=true)(b3:rs.length<=1000000)(c9:ts.length<=1000000):
  Mi 181 #[bB u,bB x,bB y] rs ts i j (yF w0 g u x y bm rs ts i):=by
 intro done a m w I Z;have b4:=zh W;have b5:=zh z;have a0:=ah (a∈rU rs ts i j) (by rw[I];simp);have b6:=(Ml Y a0.o).1;have b7:done.length<=2000002:=by
  have b8:=SS (rs:=rs) (ts:=ts) (i:=i) (j:=j);rw[I,aO] at b8;omega
 have b9:=ah (done.length<maxLen) gy;clear I W z b7;obtain⟨r,n,left,right,o,kids⟩:=a;dsimp only at b6;have J:=zh (Maps.keyOf_int_mk (P:=prog) (k:=3) underlying3 (q:=.i64) (a:=(r:Int)) (WalkArith.wf_i64 aa));have K:=zh (aN w (.cells #[.int .i64 r,.int .i64 n,.int .i64 left,.int .i64 right,.int .i64 o,.int .i64 kids] 229));have M:=zh (au.new w 229 #[.int .i64 r,.int .i64 n,.int .i64 left,.int .i64 right,.int .i64 o,.int .i64 kids]);obtain⟨a1,a2,a3,f,⟨d0,hd,bss,a4⟩,a5⟩:=Z.keep K.o;have A:=zh a1;have N:=zh a2;have O:=zh a3;have Q:=zh f;have d:=zh a4;have a6:=zh a5;clear f a4 a5 a1 a2 a3 Z;obtain⟨d1,d2,a7,d3,_,_⟩:=(d.o.rows r).form;obtain⟨v,c0,t,E⟩:=d.o.own.lookup Ae underlying226 (IE _) (show qG qN=some (nU qN,[]) from rfl) J.o;obtain rfl:=IC (d.o.rows r).ok (by rw[<-d.o.at_ r];exact E);rw[a7] at t;clear E;have c1:=A.o.cell 0;rw[show(#[Value.agg (ja.c ⟨r,n,left,right,o,kids⟩)]++ #[bB u,bB x,bB y]:Array Value)= #[.agg #[.int .i64 r,.int .i64 n,.int .i64 left,.int .i64 right,.int .i64 o,.int .i64 kids],bB u,bB x,bB y] from rfl]
 by_cases c2:(bss r).length<2
 ·have a8:((bss r).length:Int)<2:=by omega
  go_enter func181,ntmps181;go_upto_region 2 with(fail)
  clear t c1 a7 a8;generalize w.alloc (.cells _ 229)=c3 at*;refine xX (X:=Value×List Nat) aj _ (λh=>[.map (some bm),qP w.heap.size,.int .i64 r,qP g,.map (some bm),qP w.heap.size,.int .i64 r,hd r,.int .i64 i,.agg #[.int .i64 r,.int .i64 n,.int .i64 left,.int .i64 right,.int .i64 o,.int .i64 kids],h.1,undef]) [true,true,true,true,true,true,true,true,true,true,true,true] [10,11] (pM w0 g u x y bm rs ts i done ⟨r,n,left,right,o,kids⟩ c3 hd) (.nilFunc,[]) aj (λh=>by simp[fin,mX,fK,List.range,List.range.loop,Act.put];rfl) (λ_=>aj) aj (fC (aL _ _)) ?_ ?_
  ·refine⟨λL h c s f e b=>?_,jT,λL h c s f e b=>?_,λL h c s f e b=>?_,λL h c s f e b=>?_,jT,λL h c s f e b=>?_,λL h c s f e b=>?_,λL h c s f e b=>?_,λL h c s f e b=>?_,λL h c s f e b=>?_,λL h c s f e b=>?_,trivial⟩
   ·have l:=pM.keeps b d.o (e 11 aj) A.o aI 0;exact jq (.map (some bm)) c (bE l) rfl b
   ·have l:=pM.keeps b d.o (e 11 aj) M.o aI 0;exact jq (.int .i64 r) c (bE l) rfl b
   ·have l:=pM.keeps b d.o (e 11 aj) N.o aI 0;exact jq (qP g) c (bE l) rfl b
   ·have l:=pM.keeps b d.o (e 11 aj) A.o aI 0;exact jq (.map (some bm)) c (bE l) rfl b
   ·have l:=pM.keeps b d.o (e 11 aj) M.o aI 0;exact jq (.int .i64 r) c (bE l) rfl b
   ·have B:L 10=false:=e 10 aj;have a9:=b;simp only[List.map,B] at a9;obtain⟨v,c0,t,E⟩:=(d.o.keep a9).own.lookup Ae underlying226 (IE c) (show qG qN=some (nU qN,[]) from rfl) J.o;obtain rfl:=IC (d.o.rows r).ok (by rw[<-d.o.at_ r];exact E);exact jq (hd r) c (by simp[go_sem,t]) rfl b
   ·have l:=pM.keeps b d.o (e 11 aj) O.o aI 0;exact jq (.int .i64 i) c (bE l) rfl b
   ·have l:=λk=>pM.keeps b d.o (e 11 aj) M.o aI k
    exact jq (.agg #[.int .i64 r,.int .i64 n,.int .i64 left,.int .i64 right,.int .i64 o,.int .i64 kids]) c (bE l) rfl b
   ·have B:L 10=false:=s;have R:L 11=false:=e 11 aj;simp only[List.map,B,R] at b⊢;refine jc 182 (#[qP g,hd r,.int .i64 i,.agg #[.int .i64 r,.int .i64 n,.int .i64 left,.int .i64 right,.int .i64 o,.int .i64 kids]]) c aj ((SV g F rs ts U V H ⟨r,n,left,right,o,kids⟩ i j (hd r) (bss r) (kN rs ts i r done) w0 c b4.o (Q.o.trans (Below.mono b Q.o.size)) ((d.o.rows r).keep b) ((d.o.shs r).keep b) Fg Y b2 a0.o b5.o b3).mono ?_);rintro b0 d4 ⟨v',c4,rfl,C⟩;exact⟨_,rfl,(v',c4),rfl,jD,c,b,C⟩
   ·have B:L 10=true:=f 10 aj;have R:L 11=false:=s;simp only[List.map,B,R] at b⊢;obtain⟨d5,D,C⟩:=b;have G:=d.o.keep D;have c5:=G.own.kept C.grown (λb0=>by
     obtain⟨cs,S⟩:=((G.rows r).row bm b0.symm).2.2;exact Eb G.own S)
    obtain⟨w2,t,c6,c7⟩:=c5.update Ae underlying226 b9.o J.o (show qG h.1=some (nU h.1,[]) by unfold qG;rw[C.own.ok];rfl);have b1:=yF.put (a:=⟨r,n,left,right,o,kids⟩) (ae D A.o) (ae D N.o) (ae D O.o) a6.o G C c6 c7;exact aP.skip (w':=w2) (by simp[go_sem,t]) ⟨h,rfl,lK.same,b1.1,λk cs T=>b1.2 k cs (ae D T)⟩
  ·intro h c b;obtain⟨S,T⟩:=b;go_wp2_with fail
   go_end0
   exact⟨rfl,S,λk cs f=>T k cs (ae K.o f)⟩
 ·have z:=d.o.full (a:=⟨r,n,left,right,o,kids⟩) c2;have c8:=zh z;have a8:¬((bss r).length:Int)<2:=by omega
  clear z;go_enter func181,ntmps181;go_wp2_with fail
  go_end0
  exact⟨rfl,⟨A.o,N.o,O.o,Q.o,⟨_,_,_,c8.o⟩,a6.o⟩,λk cs f=>ae K.o f⟩
end Go.Proofs.YtlefbenkhgbifaaGreatDoor.Ch
