/- What the rows of render share: five listed variables, arguments that are terms. -/
import Derived.ProofKit
import Derived.Carry
import Derived.ChangeSame
import Derived.OpenShut
import Derived.Test.YtlefbenkhgbifaaGreatDoorRows
import Derived.LaidMore
import Derived.Stop.Joined
import Derived.Deep.Slices
import Derived.Deep.Fields
import Derived.HandedShaped
import Derived.Lib.LaidTab
import Derived.Lib.LaidCase
import Derived.Shelf.Vars
import Derived.Lay
import Derived.Test.YtlefbenkhgbifaaGreatDoorHd155c4e4
set_option linter.all false
set_option maxRecDepth 100000
namespace Go.Proofs.YtlefbenkhgbifaaGreatDoor
open Go.Proofs.Tryz
section
open Go.RowKit Go.WideShapes Go.ChangeShapes
section
variable {H : Type} {enc : TypeId × Value -> H} {P : Program}
def QQ (g:laidOutB P=true){W i:World}(j:Below W.heap.size W i){sp:Nat->Bool}:∀{ts:List TypeId} {b:List Value} {c:List (DataW H)} {ps:List MemPlace},
  (∀t∈ts,P.readableRec t=true/\t<P.types.size)->DataW.TrodAll enc P W 0 (λ_=>true) true ts b c ps->(∀x∈ps,x.block<W.heap.size)->(∀x∈ps,sp x.block=true)->DataW.TrodAll enc P i 0 sp true ts b c ps
 |[],[],[],_,_,h,_,_=>h
 |t::ts,v::b,d::c,ps,f,⟨p,q,m,n,e⟩,k,l=>by
  subst e;refine⟨p,q,WideElems.Trod_stays g (f t bZ).1 (f t bZ).2 m (λx a=>j.same (k x (mH _ a))) (λx a=>l x (mH _ a)),?_,rfl⟩;exact QQ g j (λt o=>f t (dP _ o)) n (λx a=>k x (mI _ a)) (λx a=>l x (mI _ a))
 |[],[],_::_,_,_,h,_,_=>h.elim
 |[],_::_,_,_,_,h,_,_=>h.elim
 |_::_,[],_,_,_,h,_,_=>h.elim
 |_::_,_::_,[],_,_,h,_,_=>h.elim
def zOg {f:Func}{s:ChangeSpec}{i w x again:Bool}{W d:World}{args:Array Value}{v:Value}{e gs:List (DataW H)}{c pa pv:List MemPlace}
  (h:DataW.Whole enc P f.params.toList s.vars i W args.toList e gs c)
  (k:∀(b:Nat) (sp:Nat->Bool) (y:Bool),DataW.TrodAll enc P d b sp y f.resultTypes.toList (v.resultList f.resultTypes.size) (s.fn H (e++gs)).results [])
  (l:∀sp:Nat->Bool,(∀p∈c,sp p.block=true)->DataW.TrodAll enc P d 0 sp true f.params.toList args.toList (s.fn H (e++gs)).args pa)
  (m:∀sp:Nat->Bool,(∀p∈c,sp p.block=true)->DataW.TrodVars enc P d sp s.vars (s.fn H (e++gs)).vars pv)
  (g:c=pa++pv) (n:Below W.heap.size W d)
  (z:∀(j:Nat) (t:TypeId) (r:Value),f.resultTypes[j]?=some t->(v.resultList f.resultTypes.size)[j]?=some r->Value.okWide P d .any 0 t r):
  s.post enc P f i w x again W args v d:=by
 have o:∀p∈c,p.block<W.heap.size:=λp a=>h.lt p a
 have q:∀p∈c,(λb=>decide (b<W.heap.size)) p.block=true:=λp a=>by simpa using o p a
 refine⟨e,gs,c,[],pa,pv,h,k _ _ _,l _ q,m _ q,World.keptBut_mono (λp a=>⟨a,?_⟩) (n.frame (·∈c)),λ_=>?_⟩
 ·rw[g,iZ] at a;exact Or.inr a
 ·obtain⟨_,_,_,_,_,A,B⟩:=h;refine⟨z,_,_,([]++pa)++pv,⟨[]++pa,pv,trodAll_append (l _ (λ_ _=>rfl)) (k _ _ _),m _ (λ_ _=>rfl),rfl,?_,?_⟩,?_⟩
  ·intro b off a;have u:MemPlace.cell b off∈c:=by rw[g];simpa using a
   rw[n.frozen (o _ u)];exact A b off u
  ·intro C;have:=B C;rw[g] at this
   simpa using this
  ·intro p a _;rw[g]
   simpa using a
def yBx {f:Func}{s:ChangeSpec}{h w y again:Bool}{W i:World}{args:Array Value}{a gs:List (DataW H)}{z:List MemPlace}{tb:TypeId}
  (A:laidOutB P=true) (B:(f.params.toList.all λt=>P.readableRec t&&decide (t<P.types.size))=true) (k:s.vars=[]) (l:f.resultTypes= #[tb]) (m:P.underlying tb=some .bool)
  (n:DataW.Whole enc P f.params.toList s.vars h W args.toList a gs z)
  (C:(s.fn H a).results=[.lit (.bool true)]) (D:(s.fn H a).args=a) (E:(s.fn H a).vars=[])
  (o:Below W.heap.size W i):s.post enc P f h w y again W args (.bool true) i:=by
 have u:=n;obtain⟨p,q,F,c,rfl,N,O⟩:=n;rw[k] at c;have G:gs=[]/\q=[]:=by
  cases gs with
  |nil=>exact⟨rfl,c⟩
  |cons _ _=>exact c.elim
 obtain⟨rfl,rfl⟩:=G;have I:∀t∈f.params.toList,P.readableRec t=true/\t<P.types.size:=λt J=>by
  have:=cz.1 B t J
  simpa using this
 have K:∀x∈p,x.block<W.heap.size:=λx d=>u.lt x (by simpa using d)
 refine zOg (pa:=p) (pv:=[]) u ?_ ?_ ?_ rfl o ?_
 ·intro b sp Q;rw[bX,C,l];exact trodAll_mk1 (shut_bool m true)
 ·intro sp v;rw[bX,D];exact QQ A o I F K (λx d=>v x (by simpa using d))
 ·intro sp v;rw[bX,E,k];rfl
 ·rw[l];intro j t r e g
  match j,e,g with
  |0,e,g=>
   have L:tb=t:=by simpa using e
   have M:Value.bool true=r:=by simpa [Value.resultList] using g
   subst L M;exact okWide_bool_mk m true
end
end
namespace El
open At
open Go.ChangeShapes Go.WideShapes Go.ChangeAt Go.WideMaps Go.WideElems Go.RowKit Go.Deep
def own:ownKnob prog.godebug=none:=aj
def zJh {H:Type}{enc:TypeId×Value->H}{a:Assume}{C:Checked}{os:Os}{f:FuncId}{b:Func}{s:ChangeSpec}{k:List PathCond}{d l m again:Bool}{X:World->Array Value->Prop}
  (o:∀(w w':World) (args:Array Value),w.heap=w'.heap->X w args->X w' args)
  (own:ownKnob C.prog.godebug=none) (p:os.Started) (q:C.prog.inits.idxOf? f=none) (r:C.prog.funcs[f]?=some b)
  (u:∃(w:World) (c:Tape) (i:Input),w.os=os/\(w.forCall c i).Shaped C.prog/\i.vars=[]/\Input.okWide C.prog (w.forCall c i) .any w.heap.size f i/\
   ((s.pre enc C.prog b k d (w.forCall c i).memory i.args/\X (w.forCall c i).memory i.args)/\sizedMet enc C.prog b (OpenSpec.ofChange s) d (w.forCall c i).memory i.args)/\a.holds C.prog (lone (Frame.enter C.prog f i.args .normal) [] (w.forCall c i)))
  (x:∀(W:World) (base:Nat) (args:Array Value) (g gs:List (DataW H)) (h:List MemPlace),
   (∀(j:Nat) t v,b.params[j]?=some t->args[j]?=some v->Value.okWide C.prog W .any base t v)->
   DataW.Whole enc C.prog b.params.toList s.vars d W args.toList g gs h->
   X W args->W.ShapedOpen C.prog->
   Calls C.prog f args W λe n=>∃v,e= .returned v/\s.post enc C.prog b d l m again W args v n):
  ReturnsInHanded a C os f .any (λw args=>(s.pre enc C.prog b k d w args/\X w args)/\sizedMet enc C.prog b (OpenSpec.ofChange s) d w args) (s.post enc C.prog b d l m again):=by
 refine returnsInHanded_of_calls own p q u ?_;intro w c i _ y _ z A _;obtain⟨_,_,_,B,D,_,_,_,_,E⟩:=z;have e:B=b:=sj (D.symm.trans r);subst e;obtain⟨⟨⟨g,gs,h,F,L⟩,G⟩,M⟩:=A;have I:=DataW.Whole.of_heap (w':=w.forCall c i) (by rfl) F;refine(x (w.forCall c i) w.heap.size i.args g gs h E I (o _ _ _ (by rfl) G) y).mono λe n ⟨v,J,K⟩=>?_
 subst J;exact ChangeSpec.post_blind K
def EY {α:Type}:∀(n:Nat) {p:Nat->α->Prop},(∀i,i<n->∃x,p i x)->∃l:List α,l.length=n/\∀(i:Nat) (x:α),l[i]?=some x->p i x
 |0,_,_=>⟨[],rfl,λi x h=>by simp at h⟩
 |n+1,p,h=>by
  obtain⟨l,b,d⟩:=EY n (p:=p) λi c=>h i aa
  obtain⟨x,f⟩:=h n aa;refine⟨l++[x],by simp[b],λi y a=>?_⟩;rcases bu i n with c|c
  ·rw[dz aa] at a;exact d i y a
  ·rw[cO aa,b] at a
   by_cases e:i=n
   ·subst e;simp at a;subst a;exact f
   ·rw[ko (by simp;omega)] at a;cases a
section
variable {H : Type} {enc : TypeId × Value -> H} {w : World} {base : Nat} {spare : Nat -> Bool} {held : Bool}
def KN {w:World}{a:Addr}{n:Nat}{v:Value}(h:w.cell? (a.add n)=some v):a.block<w.heap.size:=by
 refine oC λb=>?_
 unfold World.cell? at h;rw[ig (by rw[show(a.add n).block=a.block by unfold Addr.add;split<;>rfl];omega)] at h;cases h
def KO {P:Program}{t e:TypeId}{fuel:Nat}{v:Value}{x:DataW H×List MemPlace}(k:P.underlying t=some (.slice e))(h:DataW.trod enc P w base spare held fuel t [v]=some x):
  v=qN\/∃(a:Addr) (len cap n:Nat),fuel=n+1/\v= .slice (some a) len cap/\len<=cap/\cap<=maxLen/\
   ∀i,i<len->∃b:List Value,b.length=P.cellsOf e/\(∀j,j<P.cellsOf e->w.cell? (a.add (i*P.cellsOf e+j))=b[j]?)/\∃y,DataW.trod enc P w base spare held n e b=some y:=by
 rcases DataW.trod_slice k h with⟨d,_⟩|⟨a,len,cap,g,A,n,l,d,_,_,m,o,B,p,_⟩
 ·exact .inl (by simpa using d)
 ·refine .inr ⟨a,len,cap,n,l,by simpa using d,m,o,λi q=>?_⟩;have c:=p i q;have r:g[i]?=some (g[i]' aa):=gE aa;rw[r] at c;cases f:w.cells? base (a.add (i*P.cellsOf e)) (P.cellsOf e) with
  |none=>rw[f] at c;cases c
  |some b=>
   rw[f] at c;obtain⟨_,s,u⟩:=World.cells?_some f;exact⟨b,s,λj z=>by rw[<-oO];exact u j z,_,c⟩
def KP:prog.cellsOf 3=1:=aj
def KQ:prog.cellsOf 9=1:=aj
def zX1:prog.cellsOf 41=6:=aj
def zVr {fuel:Nat}{v:Value}{x:DataW H×List MemPlace}(h:DataW.trod enc prog w base spare held fuel 22 [v]=some x):
  ∃(A:Option Addr) (rs:List aD) (cap:Nat),v= .slice A rs.length cap/\rs.length<=cap/\cap<=9223372036854775807/\fG w A rs:=by
 rcases KO underlying22 h with rfl|⟨a,len,cap,b7,c,rfl,M,N,r⟩
 ·exact⟨none,[],0,rfl,aH _,aa,λi b8 r=>by simp at r⟩
 ·rw[zX1] at r;obtain⟨rs,O,P⟩:=EY len (p:=λi (e:aD)=>e.fits/\∀(j:Nat) v,e.c[j]?=some v->w.cell? (a.add (i*6+j))=some v) (λi Q=>by
   obtain⟨R,S,n,y,T⟩:=r i Q;obtain⟨u,o,_,_,b9,U,c⟩:=DataW.trod_struct underlying41 T
   match R,S with
   |[d,f,g,k,l,m],_=>
    have c0:u.length=6:=U;have q:∀i,i<6->∃y,u[i]?=some y:=λi r=>⟨_,gE aa⟩
    obtain⟨V,W⟩:=q 0 aa;obtain⟨X,Y⟩:=q 1 aa;obtain⟨Z,a0⟩:=q 2 aa;obtain⟨a1,a2⟩:=q 3 aa;obtain⟨a3,a4⟩:=q 4 aa;obtain⟨a5,a6⟩:=q 5 aa;have z:DataW.trod enc prog w base spare held o 3 (([d,f,g,k,l,m].drop 0).take (prog.cellsOf 3))=some V:=(c 0 _ rfl).trans W;have B:DataW.trod enc prog w base spare held o 9 (([d,f,g,k,l,m].drop 1).take (prog.cellsOf 9))=some X:=(c 1 _ rfl).trans Y;have C:DataW.trod enc prog w base spare held o 9 (([d,f,g,k,l,m].drop 2).take (prog.cellsOf 9))=some Z:=(c 2 _ rfl).trans a0;have D:DataW.trod enc prog w base spare held o 3 (([d,f,g,k,l,m].drop 3).take (prog.cellsOf 3))=some a1:=(c 3 _ rfl).trans a2;have E:DataW.trod enc prog w base spare held o 3 (([d,f,g,k,l,m].drop 4).take (prog.cellsOf 3))=some a3:=(c 4 _ rfl).trans a4;have F:DataW.trod enc prog w base spare held o 3 (([d,f,g,k,l,m].drop 5).take (prog.cellsOf 3))=some a5:=(c 5 _ rfl).trans a6;rw[KP] at z D E F;rw[KQ] at B C;obtain⟨G,a7,_,_⟩:=rQ underlying3 z;obtain rfl:d= .int .i64 G:=by simpa using a7
    obtain⟨s,a8,_,a9⟩:=rR underlying9 B;obtain rfl:f= .string s:=by simpa using a8
    unfold maxLen at a9;obtain⟨t,b0,_,b1⟩:=rR underlying9 C;obtain rfl:g= .string t:=by simpa using b0
    unfold maxLen at b1;obtain⟨I,b2,_,_⟩:=rQ underlying3 D;obtain rfl:k= .int .i64 I:=by simpa using b2
    obtain⟨J,b3,_,_⟩:=rQ underlying3 E;obtain rfl:l= .int .i64 J:=by simpa using b3
    obtain⟨K,b4,_,_⟩:=rQ underlying3 F;obtain rfl:m= .int .i64 K:=by simpa using b4
    refine⟨⟨G,s,t,I,J,K⟩,⟨by show s.size<=_;omega,by show t.size<=_;omega⟩,λj v b=>?_⟩
    match j,b with
    |0,b=>simp at b;subst b;exact n 0 aa
    |1,b=>simp at b;subst b;exact n 1 aa
    |2,b=>simp at b;subst b;exact n 2 aa
    |3,b=>simp at b;subst b;exact n 3 aa
    |4,b=>simp at b;subst b;exact n 4 aa
    |5,b=>simp at b;subst b;exact n 5 aa
   |[],h=>simp at h
   |[_],h=>simp at h
   |[_,_],h=>simp at h
   |[_,_,_],h=>simp at h
   |[_,_,_,_],h=>simp at h
   |[_,_,_,_,_],h=>simp at h
   |_::_::_::_::_::_::_::_,h=>simp at h)
  subst O;unfold maxLen at N;refine⟨some a,rs,cap,rfl,M,aa,λb5 e b6=>?_⟩;obtain⟨c,L⟩:=P b5 e b6;refine⟨c,a,rfl,?_,L⟩;have:=L 0 _ rfl;exact KN this
end
section
variable {H : Type} {enc : TypeId × Value -> H} {W : World} {r : Reach} {b0 base : Nat} {sp : Nat -> Bool} {held : Bool} {v : Value} {d : DataW H} {p : List MemPlace}
def zYw (a:Value.okWide prog W r b0 22 v)(h:DataW.Trod enc prog W base sp held 22 v d p):∃(A:Option Addr) (rs:List aD) (cap:Nat),v= .slice A rs.length cap/\rs.length<=cap/\cap<=9223372036854775807/\fG W A rs:=by
 obtain⟨c,len,cap,rfl⟩:=okWide_slice underlying22 a;obtain⟨fuel,b⟩:=h;exact zVr (x:=(d,p)) (by simpa [Value.cells] using b)
end
end El
namespace Rn
open At Ch Sp Sy El
open Go.ChangeShapes Go.WideShapes Go.ChangeAt Go.WideMaps Go.WideElems Go.RowKit Go.Deep
variable{w W:World}{fuel:Nat}
abbrev Cw:List (String×DataW Unit):=[("math/bits.deBruijn32tab",Rows.laid_math_bits_deBruijn32tab),("math/bits.deBruijn64tab",Rows.laid_math_bits_deBruijn64tab),("internal/strconv.uint64pow10",Rows.laid_internal_strconv_uint64pow10),("strconv.ErrRange",Rows.laid_strconv_ErrRange),("strconv.ErrSyntax",Rows.laid_strconv_ErrSyntax)]
def KR:prog.globalNamed "strconv.ErrRange" =some 1:=aj
def KS:prog.globalNamed "strconv.ErrSyntax" =some 0:=aj
def KT:(prog.globals[1]?).map (·.type)=some 89:=aj
def KV:(prog.globals[0]?).map (·.type)=some 89:=aj
def QR {p:Addr}{v:Value}(h:w.cell? p=some v):p.block<w.heap.size:=by
 refine oC λa=>?_
 unfold World.cell? at h;rw[ig aa] at h;cases h
def QS {n:String}{g f:Nat}{b:Array Value}{c:String}{d:DataW Unit}{p:List MemPlace}{sp:Nat->Bool}{base:Nat}{enc:TypeId×Value->Unit}(e:prog.globalNamed n=some g)(h:W.var? prog n=some b)
  (i:DataW.trod enc prog W base sp false f 89 b.toList=some (.iface c d,p)):∃a,W.cell? (ag g (0))=some a/\(a= .nilIface\/∃j k,a= .iface j k):=by
 obtain⟨_,u,v,l,_,_⟩:=iface_of_trod underlying89 i;refine⟨.iface u v,?_,.inr ⟨u,v,rfl⟩⟩;rw[World.var?_cell e h 0,<-gF,l];rfl
def QT (h:laidMetH prog Cw W):mU W 0/\mU W 1:=by
 rw[MakeChecks.laidMetH_plain _ _ _ aj] at h;obtain⟨p,⟨q,r,s,t,u,v,w,x,y,z,⟨A,B,C,D,E,F,G,H,I,J,⟨K,L,M,N,O,P,Q,R,S,T,⟨U,V,X,Y,Z,a0,a,e,f,g,⟨a1,a2,a3,a4,a5,a6,b,i,j,k,_,_⟩,_⟩,_⟩,_⟩,_⟩,_,_⟩:=h;obtain rfl:=sj (KR.symm.trans a);obtain rfl:=sj (KT.symm.trans e);obtain rfl:=sj (KS.symm.trans b);obtain rfl:=sj (KV.symm.trans i);obtain⟨l,c,m⟩:=QS b j k;obtain⟨n,d,o⟩:=QS a f g;exact⟨⟨QR c,l,c,m⟩,⟨QR d,n,d,o⟩⟩
def yBo (os:Os)(args:Array Value):laidMetH prog Cw ((World.laidAll prog os Cw).forCall (λ_ _=>0) ⟨#[],args,[]⟩).memory:=by
 rw[MakeChecks.laidMetH_plain _ _ _ aj];exact laidMet_laidAll _ aj aj
def EY {α:Type}:∀(n:Nat) {p:Nat->α->Prop},(∀i,i<n->∃x,p i x)->∃l:List α,l.length=n/\∀(i:Nat) (x:α),l[i]?=some x->p i x
 |0,_,_=>⟨[],rfl,λi x h=>by simp at h⟩
 |n+1,p,h=>by
  obtain⟨l,b,d⟩:=EY n (p:=p) λi c=>h i aa
  obtain⟨x,f⟩:=h n aa;refine⟨l++[x],by simp[b],λi y a=>?_⟩;rcases bu i n with c|c
  ·rw[dz aa] at a;exact d i y a
  ·rw[cO aa,b] at a
   by_cases e:i=n
   ·subst e;simp at a;subst a;exact f
   ·rw[ko (by simp;omega)] at a;cases a
section
variable {H : Type} {enc : TypeId × Value -> H} {w : World} {base : Nat} {spare : Nat -> Bool} {held : Bool}
def KN {a:Addr}{n:Nat}{v:Value}(h:w.cell? (a.add n)=some v):a.block<w.heap.size:=by
 refine oC λb=>?_
 unfold World.cell? at h;rw[ig (by rw[Sp.yG];omega)] at h;cases h
def KO {P:Program}{t e:TypeId}{v:Value}{x:DataW H×List MemPlace}(k:P.underlying t=some (.slice e))(h:DataW.trod enc P w base spare held fuel t [v]=some x):
  v=qN\/∃(a:Addr) (len cap n:Nat),fuel=n+1/\v= .slice (some a) len cap/\len<=cap/\cap<=maxLen/\
   ∀i,i<len->∃b:List Value,b.length=P.cellsOf e/\(∀j,j<P.cellsOf e->w.cell? (a.add (i*P.cellsOf e+j))=b[j]?)/\∃y,DataW.trod enc P w base spare held n e b=some y:=by
 rcases DataW.trod_slice k h with⟨d,_⟩|⟨a,len,cap,g,A,n,l,d,_,_,m,o,B,p,_⟩
 ·exact .inl (by simpa using d)
 ·refine .inr ⟨a,len,cap,n,l,by simpa using d,m,o,λi q=>?_⟩;have c:=p i q;have r:g[i]?=some (g[i]' aa):=gE aa;rw[r] at c;cases f:w.cells? base (a.add (i*P.cellsOf e)) (P.cellsOf e) with
  |none=>rw[f] at c;cases c
  |some b=>
   rw[f] at c;obtain⟨_,s,u⟩:=World.cells?_some f;exact⟨b,s,λj z=>by rw[<-oO];exact u j z,_,c⟩
def QU:prog.cellsOf 25=5:=aj
def KP:prog.cellsOf 3=1:=aj
def KQ:prog.cellsOf 9=1:=aj
def zRu:prog.cellsOf 23=1:=aj
def zYr (g:∀n,n<fuel->∀b x,DataW.trod enc prog w base spare held n 25 b=some x->∃t,gK w t b.toArray){v:Value}{x:DataW H×List MemPlace}(h:DataW.trod enc prog w base spare held fuel 23 [v]=some x):
  ∃(A:Option Addr) (ts:List aC) (cap:Nat),v= .slice A ts.length cap/\ts.length<=cap/\cap<=9223372036854775807/\uf w A ts:=by
 rcases KO underlying23 h with rfl|⟨a,len,cap,n,C,rfl,k,l,d⟩
 ·exact⟨none,[],0,rfl,aH _,aa,λi t d=>by simp at d⟩
 ·rw[QU] at d;obtain⟨ts,m,o⟩:=EY len (p:=λi (t:aC)=>∃c,gK w t c/\∀j,j<5->w.cell? (a.add (i*5+j))=c[j]?) (λi q=>by
   obtain⟨b,D,r,y,s⟩:=d i q;obtain⟨t,u⟩:=g n aa b y s;exact⟨t,b.toArray,u,λj z=>by rw[r j z];simp⟩)
  subst m;unfold maxLen at l;refine⟨some a,ts,cap,rfl,k,aa,λi t B=>?_⟩;obtain⟨c,e,f⟩:=o i t B;refine⟨a,rfl,?_,c,e,f⟩;obtain⟨E,F,rfl,_⟩:=e.form;exact KN (f 0 aa)
def zY2:∀(fuel:Nat) (j:List Value) (x:DataW H×List MemPlace),DataW.trod enc prog w base spare held fuel 25 j=some x->∃t,gK w t j.toArray:=by
 intro fuel
 induction fuel using Nat.strongRecOn with
 |_ fuel B=>
  intro j x h;obtain⟨k,n,rfl,_,l,C,f⟩:=DataW.trod_struct underlying25 h;rw[QU] at l
  match j,l with
  |[a,b,c,d,e],_=>
   have a0:k.length=5:=C;have g:∀i,i<5->∃y,k[i]?=some y:=λi a1=>⟨_,gE aa⟩
   obtain⟨D,E⟩:=g 0 aa;obtain⟨F,G⟩:=g 1 aa;obtain⟨I,J⟩:=g 2 aa;obtain⟨m,K⟩:=g 3 aa;obtain⟨L,M⟩:=g 4 aa;have o:DataW.trod enc prog w base spare held n 3 (([a,b,c,d,e].drop 0).take (prog.cellsOf 3))=some D:=(f 0 _ rfl).trans E;have p:DataW.trod enc prog w base spare held n 9 (([a,b,c,d,e].drop 1).take (prog.cellsOf 9))=some F:=(f 1 _ rfl).trans G;have q:DataW.trod enc prog w base spare held n 9 (([a,b,c,d,e].drop 2).take (prog.cellsOf 9))=some I:=(f 2 _ rfl).trans J;have r:DataW.trod enc prog w base spare held n 23 (([a,b,c,d,e].drop 3).take (prog.cellsOf 23))=some m:=(f 3 _ rfl).trans K;have s:DataW.trod enc prog w base spare held n 9 (([a,b,c,d,e].drop 4).take (prog.cellsOf 9))=some L:=(f 4 _ rfl).trans M;rw[KP] at o;rw[KQ] at p q s;rw[zRu] at r;obtain⟨u,N,_,_⟩:=rQ underlying3 o;obtain⟨v,O,_,P⟩:=rR underlying9 p;obtain⟨z,Q,_,R⟩:=rR underlying9 q;obtain⟨a2,S,a3,T,U,V,W⟩:=zYr (λX a4=>B X aa) (show DataW.trod enc prog w base spare held n 23 [d]=some m from r);obtain⟨A,Y,_,Z⟩:=rR underlying9 s;obtain rfl:a= .int .i64 u:=by simpa using N
   obtain rfl:b= .string v:=by simpa using O
   obtain rfl:c= .string z:=by simpa using Q
   subst T;obtain rfl:e= .string A:=by simpa using Y
   unfold maxLen at P R Z;exact⟨.mk u v z A S,gK.of aa aa aa U V W⟩
  |[],h=>simp at h
  |[_],h=>simp at h
  |[_,_],h=>simp at h
  |[_,_,_],h=>simp at h
  |[_,_,_,_],h=>simp at h
  |_::_::_::_::_::_::_,h=>simp at h
end
section
variable {H : Type} {enc : TypeId × Value -> H} {W : World} {r : Reach} {b0 base : Nat} {sp : Nat -> Bool} {held : Bool} {v : Value} {d : DataW H} {p : List MemPlace}
def yCc (b:Value.okWide prog W r b0 25 v)(h:DataW.Trod enc prog W base sp held 25 v d p):∃(t:aC) (c:Array Value),v= .agg c/\gK W t c:=by
 obtain⟨a,rfl,_⟩:=okWide_struct underlying25 b;obtain⟨fuel,e⟩:=h;obtain⟨t,f⟩:=zY2 fuel a.toList (d,p) (by simpa [Value.cells] using e);exact⟨t,a,rfl,by simpa using f⟩
end
end Rn
end Go.Proofs.YtlefbenkhgbifaaGreatDoor
