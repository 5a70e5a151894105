/- What the rows of this seat share: arguments that are rules, trees, lists of trees; the listed variables. -/
import Derived.ProofKit
import Derived.Carry
import Derived.ChangeSame
import Derived.OpenShut
import Derived.Test.YtapgncbegadbnaaGreatDoorRows
import Derived.Test.YtapgncbegadbnaaGreatDoorH998ca38f
import Derived.LaidMore
import Derived.Stop.Joined
import Derived.Deep.Slices
import Derived.Deep.Fields
import Derived.HandedShaped
import Derived.Lib.LaidTab
import Derived.Lib.LaidCase
import Derived.Shelf.Vars
import Derived.Lay
set_option maxRecDepth 100000
namespace Go.Proofs.YtapgncbegadbnaaGreatDoor
section
open Go.RowKit Go.WideShapes Go.ChangeShapes
section
variable {H : Type} {enc : TypeId × Value -> H} {P : Program}
theorem zOe (hl:laidOutB P=true){W W':World}(hb:Below W.heap.size W W'){sp:Nat->Bool}:∀{ts:List TypeId} {vs:List Value} {ds:List (DataW H)} {ps:List MemPlace},
  (∀t∈ts,P.readableRec t=true/\t<P.types.size)->DataW.TrodAll enc P W 0 (fun _=>true) true ts vs ds ps->(∀x∈ps,x.block<W.heap.size)->(∀x∈ps,sp x.block=true)->DataW.TrodAll enc P W' 0 sp true ts vs ds ps
 |[],[],[],_,_,h,_,_=>h
 |t::ts,v::vs,d::ds,ps,ht,⟨p,q,h1,h2,e⟩,hlt,hsp=>by
  subst e;refine⟨p,q,WideElems.Trod_stays hl (ht t List.mem_cons_self).1 (ht t List.mem_cons_self).2 h1 (fun x hx=>hb.same (hlt x (List.mem_append_left _ hx))) (fun x hx=>hsp x (List.mem_append_left _ hx)),?_,rfl⟩;exact zOe hl hb (fun t ht'=>ht t (List.mem_cons_of_mem _ ht')) h2 (fun x hx=>hlt x (List.mem_append_right _ hx)) (fun x hx=>hsp x (List.mem_append_right _ hx))
 |[],[],_::_,_,_,h,_,_=>h.elim
 |[],_::_,_,_,_,h,_,_=>h.elim
 |_::_,[],_,_,_,h,_,_=>h.elim
 |_::_,_::_,[],_,_,h,_,_=>h.elim
theorem zMy {f:Func}{s:ChangeSpec}{apart fresh handsOn again:Bool}{W W':World}{args:Array Value}{v:Value}{ds gs:List (DataW H)}{before pa pv:List MemPlace}
  (hW:DataW.Whole enc P f.params.toList s.vars apart W args.toList ds gs before)
  (hres:∀(b:Nat) (sp:Nat->Bool) (hd:Bool),DataW.TrodAll enc P W' b sp hd f.resultTypes.toList (v.resultList f.resultTypes.size) (s.fn H (ds++gs)).results [])
  (hargs:∀sp:Nat->Bool,(∀p∈before,sp p.block=true)->DataW.TrodAll enc P W' 0 sp true f.params.toList args.toList (s.fn H (ds++gs)).args pa)
  (hvars:∀sp:Nat->Bool,(∀p∈before,sp p.block=true)->DataW.TrodVars enc P W' sp s.vars (s.fn H (ds++gs)).vars pv)
  (hps:before=pa++pv) (hb:Below W.heap.size W W')
  (hok:∀(j:Nat) (t:TypeId) (r:Value),f.resultTypes[j]?=some t->(v.resultList f.resultTypes.size)[j]?=some r->Value.okWide P W' .any 0 t r):
  s.post enc P f apart fresh handsOn again W args v W':=by
 have hlt:∀p∈before,p.block<W.heap.size:=fun p hp=>hW.lt p hp
 have hold:∀p∈before,(fun b=>decide (b<W.heap.size)) p.block=true:=fun p hp=>by simpa using hlt p hp
 refine⟨ds,gs,before,[],pa,pv,hW,hres _ _ _,hargs _ hold,hvars _ hold,World.keptBut_mono (fun p hp=>⟨hp,?_⟩) (hb.frame (·∈before)),fun _=>?_⟩
 ·rw[hps,List.mem_append] at hp;exact Or.inr hp
 ·obtain⟨_,_,_,_,_,hz,hn⟩:=hW;refine⟨hok,_,_,([]++pa)++pv,⟨[]++pa,pv,trodAll_append (hargs _ (fun _ _=>rfl)) (hres _ _ _),hvars _ (fun _ _=>rfl),rfl,?_,?_⟩,?_⟩
  ·intro b off hp;have hin:MemPlace.cell b off∈before:=by rw[hps];simpa using hp
   rw[hb.frozen (hlt _ hin)];exact hz b off hin
  ·intro ha;have:=hn ha;rw[hps] at this
   simpa using this
  ·intro p hp _;rw[hps]
   simpa using hp
theorem zZv {f:Func}{s:ChangeSpec}{apart fresh handsOn again:Bool}{W W':World}{args:Array Value}{ds gs:List (DataW H)}{before:List MemPlace}{tb:TypeId}
  (hl:laidOutB P=true) (hts:(f.params.toList.all fun t=>P.readableRec t&&decide (t<P.types.size))=true) (hvs:s.vars=[]) (hr:f.resultTypes= #[tb]) (htb:P.underlying tb=some .bool)
  (hW:DataW.Whole enc P f.params.toList s.vars apart W args.toList ds gs before)
  (hfn:(s.fn H ds).results=[.lit (.bool true)]) (hfa:(s.fn H ds).args=ds) (hfv:(s.fn H ds).vars=[])
  (hb:Below W.heap.size W W'):s.post enc P f apart fresh handsOn again W args (.bool true) W':=by
 have hW':=hW;obtain⟨p,q,hA,hV,rfl,hfz,hnd⟩:=hW;rw[hvs] at hV;have hg:gs=[]/\q=[]:=by
  cases gs with
  |nil=>exact⟨rfl,hV⟩
  |cons _ _=>exact hV.elim
 obtain⟨rfl,rfl⟩:=hg;have hall:∀t∈f.params.toList,P.readableRec t=true/\t<P.types.size:=fun t ht=>by
  have:=List.all_eq_true.1 hts t ht
  simpa using this
 have hlt:∀x∈p,x.block<W.heap.size:=fun x hx=>hW'.lt x (by simpa using hx)
 refine zMy (pa:=p) (pv:=[]) hW' ?_ ?_ ?_ rfl hb ?_
 ·intro b sp hd;rw[List.append_nil,hfn,hr];exact trodAll_mk1 (shut_bool htb true)
 ·intro sp hsp;rw[List.append_nil,hfa];exact zOe hl hb hall hA hlt (fun x hx=>hsp x (by simpa using hx))
 ·intro sp hsp;rw[List.append_nil,hfv,hvs];rfl
 ·rw[hr];intro j t r hj hj'
  match j,hj,hj' with
  |0,hj,hj'=>
   have e1:tb=t:=by simpa using hj
   have e2:Value.bool true=r:=by simpa [Value.resultList] using hj'
   subst e1 e2;exact okWide_bool_mk htb true
end
end
namespace El
open At
open Go.ChangeShapes Go.WideShapes Go.ChangeAt Go.WideMaps Go.WideElems Go.RowKit Go.Deep
theorem own:ownKnob Tryz.prog.godebug=none:=by kernel_rfl
theorem zId {H:Type}{enc:TypeId×Value->H}{a:Assume}{C:Checked}{os:Os}{f:FuncId}{fn:Func}{s:ChangeSpec}{conds:List PathCond}{apart fresh handsOn again:Bool}{X:World->Array Value->Prop}
  (hX:∀(w w':World) (args:Array Value),w.heap=w'.heap->X w args->X w' args)
  (own:ownKnob C.prog.godebug=none) (started:os.Started) (noInit:C.prog.inits.idxOf? f=none) (hfn:C.prog.funcs[f]?=some fn)
  (witness:∃(w:World) (tape:Tape) (i:Input),w.os=os/\(w.forCall tape i).Shaped C.prog/\i.vars=[]/\Input.okWide C.prog (w.forCall tape i) .any w.heap.size f i/\
   ((s.pre enc C.prog fn conds apart (w.forCall tape i).memory i.args/\X (w.forCall tape i).memory i.args)/\sizedMet enc C.prog fn (OpenSpec.ofChange s) apart (w.forCall tape i).memory i.args)/\a.holds C.prog (lone (Frame.enter C.prog f i.args .normal) [] (w.forCall tape i)))
  (contract:∀(W:World) (base:Nat) (args:Array Value) (ds gs:List (DataW H)) (before:List MemPlace),
   (∀(j:Nat) t v,fn.params[j]?=some t->args[j]?=some v->Value.okWide C.prog W .any base t v)->
   DataW.Whole enc C.prog fn.params.toList s.vars apart W args.toList ds gs before->
   X W args->W.ShapedOpen C.prog->
   Calls C.prog f args W fun e W'=>∃v,e= .returned v/\s.post enc C.prog fn apart fresh handsOn again W args v W'):
  ReturnsInHanded a C os f .any (fun w args=>(s.pre enc C.prog fn conds apart w args/\X w args)/\sizedMet enc C.prog fn (OpenSpec.ofChange s) apart w args) (s.post enc C.prog fn apart fresh handsOn again):=by
 refine returnsInHanded_of_calls own started noInit witness ?_;intro w tape i _ hsh _ hok hpre _;obtain⟨_,_,_,fn',hfn',_,_,_,_,hval⟩:=hok;have e:fn'=fn:=sj (hfn'.symm.trans hfn);subst e;obtain⟨⟨⟨ds,gs,before,hw,hc⟩,hx⟩,hz⟩:=hpre;have hw':=DataW.Whole.of_heap (w':=w.forCall tape i) (by rfl) hw;refine(contract (w.forCall tape i) w.heap.size i.args ds gs before hval hw' (hX _ _ _ (by rfl) hx) hsh).mono fun e W' ⟨v,he,hp⟩=>?_
 subst he;exact ChangeSpec.post_blind hp
theorem zPq {α:Type}:∀(n:Nat) {p:Nat->α->Prop},(∀i,i<n->∃x,p i x)->∃l:List α,l.length=n/\∀(i:Nat) (x:α),l[i]?=some x->p i x
 |0,_,_=>⟨[],rfl,fun i x h=>by simp at h⟩
 |n+1,p,h=>by
  obtain⟨l,hl,hp⟩:=zPq n (p:=p) fun i hi=>h i (by omega)
  obtain⟨x,hx⟩:=h n (by omega);refine⟨l++[x],by simp[hl],fun i y hy=>?_⟩;rcases Nat.lt_or_ge i n with hi|hi
  ·rw[List.getElem?_append_left (by omega)] at hy;exact hp i y hy
  ·rw[List.getElem?_append_right (by omega),hl] at hy
   by_cases e:i=n
   ·subst e;simp at hy;subst hy;exact hx
   ·rw[List.getElem?_eq_none (by simp;omega)] at hy;cases hy
section
variable {H : Type} {enc : TypeId × Value -> H} {w : World} {base : Nat} {spare : Nat -> Bool} {held : Bool}
theorem zS2 {w:World}{a:Addr}{n:Nat}{v:Value}(h:w.cell? (a.add n)=some v):a.block<w.heap.size:=by
 refine Classical.byContradiction fun hn=>?_
 unfold World.cell? at h;rw[Array.getElem?_eq_none (by rw[show(a.add n).block=a.block by unfold Addr.add;split<;>rfl];omega)] at h;cases h
theorem zKy {P:Program}{t e:TypeId}{fuel:Nat}{v:Value}{x:DataW H×List MemPlace}(ht:P.underlying t=some (.slice e))(h:DataW.trod enc P w base spare held fuel t [v]=some x):
  v=qN\/∃(a:Addr) (len cap n:Nat),fuel=n+1/\v= .slice (some a) len cap/\len<=cap/\cap<=maxLen/\
   ∀i,i<len->∃cs:List Value,cs.length=P.cellsOf e/\(∀j,j<P.cellsOf e->w.cell? (a.add (i*P.cellsOf e+j))=cs[j]?)/\∃y,DataW.trod enc P w base spare held n e cs=some y:=by
 rcases DataW.trod_slice ht h with⟨hcs,_⟩|⟨a,len,cap,elems,rest,n,hf,hcs,_,_,hl,hm,hlen,hel,_⟩
 ·exact .inl (by simpa using hcs)
 ·refine .inr ⟨a,len,cap,n,hf,by simpa using hcs,hl,hm,fun i hi=>?_⟩;have h1:=hel i hi;have h2:elems[i]?=some (elems[i]'(by omega)):=gE (by omega);rw[h2] at h1;cases hc:w.cells? base (a.add (i*P.cellsOf e)) (P.cellsOf e) with
  |none=>rw[hc] at h1;cases h1
  |some cs=>
   rw[hc] at h1;obtain⟨_,hcl,hat⟩:=World.cells?_some hc;exact⟨cs,hcl,fun j hj=>by rw[<-Addr.add_add];exact hat j hj,_,h1⟩
theorem zKz:Tryz.prog.cellsOf 25=4:=by kernel_rfl
theorem zNh:Tryz.prog.cellsOf 3=1:=by kernel_rfl
theorem zOc:Tryz.prog.cellsOf 9=1:=by kernel_rfl
theorem zQ6:Tryz.prog.cellsOf 23=1:=by kernel_rfl
theorem zU8 {fuel:Nat}(IH:∀n,n<fuel->∀cs x,DataW.trod enc Tryz.prog w base spare held n 25 cs=some x->∃t,zAv w t cs.toArray){v:Value}{x:DataW H×List MemPlace}(h:DataW.trod enc Tryz.prog w base spare held fuel 23 [v]=some x):
  ∃(A:Option Addr) (ts:List Tre) (cap:Nat),v= .slice A ts.length cap/\ts.length<=cap/\cap<=9223372036854775807/\zAo w A ts:=by
 rcases zKy Tryz.underlying23 h with rfl|⟨a,len,cap,n,hf,rfl,hl,hm,hi⟩
 ·exact⟨none,[],0,rfl,Nat.le_refl _,by omega,fun i t hi=>by simp at hi⟩
 ·rw[zKz] at hi;obtain⟨ts,hlen,hts⟩:=zPq len (p:=fun i (t:Tre)=>∃c,zAv w t c/\∀j,j<4->w.cell? (a.add (i*4+j))=c[j]?) (fun i hi'=>by
   obtain⟨cs,hcl,hat,y,hy⟩:=hi i hi';obtain⟨t,ht⟩:=IH n (by omega) cs y hy;exact⟨t,cs.toArray,ht,fun j hj=>by rw[hat j hj];simp⟩)
  subst hlen;unfold maxLen at hm;refine⟨some a,ts,cap,rfl,hl,by omega,fun i t hit=>?_⟩;obtain⟨c,hn,hc⟩:=hts i t hit;refine⟨a,rfl,?_,c,hn,hc⟩;obtain⟨A2,cap2,rfl,_⟩:=hn.form;exact zS2 (hc 0 (by omega))
theorem zWk:∀(fuel:Nat) (cs:List Value) (x:DataW H×List MemPlace),DataW.trod enc Tryz.prog w base spare held fuel 25 cs=some x->∃t,zAv w t cs.toArray:=by
 intro fuel
 induction fuel using Nat.strongRecOn with
 |_ fuel ih=>
  intro cs x h;obtain⟨xs,n,rfl,_,hcl,hxl,hf⟩:=DataW.trod_struct Tryz.underlying25 h;rw[zKz] at hcl
  match cs,hcl with
  |[v0,v1,v2,v3],_=>
   have hx:xs.length=4:=hxl;have get:∀i,i<4->∃y,xs[i]?=some y:=fun i hi=>⟨_,gE (by omega)⟩
   obtain⟨y0,e0⟩:=get 0 (by omega);obtain⟨y1,e1⟩:=get 1 (by omega);obtain⟨y2,e2⟩:=get 2 (by omega);obtain⟨y3,e3⟩:=get 3 (by omega);have t0:DataW.trod enc Tryz.prog w base spare held n 3 (([v0,v1,v2,v3].drop 0).take (Tryz.prog.cellsOf 3))=some y0:=(hf 0 _ rfl).trans e0;have t1:DataW.trod enc Tryz.prog w base spare held n 9 (([v0,v1,v2,v3].drop 1).take (Tryz.prog.cellsOf 9))=some y1:=(hf 1 _ rfl).trans e1;have t2:DataW.trod enc Tryz.prog w base spare held n 3 (([v0,v1,v2,v3].drop 2).take (Tryz.prog.cellsOf 3))=some y2:=(hf 2 _ rfl).trans e2;have t3:DataW.trod enc Tryz.prog w base spare held n 23 (([v0,v1,v2,v3].drop 3).take (Tryz.prog.cellsOf 23))=some y3:=(hf 3 _ rfl).trans e3;rw[zNh] at t0 t2;rw[zOc] at t1;rw[zQ6] at t3;obtain⟨n0,k0,_,_⟩:=DataW.trod_int Tryz.underlying3 t0;obtain⟨n1,k1,_,z1⟩:=DataW.trod_string Tryz.underlying9 t1;obtain⟨n2,k2,_,_⟩:=DataW.trod_int Tryz.underlying3 t2;obtain⟨A,ts,cap,k3,hl,hc,hk⟩:=zU8 (fun n' hn'=>ih n' (by omega)) (show DataW.trod enc Tryz.prog w base spare held n 23 [v3]=some y3 from t3);obtain rfl:v0= .int .i64 n0:=by simpa using k0
   obtain rfl:v1= .string n1:=by simpa using k1
   obtain rfl:v2= .int .i64 n2:=by simpa using k2
   subst k3;unfold maxLen at z1;exact⟨.mk n0 n1 n2 ts,zAv.of (by omega) hl hc hk⟩
  |[],h=>simp at h
  |[_],h=>simp at h
  |[_,_],h=>simp at h
  |[_,_,_],h=>simp at h
  |_::_::_::_::_::_,h=>simp at h
theorem zTo:Tryz.prog.cellsOf 53=6:=by kernel_rfl
theorem zTa {fuel:Nat}{v:Value}{x:DataW H×List MemPlace}(h:DataW.trod enc Tryz.prog w base spare held fuel 22 [v]=some x):
  ∃(A:Option Addr) (rs:List Rul) (cap:Nat),v= .slice A rs.length cap/\rs.length<=cap/\cap<=9223372036854775807/\zAc w A rs:=by
 rcases zKy Tryz.underlying22 h with rfl|⟨a,len,cap,n,hf,rfl,hl,hm,hi⟩
 ·exact⟨none,[],0,rfl,Nat.le_refl _,by omega,fun i t hi=>by simp at hi⟩
 ·rw[zTo] at hi;obtain⟨rs,hlen,hes⟩:=zPq len (p:=fun i (e:Rul)=>e.fits/\∀(j:Nat) v,e.c[j]?=some v->w.cell? (a.add (i*6+j))=some v) (fun i hi'=>by
   obtain⟨cs,hcl,hat,y,hy⟩:=hi i hi';obtain⟨xs,n',_,_,hcl2,hxl,hf⟩:=DataW.trod_struct Tryz.underlying53 hy
   match cs,hcl with
   |[v0,v1,v2,v3,v4,v5],_=>
    have hx:xs.length=6:=hxl;have get:∀i,i<6->∃y,xs[i]?=some y:=fun i hi=>⟨_,gE (by omega)⟩
    obtain⟨y0,e0⟩:=get 0 (by omega);obtain⟨y1,e1⟩:=get 1 (by omega);obtain⟨y2,e2⟩:=get 2 (by omega);obtain⟨y3,e3⟩:=get 3 (by omega);obtain⟨y4,e4⟩:=get 4 (by omega);obtain⟨y5,e5⟩:=get 5 (by omega);have t0:DataW.trod enc Tryz.prog w base spare held n' 3 (([v0,v1,v2,v3,v4,v5].drop 0).take (Tryz.prog.cellsOf 3))=some y0:=(hf 0 _ rfl).trans e0;have t1:DataW.trod enc Tryz.prog w base spare held n' 9 (([v0,v1,v2,v3,v4,v5].drop 1).take (Tryz.prog.cellsOf 9))=some y1:=(hf 1 _ rfl).trans e1;have t2:DataW.trod enc Tryz.prog w base spare held n' 9 (([v0,v1,v2,v3,v4,v5].drop 2).take (Tryz.prog.cellsOf 9))=some y2:=(hf 2 _ rfl).trans e2;have t3:DataW.trod enc Tryz.prog w base spare held n' 3 (([v0,v1,v2,v3,v4,v5].drop 3).take (Tryz.prog.cellsOf 3))=some y3:=(hf 3 _ rfl).trans e3;have t4:DataW.trod enc Tryz.prog w base spare held n' 3 (([v0,v1,v2,v3,v4,v5].drop 4).take (Tryz.prog.cellsOf 3))=some y4:=(hf 4 _ rfl).trans e4;have t5:DataW.trod enc Tryz.prog w base spare held n' 3 (([v0,v1,v2,v3,v4,v5].drop 5).take (Tryz.prog.cellsOf 3))=some y5:=(hf 5 _ rfl).trans e5;rw[zNh] at t0 t3 t4 t5;rw[zOc] at t1 t2;obtain⟨n0,k0,_,_⟩:=DataW.trod_int Tryz.underlying3 t0;obtain rfl:v0= .int .i64 n0:=by simpa using k0
    obtain⟨n1,k1,_,z1⟩:=DataW.trod_string Tryz.underlying9 t1;obtain rfl:v1= .string n1:=by simpa using k1
    unfold maxLen at z1;obtain⟨n2,k2,_,z2⟩:=DataW.trod_string Tryz.underlying9 t2;obtain rfl:v2= .string n2:=by simpa using k2
    unfold maxLen at z2;obtain⟨n3,k3,_,_⟩:=DataW.trod_int Tryz.underlying3 t3;obtain rfl:v3= .int .i64 n3:=by simpa using k3
    obtain⟨n4,k4,_,_⟩:=DataW.trod_int Tryz.underlying3 t4;obtain rfl:v4= .int .i64 n4:=by simpa using k4
    obtain⟨n5,k5,_,_⟩:=DataW.trod_int Tryz.underlying3 t5;obtain rfl:v5= .int .i64 n5:=by simpa using k5
    refine⟨⟨n0,n1,n2,n3,n4,n5⟩,⟨by show n1.size<=_;omega,by show n2.size<=_;omega⟩,fun j v hj=>?_⟩
    match j,hj with
    |0,hj=>simp at hj;subst hj;exact hat 0 (by omega)
    |1,hj=>simp at hj;subst hj;exact hat 1 (by omega)
    |2,hj=>simp at hj;subst hj;exact hat 2 (by omega)
    |3,hj=>simp at hj;subst hj;exact hat 3 (by omega)
    |4,hj=>simp at hj;subst hj;exact hat 4 (by omega)
    |5,hj=>simp at hj;subst hj;exact hat 5 (by omega)
   |[],h=>simp at h
   |[_],h=>simp at h
   |[_,_],h=>simp at h
   |[_,_,_],h=>simp at h
   |[_,_,_,_],h=>simp at h
   |[_,_,_,_,_],h=>simp at h
   |_::_::_::_::_::_::_::_,h=>simp at h)
  subst hlen;unfold maxLen at hm;refine⟨some a,rs,cap,rfl,hl,by omega,fun k e hk=>?_⟩;obtain⟨hf,hc⟩:=hes k e hk;refine⟨hf,a,rfl,?_,hc⟩;have:=hc 0 _ rfl;exact zS2 this
end
section
variable {H : Type} {enc : TypeId × Value -> H} {W : World} {r : Reach} {b0 base : Nat} {sp : Nat -> Bool} {held : Bool} {v : Value} {d : DataW H} {p : List MemPlace}
theorem zYd (hv:Value.okWide Tryz.prog W r b0 25 v)(h:DataW.Trod enc Tryz.prog W base sp held 25 v d p):∃(t:Tre) (c:Array Value),v= .agg c/\zAv W t c:=by
 obtain⟨cs,rfl,_⟩:=okWide_struct Tryz.underlying25 hv;obtain⟨fuel,hf⟩:=h;obtain⟨t,ht⟩:=zWk fuel cs.toList (d,p) (by simpa [Value.cells] using hf);exact⟨t,cs,rfl,by simpa using ht⟩
theorem zWi (hv:Value.okWide Tryz.prog W r b0 22 v)(h:DataW.Trod enc Tryz.prog W base sp held 22 v d p):∃(A:Option Addr) (rs:List Rul) (cap:Nat),v= .slice A rs.length cap/\rs.length<=cap/\cap<=9223372036854775807/\zAc W A rs:=by
 obtain⟨a0,len,cap,rfl⟩:=okWide_slice Tryz.underlying22 hv;obtain⟨fuel,hf⟩:=h;exact zTa (x:=(d,p)) (by simpa [Value.cells] using hf)
end
abbrev zSk:List (String×DataW Unit):=[("math/bits.deBruijn32tab",Rows.laid_math_bits_deBruijn32tab),("math/bits.deBruijn64tab",Rows.laid_math_bits_deBruijn64tab),("internal/strconv.uint64pow10",Rows.laid_internal_strconv_uint64pow10)]
theorem yCh (os:Os)(args:Array Value):laidMetH Tryz.prog zSk ((World.laidAll Tryz.prog os zSk).forCall (fun _ _=>0) ⟨#[],args,[]⟩).memory:=by
 rw[MakeChecks.laidMetH_plain _ _ _ (by kernel_rfl)];exact laidMet_laidAll _ (by kernel_rfl) (by kernel_rfl)
end El
end Go.Proofs.YtapgncbegadbnaaGreatDoor
