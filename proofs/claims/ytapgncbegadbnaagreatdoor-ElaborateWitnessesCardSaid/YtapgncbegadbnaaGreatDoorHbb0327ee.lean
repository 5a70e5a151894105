/- newFinder: the rules that may apply to tokens. -/
import Derived.Test.YtapgncbegadbnaaGreatDoorH18fa00ad
import Derived.Laws.EntriesVeiled
import Derived.Maps.AppendAt
import Derived.Deep.AppendLies
import Derived.RegionTactic
set_option maxRecDepth 100000
set_option maxHeartbeats 4000000
namespace Go.Proofs.YtapgncbegadbnaaGreatDoor
section
variable{a0:Act}{a b:(Nat->Bool)->Prop}{i:Nat}{l l':List Value}{w:World}{P:Program}{ops:Array Oper}
section
variable {P : Program} {ops : Array Oper} {Q : Exit -> Act -> World -> Prop} {X : Type}
theorem zE0.swap {v v':Nat->Value}{L:Nat->Bool}{a:Act}(hd:zFm ops=true)(h:zE0 ops v a0 L a)(he:∀i,L i=true->v' i=v i):zE0 ops v' a0 L a:=
 ⟨h.size,h.defers,fun i t hi hL=>by
  rw[h.done i t hi hL]
  by_cases ht:t<a0.tmps.size
  ·rw[fin_at hd hi ht,fin_at hd hi ht,he i hL]
  ·have e1:(fin ops v a0).tmps[t]?=none:=Array.getElem?_eq_none (show(zBz ops v a0 (List.range ops.size)).tmps.size<=t by rw[(zBg v _ a0).1];exact Nat.le_of_not_lt ht);have e2:(fin ops v' a0).tmps[t]?=none:=Array.getElem?_eq_none (show(zBz ops v' a0 (List.range ops.size)).tmps.size<=t by rw[(zBg v' _ a0).1];exact Nat.le_of_not_lt ht);rw[e1,e2],h.rest⟩
theorem zQ3 {vals:X->Nat->Value}{Inv:(Nat->Bool)->X->World->Prop}(hok:zHv ops=true)
  (hstep:∀(i:Nat) (o:Oper) (L:Nat->Bool) (x:X) (w:World),ops[i]?=some o->L i=false->(∀e∈o.after,Region.binds .any e=true->L e.on=true)->Inv L x w->
   if Region.wanted o (yielded ops (fin ops (vals x) a0).tmps)=true then Gives P (execOp (fin ops (vals x) a0).eval o) w (fun v w'=>∃x',v=vals x' i/\(∀j,L j=true->vals x' j=vals x j)/\Inv (fun j=>L j||j==i) x' w') else vals x i=undef/\Inv (fun j=>L j||j==i) x w)
  (hend:∀(L:Nat->Bool) (x:X) (w:World),(∀i,i<ops.size->L i=true)->Inv L x w->Q .normal (fin ops (vals x) a0) w):
  ∀(fuel:Nat) (listed:Array Bool) (x:X) (a:Act) (w:World),listed.size=ops.size->(listed.toList.countP (·==false))<=fuel->zE0 ops (vals x) a0 (fun j=>listed.getD j false) a->Inv (fun j=>listed.getD j false) x w->wpAny P .any ops Q fuel listed a w:=by
 simp only[zHv,Bool.and_eq_true] at hok;obtain⟨⟨⟨hsel,hd⟩,hall⟩,hedge⟩:=hok;have fini:∀(listed:Array Bool) (x:X) (a:Act) (w:World),listed.size=ops.size->zE0 ops (vals x) a0 (fun j=>listed.getD j false) a->Inv (fun j=>listed.getD j false) x w->Region.ready .any ops listed=[]->Q .normal a w:=by
  intro listed x a w hs ho hI hr;have hL:∀i,i<ops.size->listed.getD i false=true:=by
   intro i
   induction i using Nat.strongRecOn with
   |_ i ih=>
    intro hi;refine Classical.byContradiction fun hn=>?_
    have hm:i∈Region.ready .any ops listed:=by
     rw[mem_ready];refine⟨?_,ops[i],Array.getElem?_eq_getElem hi,fun e he hb=>?_⟩
     ·have hil:i<listed.size:=by omega
      simp only[Array.getD_eq_getD_getElem?,Array.getElem?_eq_getElem hil,Option.getD_some] at hn⊢
      simpa using hn
     ·have h1:=List.all_eq_true.1 hedge i (List.mem_range.2 hi);rw[Array.getElem?_eq_getElem hi] at h1;have h2:=Array.all_eq_true'.1 h1 e he;rw[hb] at h2;have h3:e.on<i:=by simpa using h2
      exact ih e.on h3 (by omega)
    rw[hr] at hm;cases hm
  rw[ho.end hL];exact hend _ x w hL hI
 intro fuel
 induction fuel with
 |zero=>
  intro listed x a w hs hc ho hI;have hr:Region.ready .any ops listed=[]:=by
   rw[List.eq_nil_iff_forall_not_mem];intro j hj;rw[mem_ready] at hj;obtain⟨h0,o,hoj,_⟩:=hj;have hjl:j<listed.size:=by rw[hs];exact(Array.getElem?_eq_some_iff.1 hoj).1
   have hf:listed[j]=false:=by simpa [Array.getD_eq_getD_getElem?,Array.getElem?_eq_getElem hjl] using h0
   have:0<listed.toList.countP (·==false):=List.countP_pos_iff.2 ⟨false,by rw[<-hf];simp,rfl⟩;omega
  exact⟨hr,fini listed x a w hs ho hI hr⟩
 |succ fuel ih=>
  intro listed x a w hs hc ho hI;refine⟨fini listed x a w hs ho hI,fun i hi=>?_⟩;rw[mem_ready] at hi;obtain⟨h0,o,hoi,hb⟩:=hi;have hil:i<ops.size:=(Array.getElem?_eq_some_iff.1 hoi).1;have hil':i<listed.size:=by omega
  have hf:listed[i]=false:=by simpa [Array.getD_eq_getD_getElem?,Array.getElem?_eq_getElem hil'] using h0
  have hLi:listed.getD i false=false:=by simp[Array.getD_eq_getD_getElem?,Array.getElem?_eq_getElem hil',hf]
  have hL':(fun j=>(listed.setIfInBounds i true).getD j false)=fun j=>listed.getD j false||j==i:=by
   funext j
   by_cases hij:j=i
   ·subst hij;simp[Array.getD_eq_getD_getElem?,hil']
   ·rw[getD_set_ne false (Ne.symm hij)];simp[hij]
  have hcount:(listed.setIfInBounds i true).toList.countP (·==false)<=fuel:=by
   rw[Array.toList_setIfInBounds];have hl:i<listed.toList.length:=by simpa using hil'
   have hs1:listed.toList.countP (·==false)=(listed.toList.set i true).countP (·==false)+1:=by
    exact zEk _ _ (by rw[List.getElem?_eq_getElem hl];simpa using hf)
   omega
  have hoOk:zEa ops o=true:=by
   obtain⟨_,hx⟩:=Array.getElem?_eq_some_iff.1 hoi;exact Array.all_eq_true'.1 hall o (by rw[<-hx];exact Array.getElem_mem _)
  obtain⟨hev,hwant⟩:=ho.eval hoOk hb;have hexec:execOp a.eval o=execOp (fin ops (vals x) a0).eval o:=execOp_congr o (fun cs b=>Region.noSelect_spec hsel i o cs b hoi) hev;have hst:=hstep i o _ x w hoi hLi hb hI;have hdst:o.dst=zAk ops i:=by unfold zAk;rw[hoi];rfl
  have next:∀x' w',(∀j,listed.getD j false=true->vals x' j=vals x j)->Inv (fun j=>listed.getD j false||j==i) x' w'->wpAny P .any ops Q fuel (listed.setIfInBounds i true) (a.put o.dst (vals x' i)) w':=by
   intro x' w' hv hI';refine ih _ x' _ w' (by simpa using hs) hcount ?_ (by rw[hL'];exact hI');rw[hL',hdst];exact(ho.swap hd hv).put hd i hil hLi
  unfold wpOp;simp only[hoi];rw[hwant]
  by_cases hw:Region.wanted o (yielded ops (fin ops (vals x) a0).tmps)=true
  ·rw[if_pos hw] at hst⊢;refine .inl (Gives.wp (R:=fun v w'=>∃x',v=vals x' i/\(∀j,listed.getD j false=true->vals x' j=vals x j)/\Inv (fun j=>listed.getD j false||j==i) x' w') (by rw[hexec];exact hst) ?_);rintro v w' ⟨x',rfl,hv,hI'⟩;exact next x' w' hv hI'
  ·rw[if_neg hw] at hst⊢;rw[<-hst.1];exact next x w (fun _ _=>rfl) hst.2
def zAg (ops:Array Oper)(i:Nat)(l l':List Value):Prop:=∀j,j≠i->reach ops i ops.size j=false->l'.getD j undef=l.getD j undef
theorem zAg.same :zAg ops i l l:=fun _ _ _=>rfl
def zQ4 (P:Program)(F:X->Act)(ops:Array Oper)(tr:List Nat)(vs:X->List Value)(Inv:List Bool->X->World->Prop):Nat->List Oper->List Bool->Prop
 |i,o::os,true::bs=>(∀(L:Nat->Bool) (x:X) (w:World),L i=false->(∀j,reach ops j ops.size i=true->L j=true)->(∀j,reach ops i ops.size j=true->L j=false)->Inv (tr.map L) x w->Gives P (execOp (F x).eval o) w fun u w'=>∃x',u=(vs x').getD i undef/\zAg ops i (vs x) (vs x')/\Inv (tr.map fun j=>j==i||L j) x' w')/\zQ4 P F ops tr vs Inv (i+1) os bs
 |i,_::os,false::bs=>((∀x,(vs x).getD i undef=undef)/\∀(L:Nat->Bool) (x:X) (w:World),Inv (tr.map L) x w->Inv (tr.map fun j=>j==i||L j) x w)/\zQ4 P F ops tr vs Inv (i+1) os bs
 |_,[],[]=>True
 |_,_,_=>False
theorem zQ4.at_ {F:X->Act}{tr:List Nat}{vs:X->List Value}{Inv:List Bool->X->World->Prop}:∀{n:Nat} {os:List Oper} {bs:List Bool},zQ4 P F ops tr vs Inv n os bs->∀{i:Nat} {o:Oper},os[i]?=some o->∃b,bs[i]?=some b/\
  if b=true then(∀(L:Nat->Bool) (x:X) (w:World),L (n+i)=false->(∀j,reach ops j ops.size (n+i)=true->L j=true)->(∀j,reach ops (n+i) ops.size j=true->L j=false)->Inv (tr.map L) x w->Gives P (execOp (F x).eval o) w fun u w'=>∃x',u=(vs x').getD (n+i) undef/\zAg ops (n+i) (vs x) (vs x')/\Inv (tr.map fun j=>j==(n+i)||L j) x' w')
  else(∀x,(vs x).getD (n+i) undef=undef)/\∀(L:Nat->Bool) (x:X) (w:World),Inv (tr.map L) x w->Inv (tr.map fun j=>j==(n+i)||L j) x w
 |n,[],[],_,i,o,h=>by simp at h
 |n,o::os,true::bs,⟨h1,h2⟩,0,o',h=>by
  obtain rfl:o=o':=by simpa using h
  exact⟨true,rfl,by rw[if_pos rfl];exact h1⟩
 |n,o::os,false::bs,⟨h1,h2⟩,0,o',h=>⟨false,rfl,by rw[if_neg (by simp)];exact h1⟩
 |n,o::os,true::bs,⟨h1,h2⟩,i+1,o',h=>by
  obtain⟨b,hb,hh⟩:=zQ4.at_ h2 (i:=i) (o:=o') (by simpa using h);rw[show n+1+i=n+(i+1) by omega] at hh;exact⟨b,by simpa using hb,hh⟩
 |n,o::os,false::bs,⟨h1,h2⟩,i+1,o',h=>by
  obtain⟨b,hb,hh⟩:=zQ4.at_ h2 (i:=i) (o:=o') (by simpa using h);rw[show n+1+i=n+(i+1) by omega] at hh;exact⟨b,by simpa using hb,hh⟩
 |_,[],_::_,h,_,_,_=>h.elim
 |_,_::_,[],h,_,_,_=>h.elim
theorem zAs {id:Nat}{w0:World}(hm:P.follows .mixedOrders=true)(F:X->Act)(vs:X->List Value)(bs:List Bool)(tr:List Nat)(Inv:List Bool->X->World->Prop)(x0:X)(hok:zHv ops=true)(hF:∀x,fin ops (fun i=>(vs x).getD i undef) a0=F x)
  (hw:∀x,((List.range ops.size).map fun i=>((ops[i]?).map fun o=>Region.wanted o (yielded ops (F x).tmps)).getD true)=bs) (htr:(tr.all fun i=>decide (i<ops.size))=true) (h0:Inv (tr.map fun _=>false) x0 w0.drew) (hE:zQ4 P F ops tr vs Inv 0 ops.toList bs) (hend:∀(x:X) (w:World),Inv (tr.map fun _=>true) x w->Q .normal (F x) w):(Code.region id ops true).wp P Q a0 w0:=by
 refine wp_region_any hm ?_;refine zQ3 (vals:=fun x i=>(vs x).getD i undef) (a0:=a0) (Inv:=fun L x w=>Closed ops L/\Inv (tr.map L) x w) hok (fun i o L x w ho hLi hb hI=>?_) (fun L x w hL hI=>?_) ops.size (Array.replicate ops.size false) x0 a0 _ (by simp) (by
  refine Nat.le_trans (List.countP_le_length) ?_;simp) ⟨rfl,rfl,fun i t _ h=>?_,fun _ _=>rfl⟩ ⟨fun i o _ h=>?_,?_⟩
 ·obtain⟨hc,hI⟩:=hI;have hi:i<ops.size:=(Array.getElem?_eq_some_iff.1 ho).1;obtain⟨b,hb2,hh⟩:=hE.at_ (i:=i) (o:=o) (by rw[Array.getElem?_toList];exact ho);rw[Nat.zero_add] at hh;rw[<-hw x,List.getElem?_map,List.getElem?_range hi] at hb2;simp only[Option.map_some,ho,Option.getD_some,Option.some.injEq] at hb2;have hca:=zD3 hc ho hb;have hFx:fin ops (fun i=>(vs x).getD i undef) a0=F x:=hF x;rw[hFx,hb2];have hno:∀j,reach ops i ops.size j=true->L j=false:=fun j hj=>by
   cases hLj:L j with
   |false=>rfl
   |true=>
    obtain⟨oj,hoj⟩:=zG8 hj;have:=zAz hc hoj (hc j oj hoj hLj) hj;rw[hLi] at this;cases this
  split
  ·rename_i hbt
   rw[if_pos hbt] at hh;have hg:=hh L x w hLi (fun j hj=>zAz hc ho hb hj) hno hI;unfold Gives at hg⊢;revert hg;have key:∀u w',(∃x',u=(vs x').getD i undef/\zAg ops i (vs x) (vs x')/\Inv (tr.map fun j=>j==i||L j) x' w')->∃x',u=(vs x').getD i undef/\(∀j,L j=true->(vs x').getD j undef=(vs x).getD j undef)/\Closed ops (fun j=>L j||j==i)/\Inv (tr.map fun j=>L j||j==i) x' w':=by
    rintro u w' ⟨x',h1,h2,h3⟩;refine⟨x',h1,fun j hj=>h2 j (fun e=>by subst e;rw[hLi] at hj;cases hj) ?_,hca,by rw[zFi];exact h3⟩;cases hr:reach ops i ops.size j with
    |false=>rfl
    |true=>rw[hno j hr] at hj;cases hj
   generalize (execOp (F x).eval o).run P w=r;cases r with
   |halt e w'=>exact fun h=>h
   |ok n w'=>
    cases n with
    |value v=>exact fun h=>key _ _ h
    |skip=>exact fun h=>key _ _ h
    |enter f args=>exact fun h=>Calls.mono h fun e w'' ⟨v,h1,h2⟩=>⟨v,h1,key _ _ h2⟩
    |_=>exact fun h=>h
  ·rename_i hbt
   rw[if_neg hbt] at hh;exact⟨hh.1 x,hca,by rw[zFi];exact hh.2 L x w hI⟩
 ·have e:tr.map L=tr.map fun _=>true:=List.map_congr_left fun i hi=>by
   have:=List.all_eq_true.1 htr i hi;exact hL i (by simpa using this)
  rw[<-e] at hend;have hFx:fin ops (fun i=>(vs x).getD i undef) a0=F x:=hF x;show Q .normal (fin ops (fun i=>(vs x).getD i undef) a0) w;rw[hFx];exact hend x w hI.2
 ·rw[Array.getD_eq_getD_getElem?,Array.getElem?_replicate] at h
  split at h<;>simp at h
 ·dsimp only at h;rw[Array.getD_eq_getD_getElem?,Array.getElem?_replicate] at h
  split at h<;>simp at h
 ·have e:(fun j=>(Array.replicate ops.size false).getD j false)=fun _=>false:=by
   funext j
   rw[Array.getD_eq_getD_getElem?,Array.getElem?_replicate]
   split<;>rfl
  rw[e];exact h0
def zTd (ops:Array Oper)(i:Nat):Nat->List Value->List Value->Prop
 |k,v::l,v'::l'=>(k=i\/reach ops i ops.size k=true\/v'=v)/\zTd ops i (k+1) l l'
 |_,[],[]=>True
 |_,_,_=>False
theorem zTd.at_ {i:Nat}:∀{k:Nat} {l l':List Value},zTd ops i k l l'->∀j,k+j≠i->reach ops i ops.size (k+j)=false->l'.getD j undef=l.getD j undef
 |k,v::l,v'::l',⟨h1,h2⟩,0,hj,hr=>by
  rcases h1 with h|h|h
  ·exact(hj h).elim
  ·rw[Nat.add_zero,h] at hr;cases hr
  ·exact h
 |k,v::l,v'::l',⟨h1,h2⟩,j+1,hj,hr=>by
  rw[List.getD_cons_succ,List.getD_cons_succ];exact zTd.at_ h2 j (by omega) (by rw[show k+1+j=k+(j+1) by omega];exact hr)
 |_,[],[],_,_,_,_=>rfl
 |_,[],_::_,h,_,_,_=>h.elim
 |_,_::_,[],h,_,_,_=>h.elim
theorem zAg.of_same (h:zTd ops i 0 l l'):zAg ops i l l':=fun j hj hr=>h.at_ j (by omega) (by rw[Nat.zero_add];exact hr)
theorem Gives.plain {s:Sem Next}{w':World}{v:Value}{x:X}{vs:X->List Value}{I:X->World->Prop}(h:s.run P w= .ok (.value v) w')(hv:v=(vs x).getD i undef)(hI:I x w'):Gives P s w fun u w''=>∃x',u=(vs x').getD i undef/\zAg ops i (vs x) (vs x')/\I x' w'':=
 Gives.value h ⟨x,hv,zAg.same,hI⟩
end
theorem jq {X:Type}{s:Sem Next}{x:X}{vs:X->List Value}{I:X->World->Prop}(v:Value)(w':World)(h:s.run P w= .ok (.value v) w')(hv:v=(vs x).getD i undef)(hI:I x w'):Gives P s w fun u w''=>∃x',u=(vs x').getD i undef/\zAg ops i (vs x) (vs x')/\I x' w'':=Gives.plain h hv hI
theorem jD (h:zTd ops i 0 l l':=by and_intros<;>first|exact trivial|exact .inr (.inr rfl)|exact .inl rfl|exact .inr (.inl (by kernel_rfl))):zAg ops i l l':=zAg.of_same h
theorem jS {X:Type}{vs:X->List Value}{s:X->Sem Next}{c:(Nat->Bool)->Prop}{I J:(Nat->Bool)->X->World->Prop}(h:∀(x:X) (w:World),(s x).run P w= .ok (.value ((vs x).getD i undef)) w:=by intro _ _;as_aux_lemma=>kernel_rfl)(g:∀L x w,I L x w->J L x w:=by intro _ _ _ h;exact h)(L:Nat->Bool)(x:X)(w:World)(_:a L)(_:b L)(_:c L)(hI:I L x w):Gives P (s x) w fun u y=>∃x',u=(vs x').getD i undef/\zAg ops i (vs x) (vs x')/\J L x' y:=Gives.value (h x w) ⟨x,rfl,zAg.same,g L x w hI⟩
theorem jT {X:Type}{vs:X->List Value}{s:X->Sem Next}{c:(Nat->Bool)->Prop}{I J:(Nat->Bool)->X->World->Prop}(h:∀(x:X) (w:World),(s x).run P w= .ok (.value ((vs x).getD i undef)) w:=by intro _ _;simp[go_sem])(g:∀L x w,I L x w->J L x w:=by intro _ _ _ h;exact h)(L:Nat->Bool)(x:X)(w:World)(_:a L)(_:b L)(_:c L)(hI:I L x w):Gives P (s x) w fun u y=>∃x',u=(vs x').getD i undef/\zAg ops i (vs x) (vs x')/\J L x' y:=Gives.value (h x w) ⟨x,rfl,zAg.same,g L x w hI⟩
end
namespace Ch
open Go.RowKit
variable{w w':World}{base n b B B' g k m:Nat}{e t:TypeId}{xs:List Int}{a:Act}{A:Option Addr}{ts:List ByteArray}{rs:List Rul}{x:Rd}{cs:Array Value}{bs:List Nat}{p:Addr}{o:Oper}{Q:Exit->Act->World->Prop}{u:Value}
theorem own_below {size:Nat}{v:Value}{xs:List Value}(h:w.ownsRow base e size v n xs)(hb:Below w.heap.size w w'):w'.ownsRow base e size v n xs:=
 h.kept (row:=none) ⟨hb.os,hb.tape,hb.output,hb.size,fun i hi _=>hb.block i hi⟩ (by cases v.ownBlock<;>simp)
theorem zG0 {base':Nat}{size:Nat}{v:Value}{xs:List Value}(h:w.ownsRow base e size v n xs)(hB:base'<=base):w.ownsRow base' e size v n xs:=
 ⟨h.1,h.2.imp id fun⟨g,cap,cur,h1,h2,h3⟩=>⟨g,cap,cur,h1,Nat.le_trans hB h2,h3⟩⟩
theorem zDd (w:World)(cs:List Value)(t:TypeId):∀j u,cs[j]?=some u->(w.alloc (.cells cs.toArray t)).cell? ((⟨w.heap.size,0,none⟩:Addr).add j)=some u:=by
 intro j u hj;rw[show(⟨w.heap.size,0,none⟩:Addr).add j=⟨w.heap.size,j,none⟩ by unfold Addr.add;simp;omega,Blk.cell (Blk.new w t _)]
 simpa using hj
theorem zAj {k:IntKind}{a b:Int}(h:a=b):Ending.returned (.int k a)= .returned (.int k b):=by rw[h]
def zBp (w:World)(A:Option Addr)(ts:List ByteArray):Prop:=∀(j:Nat) (s:ByteArray),ts[j]?=some s->s.size<=9223372036854775807/\∃ad:Addr,A=some ad/\ad.block<w.heap.size/\w.cell? (ad.add j)=some (.string s)
theorem zBp.keep (h:zBp w A ts)(hb:Below w.heap.size w w'):zBp w' A ts:=fun j s hj=>by
 obtain⟨hf,ad,hA,hlt,hc⟩:=h j s hj;exact⟨hf,ad,hA,ll hlt hb.size,(hb.cell (by rw[add_block];exact hlt)).trans hc⟩
theorem zBp.drew {w:World}{A:Option Addr}{ts:List ByteArray}(h:zBp w A ts):zBp w.drew A ts:=h
theorem zBp.alloc {w:World}{A:Option Addr}{ts:List ByteArray}(h:zBp w A ts)(o:Obj):zBp (w.alloc o) A ts:=h.keep (zA0 w o)
def OwnI (w:World)(B:Nat)(v:Value)(xs:List Int):Prop:=w.ownsRow B 3 1 v xs.length (xs.map (Value.int .i64))
theorem OwnI.keep {v:Value}(h:OwnI w B v xs)(hb:Below w.heap.size w w'):OwnI w' B v xs:=own_below h hb
theorem OwnI.more {v:Value}(h:OwnI w B v xs)(hB:B'<=B):OwnI w B' v xs:=zG0 h hB
theorem OwnI.nil (w:World)(B:Nat):OwnI w B qN []:=World.ownsRow_nil _ _ _ _
def zFj (w:World)(A:Option Addr)(xs:List Int):Prop:=∀(j:Nat) (x:Int),xs[j]?=some x->∃g:Nat,A=some ⟨g,0,none⟩/\(∃cs,Blk w g 3 cs)/\w.cell? ⟨g,j,none⟩=some (qI x)
theorem OwnI.form {v:Value}(h:OwnI w B v xs):∃A cap,v= .slice A xs.length cap/\xs.length<=cap/\cap<=9223372036854775807/\zFj w A xs:=by
 obtain⟨h1,h2⟩:=h;rcases h2 with⟨rfl,h0⟩|⟨g,cap,cur,rfl,hg,hb,hn,hc,hs,ht⟩
 ·obtain rfl:xs=[]:=List.length_eq_zero_iff.1 h0;exact⟨none,0,rfl,by simp,by omega,fun j p hj=>by simp at hj⟩
 ·have hb':Blk w g 3 cur:=hb;refine⟨_,cap,rfl,hn,by unfold maxLen at hc;omega,fun j p hj=>⟨g,rfl,⟨_,hb'⟩,?_⟩⟩;rw[hb'.cell];have h3:(xs.map (Value.int .i64))[j]?=some (qI p):=by simp[hj]
  rw[<-ht,List.getElem?_take] at h3
  split at h3
  ·simpa using h3
  ·cases h3
theorem zFj.keep {w w':World}{A:Option Addr}{xs:List Int}(h:zFj w A xs)(hb:Below w.heap.size w w'):zFj w' A xs:=fun j p hj=>by
 obtain⟨g,h1,⟨cs,h2⟩,h3⟩:=h j p hj;exact⟨g,h1,⟨cs,_root_.Go.Proofs.YtapgncbegadbnaaGreatDoor.keep hb h2⟩,(hb.cell (p:=⟨g,j,none⟩) h2.lt).trans h3⟩
theorem zKr {v:Value}{c:Int}(hn:xs.length=n)(h:w.ownsRow B 3 1 v (n+1) ((xs.map (Value.int .i64))++[qI c])):OwnI w B v (xs++[c]):=by
 unfold OwnI;rw[List.length_append,hn,List.map_append,List.map_cons,List.map_nil];exact h
theorem zFc:(Tryz.prog.info? 3).map (fun i=>(i.zero,i.size,i.bytes))=some (some (qI 0),1,8):=by kernel_rfl
theorem zJ2:(Tryz.prog.info? 115).map (fun i=>(i.zero,i.size,i.bytes))=some (some (.pointer none),1,8):=by kernel_rfl
abbrev ptrV (g:Nat):Value:=qP g
abbrev shC (rs:List Rul)(r a:Int)(k0 k1:Value):Array Value:= #[qI r,qI a,qI (zBn rs r),k0,k1]
inductive ShAt (rs:List Rul) (w:World):Nat->Rd->Prop
 |leaf (g:Nat) (r a:Int) (hb:Blk w g 149 (shC rs r a (.pointer none) (.pointer none))):ShAt rs w g (.mk r a [])
 |one (g:Nat) (r a:Int) (g0:Nat) (x:Rd) (hb:Blk w g 149 (shC rs r a (ptrV g0) (.pointer none))) (hx:ShAt rs w g0 x):ShAt rs w g (.mk r a [x])
 |two (g:Nat) (r a:Int) (g0 g1:Nat) (x y:Rd) (hb:Blk w g 149 (shC rs r a (ptrV g0) (ptrV g1))) (hx:ShAt rs w g0 x) (hy:ShAt rs w g1 y):ShAt rs w g (.mk r a [x,y])
theorem ShAt.map (hk:∀g cs,Blk w g 149 cs->Blk w' g 149 cs)(h:ShAt rs w g x):ShAt rs w' g x:=by
 induction h with
 |leaf g r a hb=>exact .leaf g r a (hk _ _ hb)
 |one g r a g0 x hb _ ih=>exact .one g r a g0 x (hk _ _ hb) ih
 |two g r a g0 g1 x y hb _ _ ih1 ih2=>exact .two g r a g0 g1 x y (hk _ _ hb) ih1 ih2
theorem ShAt.keep {rs:List Rul}{w w':World}{g:Nat}{x:Rd}(h:ShAt rs w g x)(hb:Below w.heap.size w w'):ShAt rs w' g x:=h.map fun _ _ h=>_root_.Go.Proofs.YtapgncbegadbnaaGreatDoor.keep hb h
theorem ShAt.blk (h:ShAt rs w g x):∃k0 k1,Blk w g 149 (shC rs x.rule x.at_ k0 k1):=by
 cases h with
 |leaf _ r a hb=>exact⟨_,_,hb⟩
 |one _ r a g0 x hb _=>exact⟨_,_,hb⟩
 |two _ r a g0 g1 x y hb _ _=>exact⟨_,_,hb⟩
theorem zD6 {t':TypeId}{cs':Array Value}(h:Blk w g t cs)(h':Blk w g t' cs'):t=t':=by
 unfold Blk at h h';rw[h] at h';simp only[Option.some.injEq,Obj.cells.injEq] at h';exact h'.2.1
theorem ShAt.grown {rs:List Rul}{w w':World}{row:Option Nat}{g:Nat}{x:Rd}(h:ShAt rs w g x)(hg:w.grownBy w' row)(hr:∀b,row=some b->∃t cs,Blk w b t cs/\t≠149):ShAt rs w' g x:=
 h.map fun b cs hb=>hb.grown hg fun e=>by
  obtain⟨t,cs',h1,h2⟩:=hr b e.symm;exact h2 (zD6 h1 hb)
def Shs (rs:List Rul)(w:World)(bs:List Nat)(xs:List Rd):Prop:=bs.length=xs.length/\∀(j b:Nat) (x:Rd),bs[j]?=some b->xs[j]?=some x->ShAt rs w b x
theorem Shs.keep {rs:List Rul}{w w':World}{bs:List Nat}{xs:List Rd}(h:Shs rs w bs xs)(hb:Below w.heap.size w w'):Shs rs w' bs xs:=⟨h.1,fun j b x h1 h2=>(h.2 j b x h1 h2).keep hb⟩
theorem Shs.map {rs:List Rul}{w w':World}{bs:List Nat}{xs:List Rd}(h:Shs rs w bs xs)(hk:∀g cs,Blk w g 149 cs->Blk w' g 149 cs):Shs rs w' bs xs:=⟨h.1,fun j b x h1 h2=>(h.2 j b x h1 h2).map hk⟩
theorem Shs.nil :Shs rs w [] []:=⟨rfl,fun j b x h=>by simp at h⟩
theorem Shs.snoc {xs:List Rd}(h:Shs rs w bs xs)(hx:ShAt rs w b x):Shs rs w (bs++[b]) (xs++[x]):=by
 refine⟨by simp[h.1],fun j b' x' h1 h2=>?_⟩;rcases Nat.lt_or_ge j bs.length with hj|hj
 ·rw[List.getElem?_append_left hj] at h1;rw[List.getElem?_append_left (by rw[<-h.1];exact hj)] at h2;exact h.2 j b' x' h1 h2
 ·rw[List.getElem?_append_right hj] at h1;rw[List.getElem?_append_right (by rw[<-h.1];exact hj),<-h.1] at h2
  by_cases e:j -bs.length=0
  ·rw[e] at h1 h2;obtain rfl:b=b':=by simpa using h1
   obtain rfl:x=x':=by simpa using h2
   exact hx
  ·rw[List.getElem?_eq_none (by simp;omega)] at h1;cases h1
theorem Shs.append {cs:List Nat}{xs ys:List Rd}(h:Shs rs w bs xs)(h':Shs rs w cs ys):Shs rs w (bs++cs) (xs++ys):=by
 refine⟨by simp[h.1,h'.1],fun j b' x' h1 h2=>?_⟩;rcases Nat.lt_or_ge j bs.length with hj|hj
 ·rw[List.getElem?_append_left hj] at h1;rw[List.getElem?_append_left (by rw[<-h.1];exact hj)] at h2;exact h.2 j b' x' h1 h2
 ·rw[List.getElem?_append_right hj] at h1;rw[List.getElem?_append_right (by rw[<-h.1];exact hj),<-h.1] at h2;exact h'.2 _ b' x' h1 h2
theorem Shs.take {rs:List Rul}{w:World}{bs:List Nat}{xs:List Rd}(h:Shs rs w bs xs)(n:Nat):Shs rs w (bs.take n) (xs.take n):=by
 refine⟨by simp[h.1],fun j b x h1 h2=>?_⟩;rw[List.getElem?_take] at h1 h2
 split at h1
 ·rw[if_pos ‹_›] at h2;exact h.2 j b x h1 h2
 ·cases h1
def OwnP (w:World)(B:Nat)(v:Value)(bs:List Nat):Prop:=w.ownsRow B 115 1 v bs.length (bs.map ptrV)
theorem OwnP.keep {v:Value}(h:OwnP w B v bs)(hb:Below w.heap.size w w'):OwnP w' B v bs:=own_below h hb
theorem OwnP.more {v:Value}(h:OwnP w B v bs)(hB:B'<=B):OwnP w B' v bs:=zG0 h hB
theorem OwnP.nil (w:World)(B:Nat):OwnP w B qN []:=World.ownsRow_nil _ _ _ _
theorem zHt {v:Value}(hn:bs.length=n)(h:w.ownsRow B 115 1 v (n+1) ((bs.map ptrV)++[ptrV b])):OwnP w B v (bs++[b]):=by
 unfold OwnP;rw[List.length_append,hn,List.map_append,List.map_cons,List.map_nil];exact h
def zF0 (w:World)(A:Option Addr)(bs:List Nat):Prop:=∀(j b:Nat),bs[j]?=some b->∃g:Nat,A=some ⟨g,0,none⟩/\(∃cs,Blk w g 115 cs)/\w.cell? ⟨g,j,none⟩=some (ptrV b)
theorem OwnP.form {v:Value}(h:OwnP w B v bs):∃A cap,v= .slice A bs.length cap/\bs.length<=cap/\cap<=9223372036854775807/\zF0 w A bs:=by
 obtain⟨h1,h2⟩:=h;rcases h2 with⟨rfl,h0⟩|⟨g,cap,cur,rfl,hg,hb,hn,hc,hs,ht⟩
 ·obtain rfl:bs=[]:=List.length_eq_zero_iff.1 h0;exact⟨none,0,rfl,by simp,by omega,fun j p hj=>by simp at hj⟩
 ·have hb':Blk w g 115 cur:=hb;refine⟨_,cap,rfl,hn,by unfold maxLen at hc;omega,fun j p hj=>⟨g,rfl,⟨_,hb'⟩,?_⟩⟩;rw[hb'.cell];have h3:(bs.map ptrV)[j]?=some (ptrV p):=by simp[hj]
  rw[<-ht,List.getElem?_take] at h3
  split at h3
  ·simpa using h3
  ·cases h3
theorem zF0.keep {w w':World}{A:Option Addr}{bs:List Nat}(h:zF0 w A bs)(hb:Below w.heap.size w w'):zF0 w' A bs:=fun j p hj=>by
 obtain⟨g,h1,⟨cs,h2⟩,h3⟩:=h j p hj;exact⟨g,h1,⟨cs,_root_.Go.Proofs.YtapgncbegadbnaaGreatDoor.keep hb h2⟩,(hb.cell (p:=⟨g,j,none⟩) h2.lt).trans h3⟩
theorem zF0.set_ (h:zF0 w A bs)(hp:Blk w p.block t cs)(ht:t≠115)(u:Value):zF0 (w.setCell p u) A bs:=fun j b hj=>by
 obtain⟨g,h1,⟨cs',h2⟩,h3⟩:=h j b hj;have hne:g≠p.block:=fun e=>by rw[e] at h2;exact ht (zD6 hp h2)
 exact⟨g,h1,⟨cs',h2.far hne u⟩,(World.cell?_setCell_other w p ⟨g,j,none⟩ u (fun e=>hne (by rw[e]))).trans h3⟩
theorem Shs.set_ {xs:List Rd}(h:Shs rs w bs xs)(hp:Blk w p.block t cs)(ht:t≠149)(u:Value):Shs rs (w.setCell p u) bs xs:=
 h.map fun g cs' hb=>hb.far (fun e=>by rw[e] at hb;exact ht (zD6 hp hb)) u
theorem zFj.set_ (h:zFj w A xs)(hp:Blk w p.block t cs)(ht:t≠3)(u:Value):zFj (w.setCell p u) A xs:=fun j b hj=>by
 obtain⟨g,h1,⟨cs',h2⟩,h3⟩:=h j b hj;have hne:g≠p.block:=fun e=>by rw[e] at h2;exact ht (zD6 hp h2)
 exact⟨g,h1,⟨cs',h2.far hne u⟩,(World.cell?_setCell_other w p ⟨g,j,none⟩ u (fun e=>hne (by rw[e]))).trans h3⟩
structure Fin where
 R:Option Addr
 cR:Nat
 T:Option Addr
 cT:Nat
 I:Option Addr
 cI:Nat
 P:Option Addr
 cP:Nat
 Q:Option Addr
 cQ:Nat
abbrev Fin.c (F:Fin)(n m:Nat)(jx:Int):Array Value:= #[.slice F.R n F.cR,.slice F.T m F.cT,.slice F.I m F.cI,.slice F.P m F.cP,.slice F.Q m F.cQ,qI jx]
def zDg (rs:List Rul)(ts:List ByteArray)(kind:Int):List Int:=ts.map fun t=>zAf rs kind t.toList
theorem zH8 {kind:Int}:(zDg rs ts kind).length=ts.length:=by unfold zDg;simp
theorem zHk {kind:Int}(hk:k<ts.length):(zDg rs ts kind)[k]?=some (zAf rs kind (tokL ts k)):=by
 unfold zDg tokL;rw[List.getElem?_map,List.getD_eq_getElem?_getD,gE hk];rfl
structure zIu (w:World)(F:Fin)(rs:List Rul)(ts:List ByteArray):Prop where
 rules:zAc w F.R rs
 toks:zBp w F.T ts
 inf:zFj w F.I (zDg rs ts 1)
 pre:zFj w F.P (zDg rs ts 2)
 post:zFj w F.Q (zDg rs ts 3)
theorem zIu.keep {w w':World}{F:Fin}{rs:List Rul}{ts:List ByteArray}(h:zIu w F rs ts)(hb:Below w.heap.size w w'):zIu w' F rs ts:=⟨h.rules.keep hb,h.toks.keep hb,h.inf.keep hb,h.pre.keep hb,h.post.keep hb⟩
theorem zIu.drew {w:World}{F:Fin}{rs:List Rul}{ts:List ByteArray}(h:zIu w F rs ts):zIu w.drew F rs ts:=⟨h.rules,h.toks,h.inf,h.pre,h.post⟩
theorem zFj.num (h:zFj w A xs){x:Int}(hx:xs[k]?=some x):∃g:Nat,A=some ⟨g,0,none⟩/\w.cell? ⟨g,k,none⟩=some (qI x):=by
 obtain⟨g,h1,_,h2⟩:=h k x hx;exact⟨g,h1,h2⟩
theorem zA2 (a:Addr)(n:Nat):(a.add n).block=a.block:=by unfold Addr.add;split<;>rfl
theorem zLr (a:Addr)(i j:Nat):(a.add i).add j=a.add (i+j):=by
 unfold Addr.add
 by_cases hi:i=0<;>by_cases hj:j=0<;>simp[hi,hj,Nat.add_assoc]
def Reads (w:World)(B size:Nat)(A:Option Addr)(n:Nat)(xs:List Value):Prop:=
 xs.length=n*size/\(0<n->∃ad,A=some ad/\ad.block<B/\∀j u,xs[j]?=some u->w.cell? (ad.add j)=some u)
section
variable {w w' : World} {B B' size n : Nat} {A : Option Addr} {xs : List Value}
theorem Reads.at_ (h:Reads w B 1 A n xs)(hk:k<n):∃ad u,A=some ad/\ad.block<B/\xs[k]?=some u/\w.cell? (ad.add k)=some u:=by
 obtain⟨ad,e,hb,hc⟩:=h.2 (by omega);have hl:k<xs.length:=by have:=h.1;omega
 exact⟨ad,xs[k],e,hb,gE hl,hc k _ (gE hl)⟩
theorem Reads.keep (h:Reads w B size A n xs)(hk:∀p:Addr,p.block<B->w'.cell? p=w.cell? p):Reads w' B size A n xs:=
 ⟨h.1,fun hn=>by
  obtain⟨ad,e,hb,hc⟩:=h.2 hn;exact⟨ad,e,hb,fun j u hu=>(hk _ (by rw[zA2];exact hb)).trans (hc j u hu)⟩⟩
theorem Reads.more (h:Reads w B size A n xs)(hB:B<=B'):Reads w B' size A n xs:=
 ⟨h.1,fun hn=>by
  obtain⟨ad,e,hb,hc⟩:=h.2 hn;exact⟨ad,e,by omega,hc⟩⟩
theorem Reads.below (h:Reads w B size A n xs)(hb:Below B w w'):Reads w' B size A n xs:=h.keep fun _ hp=>hb.cell hp
theorem Reads.drew (h:Reads w B size A n xs):Reads w.drew B size A n xs:=h
theorem Reads.drewN (h:Reads w B size A n xs)(k:Nat):Reads (w.drewN k) B size A n xs:=h
theorem Reads.alloc (h:Reads w B size A n xs)(hB:B<=w.heap.size)(o:Obj):Reads (w.alloc o) B size A n xs:=h.keep fun p hp=>World.cell?_alloc_lt w o p (by omega)
theorem Reads.setCell (h:Reads w B size A n xs){p:Addr}(hB:B<=p.block)(u:Value):Reads (w.setCell p u) B size A n xs:=
 h.keep fun q hq=>World.cell?_setCell_other w p q u (fun e=>by subst e;omega)
theorem Reads.grown (h:Reads w B size A n xs){row:Option Nat}(hg:w.grownBy w' row)(hB:B<=w.heap.size)(hr:∀g,row=some g->B<=g):Reads w' B size A n xs:=
 h.keep fun p hp=>World.cell?_of_block (hg.block p.block (by omega) (fun e=>by have:=hr _ e.symm;omega))
theorem Reads.zH6 {c:Nat}(h:w.ownsRow base e size (.slice A n c) n xs):Reads w w.heap.size size A n xs:=by
 refine⟨h.1,fun hn=>?_⟩;obtain⟨g,cap,hv,_,hlt⟩:=h.form hn;have hA:A=some ⟨g,0,none⟩:=by injection hv
 subst hA;exact⟨_,rfl,hlt,h.cells (g:=g) rfl⟩
end
section
variable {P : Program} (w : World)
theorem zIb (base:Nat)(t ty e:TypeId)(i:TypeInfo)(size:Nat)(ht:P.underlying t=some (.slice e))(hi:P.info? e=some i)
  (v:Value) (n:Nat) (xs:List Value) (hown:w.ownsRow base e size v n xs) (c:Nat):(Builtin.append_ #[t,t] ty #[v,.slice none 0 c]).run P w= .ok v w:=by
 rcases hown.2 with⟨rfl,rfl⟩|⟨g,cap,cur,rfl,_,_,hnc,_⟩
 ·simp[Builtin.append_,run_underlying ht,sizeOf,typeInfo,hi,Builtin.lenOf,Builtin.firstCells]
 ·simp[Builtin.append_,run_underlying ht,sizeOf,typeInfo,hi,Builtin.lenOf,Builtin.firstCells,hnc,storeCells]
theorem zGi (base:Nat)(t ty e:TypeId)(i:TypeInfo)(z:Value)(size bytes:Nat)(ht:P.underlying t=some (.slice e))(hi:P.info? e=some i)(hz:i.zero=some z)
  (hsize:i.size=size) (hby:i.bytes=bytes) (hzs:z.cells.size=size) (hsz:0<size)
  (v:Value) (n:Nat) (xs:List Value) (hown:w.ownsRow base e size v n xs)
  (B:Nat) (A:Option Addr) (m c:Nat) (news:List Value) (hr:Reads w B size A m news) (h1:∀u∈news,u.oneCell'=true)
  (h63:n+m<=maxLen) (hbytes:(n+m)*bytes<=140737488355328) (hbase:base<=w.heap.size):
  ∃v' w',(Builtin.append_ #[t,t] ty #[v,.slice A m c]).run P w= .ok v' w'/\w'.ownsRow base e size v' (n+m) (xs++news)/\w.grownBy w' v.ownBlock/\
   (v'.ownBlock=v.ownBlock\/v'.ownBlock=some w.heap.size):=by
 rcases A with _|ad
 ·have hm:m=0:=by
   rcases Nat.eq_zero_or_pos m with h0|h0
   ·exact h0
   ·obtain⟨ad,h,_⟩:=hr.2 h0;cases h
  subst hm;have hn:news=[]:=List.eq_nil_of_length_eq_zero (by simpa using hr.1);subst hn;exact⟨v,w,zIb w base t ty e i size ht hi v n xs hown c,by simpa using hown,World.grownBy.refl w _,.inl rfl⟩
 ·have hcells:∀j u,news[j]?=some u->w.cell? (ad.add j)=some u:=by
   intro j u hu;rcases Nat.eq_zero_or_pos m with h0|h0
   ·subst h0;have hn:news=[]:=List.eq_nil_of_length_eq_zero (by simpa using hr.1);subst hn;simp at hu
   ·obtain⟨ad',h,_,hc⟩:=hr.2 h0;injection h with h;subst h;exact hc j u hu
  obtain⟨v',w',hrun,h2,h3,_,h5⟩:=run_append_own_at (P:=P) w base t ty e i z size bytes ht hi hz hsize hby hzs hsz v n xs hown ad m c news hr.1 hcells h1 h63 hbytes hbase;exact⟨v',w',hrun,h2,h3,h5⟩
theorem zHf {K:Act->World->Prop}(s x:Operand)(t:TypeId)
  (ho:o.op= .call {callee:=.builtin .append,args:= #[s,x],argTypes:= #[t,t]})
  (base:Nat) (e:TypeId) (i:TypeInfo) (z:Value) (size bytes:Nat) (ht:P.underlying t=some (.slice e)) (hi:P.info? e=some i) (hz:i.zero=some z)
  (hsize:i.size=size) (hby:i.bytes=bytes) (hzs:z.cells.size=size) (hsz:0<size)
  (v:Value) (n:Nat) (xs:List Value) (hs:a.eval s=v) (hown:w.ownsRow base e size v n xs)
  (B:Nat) (A:Option Addr) (m c:Nat) (news:List Value) (hx:a.eval x= .slice A m c) (hr:Reads w B size A m news) (h1:∀u∈news,u.oneCell'=true)
  (h63:n+m<=maxLen) (hbytes:(n+m)*bytes<=140737488355328) (hbase:base<=w.heap.size)
  (h:∀v' w',w'.ownsRow base e size v' (n+m) (xs++news)->w.grownBy w' v.ownBlock->(v'.ownBlock=v.ownBlock\/v'.ownBlock=some w.heap.size)->K (a.put o.dst v') w'):o.wp P a w K Q:=by
 obtain⟨v',w',hrun,h2,h3,h4⟩:=zGi (P:=P) w base t o.type e i z size bytes ht hi hz hsize hby hzs hsz v n xs hown B A m c news hr h1 h63 hbytes hbase;unfold Oper.wp execOp;simp only[ho,resolve,invoke,builtin,Sem.run_bind,Sem.run_pure,Result.andThen_ok,List.map_toArray,List.map_cons,List.map_nil,hs,hx,hrun];exact h v' w' h2 h3 h4
theorem zA9 {ops:Array Oper}{rest:List Oper}(hgd:o.guard=none)(s x:Operand)(t:TypeId)
  (ho:o.op= .call {callee:=.builtin .append,args:= #[s,x],argTypes:= #[t,t]})
  (base:Nat) (e:TypeId) (i:TypeInfo) (z:Value) (size bytes:Nat) (ht:P.underlying t=some (.slice e)) (hi:P.info? e=some i) (hz:i.zero=some z)
  (hsize:i.size=size) (hby:i.bytes=bytes) (hzs:z.cells.size=size) (hsz:0<size)
  (v:Value) (n:Nat) (xs:List Value) (hs:a.eval s=v) (hown:w.ownsRow base e size v n xs)
  (B:Nat) (A:Option Addr) (m c:Nat) (news:List Value) (hx:a.eval x= .slice A m c) (hr:Reads w B size A m news) (h1:∀u∈news,u.oneCell'=true)
  (h63:n+m<=maxLen) (hbytes:(n+m)*bytes<=140737488355328) (hbase:base<=w.heap.size)
  (h:∀v' w',w'.ownsRow base e size v' (n+m) (xs++news)->w.grownBy w' v.ownBlock->(v'.ownBlock=v.ownBlock\/v'.ownBlock=some w.heap.size)->wpList P ops Q rest (a.put o.dst v') w'):wpList P ops Q (o::rest) a w:=
 wpList_plain hgd fun _ hK=>zHf w s x t ho base e i z size bytes ht hi hz hsize hby hzs hsz v n xs hs hown B A m c news hx hr h1 h63 hbytes hbase fun v' w' h2 h3 h4=>hK _ _ (h v' w' h2 h3 h4)
end
section
variable {P : Program}
theorem zB0 {F:Act}{R:Value->World->Prop}(s x:Operand)(t:TypeId)
  (ho:o.op= .call {callee:=.builtin .append,args:= #[s,x],argTypes:= #[t,t]})
  (base:Nat) (e:TypeId) (i:TypeInfo) (z:Value) (size bytes:Nat) (ht:P.underlying t=some (.slice e)) (hi:P.info? e=some i) (hz:i.zero=some z)
  (hsize:i.size=size) (hby:i.bytes=bytes) (hzs:z.cells.size=size) (hsz:0<size)
  (v:Value) (n:Nat) (xs:List Value) (hs:F.eval s=v) (hown:w.ownsRow base e size v n xs)
  (B:Nat) (A:Option Addr) (m c:Nat) (news:List Value) (hx:F.eval x= .slice A m c) (hr:Reads w B size A m news) (h1:∀u∈news,u.oneCell'=true)
  (h63:n+m<=maxLen) (hbytes:(n+m)*bytes<=140737488355328) (hbase:base<=w.heap.size)
  (h:∀v' w',w'.ownsRow base e size v' (n+m) (xs++news)->w.grownBy w' v.ownBlock->(v'.ownBlock=v.ownBlock\/v'.ownBlock=some w.heap.size)->R v' w'):Gives P (execOp F.eval o) w R:=by
 obtain⟨v',w',hrun,h2,h3,h4⟩:=zGi (P:=P) w base t o.type e i z size bytes ht hi hz hsize hby hzs hsz v n xs hown B A m c news hr h1 h63 hbytes hbase;refine Gives.value (v:=v') (w':=w') ?_ (h v' w' h2 h3 h4);unfold execOp;simp only[ho,resolve,invoke,builtin,Sem.run_bind,Sem.run_pure,Result.andThen_ok,List.map_toArray,List.map_cons,List.map_nil,hs,hx,hrun]
theorem zEw (h:Blk w g t #[u]):Reads w w.heap.size 1 (some ⟨g,0,none⟩) 1 [u]:=
 ⟨rfl,fun _=>⟨⟨g,0,none⟩,rfl,h.lt,fun j v hj=>by
  have e:(⟨g,0,none⟩:Addr).add j=⟨g,j,none⟩:=by unfold Addr.add;split<;>simp_all
  rw[e,h.cell]
  simpa using hj⟩⟩
end
def fitB (kind:Int)(s:List UInt8)(r:Rul):Bool:=decide (r.kind=kind)&&r.sym.toList==s
theorem zYg {kind:Int}{s:List UInt8}{x:Rul}(hx:rs[k]?=some x)(hq:fitB kind s x=true)(h:∀(j:Nat) y,rs[j]?=some y->j<k->fitB kind s y=false):zAf rs kind s=k:=by
 have hk:=(List.getElem?_eq_some_iff.1 hx).1;have:zCa rs kind s=some k:=by
  unfold zCa;rw[List.findIdx?_eq_some_iff_getElem];refine⟨hk,?_,fun j hj=>?_⟩
  ·have e:rs[k]=x:=by rw[gE hk] at hx;exact sj hx
   rw[e];exact hq
  ·have:=h j rs[j] (gE (by omega)) hj;unfold fitB at this;rw[this];simp
 unfold zAf;rw[this]
theorem zWt {kind:Int}{s:List UInt8}(h:∀(j:Nat) y,rs[j]?=some y->fitB kind s y=false):zAf rs kind s= -1:=by
 have:zCa rs kind s=none:=by
  unfold zCa;rw[List.findIdx?_eq_none_iff];intro y hy;obtain⟨j,hj⟩:=List.mem_iff_getElem?.1 hy;exact h j y hj
 unfold zAf;rw[this]
theorem zG2 (g:Nat)(A:Option Addr)(cap:Nat)(rs:List Rul)(kind:Int)(s:ByteArray)(w:World)(hB:Blk w g 22 #[.slice A rs.length cap])(hR:zAc w A rs)(hn:rs.length<=1000000):Calls Tryz.prog 109 #[qI kind,.string s,qP g] w fun e w'=>e= .returned (qI (zAf rs kind s.toList))/\Below w.heap.size w w':=by
 have HR:=zh hR;have HB:=zh hB;have c0:=hB.cell 0;clear hB hR;go_enter Tryz.func109,Tryz.ntmps109;go_wp2_with fail;clear c0
 go_loopw [10] (fun i wr=>∃k:Nat,k<=rs.length/\i=qI k/\Hid (∀(j:Nat) x,rs[j]?=some x->j<k->fitB kind s.toList x=false)/\Hid (zAc wr A rs)/\Hid (Below w.heap.size w wr)) (fun i _=>rs.length -(intOf i).toNat)
 case atStart=>exact⟨0,by omega,rfl,(fun j _ _ h=>by omega),HR,Below.refl _ _⟩
 case round=>
  clear HR;obtain⟨k,hk,rfl,HJ,HR,H0⟩:=hrel
  by_cases hlt:k<rs.length
  ·obtain⟨x,hx⟩:∃x,rs[k]?=some x:=⟨_,gE hlt⟩
   obtain⟨hf,ad,rfl,hadl,c0,c1,c2,c3,c4,c5⟩:=HR.out.at_ hx;have HX:=zh hx;clear hx hf;have NR:=zh (HR.out.alloc (.cells x.c 53));have NB:=zh (H0.out.alloc H0.out.size (.cells x.c 53));clear HR;have step:Hid (fitB kind s.toList x=false->∀(j:Nat) y,rs[j]?=some y->j<k+1->fitB kind s.toList y=false):=fun hq j y hj h=>by
    rcases Nat.lt_or_ge j k with h'|h'
    ·exact HJ.out j y hj h'
    ·obtain rfl:j=k:=by omega
     rw[HX.out] at hj;obtain rfl:=sj hj;exact hq
   cases q1:(x.kind==kind)
   ·have HQ:=zh (show fitB kind s.toList x=false by unfold fitB;rw[show decide (x.kind=kind)=(x.kind==kind) from rfl,q1];rfl);go_wp2;go_roundw
    case rel=>exact⟨k+1,by omega,by go_num,zh (step.out HQ.out),NR,NB⟩
    case measure=>simp[intOf];omega
   ·cases q2:(x.sym.toList==s.toList)
    ·have HQ:=zh (show fitB kind s.toList x=false by unfold fitB;rw[q2,Bool.and_false]);go_wp2;go_roundw
     case rel=>exact⟨k+1,by omega,by go_num,zh (step.out HQ.out),NR,NB⟩
     case measure=>simp[intOf];omega
    ·have HQ:=zh (zYg (kind:=kind) (s:=s.toList) HX.out (by unfold fitB;rw[show decide (x.kind=kind)=(x.kind==kind) from rfl,q1,q2];rfl) HJ.out);go_wp2;go_ret;exact⟨zAj HQ.out.symm,NB.out⟩
  ·have HQ:=zh (zWt (rs:=rs) (kind:=kind) (s:=s.toList) fun j y hj=>HJ.out j y hj (by have:=(List.getElem?_eq_some_iff.1 hj).1;omega));go_wp2;go_ret;exact⟨zAj HQ.out.symm,H0.out⟩
def updV {α:Type}(v:Nat->α)(c:Nat)(u:α):Nat->α:=fun i=>if i=c then u else v i
def OwnF (w:World)(B:Nat)(v:Nat->Value)(xs:Nat->List Int):Prop:=(∀i,i<3->OwnI w B (v i) (xs i))/\∀i j,i<3->j<3->i≠j->∀b,(v i).ownBlock=some b->(v j).ownBlock≠some b
theorem OwnF.keep {w w':World}{B:Nat}{v:Nat->Value}{xs:Nat->List Int}(h:OwnF w B v xs)(hb:Below w.heap.size w w'):OwnF w' B v xs:=⟨fun i hi=>(h.1 i hi).keep hb,h.2⟩
theorem OwnF.grow {c:Nat}{v:Nat->Value}{xs:Nat->List Int}{ys:List Int}(h:OwnF w B v xs)(hc:c<3)(hg:w.grownBy w' (v c).ownBlock)(hu:OwnI w' B u ys)(hl:u.ownBlock=(v c).ownBlock\/u.ownBlock=some w.heap.size):OwnF w' B (updV v c u) (updV xs c ys):=by
 have hlt:∀i,i<3->∀b,(v i).ownBlock=some b->b<w.heap.size:=fun i hi b hb=>(World.ownsRow.lt (h.1 i hi) b hb).2
 refine⟨fun i hi=>?_,fun i j hi hj hij b hb=>?_⟩
 ·unfold updV
  by_cases e:i=c
  ·rw[if_pos e,if_pos e];exact hu
  ·rw[if_neg e,if_neg e];refine World.ownsRow.kept (h.1 i hi) hg ?_;cases hv:(v i).ownBlock with
   |none=>exact .inl rfl
   |some b=>exact .inr fun e2=>h.2 i c hi hc e b hv e2.symm
 ·unfold updV at hb⊢
  by_cases ei:i=c
  ·rw[if_pos ei] at hb;rw[if_neg (fun ej=>hij (ei.trans ej.symm))];rcases hl with hl|hl
   ·rw[hb] at hl;exact h.2 c j hc hj (fun e=>hij (ei.trans e)) b hl.symm
   ·rw[hb] at hl;obtain rfl:=sj hl;intro e;have:=hlt j hj _ e;omega
  ·rw[if_neg ei] at hb
   by_cases ej:j=c
   ·rw[if_pos ej];rcases hl with hl|hl
    ·rw[hl];exact h.2 i c hi hc ei b hb
    ·rw[hl];intro e;have:=hlt i hi b hb;obtain rfl:=sj e;omega
   ·rw[if_neg ej];exact h.2 i j hi hj hij b hb
theorem zBs (w:World)(p:Addr)(u:Value):w.grownBy (w.setCell p u) (some p.block):=by
 have hs:(w.setCell p u).heap.size=w.heap.size:=by simp[World.setCell]
 refine⟨?_,?_,?_,Nat.le_of_eq hs.symm,fun i hi hne=>Below.heap_setCell w p u i (fun e=>hne (by rw[e]))⟩<;>rfl
theorem OwnF.set_ {v:Nat->Value}{xs:Nat->List Int}(h:OwnF w B v xs)(hp:p.block<B)(u:Value):OwnF (w.setCell p u) B v xs:=by
 refine⟨fun i hi=>World.ownsRow.kept (h.1 i hi) (zBs w p u) ?_,h.2⟩;cases hv:(v i).ownBlock with
 |none=>exact .inl rfl
 |some b=>
  refine .inr fun e=>?_
  have:=(World.ownsRow.lt (h.1 i hi) b hv).1;have:=sj e;omega
abbrev finV (A:Option Addr)(n cap:Nat)(T:Option Addr)(m cT:Nat)(v:Nat->Value)(jx:Int):Array Value:= #[.slice A n cap,.slice T m cT,v 0,v 1,v 2,qI jx]
abbrev finZ:Array Value:= #[qN,qN,qN,qN,qN,qI 0]
def InvN (w:World)(A:Option Addr)(n cap:Nat)(T:Option Addr)(m cT:Nat)(v:Nat->Value)(xs:Nat->List Int)(c:Nat)(x:Int):List Bool->Nat×Value->World->Prop
 |[bb,ba,bs],gx,wq=>Blk wq w.heap.size 22 #[.slice A n cap]/\Blk wq (w.heap.size+1) 140 finZ/\Blk wq (w.heap.size+2) 140 (finV A n cap T m cT (if bs then updV v c gx.2 else v) (-1))/\
   OwnF wq (w.heap.size+3) (if ba then updV v c gx.2 else v) (if ba then updV xs c (xs c++[x]) else xs)/\(bb=true->ba=false->Blk wq gx.1 3 #[qI x])/\Below w.heap.size w wq
 |_,_,_=>False
section
variable {w : World} {A : Option Addr} {n cap : Nat} {T : Option Addr} {m cT : Nat} {v : Nat -> Value} {xs : Nat -> List Int} {c : Nat} {x : Int} {gx : Nat × Value} {wq w' : World} {bb ba bs : Bool}
theorem InvN.keep (h:InvN w A n cap T m cT v xs c x [bb,ba,bs] gx wq)(hb:Below wq.heap.size wq w'):InvN w A n cap T m cT v xs c x [bb,ba,bs] gx w':=by
 obtain⟨i0,i1,i2,i3,i4,i5⟩:=h;exact⟨_root_.Go.Proofs.YtapgncbegadbnaaGreatDoor.keep hb i0,_root_.Go.Proofs.YtapgncbegadbnaaGreatDoor.keep hb i1,_root_.Go.Proofs.YtapgncbegadbnaaGreatDoor.keep hb i2,i3.keep hb,fun h1 h2=>_root_.Go.Proofs.YtapgncbegadbnaaGreatDoor.keep hb (i4 h1 h2),i5.trans (hb.mono i5.size)⟩
theorem InvN.build (h:InvN w A n cap T m cT v xs c x [bb,false,false] gx wq):InvN w A n cap T m cT v xs c x [true,false,false] (wq.heap.size,gx.2) (wq.alloc (.cells #[qI x] 3)):=by
 obtain⟨i0,i1,i2,i3,_,i5⟩:=h;have hb:=zA0 wq (.cells #[qI x] 3);exact⟨_root_.Go.Proofs.YtapgncbegadbnaaGreatDoor.keep hb i0,_root_.Go.Proofs.YtapgncbegadbnaaGreatDoor.keep hb i1,_root_.Go.Proofs.YtapgncbegadbnaaGreatDoor.keep hb i2,i3.keep hb,fun _ _=>Blk.new _ _ _,i5.trans (hb.mono i5.size)⟩
theorem InvN.append (h:InvN w A n cap T m cT v xs c x [true,false,false] gx wq)(hc:c<3)(hu:OwnI w' (w.heap.size+3) u (xs c++[x]))(hg:wq.grownBy w' (v c).ownBlock)(hl:u.ownBlock=(v c).ownBlock\/u.ownBlock=some wq.heap.size):InvN w A n cap T m cT v xs c x [true,true,false] (gx.1,u) w':=by
 obtain⟨i0,i1,i2,i3,_,i5⟩:=h;have hlo:∀b,(v c).ownBlock=some b->w.heap.size+3<=b:=fun b hb=>(World.ownsRow.lt (i3.1 c hc) b hb).1
 have far:∀k,k<w.heap.size+3->some k≠(v c).ownBlock:=fun k hk e=>by have:=hlo k e.symm;omega
 exact⟨i0.grown hg (far _ (by omega)),i1.grown hg (far _ (by omega)),i2.grown hg (far _ (by omega)),i3.grow hc hg hu hl,(fun _ h=>by cases h),i5.grown hg i5.size (fun k hk=>by have:=hlo k hk;omega)⟩
theorem InvN.store (h:InvN w A n cap T m cT v xs c x [true,true,false] gx wq)(hc:c<3):InvN w A n cap T m cT v xs c x [true,true,true] gx (wq.setCell ⟨w.heap.size+2,2+c,none⟩ gx.2):=by
 obtain⟨i0,i1,i2,i3,_,i5⟩:=h;refine⟨i0.far (by show _≠w.heap.size+2;omega) _,i1.far (by show _≠w.heap.size+2;omega) _,?_,i3.set_ (by show w.heap.size+2<_;omega) _,(fun _ h=>by cases h),i5.setCell (p:=⟨w.heap.size+2,2+c,none⟩) (by show w.heap.size<=w.heap.size+2;omega) _⟩;have:=i2.set_ (2+c) gx.2
 match c,hc with
 |0,_=>exact this
 |1,_=>exact this
 |2,_=>exact this
theorem InvN.done (h:InvN w A n cap T m cT v xs c x [true,true,true] gx wq):InvN w A n cap T m cT (updV v c gx.2) (updV xs c (xs c++[x])) 0 0 [false,false,false] (0,.nilFunc) wq:=by
 obtain⟨i0,i1,i2,i3,_,i5⟩:=h;exact⟨i0,i1,i2,i3,(fun h=>by cases h),i5⟩
theorem InvN.again (h:InvN w A n cap T m cT v xs c x [false,false,false] gx wq)(c':Nat)(x':Int)(gx':Nat×Value):InvN w A n cap T m cT v xs c' x' [false,false,false] gx' wq:=by
 obtain⟨i0,i1,i2,i3,_,i5⟩:=h;exact⟨i0,i1,i2,i3,(fun h=>by cases h),i5⟩
end
theorem zQx {v:Value}(h:OwnI w B v xs)(hm:xs.length=m):∃I cI,v= .slice I m cI/\zFj w I xs:=by
 obtain⟨I,cI,h1,_,_,h2⟩:=h.form;exact⟨I,cI,by rw[h1,hm],h2⟩
theorem zPy {v:Value}{I:Option Addr}{cI:Nat}(h:OwnI w B v xs)(hv:v= .slice I m cI):zFj w I xs:=by
 obtain⟨I',cI',h1,_,_,h2⟩:=h.form;rw[hv] at h1;injection h1 with h3;rw[h3];exact h2
def FinP (A T:Option Addr)(rs:List Rul)(ts:List ByteArray)(w:World)(e:Ending)(w':World):Prop:=∃F:Fin,e= .returned (.agg (F.c rs.length ts.length (zAf rs 4 [])))/\zIu w' F rs ts/\(F.R=A/\F.T=T)/\Below w.heap.size w w'
theorem zIh {kind:Int}{t:ByteArray}(ht:ts[k]?=some t):(zDg rs ts kind).take (k+1)=(zDg rs ts kind).take k++[zAf rs kind t.toList]:=by
 unfold zDg;rw[List.take_add_one,List.getElem?_map,ht];rfl
def xsN (rs:List Rul)(ts:List ByteArray)(k:Nat):Nat->List Int:=fun i=>(zDg rs ts (i+1:Nat)).take k
theorem zIe {i:Nat}(hk:k<=ts.length):(xsN rs ts k i).length=k:=by unfold xsN;rw[List.length_take,zH8];omega
theorem zY0 {t:ByteArray}(ht:ts[k]?=some t):∀i,i<3->(updV (updV (updV (xsN rs ts k) 0 (xsN rs ts k 0++[zAf rs 1 t.toList])) 1 (updV (xsN rs ts k) 0 (xsN rs ts k 0++[zAf rs 1 t.toList]) 1++[zAf rs 2 t.toList])) 2 (updV (updV (xsN rs ts k) 0 (xsN rs ts k 0++[zAf rs 1 t.toList])) 1 (updV (xsN rs ts k) 0 (xsN rs ts k 0++[zAf rs 1 t.toList]) 1++[zAf rs 2 t.toList]) 2++[zAf rs 3 t.toList])) i=xsN rs ts (k+1) i:=by
 intro i hi
 match i,hi with
 |0,_=>exact(zIh (kind:=1) ht).symm
 |1,_=>exact(zIh (kind:=2) ht).symm
 |2,_=>exact(zIh (kind:=3) ht).symm
theorem OwnF.same {v:Nat->Value}{xs ys:Nat->List Int}(h:OwnF w B v xs)(he:∀i,i<3->xs i=ys i):OwnF w B v ys:=⟨fun i hi=>by rw[<-he i hi];exact h.1 i hi,h.2⟩
theorem InvN.drew {w:World}{A:Option Addr}{n cap:Nat}{T:Option Addr}{m cT:Nat}{v:Nat->Value}{xs:Nat->List Int}{c:Nat}{x:Int}{gx:Nat×Value}{wq:World}{bb ba bs:Bool}(h:InvN w A n cap T m cT v xs c x [bb,ba,bs] gx wq):InvN w A n cap T m cT v xs c x [bb,ba,bs] gx wq.drew:=by
 obtain⟨i0,i1,i2,i3,i4,i5⟩:=h;exact⟨i0,i1,i2,i3,i4,zA3 i5⟩
theorem zM5 (A T:Option Addr)(cap cT:Nat)(rs:List Rul)(ts:List ByteArray)(w:World)(hR:zAc w A rs)(hT:zBp w T ts)(hn:rs.length<=1000000)(hm:ts.length<=1000000):Calls Tryz.prog 83 #[.slice A rs.length cap,.slice T ts.length cT] w (FinP A T rs ts w):=by
 obtain⟨i0,hi,hz0,hz1,hz2⟩:=info_parts zFc;have HR:=zh hR;have HT:=zh hT;have hmf:∀(fn:Fn) (first cap:Array Value) (w:World),(Instr.makeFunc fn first cap).run Tryz.prog w= .ok (.func fn first cap) w:=fun _ _ _ _=>rfl
 clear hR hT;go_enter Tryz.func83,Tryz.ntmps83;go_wp2_with fail;have HI:Hid (InvN w A rs.length cap T ts.length cT (fun _=>qN) (xsN rs ts 0) 0 0 [false,false,false] (0,.nilFunc) (((w.alloc (.cells #[.slice A rs.length cap] 22)).alloc (.cells finZ 140)).alloc (.cells (finV A rs.length cap T ts.length cT (fun _=>qN) (-1)) 140))):=by
  have hb:=zA0 w (.cells #[.slice A rs.length cap] 22);refine⟨((Blk.new w _ _).alloc _).alloc _,?_,?_,⟨fun i _=>?_,fun i j _ _ _ b hb=>by cases hb⟩,(fun h=>by cases h),(hb.alloc hb.size _).alloc (by simp;omega) _⟩
  ·have:=(Blk.new (w.alloc (.cells #[.slice A rs.length cap] 22)) 140 finZ).alloc (.cells (finV A rs.length cap T ts.length cT (fun _=>qN) (-1)) 140)
   simpa using this
  ·have:=Blk.new ((w.alloc (.cells #[.slice A rs.length cap] 22)).alloc (.cells finZ 140)) 140 (finV A rs.length cap T ts.length cT (fun _=>qN) (-1))
   simpa using this
  ·show OwnI _ _ qN (xsN rs ts 0 i);rw[show xsN rs ts 0 i=[] from List.take_zero ..];exact OwnI.nil _ _
 generalize ((w.alloc (.cells _ 22)).alloc (.cells _ 140)).alloc (.cells _ 140)=w1 at*;clear hmf
 go_loopw [15] (fun i wr=>∃(k:Nat) (v:Nat->Value),k<=ts.length/\i=qI k/\Hid (InvN w A rs.length cap T ts.length cT v (xsN rs ts k) 0 0 [false,false,false] (0,.nilFunc) wr)) (fun i _=>ts.length -(intOf i).toNat)
 case atStart=>exact⟨0,_,by omega,rfl,HI⟩
 case round=>
  clear HI;obtain⟨k,v,hk,rfl,HI⟩:=hrel
  by_cases hlt:k<ts.length
  ·obtain⟨s,hs⟩:∃s,ts[k]?=some s:=⟨_,gE hlt⟩
   obtain⟨hf,ad,rfl,hadl,c0⟩:=(HT.out.keep HI.out.2.2.2.2.2) k s hs;have HSN:=zh (zY0 (rs:=rs) hs);have HX0:=zh (zIe (rs:=rs) (ts:=ts) (k:=k) (i:=0) hk);have HX1:=zh (show(updV (xsN rs ts k) 0 (xsN rs ts k 0++[zAf rs 1 s.toList]) 1).length=k from zIe (rs:=rs) (i:=1) hk);have HX2:=zh (show(updV (updV (xsN rs ts k) 0 (xsN rs ts k 0++[zAf rs 1 s.toList])) 1 (updV (xsN rs ts k) 0 (xsN rs ts k 0++[zAf rs 1 s.toList]) 1++[zAf rs 2 s.toList]) 2).length=k from zIe (rs:=rs) (i:=2) hk);clear hs hf;go_upto_region 6 with(fail)
   clear c0;refine zAs (X:=Nat×Value) (by kernel_rfl) _ (fun gx0=>[.pointer (some ⟨w.heap.size+2,2,none⟩),(v 0),.func (.func 109) #[] #[qP w.heap.size],.string s,qI (zAf rs 1 s.toList),.slice (some ⟨gx0.1,0,none⟩) 1 1,gx0.2,.pointer (some ⟨w.heap.size+2,2,none⟩),undef]) [true,true,true,true,true,true,true,true,true] [5,6,8] (InvN w A rs.length cap (some ad) ts.length cT v (xsN rs ts k) 0 (zAf rs 1 s.toList)) (0,.nilFunc) (by kernel_rfl) (fun gx0=>by simp[fin,zBz,zAk,List.range,List.range.loop,Act.put];rfl) (fun _=>by kernel_rfl) (by kernel_rfl) (InvN.drew (HI.out.again _ _ _)) ?_ ?_
   ·refine⟨jT,fun L gx0 wq0 hL hb ha hI=>?_,jS,jS,fun L gx0 wq0 hL hb ha hI=>?_,fun L gx0 wq0 hL hb ha hI=>?_,fun L gx0 wq0 hL hb ha hI=>?_,jT,fun L gx0 wq0 hL hb ha hI=>?_,trivial⟩
    ·have e8:L 8=false:=ha 8 (by kernel_rfl);have cJ:wq0.cell? ⟨w.heap.size+2,2,none⟩=some (v 0):=by
      have h:=hI.2.2.1.cell 2;simp only[e8] at h;exact h
     exact jq (v 0) wq0 (by simp[go_sem,cJ]) rfl hI
    ·refine jc 109 (#[qI 1,.string s,qP w.heap.size]) wq0 (by kernel_rfl) ((zG2 w.heap.size A cap rs 1 s wq0 hI.1 (HR.out.keep hI.2.2.2.2.2) hn).mono ?_);rintro e wa ⟨rfl,hb5⟩;exact⟨_,rfl,gx0,rfl,zAg.same,InvN.keep hI hb5⟩
    ·have e5:L 5=false:=hL;have e6:L 6=false:=ha 6 (by kernel_rfl);have e8:L 8=false:=ha 8 (by kernel_rfl);simp only[List.map,e5,e6,e8] at hI⊢;exact jv (.slice (some ⟨wq0.heap.size,0,none⟩) 1 1) (wq0.alloc (.cells #[qI (zAf rs 1 s.toList)] 3)) (by simp[go_sem]) ⟨(wq0.heap.size,gx0.2),rfl,jD,InvN.build hI⟩
    ·have e5:L 5=true:=hb 5 (by kernel_rfl);have e6:L 6=false:=hL;have e8:L 8=false:=ha 8 (by kernel_rfl);simp only[List.map,e5,e6,e8] at hI⊢;have hO:OwnI wq0 (w.heap.size+3) (v 0) ((xsN rs ts k) 0):=hI.2.2.2.1.1 0 (by omega);have hB:=hI.2.2.2.2.1 rfl rfl;have hS:=hI.2.2.2.2.2.size;have hX:=HX0.out;have hZ:w.heap.size+3<=wq0.heap.size:=hI.2.2.1.lt;exact zB0 (.tmp 20) (.tmp 24) 30 rfl (w.heap.size+3) 3 i0 (qI 0) 1 8 Tryz.underlying30 hi hz0 hz1 hz2 rfl (by decide) (v 0) _ _ rfl hO wq0.heap.size (some ⟨gx0.1,0,none⟩) 1 1 [qI (zAf rs 1 s.toList)] rfl (zEw hB) (by intro u hu;simp at hu;subst hu;rfl) (by rw[hX];unfold maxLen;omega) (by rw[hX];omega) hZ (fun v' w' h2 h3 h4=>⟨(gx0.1,v'),rfl,jD,InvN.append hI (by omega) (zKr rfl h2) h3 h4⟩)
    ·have e5:L 5=true:=hb 5 (by kernel_rfl);have e6:L 6=true:=hb 6 (by kernel_rfl);have e8:L 8=false:=hL;simp only[List.map,e5,e6,e8] at hI⊢;have cJ:wq0.cell? ⟨w.heap.size+2,2,none⟩=some (v 0):=hI.2.2.1.cell 2;have fJ:=hI.2.2.1.frozen 2;obtain⟨gb,gu⟩:=gx0;obtain⟨A5,c5,e9,_⟩:=(show OwnI wq0 (w.heap.size+3) gu ((xsN rs ts k) 0++[(zAf rs 1 s.toList)]) from hI.2.2.2.1.1 0 (by omega)).form;subst e9;exact Gives.skip (w':=wq0.setCell ⟨w.heap.size+2,2,none⟩ (.slice A5 ((xsN rs ts k) 0++[(zAf rs 1 s.toList)]).length c5)) (by simp[go_sem,cJ,fJ]) ⟨_,rfl,zAg.same,InvN.store hI (by omega)⟩
   ·intro gx0 wq0 hI;have HI:=zh (InvN.done hI);clear hI;go_upto_region 7 with(fail)
    refine zAs (X:=Nat×Value) (by kernel_rfl) _ (fun gx1=>[.pointer (some ⟨w.heap.size+2,3,none⟩),((updV v 0 gx0.2) 1),.func (.func 109) #[] #[qP w.heap.size],.string s,qI (zAf rs 2 s.toList),.slice (some ⟨gx1.1,0,none⟩) 1 1,gx1.2,.pointer (some ⟨w.heap.size+2,3,none⟩),undef]) [true,true,true,true,true,true,true,true,true] [5,6,8] (InvN w A rs.length cap (some ad) ts.length cT (updV v 0 gx0.2) (updV (xsN rs ts k) 0 (xsN rs ts k 0++[zAf rs 1 s.toList])) 1 (zAf rs 2 s.toList)) (0,.nilFunc) (by kernel_rfl) (fun gx1=>by simp[fin,zBz,zAk,List.range,List.range.loop,Act.put];rfl) (fun _=>by kernel_rfl) (by kernel_rfl) (InvN.drew (HI.out.again _ _ _)) ?_ ?_
    ·refine⟨jT,fun L gx1 wq1 hL hb ha hI=>?_,jS,jS,fun L gx1 wq1 hL hb ha hI=>?_,fun L gx1 wq1 hL hb ha hI=>?_,fun L gx1 wq1 hL hb ha hI=>?_,jT,fun L gx1 wq1 hL hb ha hI=>?_,trivial⟩
     ·have e8:L 8=false:=ha 8 (by kernel_rfl);have cJ:wq1.cell? ⟨w.heap.size+2,3,none⟩=some ((updV v 0 gx0.2) 1):=by
       have h:=hI.2.2.1.cell 3;simp only[e8] at h;exact h
      exact jq ((updV v 0 gx0.2) 1) wq1 (by simp[go_sem,cJ]) rfl hI
     ·refine jc 109 (#[qI 2,.string s,qP w.heap.size]) wq1 (by kernel_rfl) ((zG2 w.heap.size A cap rs 2 s wq1 hI.1 (HR.out.keep hI.2.2.2.2.2) hn).mono ?_);rintro e wa ⟨rfl,hb5⟩;exact⟨_,rfl,gx1,rfl,zAg.same,InvN.keep hI hb5⟩
     ·have e5:L 5=false:=hL;have e6:L 6=false:=ha 6 (by kernel_rfl);have e8:L 8=false:=ha 8 (by kernel_rfl);simp only[List.map,e5,e6,e8] at hI⊢;exact jv (.slice (some ⟨wq1.heap.size,0,none⟩) 1 1) (wq1.alloc (.cells #[qI (zAf rs 2 s.toList)] 3)) (by simp[go_sem]) ⟨(wq1.heap.size,gx1.2),rfl,jD,InvN.build hI⟩
     ·have e5:L 5=true:=hb 5 (by kernel_rfl);have e6:L 6=false:=hL;have e8:L 8=false:=ha 8 (by kernel_rfl);simp only[List.map,e5,e6,e8] at hI⊢;have hO:OwnI wq1 (w.heap.size+3) ((updV v 0 gx0.2) 1) ((updV (xsN rs ts k) 0 (xsN rs ts k 0++[zAf rs 1 s.toList])) 1):=hI.2.2.2.1.1 1 (by omega);have hB:=hI.2.2.2.2.1 rfl rfl;have hS:=hI.2.2.2.2.2.size;have hX:=HX1.out;have hZ:w.heap.size+3<=wq1.heap.size:=hI.2.2.1.lt;exact zB0 (.tmp 28) (.tmp 32) 30 rfl (w.heap.size+3) 3 i0 (qI 0) 1 8 Tryz.underlying30 hi hz0 hz1 hz2 rfl (by decide) ((updV v 0 gx0.2) 1) _ _ rfl hO wq1.heap.size (some ⟨gx1.1,0,none⟩) 1 1 [qI (zAf rs 2 s.toList)] rfl (zEw hB) (by intro u hu;simp at hu;subst hu;rfl) (by rw[hX];unfold maxLen;omega) (by rw[hX];omega) hZ (fun v' w' h2 h3 h4=>⟨(gx1.1,v'),rfl,jD,InvN.append hI (by omega) (zKr rfl h2) h3 h4⟩)
     ·have e5:L 5=true:=hb 5 (by kernel_rfl);have e6:L 6=true:=hb 6 (by kernel_rfl);have e8:L 8=false:=hL;simp only[List.map,e5,e6,e8] at hI⊢;have cJ:wq1.cell? ⟨w.heap.size+2,3,none⟩=some ((updV v 0 gx0.2) 1):=hI.2.2.1.cell 3;have fJ:=hI.2.2.1.frozen 3;obtain⟨gb,gu⟩:=gx1;obtain⟨A5,c5,e9,_⟩:=(show OwnI wq1 (w.heap.size+3) gu ((updV (xsN rs ts k) 0 (xsN rs ts k 0++[zAf rs 1 s.toList])) 1++[(zAf rs 2 s.toList)]) from hI.2.2.2.1.1 1 (by omega)).form;subst e9;exact Gives.skip (w':=wq1.setCell ⟨w.heap.size+2,3,none⟩ (.slice A5 ((updV (xsN rs ts k) 0 (xsN rs ts k 0++[zAf rs 1 s.toList])) 1++[(zAf rs 2 s.toList)]).length c5)) (by simp[go_sem,cJ,fJ]) ⟨_,rfl,zAg.same,InvN.store hI (by omega)⟩
    ·intro gx1 wq1 hI;have HI:=zh (InvN.done hI);clear hI;go_upto_region 8 with(fail)
     refine zAs (X:=Nat×Value) (by kernel_rfl) _ (fun gx2=>[.pointer (some ⟨w.heap.size+2,4,none⟩),((updV (updV v 0 gx0.2) 1 gx1.2) 2),.func (.func 109) #[] #[qP w.heap.size],.string s,qI (zAf rs 3 s.toList),.slice (some ⟨gx2.1,0,none⟩) 1 1,gx2.2,.pointer (some ⟨w.heap.size+2,4,none⟩),undef]) [true,true,true,true,true,true,true,true,true] [5,6,8] (InvN w A rs.length cap (some ad) ts.length cT (updV (updV v 0 gx0.2) 1 gx1.2) (updV (updV (xsN rs ts k) 0 (xsN rs ts k 0++[zAf rs 1 s.toList])) 1 ((updV (xsN rs ts k) 0 (xsN rs ts k 0++[zAf rs 1 s.toList])) 1++[zAf rs 2 s.toList])) 2 (zAf rs 3 s.toList)) (0,.nilFunc) (by kernel_rfl) (fun gx2=>by simp[fin,zBz,zAk,List.range,List.range.loop,Act.put];rfl) (fun _=>by kernel_rfl) (by kernel_rfl) (InvN.drew (HI.out.again _ _ _)) ?_ ?_
     ·refine⟨jT,fun L gx2 wq2 hL hb ha hI=>?_,jS,jS,fun L gx2 wq2 hL hb ha hI=>?_,fun L gx2 wq2 hL hb ha hI=>?_,fun L gx2 wq2 hL hb ha hI=>?_,jT,fun L gx2 wq2 hL hb ha hI=>?_,trivial⟩
      ·have e8:L 8=false:=ha 8 (by kernel_rfl);have cJ:wq2.cell? ⟨w.heap.size+2,4,none⟩=some ((updV (updV v 0 gx0.2) 1 gx1.2) 2):=by
        have h:=hI.2.2.1.cell 4;simp only[e8] at h;exact h
       exact jq ((updV (updV v 0 gx0.2) 1 gx1.2) 2) wq2 (by simp[go_sem,cJ]) rfl hI
      ·refine jc 109 (#[qI 3,.string s,qP w.heap.size]) wq2 (by kernel_rfl) ((zG2 w.heap.size A cap rs 3 s wq2 hI.1 (HR.out.keep hI.2.2.2.2.2) hn).mono ?_);rintro e wa ⟨rfl,hb5⟩;exact⟨_,rfl,gx2,rfl,zAg.same,InvN.keep hI hb5⟩
      ·have e5:L 5=false:=hL;have e6:L 6=false:=ha 6 (by kernel_rfl);have e8:L 8=false:=ha 8 (by kernel_rfl);simp only[List.map,e5,e6,e8] at hI⊢;exact jv (.slice (some ⟨wq2.heap.size,0,none⟩) 1 1) (wq2.alloc (.cells #[qI (zAf rs 3 s.toList)] 3)) (by simp[go_sem]) ⟨(wq2.heap.size,gx2.2),rfl,jD,InvN.build hI⟩
      ·have e5:L 5=true:=hb 5 (by kernel_rfl);have e6:L 6=false:=hL;have e8:L 8=false:=ha 8 (by kernel_rfl);simp only[List.map,e5,e6,e8] at hI⊢;have hO:OwnI wq2 (w.heap.size+3) ((updV (updV v 0 gx0.2) 1 gx1.2) 2) ((updV (updV (xsN rs ts k) 0 (xsN rs ts k 0++[zAf rs 1 s.toList])) 1 ((updV (xsN rs ts k) 0 (xsN rs ts k 0++[zAf rs 1 s.toList])) 1++[zAf rs 2 s.toList])) 2):=hI.2.2.2.1.1 2 (by omega);have hB:=hI.2.2.2.2.1 rfl rfl;have hS:=hI.2.2.2.2.2.size;have hX:=HX2.out;have hZ:w.heap.size+3<=wq2.heap.size:=hI.2.2.1.lt;exact zB0 (.tmp 36) (.tmp 40) 30 rfl (w.heap.size+3) 3 i0 (qI 0) 1 8 Tryz.underlying30 hi hz0 hz1 hz2 rfl (by decide) ((updV (updV v 0 gx0.2) 1 gx1.2) 2) _ _ rfl hO wq2.heap.size (some ⟨gx2.1,0,none⟩) 1 1 [qI (zAf rs 3 s.toList)] rfl (zEw hB) (by intro u hu;simp at hu;subst hu;rfl) (by rw[hX];unfold maxLen;omega) (by rw[hX];omega) hZ (fun v' w' h2 h3 h4=>⟨(gx2.1,v'),rfl,jD,InvN.append hI (by omega) (zKr rfl h2) h3 h4⟩)
      ·have e5:L 5=true:=hb 5 (by kernel_rfl);have e6:L 6=true:=hb 6 (by kernel_rfl);have e8:L 8=false:=hL;simp only[List.map,e5,e6,e8] at hI⊢;have cJ:wq2.cell? ⟨w.heap.size+2,4,none⟩=some ((updV (updV v 0 gx0.2) 1 gx1.2) 2):=hI.2.2.1.cell 4;have fJ:=hI.2.2.1.frozen 4;obtain⟨gb,gu⟩:=gx2;obtain⟨A5,c5,e9,_⟩:=(show OwnI wq2 (w.heap.size+3) gu ((updV (updV (xsN rs ts k) 0 (xsN rs ts k 0++[zAf rs 1 s.toList])) 1 ((updV (xsN rs ts k) 0 (xsN rs ts k 0++[zAf rs 1 s.toList])) 1++[zAf rs 2 s.toList])) 2++[(zAf rs 3 s.toList)]) from hI.2.2.2.1.1 2 (by omega)).form;subst e9;exact Gives.skip (w':=wq2.setCell ⟨w.heap.size+2,4,none⟩ (.slice A5 ((updV (updV (xsN rs ts k) 0 (xsN rs ts k 0++[zAf rs 1 s.toList])) 1 ((updV (xsN rs ts k) 0 (xsN rs ts k 0++[zAf rs 1 s.toList])) 1++[zAf rs 2 s.toList])) 2++[(zAf rs 3 s.toList)]).length c5)) (by simp[go_sem,cJ,fJ]) ⟨_,rfl,zAg.same,InvN.store hI (by omega)⟩
     ·intro gx2 wq2 hI;have HI:=zh (InvN.done hI);clear hI;go_wp2;go_roundw
      case rel=>exact⟨k+1,_,by omega,by go_num,zh ⟨HI.out.1,HI.out.2.1,HI.out.2.2.1,HI.out.2.2.2.1.same HSN.out,(fun h=>by cases h),HI.out.2.2.2.2.2⟩⟩
      case measure=>simp[intOf];omega
  ·obtain rfl:k=ts.length:=by omega
   have K2:Hid (Blk wr (w.heap.size+1+1) 140 #[.slice A rs.length cap,.slice T ts.length cT,v 0,v 1,v 2,qI (-1)]):=zh HI.out.2.2.1;have K1:=zh HI.out.2.1;have K0:=zh HI.out.1;have H0:=zh HI.out.2.2.2.2.2;have HO:Hid (OwnF wr (w.heap.size+3) v (xsN rs ts ts.length)):=zh HI.out.2.2.2.1;clear HI;obtain⟨I,cI,e0,hI0⟩:=zQx (show OwnI wr (w.heap.size+3) (v 0) (xsN rs ts ts.length 0) from HO.out.1 0 (by omega)) (zIe (Nat.le_refl _));obtain⟨J,cJ,e1,hI1⟩:=zQx (show OwnI wr (w.heap.size+3) (v 1) (xsN rs ts ts.length 1) from HO.out.1 1 (by omega)) (zIe (Nat.le_refl _));obtain⟨M,cM,e2,hI2⟩:=zQx (show OwnI wr (w.heap.size+3) (v 2) (xsN rs ts ts.length 2) from HO.out.1 2 (by omega)) (zIe (Nat.le_refl _));have HKEY:Hid (∀W,OwnF W (w.heap.size+3) v (xsN rs ts ts.length)->Below w.heap.size w W->zIu W ⟨A,cap,T,cT,I,cI,J,cJ,M,cM⟩ rs ts):=fun W hO hB=>by
    refine⟨HR.out.keep hB,HT.out.keep hB,?_,?_,?_⟩
    ·have:=zPy (hO.1 0 (by omega)) e0
     rwa [show xsN rs ts ts.length 0=zDg rs ts 1 from List.take_of_length_le (by rw[zH8];omega)] at this
    ·have:=zPy (hO.1 1 (by omega)) e1
     rwa [show xsN rs ts ts.length 1=zDg rs ts 2 from List.take_of_length_le (by rw[zH8];omega)] at this
    ·have:=zPy (hO.1 2 (by omega)) e2
     rwa [show xsN rs ts ts.length 2=zDg rs ts 3 from List.take_of_length_le (by rw[zH8];omega)] at this
   rw[e0,e1,e2] at K2;clear e0 e1 e2 hI0 hI1 hI2;go_wp2_with fail;refine(zG2 w.heap.size A cap rs 4 ⟨#[]⟩ wr K0.out (HR.out.keep H0.out) hn).mono ?_;rintro e w2 ⟨rfl,hb⟩;have K2:=kp hb K2;have K1:=kp hb K1;have HO:=zh (HO.out.keep hb);have H0:=jt H0 hb;clear hb K0;rw[show(⟨#[]⟩:ByteArray).toList=[] from by rw[ByteArray.toList_eq]];have f2:=K2.out.frozen;have c2:=K2.out.cell;have f1:=K1.out.frozen;have c1:=K1.out.cell;go_wp2_with fail;refine bodyPost_ret (v:=.agg #[.slice A rs.length cap,.slice T ts.length cT,.slice I ts.length cI,.slice J ts.length cJ,.slice M ts.length cM,qI (zAf rs 4 [])]) (by simp[results,Tryz.results83,go_sem,c1]) rfl ⟨⟨A,cap,T,cT,I,cI,J,cJ,M,cM⟩,rfl,?_,⟨rfl,rfl⟩,?_⟩
   ·refine HKEY.out _ ?_ ?_
    ·repeat' (first|(with_reducible exact HO.out)|(with_reducible refine OwnF.set_ ?_ ?_ _)|(show _<_;dsimp only;omega))
    ·repeat' (first|(with_reducible exact H0.out)|(with_reducible refine Below.setCell ?_ ?_ _)|(show _<=_;dsimp only;omega))
   ·repeat' (first|(with_reducible exact H0.out)|(with_reducible refine Below.setCell ?_ ?_ _)|(show _<=_;dsimp only;omega))
end Ch
namespace Ch
variable{rs:List Rul}{l m:List Rd}{r a:Int}
def up (k n:Nat):Nat:=if k<=n then n+1 else n
theorem zFa {ts:List ByteArray}{i j:Nat}{x:Rd}(h:x∈allR rs ts i j): -1<=x.rule/\x.rule<(rs.length:Int):=by
 rcases(zDp (zD9 h)).1 h with⟨_,_,rfl⟩|⟨n,u,hu,h⟩
 ·show(-1:Int)<=-1/\(-1:Int)<_;omega
 ·rw[(zPv h).2];have:=(List.getElem?_eq_some_iff.1 hu).1;omega
theorem zJn {α β:Type}{f:α->List β}{b:Nat}:∀{l:List α},(∀x∈l,(f x).length<=b)->(l.flatMap f).length<=l.length*b
 |[],_=>by simp
 |a::l,h=>by
  rw[List.flatMap_cons,List.length_append,List.length_cons,Nat.add_mul,Nat.one_mul];have:=h a List.mem_cons_self;have:=zJn (l:=l) fun x hx=>h x (List.mem_cons_of_mem _ hx)
  omega
theorem zZu {p:Int}:(zA5 rs l p).length<=l.length:=List.length_filter_le ..
theorem zOu :(zAm r a l m).length=l.length*m.length:=by
 induction l with
 |nil=>simp[zAm]
 |cons x l ih=>
  unfold zAm at ih⊢;rw[List.flatMap_cons,List.length_append,ih,List.length_map,List.length_cons,Nat.add_mul,Nat.one_mul];omega
theorem zR9 {b c:Nat}(h:l.length<=b)(h':m.length<=c):(zAm r a l m).length<=b*c:=by rw[zOu];exact Nat.mul_le_mul h h'
end Ch
end Go.Proofs.YtapgncbegadbnaaGreatDoor
