/- A region that draws its order and only adds memory, but for a tail that waits for all. -/
import Derived.Test.YtchllommcolijaaGreatDoorH23d501a4
namespace Go.Proofs.YtchllommcolijaaGreatDoor
section
variable {P : Program} {ops : Array Oper} {Q : Exit → Act → World → Prop} {X : Type}
@[reducible] def evAct (es:List Bool) (a0 F:Act) (i:Nat):Act:=if es.getD i false=true then a0 else F
def zLb (ops:Array Oper)(i:Nat)(o:Oper):Bool:=
 o.guard.isNone&&
 (o.op.operands.all fun| .tmp t=>(List.range ops.size).all fun j=>zA7 ops j !=some t||((ops[j]?).map fun oj=>bound oj i).getD true |_=>true)
def opE (ops:Array Oper)(es:List Bool)(i:Nat)(o:Oper):Bool:=if es.getD i false=true then zLb ops i o else zDy ops o
def zQd (ops:Array Oper)(es:List Bool):Bool:=Region.noSelect ops&&zEy ops&&((List.range ops.size).all fun i=>match ops[i]? with
 |some o=>opE ops es i o
 |none=>true)&&(List.range ops.size).all fun i=>match ops[i]? with
 |some o=>o.after.all fun e=> !Region.binds .any e||decide (e.on<i)
 |none=>true
theorem zDs.early {vals:Nat→Value}{a0 F:Act}{L:Nat→Bool}{a:Act}(h:zDs ops vals a0 L a){i:Nat}{o:Oper}(ho:zLb ops i o=true)(hL:∀j oj,ops[j]?=some oj→bound oj i=true→L j=false):
  (∀x∈o.op.operands,a.eval x=a0.eval x)∧Region.wanted o (yielded ops a.tmps)=Region.wanted o (yielded ops F.tmps):=by
 unfold zLb at ho;rw[Bool.and_eq_true] at ho;obtain⟨h1,h2⟩:=ho;refine⟨fun x hx=>?_,?_⟩
 ·cases x with
  |tmp t=>
   have hx':=Array.all_eq_true'.1 h2 _ hx;have e:a.tmps[t]?=a0.tmps[t]?:=h.rest t fun j hj hd=>by
    have:=List.all_eq_true.1 hx' j (List.mem_range.2 (zBe hd));rw[hd,Array.getElem?_eq_getElem (zBe hd)] at this;have hb:bound (ops[j]'(zBe hd)) i=true:=by simpa using this
    have:=hL j _ (Array.getElem?_eq_getElem (zBe hd)) hb;rw[hj] at this;cases this
   simp only[Act.eval,Array.getD_eq_getD_getElem?,e]
  |_=>rfl
 ·unfold Region.wanted;cases hg:o.guard with
  |none=>rfl
  |some gw=>rw[hg] at h1;cases h1
theorem zMh {es:List Bool}{vals:X→Nat→Value}{a0:Act}{Inv:(Nat→Bool)→X→World→Prop}(hok:zQd ops es=true)(hcl0:∀L x w,Inv L x w→Closed ops L)
  (hstep:∀(i:Nat) (o:Oper) (L:Nat→Bool) (x:X) (w:World),ops[i]?=some o→L i=false→(∀e∈o.after,Region.binds .any e=true→L e.on=true)→Inv L x w→
   if Region.wanted o (yielded ops (fin ops (vals x) a0).tmps)=true then Gives P (execOp (evAct es a0 (fin ops (vals x) a0) i).eval o) w (fun v w'=>∃x',v=vals x' i∧(∀j,L j=true→vals x' j=vals x j)∧Inv (fun j=>L j||j==i) x' w') else vals x i=undef∧Inv (fun j=>L j||j==i) x w)
  (hend:∀(L:Nat→Bool) (x:X) (w:World),(∀i,i<ops.size→L i=true)→Inv L x w→Q .normal (fin ops (vals x) a0) w):
  ∀(fuel:Nat) (listed:Array Bool) (x:X) (a:Act) (w:World),listed.size=ops.size→(listed.toList.countP (·==false))≤fuel→zDs ops (vals x) a0 (fun j=>listed.getD j false) a→Inv (fun j=>listed.getD j false) x w→wpAny P .any ops Q fuel listed a w:=by
 simp only[zQd,Bool.and_eq_true] at hok;obtain⟨⟨⟨hsel,hd⟩,hall⟩,hedge⟩:=hok;have fini:∀(listed:Array Bool) (x:X) (a:Act) (w:World),listed.size=ops.size→zDs ops (vals x) a0 (fun j=>listed.getD j false) a→Inv (fun j=>listed.getD j false) x w→Region.ready .any ops listed=[]→Q .normal a w:=by
  intro listed x a w hs ho hI hr;have hL:∀i,i<ops.size→listed.getD i false=true:=by
   intro i
   induction i using Nat.strongRecOn with
   |_ i ih=>
    intro hi;refine Classical.byContradiction fun hn=>?_
    have hm:i∈Region.ready .any ops listed:=by
     rw[mem_ready];refine⟨?_,ops[i],Array.getElem?_eq_getElem hi,fun e he hb=>?_⟩
     ·have hil:i<listed.size:=by omega
      simp only[Array.getD_eq_getD_getElem?,Array.getElem?_eq_getElem hil,Option.getD_some] at hn⊢
      simpa using hn
     ·have h1:=List.all_eq_true.1 hedge i (List.mem_range.2 hi);rw[Array.getElem?_eq_getElem hi] at h1;have h2:=Array.all_eq_true'.1 h1 e he;rw[hb] at h2;have h3:e.on<i:=by simpa using h2
      exact ih e.on h3 (by omega)
    rw[hr] at hm;cases hm
  rw[ho.end hL];exact hend _ x w hL hI
 intro fuel
 induction fuel with
 |zero=>
  intro listed x a w hs hc ho hI;have hr:Region.ready .any ops listed=[]:=by
   rw[List.eq_nil_iff_forall_not_mem];intro j hj;rw[mem_ready] at hj;obtain⟨h0,o,hoj,_⟩:=hj;have hjl:j<listed.size:=by rw[hs];exact(Array.getElem?_eq_some_iff.1 hoj).1
   have hf:listed[j]=false:=by simpa [Array.getD_eq_getD_getElem?,Array.getElem?_eq_getElem hjl] using h0
   have:0<listed.toList.countP (·==false):=List.countP_pos_iff.2 ⟨false,by rw[←hf];simp,rfl⟩;omega
  exact⟨hr,fini listed x a w hs ho hI hr⟩
 |succ fuel ih=>
  intro listed x a w hs hc ho hI;refine⟨fini listed x a w hs ho hI,fun i hi=>?_⟩;rw[mem_ready] at hi;obtain⟨h0,o,hoi,hb⟩:=hi;have hil:i<ops.size:=(Array.getElem?_eq_some_iff.1 hoi).1;have hil':i<listed.size:=by omega
  have hf:listed[i]=false:=by simpa [Array.getD_eq_getD_getElem?,Array.getElem?_eq_getElem hil'] using h0
  have hLi:listed.getD i false=false:=by simp[Array.getD_eq_getD_getElem?,Array.getElem?_eq_getElem hil',hf]
  have hL':(fun j=>(listed.setIfInBounds i true).getD j false)=fun j=>listed.getD j false||j==i:=by
   funext j
   by_cases hij:j=i
   ·subst hij;simp[Array.getD_eq_getD_getElem?,hil']
   ·rw[getD_set_ne false (Ne.symm hij)];simp[hij]
  have hcount:(listed.setIfInBounds i true).toList.countP (·==false)≤fuel:=by
   rw[Array.toList_setIfInBounds];have hl:i<listed.toList.length:=by simpa using hil'
   have hs1:listed.toList.countP (·==false)=(listed.toList.set i true).countP (·==false)+1:=by
    exact zE8 _ _ (by rw[List.getElem?_eq_getElem hl];simpa using hf)
   omega
  have hcl:=hcl0 _ x w hI;have hu:opE ops es i o=true:=by
   have h1:=List.all_eq_true.1 hall i (List.mem_range.2 hil);rw[hoi] at h1;exact h1
  obtain⟨hev,hwant⟩:(∀y∈o.op.operands,a.eval y=(evAct es a0 (fin ops (vals x) a0) i).eval y)∧Region.wanted o (yielded ops a.tmps)=Region.wanted o (yielded ops (fin ops (vals x) a0).tmps):=by
   unfold opE at hu;unfold evAct
   by_cases hes:es.getD i false=true
   ·rw[if_pos hes] at hu⊢;exact ho.early hu fun j oj hoj hbj=>by
     cases hLj:listed.getD j false with
     |false=>rfl
     |true=>
      unfold bound at hbj;obtain⟨e,he,hh⟩:=Array.any_eq_true'.1 hbj;rw[Bool.and_eq_true,beq_iff_eq] at hh;have:=hcl j oj hoj hLj e he hh.2;rw[hh.1] at this;have h9:listed.getD i false=true:=this;rw[hLi] at h9;cases h9
   ·rw[if_neg hes] at hu⊢;exact ho.eval hu hb
  have hexec:execOp a.eval o=execOp (evAct es a0 (fin ops (vals x) a0) i).eval o:=execOp_congr o (fun cs b=>Region.noSelect_spec hsel i o cs b hoi) hev;have hst:=hstep i o _ x w hoi hLi hb hI;have hdst:o.dst=zA7 ops i:=by unfold zA7;rw[hoi];rfl
  have next:∀x' w',(∀j,listed.getD j false=true→vals x' j=vals x j)→Inv (fun j=>listed.getD j false||j==i) x' w'→wpAny P .any ops Q fuel (listed.setIfInBounds i true) (a.put o.dst (vals x' i)) w':=by
   intro x' w' hv hI';refine ih _ x' _ w' (by simpa using hs) hcount ?_ (by rw[hL'];exact hI');rw[hL',hdst];exact(ho.swap hd hv).put hd i hil hLi
  unfold wpOp;simp only[hoi];rw[hwant]
  by_cases hw:Region.wanted o (yielded ops (fin ops (vals x) a0).tmps)=true
  ·rw[if_pos hw] at hst⊢;refine .inl (Gives.wp (R:=fun v w'=>∃x',v=vals x' i∧(∀j,listed.getD j false=true→vals x' j=vals x j)∧Inv (fun j=>listed.getD j false||j==i) x' w') (by rw[hexec];exact hst) ?_);rintro v w' ⟨x',rfl,hv,hI'⟩;exact next x' w' hv hI'
  ·rw[if_neg hw] at hst⊢;rw[←hst.1];exact next x w (fun _ _=>rfl) hst.2
def zOk (P:Program)(F:Nat→X→Act)(ops:Array Oper)(tr:List Nat)(vs:X→List Value)(Inv:List Bool→X→World→Prop):Nat→List Oper→List Bool→Prop
 |i,o::os,true::bs=>(∀(L:Nat→Bool) (x:X) (w:World),L i=false→(∀j,reach ops j ops.size i=true→L j=true)→(∀j,reach ops i ops.size j=true→L j=false)→Inv (tr.map L) x w→Gives P (execOp (F i x).eval o) w fun u w'=>∃x',u=(vs x').getD i undef∧zA5 ops i (vs x) (vs x')∧Inv (tr.map fun j=>j==i||L j) x' w')∧zOk P F ops tr vs Inv (i+1) os bs
 |i,_::os,false::bs=>((∀x,(vs x).getD i undef=undef)∧∀(L:Nat→Bool) (x:X) (w:World),Inv (tr.map L) x w→Inv (tr.map fun j=>j==i||L j) x w)∧zOk P F ops tr vs Inv (i+1) os bs
 |_,[],[]=>True
 |_,_,_=>False
theorem zOk.at_ {F:Nat→X→Act}{tr:List Nat}{vs:X→List Value}{Inv:List Bool→X→World→Prop}:∀{n:Nat} {os:List Oper} {bs:List Bool},zOk P F ops tr vs Inv n os bs→∀{i:Nat} {o:Oper},os[i]?=some o→∃b,bs[i]?=some b∧
  if b=true then(∀(L:Nat→Bool) (x:X) (w:World),L (n+i)=false→(∀j,reach ops j ops.size (n+i)=true→L j=true)→(∀j,reach ops (n+i) ops.size j=true→L j=false)→Inv (tr.map L) x w→Gives P (execOp (F (n+i) x).eval o) w fun u w'=>∃x',u=(vs x').getD (n+i) undef∧zA5 ops (n+i) (vs x) (vs x')∧Inv (tr.map fun j=>j==(n+i)||L j) x' w')
  else(∀x,(vs x).getD (n+i) undef=undef)∧∀(L:Nat→Bool) (x:X) (w:World),Inv (tr.map L) x w→Inv (tr.map fun j=>j==(n+i)||L j) x w
 |n,[],[],_,i,o,h=>by simp at h
 |n,o::os,true::bs,⟨h1,h2⟩,0,o',h=>by
  obtain rfl:o=o':=by simpa using h
  exact⟨true,rfl,by rw[if_pos rfl];exact h1⟩
 |n,o::os,false::bs,⟨h1,h2⟩,0,o',h=>⟨false,rfl,by rw[if_neg (by simp)];exact h1⟩
 |n,o::os,true::bs,⟨h1,h2⟩,i+1,o',h=>by
  obtain⟨b,hb,hh⟩:=zOk.at_ h2 (i:=i) (o:=o') (by simpa using h);rw[show n+1+i=n+(i+1) by omega] at hh;exact⟨b,by simpa using hb,hh⟩
 |n,o::os,false::bs,⟨h1,h2⟩,i+1,o',h=>by
  obtain⟨b,hb,hh⟩:=zOk.at_ h2 (i:=i) (o:=o') (by simpa using h);rw[show n+1+i=n+(i+1) by omega] at hh;exact⟨b,by simpa using hb,hh⟩
 |_,[],_::_,h,_,_,_=>h.elim
 |_,_::_,[],h,_,_,_=>h.elim
theorem zH2 {id:Nat}{a0:Act}{w0:World}(hm:P.follows .mixedOrders=true)(es:List Bool)(F:X→Act)(vs:X→List Value)(bs:List Bool)(tr:List Nat)(Inv:List Bool→X→World→Prop)(x0:X)(hok:zQd ops es=true)(hF:∀x,fin ops (fun i=>(vs x).getD i undef) a0=F x)
  (hw:∀x,((List.range ops.size).map fun i=>((ops[i]?).map fun o=>Region.wanted o (yielded ops (F x).tmps)).getD true)=bs) (htr:(tr.all fun i=>decide (i<ops.size))=true) (h0:Inv (tr.map fun _=>false) x0 w0.drew) (hE:zOk P (fun i x=>evAct es a0 (F x) i) ops tr vs Inv 0 ops.toList bs) (hend:∀(x:X) (w:World),Inv (tr.map fun _=>true) x w→Q .normal (F x) w):(Code.region id ops true).wp P Q a0 w0:=by
 refine wp_region_any hm ?_;refine zMh (es:=es) (vals:=fun x i=>(vs x).getD i undef) (a0:=a0) (Inv:=fun L x w=>Closed ops L∧Inv (tr.map L) x w) hok (fun L x w h=>h.1) (fun i o L x w ho hLi hb hI=>?_) (fun L x w hL hI=>?_) ops.size (Array.replicate ops.size false) x0 a0 _ (by simp) (by
  refine Nat.le_trans (List.countP_le_length) ?_;simp) ⟨rfl,rfl,fun i t _ h=>?_,fun _ _=>rfl⟩ ⟨fun i o _ h=>?_,?_⟩
 ·obtain⟨hc,hI⟩:=hI;have hi:i<ops.size:=(Array.getElem?_eq_some_iff.1 ho).1;obtain⟨b,hb2,hh⟩:=hE.at_ (i:=i) (o:=o) (by rw[Array.getElem?_toList];exact ho);rw[Nat.zero_add] at hh;rw[←hw x,List.getElem?_map,List.getElem?_range hi] at hb2;simp only[Option.map_some,ho,Option.getD_some,Option.some.injEq] at hb2;have hca:=zCr hc ho hb;have hFx:fin ops (fun i=>(vs x).getD i undef) a0=F x:=hF x;rw[hFx,hb2];have hno:∀j,reach ops i ops.size j=true→L j=false:=fun j hj=>by
   cases hLj:L j with
   |false=>rfl
   |true=>
    obtain⟨oj,hoj⟩:=zF9 hj;have:=zAx hc hoj (hc j oj hoj hLj) hj;rw[hLi] at this;cases this
  split
  ·rename_i hbt
   rw[if_pos hbt] at hh;have hg:Gives P (execOp (evAct es a0 (F x) i).eval o) w _:=hh L x w hLi (fun j hj=>zAx hc ho hb hj) hno hI;unfold Gives at hg⊢;revert hg;have key:∀u w',(∃x',u=(vs x').getD i undef∧zA5 ops i (vs x) (vs x')∧Inv (tr.map fun j=>j==i||L j) x' w')→∃x',u=(vs x').getD i undef∧(∀j,L j=true→(vs x').getD j undef=(vs x).getD j undef)∧Closed ops (fun j=>L j||j==i)∧Inv (tr.map fun j=>L j||j==i) x' w':=by
    rintro u w' ⟨x',h1,h2,h3⟩;refine⟨x',h1,fun j hj=>h2 j (fun e=>by subst e;rw[hLi] at hj;cases hj) ?_,hca,by rw[zF3];exact h3⟩;cases hr:reach ops i ops.size j with
    |false=>rfl
    |true=>rw[hno j hr] at hj;cases hj
   generalize (execOp (evAct es a0 (F x) i).eval o).run P w=r;cases r with
   |halt e w'=>exact fun h=>h
   |ok n w'=>
    cases n with
    |value v=>exact fun h=>key _ _ h
    |skip=>exact fun h=>key _ _ h
    |enter f args=>exact fun h=>Calls.mono h fun e w'' ⟨v,h1,h2⟩=>⟨v,h1,key _ _ h2⟩
    |_=>exact fun h=>h
  ·rename_i hbt
   rw[if_neg hbt] at hh;exact⟨hh.1 x,hca,by rw[zF3];exact hh.2 L x w hI⟩
 ·have e:tr.map L=tr.map fun _=>true:=List.map_congr_left fun i hi=>by
   have:=List.all_eq_true.1 htr i hi;exact hL i (by simpa using this)
  rw[←e] at hend;have hFx:fin ops (fun i=>(vs x).getD i undef) a0=F x:=hF x;show Q .normal (fin ops (fun i=>(vs x).getD i undef) a0) w;rw[hFx];exact hend x w hI.2
 ·rw[Array.getD_eq_getD_getElem?,Array.getElem?_replicate] at h
  split at h<;>simp at h
 ·dsimp only at h;rw[Array.getD_eq_getD_getElem?,Array.getElem?_replicate] at h
  split at h<;>simp at h
 ·have e:(fun j=>(Array.replicate ops.size false).getD j false)=fun _=>false:=by
   funext j
   rw[Array.getD_eq_getD_getElem?,Array.getElem?_replicate]
   split<;>rfl
  rw[e];exact h0
end
end Go.Proofs.YtchllommcolijaaGreatDoor
namespace Go.Proofs.YtchllommcolijaaGreatDoor
open Go.RowKit
section
variable {P : Program} {ops : Array Oper} {Q : Exit → Act → World → Prop} {X : Type}
def numsOf (k:Nat):Nat→List Nat→List Nat
 |_,[]=>[]
 |i,q::ks=>if q=k then i::numsOf k (i+1) ks else numsOf k (i+1) ks
abbrev isT (ks:List Nat)(i:Nat):Bool:=ks.getD i 1==3
abbrev isP (ks:List Nat)(i:Nat):Bool:=ks.getD i 1==2||ks.getD i 1==0
def zY3 (ops:Array Oper)(ks:List Nat)(o:Oper):Bool:=
 (o.op.operands.all fun| .tmp t=>(List.range ops.size).all fun j=>zA7 ops j !=some t|| !isT ks j |_=>true)&&
 (match o.guard with|none=>true|some (g,_)=> !isT ks g)
def zRb (ops:Array Oper)(ks:List Nat)(es:List Bool):Bool:=zQd ops es&&decide (ks.length=ops.size)&&
 ((List.range ops.size).all fun i=>match ops[i]? with
  |some o=>(!isP ks i||es.getD i false||zY3 ops ks o)&&(!isT ks i||(o.guard.isNone&& !es.getD i false))
  |none=>true)&&
 ((numsOf 3 0 ks).all fun t=>(List.range ops.size).all fun i=>isP ks i||decide (t≤i&&isT ks i)||reach ops i ops.size t)
theorem zS5 {listed:Array Bool}{i:Nat}(h:listed.getD i true=false):listed.getD i false=false:=by
 rcases Nat.lt_or_ge i listed.size with h'|h'
 ·simp[h'] at h⊢;exact h
 ·simp[Array.getElem?_eq_none h'] at h
theorem zYa (hd:zEy ops=true){i j t:Nat}(hi:zA7 ops i=some t)(hj:zA7 ops j=some t):i=j:=by
 have h1:=List.all_eq_true.1 hd i (List.mem_range.2 (zBe hi));have h2:=List.all_eq_true.1 h1 j (List.mem_range.2 (zBe hj));rw[hi,hj] at h2
 simpa using h2
structure zD5 (ops:Array Oper)(V:Nat→Value)(a0:Act)(ks:List Nat)(L:Nat→Bool)(A a:Act):Prop where
 size:a.tmps.size=a0.tmps.size
 sizeA:A.tmps.size=a0.tmps.size
 defers:a.defers=A.defers
 done:∀i t,zA7 ops i=some t→L i=true→a.tmps[t]?=A.tmps[t]?
 rest:∀t,(∀i,L i=true→zA7 ops i≠some t)→a.tmps[t]?=a0.tmps[t]?
 outer:∀t,(∀i,zA7 ops i≠some t)→A.tmps[t]?=a0.tmps[t]?
 head:∀i t,isT ks i=false→zA7 ops i=some t→A.tmps[t]?=(fin ops V a0).tmps[t]?
theorem zD5.end {V:Nat→Value}{a0:Act}{ks:List Nat}{L:Nat→Bool}{A a:Act}(h:zD5 ops V a0 ks L A a)(hall:∀i,i<ops.size→L i=true):a=A:=by
 have ht:a.tmps=A.tmps:=by
  refine Array.ext_getElem? fun t=>?_
  by_cases hc:∃i,zA7 ops i=some t
  ·obtain⟨i,hi⟩:=hc;exact h.done i t hi (hall i (zBe hi))
  ·rw[h.rest t fun i _ hi=>hc ⟨i,hi⟩,h.outer t fun i hi=>hc ⟨i,hi⟩]
 have hd:=h.defers;cases a;cases A;simp only at ht hd;rw[ht,hd]
theorem zD5.start {V:Nat→Value}{a0:Act}{ks:List Nat}{L:Nat→Bool}{a:Act}(h:zDs ops V a0 L a):zD5 ops V a0 ks L (fin ops V a0) a:=
 ⟨h.size,(zBa V _ a0).1,h.defers.trans (zBa V _ a0).2.symm,h.done,h.rest,fun t ht=>zC4 V t _ a0 fun i _ hi=>ht i hi,fun _ _ _ _=>rfl⟩
theorem zD5.eval {V:Nat→Value}{a0:Act}{ks:List Nat}{L:Nat→Bool}{A a:Act}(h:zD5 ops V a0 ks L A a){o:Oper}(ho:zDy ops o=true)(hL:∀e∈o.after,Region.binds .any e=true→L e.on=true):
  (∀x∈o.op.operands,a.eval x=A.eval x):=by
 unfold zDy at ho;rw[Bool.and_eq_true] at ho;intro x hx;cases x with
 |tmp t=>
  have hx':=Array.all_eq_true'.1 ho.1 _ hx;have e:a.tmps[t]?=A.tmps[t]?:=by
   by_cases hc:∃i,zA7 ops i=some t
   ·obtain⟨i,hi⟩:=hc;have:=List.all_eq_true.1 hx' i (List.mem_range.2 (zBe hi));rw[hi] at this;exact h.done i t hi (zCy (by simpa using this) hL)
   ·rw[h.rest t fun i _ hi=>hc ⟨i,hi⟩,h.outer t fun i hi=>hc ⟨i,hi⟩]
  simp only[Act.eval,Array.getD_eq_getD_getElem?,e]
 |_=>rfl
theorem zD5.yA4 {V:Nat→Value}{a0:Act}{ks:List Nat}{L:Nat→Bool}{A a:Act}(h:zD5 ops V a0 ks L A a){o:Oper}(ho:zDy ops o=true)(hL:∀e∈o.after,Region.binds .any e=true→L e.on=true)(hn:zY3 ops ks o=true):
  (∀x∈o.op.operands,a.eval x=(fin ops V a0).eval x)∧Region.wanted o (yielded ops a.tmps)=Region.wanted o (yielded ops (fin ops V a0).tmps):=by
 unfold zY3 at hn;rw[Bool.and_eq_true] at hn;have slot:∀{t},((List.range ops.size).all fun j=>zA7 ops j !=some t||bound o j)=true→((List.range ops.size).all fun j=>zA7 ops j !=some t|| !isT ks j)=true→a.tmps[t]?=(fin ops V a0).tmps[t]?:=by
  intro t hx' hx2
  by_cases hc:∃i,zA7 ops i=some t
  ·obtain⟨i,hi⟩:=hc;have:=List.all_eq_true.1 hx' i (List.mem_range.2 (zBe hi));rw[hi] at this;have hb:bound o i=true:=by simpa using this
   have h2:=List.all_eq_true.1 hx2 i (List.mem_range.2 (zBe hi));rw[hi] at h2;rw[h.done i t hi (zCy hb hL),h.head i t (by simpa using h2) hi]
  ·rw[h.rest t fun i _ hi=>hc ⟨i,hi⟩];exact(zC4 V t _ a0 fun i _ hi=>hc ⟨i,hi⟩).symm
 have ho':=ho;unfold zDy at ho;rw[Bool.and_eq_true] at ho;obtain⟨h1,h2⟩:=ho;refine⟨fun x hx=>?_,?_⟩
 ·cases x with
  |tmp t=>
   have e:=slot (Array.all_eq_true'.1 h1 _ hx) (Array.all_eq_true'.1 hn.1 _ hx);simp only[Act.eval,Array.getD_eq_getD_getElem?,e]
  |_=>rfl
 ·unfold Region.wanted;cases hg:o.guard with
  |none=>rfl
  |some gw=>
   obtain⟨g,want⟩:=gw;rw[hg] at h2;have hn2:=hn.2;rw[hg] at hn2;have hgT:isT ks g=false:=by simpa using hn2
   have hb:bound o g=true:=h2;have hl:=zCy hb hL;have hy:yielded ops a.tmps g=yielded ops (fin ops V a0).tmps g:=by
    unfold yielded;cases hog:ops[g]? with
    |none=>rfl
    |some og=>
     cases hd:og.dst with
     |none=>simp[hd]
     |some t=>
      have hdg:zA7 ops g=some t:=by unfold zA7;rw[hog];exact hd
      have e:=h.done g t hdg hl;rw[h.head g t hgT hdg] at e;simp[hd,e]
   simp only[hy]
theorem zD5.put {V:Nat→Value}{a0:Act}{ks:List Nat}{L:Nat→Bool}{A a:Act}(hd:zEy ops=true)(h:zD5 ops V a0 ks L A a)(i:Nat)(hT:isT ks i=true)(v:Value)(ds:List Deferred):zD5 ops V a0 ks (fun j=>L j||j==i) (({A with defers:=ds}).put (zA7 ops i) v) (({a with defers:=ds}).put (zA7 ops i) v):=by
 have hs:=h.size;have hsA:=h.sizeA;refine⟨(zFe _ _ _).trans hs,(zFe _ _ _).trans hsA,by rw[put_defers,put_defers],fun j t hj hjL=>?_,fun t ht=>?_,fun t ht=>?_,fun j t hj hjt=>?_⟩
 ·rw[zDr,zDr]
  by_cases hc:zA7 ops i=some t∧t<a.tmps.size
  ·rw[if_pos hc,if_pos ⟨hc.1,by rw[hsA,←hs];exact hc.2⟩]
  ·rw[if_neg hc,if_neg (fun h2=>hc ⟨h2.1,by rw[hs,←hsA];exact h2.2⟩)]
   by_cases hij:j=i
   ·subst hij;have hlt:¬t<a.tmps.size:=fun hl=>hc ⟨hj,hl⟩
    rw[Array.getElem?_eq_none (Nat.le_of_not_lt hlt),Array.getElem?_eq_none (by rw[hsA,←hs];exact Nat.le_of_not_lt hlt)]
   ·exact h.done j t hj (by simpa [hij] using hjL)
 ·rw[zDr,if_neg (fun hc=>ht i (by simp) hc.1)];exact h.rest t fun j hj=>ht j (by simp[hj])
 ·rw[zDr,if_neg (fun hc=>ht i hc.1)];exact h.outer t ht
 ·rw[zDr,if_neg (fun hc=>by
   have:=zYa hd hjt hc.1;subst this;rw[hT] at hj;cases hj)]
  exact h.head j t hj hjt
theorem zD5.putP {V:Nat→Value}{a0:Act}{ks:List Nat}{L:Nat→Bool}{A a:Act}(hd:zEy ops=true)(h:zD5 ops V a0 ks L A a)(i:Nat)(hT:isT ks i=false):zD5 ops V a0 ks (fun j=>L j||j==i) A (a.put (zA7 ops i) (V i)):=by
 have hs:=h.size;refine⟨(zFe _ _ _).trans hs,h.sizeA,by rw[put_defers];exact h.defers,fun j t hj hjL=>?_,fun t ht=>?_,h.outer,h.head⟩
 ·rw[zDr]
  by_cases hc:zA7 ops i=some t∧t<a.tmps.size
  ·rw[if_pos hc,h.head i t hT hc.1,fin_at hd hc.1 (by have:=hc.2;rwa [hs] at this)]
  ·rw[if_neg hc]
   by_cases hij:j=i
   ·subst hij;have hlt:¬t<a.tmps.size:=fun hl=>hc ⟨hj,hl⟩
    rw[Array.getElem?_eq_none (Nat.le_of_not_lt hlt),Array.getElem?_eq_none (by rw[h.sizeA,←hs];exact Nat.le_of_not_lt hlt)]
   ·exact h.done j t hj (by simpa [hij] using hjL)
 ·rw[zDr,if_neg (fun hc=>ht i (by simp) hc.1)];exact h.rest t fun j hj=>ht j (by simp[hj])
abbrev zNr (Q:Exit→Act→World→Prop):Exit→Act→World→Prop:=fun e a w=>e= .normal∧Q .normal a w
theorem zO3 {o:Oper}{A a:Act}{r:Result Next}{K K':Act→World→Prop}(hdf:a.defers=A.defers)(hK:∀v w' ds,K (({A with defers:=ds}).put o.dst v) w'→K' (({a with defers:=ds}).put o.dst v) w')(h:o.upon P A K (zNr Q) r):o.upon P a K' Q r:=by
 have hA:∀v w',K (A.put o.dst v) w'→K' (a.put o.dst v) w':=fun v w' h=>by
  have:=hK v w' A.defers (by cases A;exact h);rw[←hdf] at this;cases a;exact this
 unfold Oper.upon at h⊢
 split at h
 ·exact hA _ _ h
 ·exact hA _ _ h
 ·rw[hdf];exact hK _ _ _ h
 ·refine Calls.mono h fun e w'' he=>?_
  cases e with
  |returned v=>exact hA _ _ he
  |panicked c=>exact absurd he.1 (by simp)
  |outgrown=>obtain⟨a,w,h1,_⟩:=he;cases h1
 ·exact Rows.mono h fun v w' h=>hA _ _ h
 ·exact absurd h.1 (by simp)
 ·exact h.elim
theorem zRi {Q:Exit→Act→World→Prop}:¬LetsOut (zNr Q):=by
 rintro⟨a,w,h,_⟩;cases h
theorem zM4 {listed:Array Bool}(i:Nat)(hil':i<listed.size):(fun j=>(listed.setIfInBounds i true).getD j false)=fun j=>listed.getD j false||j==i:=by
 have hLi:(listed.setIfInBounds i true).getD i false=true:=by simp[Array.getD_eq_getD_getElem?,hil']
 funext j
 by_cases hij:j=i
 ·subst hij;rw[hLi];simp
 ·rw[getD_set_ne false (Ne.symm hij)];simp[hij]
theorem zKk {listed:Array Bool}{i fuel:Nat}(hil':i<listed.size)(h0:listed.getD i true=false)(hc:listed.toList.countP (·==false)≤fuel+1):(listed.setIfInBounds i true).toList.countP (·==false)≤fuel:=by
 have hf:listed[i]=false:=by simpa [Array.getD_eq_getD_getElem?,Array.getElem?_eq_getElem hil'] using h0
 rw[Array.toList_setIfInBounds];have hl:i<listed.toList.length:=by simpa using hil'
 have hs1:listed.toList.countP (·==false)=(listed.toList.set i true).countP (·==false)+1:=by
  exact zE8 _ _ (by rw[gE hl];simpa using hf)
 omega
theorem zKa {listed:Array Bool}(hs:listed.size=ops.size)(hc:listed.toList.countP (·==false)≤0):Region.ready .any ops listed=[]:=by
 rw[List.eq_nil_iff_forall_not_mem];intro j hj;rw[mem_ready] at hj;obtain⟨h0,o,hoj,_⟩:=hj;have hjl:j<listed.size:=by rw[hs];exact(Array.getElem?_eq_some_iff.1 hoj).1
 have hf:listed[j]=false:=by simpa [Array.getD_eq_getD_getElem?,Array.getElem?_eq_getElem hjl] using h0
 have:0<listed.toList.countP (·==false):=List.countP_pos_iff.2 ⟨false,by rw[←hf];simp,rfl⟩;omega
theorem zJa {es:List Bool}(h:zQd ops es=true):Region.noSelect ops=true∧zEy ops=true∧zKs ops=true∧∀i o,ops[i]?=some o→opE ops es i o=true:=by
 simp only[zQd,Bool.and_eq_true] at h;obtain⟨⟨⟨h1,h2⟩,h3⟩,h4⟩:=h;refine⟨h1,h2,h4,fun i o ho=>?_⟩;have h5:=List.all_eq_true.1 h3 i (List.mem_range.2 (Array.getElem?_eq_some_iff.1 ho).1);rw[ho] at h5;exact h5
def zXs (P:Program)(ops:Array Oper)(ks:List Nat)(es:List Bool)(V:Nat→Value)(a0:Act):Prop:=∀i o w,ops[i]?=some o→isP ks i=true→if Region.wanted o (yielded ops (fin ops V a0).tmps)=true then Gives P (execOp (evAct es a0 (fin ops V a0) i).eval o) w (fun v w'=>v=V i∧w'=w) else V i=undef
theorem zTi {listed:Array Bool}{i:Nat}(hc:Closed ops fun j=>listed.getD j false)(hLi:listed.getD i false=false):∀j oj,ops[j]?=some oj→bound oj i=true→listed.getD j false=false:=fun j oj hoj hbj=>by
 cases hLj:listed.getD j false with
 |false=>rfl
 |true=>
  unfold bound at hbj;obtain⟨e,he,hh⟩:=Array.any_eq_true'.1 hbj;rw[Bool.and_eq_true,beq_iff_eq] at hh;have:=hc j oj hoj hLj e he hh.2;rw[hh.1] at this;have h9:listed.getD i false=true:=this;rw[hLi] at h9;cases h9
theorem zMa {ks:List Nat}{es:List Bool}{V:Nat→Value}{a0:Act}(hok:zRb ops ks es=true)(hp:zXs P ops ks es V a0):
  ∀(fuel:Nat) (r:List Nat) (listed:Array Bool) (A a:Act) (w:World),listed.size=ops.size→(listed.toList.countP (·==false))≤fuel→Closed ops (fun j=>listed.getD j false)→
   r.Pairwise (fun x y=>x<y)→(∀i∈r,isT ks i=true∧i∈numsOf 3 0 ks∧listed.getD i false=false)→(∀i,i<ops.size→isP ks i=false→i∉r→listed.getD i false=true)→
   zD5 ops V a0 ks (fun j=>listed.getD j false) A a→wpOps P ops (zNr Q) r A w→wpAny P .any ops Q fuel listed a w:=by
 simp only[zRb,Bool.and_eq_true] at hok;obtain⟨⟨⟨hE,hlen⟩,hall⟩,htl⟩:=hok;obtain⟨hsel,hd,hedge,hopE⟩:=zJa hE;have fini:∀(r:List Nat) (listed:Array Bool) (A a:Act) (w:World),listed.size=ops.size→(∀i∈r,isT ks i=true∧i∈numsOf 3 0 ks∧listed.getD i false=false)→(∀i∈r,i<ops.size)→zD5 ops V a0 ks (fun j=>listed.getD j false) A a→wpOps P ops (zNr Q) r A w→Region.ready .any ops listed=[]→Q .normal a w:=by
  intro r listed A a w hs hr hlt ho h hrd;have hL:=zFl (ops:=ops) (listed:=listed) rfl hs hedge (fun i hi=>by rw[hrd] at hi;cases hi);cases r with
  |nil=>rw[ho.end hL];exact h.2
  |cons t r=>
   have h1:=(hr t List.mem_cons_self).2.2;rw[hL t (hlt t List.mem_cons_self)] at h1;cases h1
 have numLt:∀t∈numsOf 3 0 ks,t<ops.size:=by
  have key:∀(l:List Nat) (k t:Nat),t∈numsOf 3 k l→t<k+l.length:=by
   intro l
   induction l with
   |nil=>intro k t h;simp[numsOf] at h
   |cons q l ih=>
    intro k t h;rw[numsOf] at h;rw[List.length_cons]
    split at h
    ·rcases List.mem_cons.1 h with rfl|h
     ·omega
     ·have:=ih _ _ h;omega
    ·have:=ih _ _ h;omega
  intro t ht;have:=key ks 0 t ht;have h2:=of_decide_eq_true hlen;omega
 intro fuel
 induction fuel with
 |zero=>
  intro r listed A a w hs hcnt hc hpw hr hrest ho h;have hrd:=zKa (ops:=ops) hs hcnt;exact⟨hrd,fini r listed A a w hs hr (fun i hi=>numLt i (hr i hi).2.1) ho h hrd⟩
 |succ fuel ih=>
  intro r listed A a w hs hcnt hc hpw hr hrest ho h;refine⟨fini r listed A a w hs hr (fun i hi=>numLt i (hr i hi).2.1) ho h,fun i hi=>?_⟩;rw[mem_ready] at hi;obtain⟨h0,o,hoi,hb⟩:=hi;have hil:i<ops.size:=(Array.getElem?_eq_some_iff.1 hoi).1;have hil':i<listed.size:=by omega
  have hLi:listed.getD i false=false:=zS5 h0;have hL':=zM4 i hil';have hcount:=zKk hil' h0 hcnt;have hcl':Closed ops fun j=>(listed.setIfInBounds i true).getD j false:=by rw[hL'];exact zCr hc hoi hb
  have hdst:o.dst=zA7 ops i:=by unfold zA7;rw[hoi];rfl
  have hchk:=List.all_eq_true.1 hall i (List.mem_range.2 hil);rw[hoi] at hchk;simp only[Bool.and_eq_true,Bool.or_eq_true,Bool.not_eq_true'] at hchk
  by_cases hir:i∈r
  ·obtain⟨hT,hn,_⟩:=hr i hir;obtain⟨hg0,he0⟩:=hchk.2.resolve_left (by rw[hT];simp);have hg:o.guard=none:=by simpa using hg0
   --the first of the tail
   obtain⟨r',rfl⟩:∃r',r=i::r':=by
    cases r with
    |nil=>cases hir
    |cons t r'=>
     rcases List.mem_cons.1 hir with rfl|hir'
     ·exact⟨r',rfl⟩
     ·exfalso;have hti:t<i:=(List.pairwise_cons.1 hpw).1 i hir';have h1:=List.all_eq_true.1 htl i hn;have h2:=List.all_eq_true.1 h1 t (List.mem_range.2 (by omega));have htT:=(hr t List.mem_cons_self).1;have htP:isP ks t=false:=by
       unfold isT at htT;unfold isP;rw[eq_of_beq htT];rfl
      rw[htP] at h2;simp only[Bool.false_or,Bool.or_eq_true,decide_eq_true_eq] at h2;rcases h2 with h2|h2
      ·omega
      ·have h3:=zAx (L:=fun j=>listed.getD j false) hc hoi hb h2;have h4:=(hr t List.mem_cons_self).2.2;rw[show listed.getD t false=true from h3] at h4;cases h4
   rw[wpOps_cons] at h;unfold wpOp at h⊢;simp only[hoi] at h⊢;have hw1:∀t,Region.wanted o (yielded ops t)=true:=fun t=>by simp[Region.wanted,hg]
   rw[if_pos (hw1 _)] at h⊢;rcases h with h|h
   ·left
    unfold Oper.wp at h⊢;have hop:=hopE i o hoi;unfold opE at hop;rw[if_neg (by simpa using he0)] at hop;have hexec:execOp a.eval o=execOp A.eval o:=execOp_congr o (fun cs b=>Region.noSelect_spec hsel i o cs b hoi) (ho.eval hop hb);rw[hexec];refine zO3 ho.defers (fun v w' ds hk=>?_) h;rw[hdst] at hk⊢;refine ih r' _ _ _ w' (by simpa using hs) hcount hcl' (List.pairwise_cons.1 hpw).2 (fun j hj=>?_) (fun j hj hjP hjr=>?_) (by rw[hL'];exact ho.put hd i hT v ds) hk
    ·obtain⟨q1,q2,q3⟩:=hr j (List.mem_cons_of_mem _ hj);have:=(List.pairwise_cons.1 hpw).1 j hj;refine⟨q1,q2,?_⟩;rw[getD_set_ne false (by omega)];exact q3
    ·by_cases hji:j=i
     ·subst hji;simp[Array.getD_eq_getD_getElem?,hil']
     ·rw[getD_set_ne false (Ne.symm hji)];exact hrest j hj hjP fun hm=>by
       rcases List.mem_cons.1 hm with h1|h1
       ·exact hji h1
       ·exact hjr h1
   ·exact absurd h.2 zRi
  ·have hP:isP ks i=true:=by
    cases hq:isP ks i with
    |true=>rfl
    |false=>
     have:=hrest i hil hq hir;rw[hLi] at this;cases this
   have hTf:isT ks i=false:=by
    unfold isP at hP;unfold isT;rcases Bool.or_eq_true _ _▸hP with h1|h1
    ·rw[eq_of_beq h1];rfl
    ·rw[eq_of_beq h1];rfl
   have hpure:=hp i o w hoi hP;have hop:=hopE i o hoi;obtain⟨hev,hwant⟩:(∀y∈o.op.operands,a.eval y=(evAct es a0 (fin ops V a0) i).eval y)∧Region.wanted o (yielded ops a.tmps)=Region.wanted o (yielded ops (fin ops V a0).tmps):=by
    unfold opE at hop;unfold evAct
    by_cases hes:es.getD i false=true
    ·rw[if_pos hes] at hop⊢;unfold zLb at hop;rw[Bool.and_eq_true] at hop;refine⟨fun y hy=>?_,?_⟩
     ·cases y with
      |tmp t=>
       have hx':=Array.all_eq_true'.1 hop.2 _ hy;have e:a.tmps[t]?=a0.tmps[t]?:=ho.rest t fun j hj hdj=>by
        have:=List.all_eq_true.1 hx' j (List.mem_range.2 (zBe hdj));rw[hdj,Array.getElem?_eq_getElem (zBe hdj)] at this;have hbj:bound (ops[j]'(zBe hdj)) i=true:=by simpa using this
        have:=zTi hc hLi j _ (Array.getElem?_eq_getElem (zBe hdj)) hbj;have hj':listed.getD j false=true:=hj;rw[this] at hj';cases hj'
       simp only[Act.eval,Array.getD_eq_getD_getElem?,e]
      |_=>rfl
     ·unfold Region.wanted;cases hg:o.guard with
      |none=>rfl
      |some gw=>have:=hop.1;rw[hg] at this;cases this
    ·rw[if_neg hes] at hop⊢;have h1:=(hchk.1.resolve_left (by
      rintro(h|h)
      ·rw[hP] at h;cases h
      ·exact hes h))
     exact ho.yA4 hop hb (by simpa using h1)
   have hexec:execOp a.eval o=execOp (evAct es a0 (fin ops V a0) i).eval o:=execOp_congr o (fun cs b=>Region.noSelect_spec hsel i o cs b hoi) hev;have next:wpAny P .any ops Q fuel (listed.setIfInBounds i true) (a.put o.dst (V i)) w:=by
    rw[hdst];refine ih r _ A _ w (by simpa using hs) hcount hcl' hpw (fun j hj=>?_) (fun j hj hjP hjr=>?_) (by rw[hL'];exact ho.putP hd i hTf) h
    ·obtain⟨q1,q2,q3⟩:=hr j hj;refine⟨q1,q2,?_⟩;rw[getD_set_ne false (fun e=>hir (by rw[e];exact hj))];exact q3
    ·by_cases hji:j=i
     ·subst hji;simp[Array.getD_eq_getD_getElem?,hil']
     ·rw[getD_set_ne false (Ne.symm hji)];exact hrest j hj hjP hjr
   unfold wpOp;simp only[hoi];rw[hwant]
   by_cases hw:Region.wanted o (yielded ops (fin ops V a0).tmps)=true
   ·rw[if_pos hw] at hpure⊢;refine .inl (Gives.wp (R:=fun v w'=>v=V i∧w'=w) (by rw[hexec];exact hpure) ?_);rintro v w' ⟨rfl,rfl⟩;exact next
   ·rw[if_neg hw] at hpure⊢;rw[←hpure];exact next
theorem zL1 {ks:List Nat}:∀{k i:Nat},i∈numsOf 3 k ks→k≤i∧ks[i -k]?=some 3:=by
 induction ks with
 |nil=>intro k i h;simp[numsOf] at h
 |cons q l ih=>
  intro k i h;rw[numsOf] at h;have step:i∈numsOf 3 (k+1) l→k≤i∧(q::l)[i -k]?=some 3:=fun h=>by
   obtain⟨h1,h2⟩:=ih h;refine⟨by omega,?_⟩;rw[show i -k=(i -(k+1))+1 by omega,List.getElem?_cons_succ];exact h2
  split at h
  ·rcases List.mem_cons.1 h with rfl|h
   ·rename_i hq
    exact⟨Nat.le_refl _,by rw[Nat.sub_self,List.getElem?_cons_zero,hq]⟩
   ·exact step h
  ·exact step h
theorem zT5 {ks:List Nat}:∀{k i:Nat},ks[i]?=some 3→k+i∈numsOf 3 k ks:=by
 induction ks with
 |nil=>intro k i h;simp at h
 |cons q l ih=>
  intro k i h;rw[numsOf];cases i with
  |zero=>
   simp only[List.getElem?_cons_zero,Option.some.injEq] at h;rw[if_pos h];exact List.mem_cons_self
  |succ i=>
   have:=ih (k:=k+1) (i:=i) (by simpa using h);rw[show k+1+i=k+(i+1) by omega] at this
   split
   ·exact List.mem_cons_of_mem _ this
   ·exact this
theorem zUn {ks:List Nat}:∀{k:Nat},(numsOf 3 k ks).Pairwise (fun x y=>x<y):=by
 induction ks with
 |nil=>intro k;exact List.Pairwise.nil
 |cons q l ih=>
  intro k;rw[numsOf]
  split
  ·refine List.pairwise_cons.2 ⟨fun i hi=>?_,ih⟩;have:=(zL1 hi).1;omega
  ·exact ih
theorem zIu {ks:List Nat}{i:Nat}:isT ks i=true↔i∈numsOf 3 0 ks:=by
 constructor
 ·intro h;have h1:ks[i]?=some 3:=by
   unfold isT at h;have h2:=eq_of_beq h;rw[List.getD_eq_getElem?_getD] at h2;cases hk:ks[i]? with
   |none=>rw[hk] at h2;cases h2
   |some q=>rw[hk] at h2;rw[show q=3 from h2]
  have:=zT5 (k:=0) h1
  rwa [Nat.zero_add] at this
 ·intro h;have:=(zL1 h).2;unfold isT;rw[List.getD_eq_getElem?_getD,show ks[i]?=some 3 from this];rfl
theorem zRp {ks:List Nat}{es:List Bool}{vals:X→Nat→Value}{a0:Act}{Inv:(Nat→Bool)→X→World→Prop}(hok:zRb ops ks es=true)(hp:∀x,zXs P ops ks es (vals x) a0)
  (hcl:∀L x w,Inv L x w→Closed ops L)
  (hstep:∀(i:Nat) (o:Oper) (L:Nat→Bool) (x:X) (w:World),ops[i]?=some o→isT ks i=false→isP ks i=false→L i=false→(∀e∈o.after,Region.binds .any e=true→L e.on=true)→Inv L x w→
   if Region.wanted o (yielded ops (fin ops (vals x) a0).tmps)=true then Gives P (execOp (evAct es a0 (fin ops (vals x) a0) i).eval o) w (fun v w'=>∃x',v=vals x' i∧(∀j,L j=true→vals x' j=vals x j)∧Inv (fun j=>L j||j==i) x' w') else vals x i=undef∧Inv (fun j=>L j||j==i) x w)
  (hpure:∀(i:Nat) (o:Oper) (L:Nat→Bool) (x:X) (w:World),ops[i]?=some o→isP ks i=true→(∀e∈o.after,Region.binds .any e=true→L e.on=true)→Inv L x w→Inv (fun j=>L j||j==i) x w)
  (hend:∀(L:Nat→Bool) (x:X) (w:World),(∀i,i<ops.size→isP ks i=false→isT ks i=false→L i=true)→Inv L x w→wpOps P ops (zNr Q) (numsOf 3 0 ks) (fin ops (vals x) a0) w):
  ∀(fuel:Nat) (listed:Array Bool) (x:X) (a:Act) (w:World),listed.size=ops.size→(listed.toList.countP (·==false))≤fuel→(∀i∈numsOf 3 0 ks,listed.getD i false=false)→zDs ops (vals x) a0 (fun j=>listed.getD j false) a→Inv (fun j=>listed.getD j false) x w→wpAny P .any ops Q fuel listed a w:=by
 have hok':=hok;simp only[zRb,Bool.and_eq_true] at hok;obtain⟨⟨⟨hE,hlen⟩,hall⟩,htl⟩:=hok;obtain⟨hsel,hd,hedge,hopE⟩:=zJa hE;have fini:∀(listed:Array Bool) (x:X) (a:Act) (w:World),listed.size=ops.size→(∀i∈numsOf 3 0 ks,listed.getD i false=false)→zDs ops (vals x) a0 (fun j=>listed.getD j false) a→Inv (fun j=>listed.getD j false) x w→Region.ready .any ops listed=[]→Q .normal a w:=by
  intro listed x a w hs hnt ho hI hrd;have hL:=zFl (ops:=ops) (listed:=listed) rfl hs hedge (fun i hi=>by rw[hrd] at hi;cases hi);have h:=hend _ x w (fun i hi _ _=>hL i hi) hI;cases hn:numsOf 3 0 ks with
  |nil=>rw[ho.end hL];rw[hn] at h;exact h.2
  |cons t r=>
   have h1:=hnt t (by rw[hn];exact List.mem_cons_self);have h2:=(zL1 (ks:=ks) (k:=0) (i:=t) (by rw[hn];exact List.mem_cons_self)).2;have h3:=(List.getElem?_eq_some_iff.1 h2).1;have h4:=of_decide_eq_true hlen;rw[hL t (by omega)] at h1;cases h1
 intro fuel
 induction fuel with
 |zero=>
  intro listed x a w hs hcnt hnt ho hI;have hrd:=zKa (ops:=ops) hs hcnt;exact⟨hrd,fini listed x a w hs hnt ho hI hrd⟩
 |succ fuel ih=>
  intro listed x a w hs hcnt hnt ho hI;refine⟨fini listed x a w hs hnt ho hI,fun i hi=>?_⟩;have hi0:=hi;rw[mem_ready] at hi;obtain⟨h0,o,hoi,hb⟩:=hi;have hil:i<ops.size:=(Array.getElem?_eq_some_iff.1 hoi).1;have hil':i<listed.size:=by omega
  have hLi:listed.getD i false=false:=zS5 h0;have hL':=zM4 i hil';have hcount:=zKk hil' h0 hcnt;have hc:=hcl _ _ _ hI;have hdst:o.dst=zA7 ops i:=by unfold zA7;rw[hoi];rfl
  cases hT:isT ks i with
  |true=>
   --the tail begins
   have hin:=zIu.1 hT;have hrest:∀j,j<ops.size→isP ks j=false→j∉numsOf 3 0 ks→listed.getD j false=true:=fun j hj hP hn=>by
    have h1:=List.all_eq_true.1 htl i hin;have h2:=List.all_eq_true.1 h1 j (List.mem_range.2 hj);rw[hP] at h2;simp only[Bool.false_or,Bool.or_eq_true,decide_eq_true_eq] at h2;rcases h2 with h2|h2
    ·exact absurd (zIu.1 h2.2) hn
    ·exact zAx (L:=fun j=>listed.getD j false) hc hoi hb h2
   have h:=hend _ x w (fun j hj hP hjT=>hrest j hj hP (fun hm=>by rw[zIu.2 hm] at hjT;cases hjT)) hI;have H:=zMa (Q:=Q) hok' (hp x) (fuel+1) (numsOf 3 0 ks) listed _ a w hs hcnt hc zUn (fun j hj=>⟨zIu.2 hj,hj,hnt j hj⟩) hrest (zD5.start ho) h;exact H.2 i hi0
  |false=>
   have hni:i∉numsOf 3 0 ks:=fun hm=>by rw[zIu.2 hm] at hT;cases hT
   have hop:=hopE i o hoi;obtain⟨hev,hwant⟩:(∀y∈o.op.operands,a.eval y=(evAct es a0 (fin ops (vals x) a0) i).eval y)∧Region.wanted o (yielded ops a.tmps)=Region.wanted o (yielded ops (fin ops (vals x) a0).tmps):=by
    unfold opE at hop;unfold evAct
    by_cases hes:es.getD i false=true
    ·rw[if_pos hes] at hop⊢;exact ho.early hop (zTi hc hLi)
    ·rw[if_neg hes] at hop⊢;exact ho.eval hop hb
   have hexec:execOp a.eval o=execOp (evAct es a0 (fin ops (vals x) a0) i).eval o:=execOp_congr o (fun cs b=>Region.noSelect_spec hsel i o cs b hoi) hev;have next:∀x' w',(∀j,listed.getD j false=true→vals x' j=vals x j)→Inv (fun j=>listed.getD j false||j==i) x' w'→wpAny P .any ops Q fuel (listed.setIfInBounds i true) (a.put o.dst (vals x' i)) w':=by
    intro x' w' hv hI';refine ih _ x' _ w' (by simpa using hs) hcount (fun j hj=>?_) ?_ (by rw[hL'];exact hI')
    ·rw[getD_set_ne false (fun e=>hni (by rw[e];exact hj))];exact hnt j hj
    ·rw[hL',hdst];exact(ho.swap hd hv).put hd i hil hLi
   unfold wpOp;simp only[hoi];rw[hwant];cases hP:isP ks i with
   |true=>
    have hI':=hpure i o _ x w hoi hP hb hI;have hpu:=hp x i o w hoi hP
    by_cases hw:Region.wanted o (yielded ops (fin ops (vals x) a0).tmps)=true
    ·rw[if_pos hw] at hpu⊢;refine .inl (Gives.wp (R:=fun v w'=>v=vals x i∧w'=w) (by rw[hexec];exact hpu) ?_);rintro v w' ⟨rfl,rfl⟩;exact next x _ (fun _ _=>rfl) hI'
    ·rw[if_neg hw] at hpu⊢;rw[←hpu];exact next x w (fun _ _=>rfl) hI'
   |false=>
    have hst:=hstep i o _ x w hoi hT hP hLi hb hI
    by_cases hw:Region.wanted o (yielded ops (fin ops (vals x) a0).tmps)=true
    ·rw[if_pos hw] at hst⊢;refine .inl (Gives.wp (R:=fun v w'=>∃x',v=vals x' i∧(∀j,listed.getD j false=true→vals x' j=vals x j)∧Inv (fun j=>listed.getD j false||j==i) x' w') (by rw[hexec];exact hst) ?_);rintro v w' ⟨x',rfl,hv,hI'⟩;exact next x' w' hv hI'
    ·rw[if_neg hw] at hst⊢;rw[←hst.1];exact next x w (fun _ _=>rfl) hst.2
def zJ5 (ops:Array Oper)(i:Nat):List (Nat×(X→World→Prop))→X→World→Prop
 |[],_,_=>True
 |p::cs,x,w=>(reach ops p.1 ops.size i=true→p.2 x w)∧zJ5 ops i cs x w
def zAk:List (Nat×(X→World→Prop))→X→World→Prop
 |[],_,_=>True
 |p::cs,x,w=>p.2 x w∧zAk cs x w
def zC0 (ops:Array Oper)(i:Nat):List (Nat×(X→World→Prop))→X→X→World→Prop
 |[],_,_,_=>True
 |p::cs,x,x',w'=>(cond (p.1==i) (p.2 x' w') (reach ops i ops.size p.1=true∨(p.2 x w'→p.2 x' w')))∧zC0 ops i cs x x' w'
def zA6 (cs:List (Nat×(X→World→Prop))):Prop:=∀p∈cs,∀(x:X) (w w':World),p.2 x w→Below w.heap.size w w'→p.2 x w'
theorem zJ5.of {cs:List (Nat×(X→World→Prop))}{i:Nat}{x:X}{w:World}(h:∀p∈cs,reach ops p.1 ops.size i=true→p.2 x w):zJ5 ops i cs x w:=by
 induction cs with
 |nil=>trivial
 |cons p cs ih=>exact⟨h p List.mem_cons_self,ih fun q hq=>h q (List.mem_cons_of_mem _ hq)⟩
theorem zAk.of {cs:List (Nat×(X→World→Prop))}{x:X}{w:World}(h:∀p∈cs,p.2 x w):zAk cs x w:=by
 induction cs with
 |nil=>trivial
 |cons p cs ih=>exact⟨h p List.mem_cons_self,ih fun q hq=>h q (List.mem_cons_of_mem _ hq)⟩
theorem zC0.at_ {cs:List (Nat×(X→World→Prop))}{i:Nat}{x x':X}{w':World}(h:zC0 ops i cs x x' w'):∀p∈cs,cond (p.1==i) (p.2 x' w') (reach ops i ops.size p.1=true∨(p.2 x w'→p.2 x' w')):=by
 induction cs with
 |nil=>intro p hp;cases hp
 |cons q cs ih=>
  intro p hp;rcases List.mem_cons.1 hp with rfl|hp
  ·exact h.1
  ·exact ih h.2 p hp
theorem zC0.same {cs:List (Nat×(X→World→Prop))}{i:Nat}{x:X}{w':World}(h:(cs.map Prod.fst).contains i=false):zC0 ops i cs x x w':=by
 induction cs with
 |nil=>trivial
 |cons p cs ih=>
  rw[List.map_cons,List.contains_cons,Bool.or_eq_false_iff] at h;refine⟨?_,ih h.2⟩;have h1:(p.1==i)=false:=by
   rw[beq_eq_false_iff_ne];intro e;rw[e] at h;simp at h
  rw[h1];exact .inr fun h=>h
abbrev zUv (P:Program)(ops:Array Oper)(F:Nat→X→Act)(vs:X→List Value)(cs:List (Nat×(X→World→Prop)))(J:X→World→Prop)(w0:World)(i:Nat)(o:Oper):Prop:=
 ∀(x:X) (w:World),Below w0.heap.size w0 w→J x w→zJ5 ops i cs x w→Gives P (execOp (F i x).eval o) w fun v w'=>∃x',v=(vs x').getD i undef∧zA5 ops i (vs x) (vs x')∧Below w.heap.size w w'∧zC0 ops i cs x x' w'∧J x' w'
abbrev zL9 (P:Program)(F:Nat→X→Act)(vs:X→List Value)(i:Nat)(o:Oper):Prop:=
 ∀(x:X) (w:World),Gives P (execOp (F i x).eval o) w fun v w'=>v=(vs x).getD i undef∧w'=w
def zHx (P:Program)(F:Nat→X→Act)(ops:Array Oper)(vs:X→List Value)(cs:List (Nat×(X→World→Prop)))(J:X→World→Prop)(w0:World):Nat→List Oper→List Nat→Prop
 |i,_::os,0::ks=>(∀x,(vs x).getD i undef=undef)∧zHx P F ops vs cs J w0 (i+1) os ks
 |i,o::os,1::ks=>zUv P ops F vs cs J w0 i o∧zHx P F ops vs cs J w0 (i+1) os ks
 |i,o::os,2::ks=>zL9 P F vs i o∧zHx P F ops vs cs J w0 (i+1) os ks
 |i,_::os,3::ks=>zHx P F ops vs cs J w0 (i+1) os ks
 |_,[],[]=>True
 |_,_,_=>False
theorem zHx.at_ {F:Nat→X→Act}{vs:X→List Value}{cs:List (Nat×(X→World→Prop))}{J:X→World→Prop}{w0:World}:∀{n:Nat} {os:List Oper} {ks:List Nat},zHx P F ops vs cs J w0 n os ks→∀{i:Nat} {o:Oper},os[i]?=some o→∃k,ks[i]?=some k∧
  ((k=0∧∀x,(vs x).getD (n+i) undef=undef)∨(k=1∧zUv P ops F vs cs J w0 (n+i) o)∨(k=2∧zL9 P F vs (n+i) o)∨k=3)
 |n,[],_,_,i,o,h=>by simp at h
 |n,p::os,0::ks,⟨h1,h2⟩,0,o,h=>⟨0,rfl,.inl ⟨rfl,h1⟩⟩
 |n,p::os,1::ks,⟨h1,h2⟩,0,o,h=>by
  obtain rfl:p=o:=by simpa using h
  exact⟨1,rfl,.inr (.inl ⟨rfl,h1⟩)⟩
 |n,p::os,2::ks,⟨h1,h2⟩,0,o,h=>by
  obtain rfl:p=o:=by simpa using h
  exact⟨2,rfl,.inr (.inr (.inl ⟨rfl,h1⟩))⟩
 |n,p::os,3::ks,h2,0,o,h=>⟨3,rfl,.inr (jK)⟩
 |n,p::os,0::ks,⟨h1,h2⟩,i+1,o,h=>by
  obtain⟨b,hb,hh⟩:=zHx.at_ h2 (i:=i) (o:=o) (by simpa using h);rw[show n+1+i=n+(i+1) by omega] at hh;exact⟨b,by simpa using hb,hh⟩
 |n,p::os,1::ks,⟨h1,h2⟩,i+1,o,h=>by
  obtain⟨b,hb,hh⟩:=zHx.at_ h2 (i:=i) (o:=o) (by simpa using h);rw[show n+1+i=n+(i+1) by omega] at hh;exact⟨b,by simpa using hb,hh⟩
 |n,p::os,2::ks,⟨h1,h2⟩,i+1,o,h=>by
  obtain⟨b,hb,hh⟩:=zHx.at_ h2 (i:=i) (o:=o) (by simpa using h);rw[show n+1+i=n+(i+1) by omega] at hh;exact⟨b,by simpa using hb,hh⟩
 |n,p::os,3::ks,h2,i+1,o,h=>by
  obtain⟨b,hb,hh⟩:=zHx.at_ (n:=n+1) (os:=os) (ks:=ks) h2 (i:=i) (o:=o) (by simpa using h);rw[show n+1+i=n+(i+1) by omega] at hh;exact⟨b,by simpa using hb,hh⟩
 |n,p::os,[],h,_,_,_=>h.elim
 |n,p::os,(_+4)::ks,h,_,_,_=>h.elim
theorem zAf {id:Nat}{a0:Act}{w0:World}(hm:P.follows .mixedOrders=true)(ks:List Nat)(es:List Bool)(F:X→Act)(vs:X→List Value)(cs:List (Nat×(X→World→Prop)))(J:X→World→Prop)(x0:X)(hok:zRb ops ks es=true)(hF:∀x,fin ops (fun i=>(vs x).getD i undef) a0=F x)
  (hw:∀x,((List.range ops.size).map fun i=>((ops[i]?).map fun o=>Region.wanted o (yielded ops (F x).tmps)).getD true)=ks.map fun k=>k !=0) (hmono:zA6 cs) (hJ:J x0 w0.drew) (hE:zHx P (fun i x=>evAct es a0 (F x) i) ops vs cs J w0 0 ops.toList ks)
  (hcs:(cs.all fun p=> !isP ks p.1&& !isT ks p.1&&decide (p.1<ops.size))=true) (hend:∀(x:X) (w:World),Below w0.heap.size w0 w→J x w→zAk cs x w→wpOps P ops (zNr Q) (numsOf 3 0 ks) (F x) w):(Code.region id ops true).wp P Q a0 w0:=by
 have hlen:ks.length=ops.size:=by
  simp only[zRb,Bool.and_eq_true,decide_eq_true_eq] at hok;exact hok.1.1.2
 have code:∀i o,ops[i]?=some o→∃k,ks[i]?=some k∧ks.getD i 1=k∧(∀x,Region.wanted o (yielded ops (F x).tmps)=(k !=0))∧
  ((k=0∧∀x,(vs x).getD i undef=undef)∨(k=1∧zUv P ops (fun i x=>evAct es a0 (F x) i) vs cs J w0 i o)∨(k=2∧zL9 P (fun i x=>evAct es a0 (F x) i) vs i o)∨k=3):=by
  intro i o ho;obtain⟨k,hk,h⟩:=zHx.at_ hE (i:=i) (o:=o) (by rw[Array.getElem?_toList];exact ho);rw[Nat.zero_add] at h;refine⟨k,hk,by rw[List.getD_eq_getElem?_getD,hk];rfl,fun x=>?_,h⟩;have hi:i<ops.size:=(Array.getElem?_eq_some_iff.1 ho).1;have h1:=congrArg (fun l=>l[i]?) (hw x);simp only[List.getElem?_map,List.getElem?_range hi,Option.map_some,ho,hk,Option.getD_some,Option.some.injEq] at h1;exact h1
 refine wp_region_any hm ?_;refine zRp (ks:=ks) (es:=es) (vals:=fun x i=>(vs x).getD i undef) (a0:=a0) (Inv:=fun L x w=>Closed ops L∧Below w0.heap.size w0 w∧J x w∧∀p∈cs,L p.1=true→p.2 x w) hok (fun x i o w ho hP=>?_) (fun L x w h=>h.1) (fun i o L x w ho hT hP hLi hb hI=>?_) (fun i o L x w ho hP hb hI=>?_) (fun L x w hL hI=>?_) ops.size (Array.replicate ops.size false) x0 a0 _ (by simp) (by
  refine Nat.le_trans (List.countP_le_length) ?_;simp) (fun i _=>?_) ⟨rfl,rfl,fun i t _ h=>?_,fun _ _=>rfl⟩ ⟨fun i o _ h=>?_,zA2 (Below.refl _ _),hJ,fun p _ h=>?_⟩
 ·obtain⟨k,hk,hk2,hwt,h⟩:=code i o ho;have hFx:fin ops (fun i=>(vs x).getD i undef) a0=F x:=hF x;rw[hFx,hwt x];unfold isP at hP;rw[hk2] at hP;rcases h with⟨rfl,h⟩|⟨rfl,h⟩|⟨rfl,h⟩|rfl
  ·rw[if_neg (by simp)];exact h x
  ·cases hP
  ·rw[if_pos (by rfl)];exact h x w
  ·cases hP
 ·obtain⟨k,hk,hk2,hwt,h⟩:=code i o ho;have hFx:fin ops (fun i=>(vs x).getD i undef) a0=F x:=hF x;rw[hFx,hwt x];obtain⟨hc,hbw,hj,hf⟩:=hI;have hca:=zCr hc ho hb;have hno:∀j,reach ops i ops.size j=true→L j=false:=fun j hj=>by
   cases hLj:L j with
   |false=>rfl
   |true=>
    obtain⟨oj,hoj⟩:=zF9 hj;have:=zAx hc hoj (hc j oj hoj hLj) hj;rw[hLi] at this;cases this
  unfold isP at hP;unfold isT at hT;rw[hk2] at hP hT;rcases h with⟨rfl,h⟩|⟨rfl,h⟩|⟨rfl,h⟩|rfl
  ·cases hP
  ·rw[if_pos (by rfl)];have hg:=h x w hbw hj (zJ5.of fun p hp hr=>hf p hp (zAx hc ho hb hr));have key:∀u w',(∃x',u=(vs x').getD i undef∧zA5 ops i (vs x) (vs x')∧Below w.heap.size w w'∧zC0 ops i cs x x' w'∧J x' w')→∃x',u=(vs x').getD i undef∧(∀j,L j=true→(vs x').getD j undef=(vs x).getD j undef)∧Closed ops (fun j=>L j||j==i)∧Below w0.heap.size w0 w'∧J x' w'∧∀p∈cs,(L p.1||p.1==i)=true→p.2 x' w':=by
    rintro u w' ⟨x',h1,h2,h3,h4,hj'⟩;refine⟨x',h1,fun j hj=>h2 j (fun e=>by subst e;rw[hLi] at hj;cases hj) ?_,hca,hbw.trans (h3.mono hbw.size),hj',fun p hp hl=>?_⟩
    ·cases hr:reach ops i ops.size j with
     |false=>rfl
     |true=>rw[hno j hr] at hj;cases hj
    ·have h5:=h4.at_ p hp;cases hpi:(p.1==i) with
     |true=>rw[hpi] at h5;exact h5
     |false=>
      rw[hpi] at h5 hl;rw[Bool.or_false] at hl;rcases h5 with hr|h5
      ·rw[hno _ hr] at hl;cases hl
      ·exact h5 (hmono p hp x w w' (hf p hp hl) h3)
   unfold Gives at hg⊢;revert hg;generalize (execOp (evAct es a0 (F x) i).eval o).run P w=r;cases r with
   |halt e w'=>exact fun h=>h
   |ok n w'=>
    cases n with
    |value v=>exact fun h=>key _ _ h
    |skip=>exact fun h=>key _ _ h
    |enter f args=>exact fun h=>Calls.mono h fun e w'' ⟨v,h1,h2⟩=>⟨v,h1,key _ _ h2⟩
    |_=>exact fun h=>h
  ·cases hP
  ·cases hT
 ·obtain⟨hc,hbw,hj,hf⟩:=hI;refine⟨zCr hc ho hb,hbw,hj,fun p hp hl=>hf p hp ?_⟩;cases hpi:(p.1==i) with
  |true=>
   have h1:=List.all_eq_true.1 hcs p hp;rw[eq_of_beq hpi,hP] at h1;cases h1
  |false=>
   have hl':(L p.1||p.1==i)=true:=hl;rw[hpi,Bool.or_false] at hl';exact hl'
 ·have hFx:fin ops (fun i=>(vs x).getD i undef) a0=F x:=hF x;rw[hFx];refine hend x w hI.2.1 hI.2.2.1 (zAk.of fun p hp=>hI.2.2.2 p hp ?_);have h1:=List.all_eq_true.1 hcs p hp;simp only[Bool.and_eq_true,Bool.not_eq_true',decide_eq_true_eq] at h1;exact hL p.1 h1.2 h1.1.1 h1.1.2
 ·rw[Array.getD_eq_getD_getElem?,Array.getElem?_replicate]
  split<;>rfl
 ·rw[Array.getD_eq_getD_getElem?,Array.getElem?_replicate] at h
  split at h<;>simp at h
 ·dsimp only at h;rw[Array.getD_eq_getD_getElem?,Array.getElem?_replicate] at h
  split at h<;>simp at h
 ·dsimp only at h;rw[Array.getD_eq_getD_getElem?,Array.getElem?_replicate] at h
  split at h<;>simp at h
theorem Gives.still {s:Sem Next}{w:World}{v:Value}{i:Nat}{x:X}{vs:X→List Value}{cs:List (Nat×(X→World→Prop))}{J:X→World→Prop}(hj:J x w)(hc:(cs.map Prod.fst).contains i=false)(h:s.run P w= .ok (.value v) w)(hv:v=(vs x).getD i undef):Gives P s w fun u w'=>∃x',u=(vs x').getD i undef∧zA5 ops i (vs x) (vs x')∧Below w.heap.size w w'∧zC0 ops i cs x x' w'∧J x' w':=
 Gives.value h ⟨x,hv,zA5.same,Below.refl _ _,zC0.same hc,hj⟩
theorem Gives.pure {s:Sem Next}{w:World}{v:Value}{i:Nat}{x:X}{vs:X→List Value}(h:s.run P w= .ok (.value v) w)(hv:v=(vs x).getD i undef):Gives P s w fun u w'=>u=(vs x).getD i undef∧w'=w:=
 Gives.value h ⟨hv,rfl⟩
end
theorem jp {P:Program}{X:Type}{s:Sem Next}{w:World}{i:Nat}{x:X}{vs:X→List Value}(v:Value)(h:s.run P w= .ok (.value v) w)(hv:v=(vs x).getD i undef):Gives P s w fun u w'=>u=(vs x).getD i undef∧w'=w:=Gives.pure h hv
theorem gs {P:Program}{o:Array Oper}{X:Type}{s:Sem Next}{w:World}{i:Nat}{x:X}{l:X→List Value}{c:List (Nat×(X→World→Prop))}{J:X→World→Prop}(v:Value)(a:J x w)(b:(c.map Prod.fst).contains i=false)(h:s.run P w= .ok (.value v) w)(d:v=(l x).getD i undef):Gives P s w fun u w'=>∃x',u=(l x').getD i undef∧zA5 o i (l x) (l x')∧Below w.heap.size w w'∧zC0 o i c x x' w'∧J x' w':=Gives.still a b h d
structure Gh where
 v:Nat→Value
 n:Nat→Nat
@[reducible] def Gh.setV (x:Gh) (k:Nat) (u:Value):Gh:=⟨fun j=>if j=k then u else x.v j,x.n⟩
@[reducible] def Gh.setN (x:Gh) (k:Nat) (u:Nat):Gh:=⟨x.v,fun j=>if j=k then u else x.n j⟩
def Gh.zero:Gh:=⟨fun _=>.nilFunc,fun _=>0⟩
section
variable {P : Program} {ops : Array Oper} {Q : Exit → Act → World → Prop} {X : Type}
theorem zA6.nil:zA6 ([]:List (Nat×(X→World→Prop))):=fun p hp=>by cases hp
theorem zA6.cons {p:Nat×(X→World→Prop)}{cs:List (Nat×(X→World→Prop))}(h:∀(x:X) (w w':World),p.2 x w→Below w.heap.size w w'→p.2 x w')(t:zA6 cs):zA6 (p::cs):=fun q hq=>by
 rcases List.mem_cons.1 hq with rfl|hq
 ·exact h
 ·exact t q hq
theorem zBq {i:Nat}{l:List Nat}{o:Oper}{a:Act}{w:World}{R:Value→World→Prop}(ho:ops[i]?=some o)(hg:o.guard=none)(h:Gives P (execOp a.eval o) w R)(hK:∀v w',R v w'→wpOps P ops Q l (a.put o.dst v) w'):wpOps P ops Q (i::l) a w:=
 zDl ho hg (Gives.wp h hK)
theorem zAv {i:Nat}{l:List Nat}{o:Oper}{a:Act}{w w':World}(ho:ops[i]?=some o)(hg:o.guard=none)(h:(execOp a.eval o).run P w= .ok .skip w')(hK:wpOps P ops Q l (a.put o.dst undef) w'):wpOps P ops Q (i::l) a w:=
 zBq ho hg (Gives.skip (R:=fun u w1=>u=undef∧w1=w') h ⟨rfl,rfl⟩) fun _ _ ⟨e1,e2⟩=>by rw[e1,e2];exact hK
theorem zAd {a:Act}{w:World}(h:Q .normal a w):wpOps P ops (zNr Q) [] a w:=⟨rfl,h⟩
end
end Go.Proofs.YtchllommcolijaaGreatDoor
