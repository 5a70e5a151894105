/- A region that draws its order and only adds memory, but for a tail that waits for all. -/
import Derived.Test.YtapgncbegadbnaaGreatDoorH90517d67
namespace Go.Proofs.YtapgncbegadbnaaGreatDoor
section
open Go.RowKit
variable{listed:Array Bool}{i id:Nat}{V:Nat->Value}{a0 A a:Act}{ks l:List Nat}{L:Nat->Bool}{o:Oper}{Q:Exit->Act->World->Prop}{es:List Bool}{w w' w0:World}{P:Program}{ops:Array Oper}
section
variable {P : Program} {ops : Array Oper} {Q : Exit -> Act -> World -> Prop} {X : Type}
def numsOf (k:Nat):Nat->List Nat->List Nat
 |_,[]=>[]
 |i,q::ks=>if q=k then i::numsOf k (i+1) ks else numsOf k (i+1) ks
abbrev isT (ks:List Nat)(i:Nat):Bool:=ks.getD i 1==3
abbrev isP (ks:List Nat)(i:Nat):Bool:=ks.getD i 1==2||ks.getD i 1==0
def yCc (ops:Array Oper)(ks:List Nat)(o:Oper):Bool:=
 (o.op.operands.all fun| .tmp t=>(List.range ops.size).all fun j=>zAk ops j !=some t|| !isT ks j |_=>true)&&
 (match o.guard with|none=>true|some (g,_)=> !isT ks g)
def zQ8 (ops:Array Oper)(ks:List Nat)(es:List Bool):Bool:=zSr ops es&&decide (ks.length=ops.size)&&
 ((List.range ops.size).all fun i=>match ops[i]? with
  |some o=>(!isP ks i||es.getD i false||yCc ops ks o)&&(!isT ks i||(o.guard.isNone&& !es.getD i false))
  |none=>true)&&
 ((numsOf 3 0 ks).all fun t=>(List.range ops.size).all fun i=>isP ks i||decide (t<=i&&isT ks i)||reach ops i ops.size t)
theorem zUj (h:listed.getD i true=false):listed.getD i false=false:=by
 rcases Nat.lt_or_ge i listed.size with h'|h'
 ·simp[h'] at h⊢;exact h
 ·simp[Array.getElem?_eq_none h'] at h
theorem yC4 (hd:zFm ops=true){j t:Nat}(hi:zAk ops i=some t)(hj:zAk ops j=some t):i=j:=by
 have h1:=List.all_eq_true.1 hd i (List.mem_range.2 (zBi hi));have h2:=List.all_eq_true.1 h1 j (List.mem_range.2 (zBi hj));rw[hi,hj] at h2
 simpa using h2
structure zDk (ops:Array Oper)(V:Nat->Value)(a0:Act)(ks:List Nat)(L:Nat->Bool)(A a:Act):Prop where
 size:a.tmps.size=a0.tmps.size
 sizeA:A.tmps.size=a0.tmps.size
 defers:a.defers=A.defers
 done:∀i t,zAk ops i=some t->L i=true->a.tmps[t]?=A.tmps[t]?
 rest:∀t,(∀i,L i=true->zAk ops i≠some t)->a.tmps[t]?=a0.tmps[t]?
 outer:∀t,(∀i,zAk ops i≠some t)->A.tmps[t]?=a0.tmps[t]?
 head:∀i t,isT ks i=false->zAk ops i=some t->A.tmps[t]?=(fin ops V a0).tmps[t]?
theorem zDk.end (h:zDk ops V a0 ks L A a)(hall:∀i,i<ops.size->L i=true):a=A:=by
 have ht:a.tmps=A.tmps:=by
  refine Array.ext_getElem? fun t=>?_
  by_cases hc:∃i,zAk ops i=some t
  ·obtain⟨i,hi⟩:=hc;exact h.done i t hi (hall i (zBi hi))
  ·rw[h.rest t fun i _ hi=>hc ⟨i,hi⟩,h.outer t fun i hi=>hc ⟨i,hi⟩]
 have hd:=h.defers;cases a;cases A;simp only at ht hd;rw[ht,hd]
theorem zDk.start (h:zE0 ops V a0 L a):zDk ops V a0 ks L (fin ops V a0) a:=
 ⟨h.size,(zBg V _ a0).1,h.defers.trans (zBg V _ a0).2.symm,h.done,h.rest,fun t ht=>zCf V t _ a0 fun i _ hi=>ht i hi,fun _ _ _ _=>rfl⟩
theorem zDk.eval {V:Nat->Value}{a0:Act}{ks:List Nat}{L:Nat->Bool}{A a:Act}(h:zDk ops V a0 ks L A a){o:Oper}(ho:zEa ops o=true)(hL:∀e∈o.after,Region.binds .any e=true->L e.on=true):
  (∀x∈o.op.operands,a.eval x=A.eval x):=by
 unfold zEa at ho;rw[Bool.and_eq_true] at ho;intro x hx;cases x with
 |tmp t=>
  have hx':=Array.all_eq_true'.1 ho.1 _ hx;have e:a.tmps[t]?=A.tmps[t]?:=by
   by_cases hc:∃i,zAk ops i=some t
   ·obtain⟨i,hi⟩:=hc;have:=List.all_eq_true.1 hx' i (List.mem_range.2 (zBi hi));rw[hi] at this;exact h.done i t hi (zDi (by simpa using this) hL)
   ·rw[h.rest t fun i _ hi=>hc ⟨i,hi⟩,h.outer t fun i hi=>hc ⟨i,hi⟩]
  simp only[Act.eval,Array.getD_eq_getD_getElem?,e]
 |_=>rfl
theorem zDk.yDg (h:zDk ops V a0 ks L A a)(ho:zEa ops o=true)(hL:∀e∈o.after,Region.binds .any e=true->L e.on=true)(hn:yCc ops ks o=true):
  (∀x∈o.op.operands,a.eval x=(fin ops V a0).eval x)/\Region.wanted o (yielded ops a.tmps)=Region.wanted o (yielded ops (fin ops V a0).tmps):=by
 unfold yCc at hn;rw[Bool.and_eq_true] at hn;have slot:∀{t},((List.range ops.size).all fun j=>zAk ops j !=some t||bound o j)=true->((List.range ops.size).all fun j=>zAk ops j !=some t|| !isT ks j)=true->a.tmps[t]?=(fin ops V a0).tmps[t]?:=by
  intro t hx' hx2
  by_cases hc:∃i,zAk ops i=some t
  ·obtain⟨i,hi⟩:=hc;have:=List.all_eq_true.1 hx' i (List.mem_range.2 (zBi hi));rw[hi] at this;have hb:bound o i=true:=by simpa using this
   have h2:=List.all_eq_true.1 hx2 i (List.mem_range.2 (zBi hi));rw[hi] at h2;rw[h.done i t hi (zDi hb hL),h.head i t (by simpa using h2) hi]
  ·rw[h.rest t fun i _ hi=>hc ⟨i,hi⟩];exact(zCf V t _ a0 fun i _ hi=>hc ⟨i,hi⟩).symm
 have ho':=ho;unfold zEa at ho;rw[Bool.and_eq_true] at ho;obtain⟨h1,h2⟩:=ho;refine⟨fun x hx=>?_,?_⟩
 ·cases x with
  |tmp t=>
   have e:=slot (Array.all_eq_true'.1 h1 _ hx) (Array.all_eq_true'.1 hn.1 _ hx);simp only[Act.eval,Array.getD_eq_getD_getElem?,e]
  |_=>rfl
 ·unfold Region.wanted;cases hg:o.guard with
  |none=>rfl
  |some gw=>
   obtain⟨g,want⟩:=gw;rw[hg] at h2;have hn2:=hn.2;rw[hg] at hn2;have hgT:isT ks g=false:=by simpa using hn2
   have hb:bound o g=true:=h2;have hl:=zDi hb hL;have hy:yielded ops a.tmps g=yielded ops (fin ops V a0).tmps g:=by
    unfold yielded;cases hog:ops[g]? with
    |none=>rfl
    |some og=>
     cases hd:og.dst with
     |none=>simp[hd]
     |some t=>
      have hdg:zAk ops g=some t:=by unfold zAk;rw[hog];exact hd
      have e:=h.done g t hdg hl;rw[h.head g t hgT hdg] at e;simp[hd,e]
   simp only[hy]
theorem zDk.put {V:Nat->Value}{a0:Act}{ks:List Nat}{L:Nat->Bool}{A a:Act}(hd:zFm ops=true)(h:zDk ops V a0 ks L A a)(i:Nat)(hT:isT ks i=true)(v:Value)(ds:List Deferred):zDk ops V a0 ks (fun j=>L j||j==i) (({A with defers:=ds}).put (zAk ops i) v) (({a with defers:=ds}).put (zAk ops i) v):=by
 have hs:=h.size;have hsA:=h.sizeA;refine⟨(zFz _ _ _).trans hs,(zFz _ _ _).trans hsA,by rw[put_defers,put_defers],fun j t hj hjL=>?_,fun t ht=>?_,fun t ht=>?_,fun j t hj hjt=>?_⟩
 ·rw[zE4,zE4]
  by_cases hc:zAk ops i=some t/\t<a.tmps.size
  ·rw[if_pos hc,if_pos ⟨hc.1,by rw[hsA,<-hs];exact hc.2⟩]
  ·rw[if_neg hc,if_neg (fun h2=>hc ⟨h2.1,by rw[hs,<-hsA];exact h2.2⟩)]
   by_cases hij:j=i
   ·subst hij;have hlt:¬t<a.tmps.size:=fun hl=>hc ⟨hj,hl⟩
    rw[Array.getElem?_eq_none (Nat.le_of_not_lt hlt),Array.getElem?_eq_none (by rw[hsA,<-hs];exact Nat.le_of_not_lt hlt)]
   ·exact h.done j t hj (by simpa [hij] using hjL)
 ·rw[zE4,if_neg (fun hc=>ht i (by simp) hc.1)];exact h.rest t fun j hj=>ht j (by simp[hj])
 ·rw[zE4,if_neg (fun hc=>ht i hc.1)];exact h.outer t ht
 ·rw[zE4,if_neg (fun hc=>by
   have:=yC4 hd hjt hc.1;subst this;rw[hT] at hj;cases hj)]
  exact h.head j t hj hjt
theorem zDk.putP (hd:zFm ops=true)(h:zDk ops V a0 ks L A a)(i:Nat)(hT:isT ks i=false):zDk ops V a0 ks (fun j=>L j||j==i) A (a.put (zAk ops i) (V i)):=by
 have hs:=h.size;refine⟨(zFz _ _ _).trans hs,h.sizeA,by rw[put_defers];exact h.defers,fun j t hj hjL=>?_,fun t ht=>?_,h.outer,h.head⟩
 ·rw[zE4]
  by_cases hc:zAk ops i=some t/\t<a.tmps.size
  ·rw[if_pos hc,h.head i t hT hc.1,fin_at hd hc.1 (by have:=hc.2;rwa [hs] at this)]
  ·rw[if_neg hc]
   by_cases hij:j=i
   ·subst hij;have hlt:¬t<a.tmps.size:=fun hl=>hc ⟨hj,hl⟩
    rw[Array.getElem?_eq_none (Nat.le_of_not_lt hlt),Array.getElem?_eq_none (by rw[h.sizeA,<-hs];exact Nat.le_of_not_lt hlt)]
   ·exact h.done j t hj (by simpa [hij] using hjL)
 ·rw[zE4,if_neg (fun hc=>ht i (by simp) hc.1)];exact h.rest t fun j hj=>ht j (by simp[hj])
abbrev zOm (Q:Exit->Act->World->Prop):Exit->Act->World->Prop:=fun e a w=>e= .normal/\Q .normal a w
theorem zQ5 {r:Result Next}{K K':Act->World->Prop}(hdf:a.defers=A.defers)(hK:∀v w' ds,K (({A with defers:=ds}).put o.dst v) w'->K' (({a with defers:=ds}).put o.dst v) w')(h:o.upon P A K (zOm Q) r):o.upon P a K' Q r:=by
 have hA:∀v w',K (A.put o.dst v) w'->K' (a.put o.dst v) w':=fun v w' h=>by
  have:=hK v w' A.defers (by cases A;exact h);rw[<-hdf] at this;cases a;exact this
 unfold Oper.upon at h⊢
 split at h
 ·exact hA _ _ h
 ·exact hA _ _ h
 ·rw[hdf];exact hK _ _ _ h
 ·refine Calls.mono h fun e w'' he=>?_
  cases e with
  |returned v=>exact hA _ _ he
  |panicked c=>exact absurd he.1 (by simp)
  |outgrown=>obtain⟨a,w,h1,_⟩:=he;cases h1
 ·exact Rows.mono h fun v w' h=>hA _ _ h
 ·exact absurd h.1 (by simp)
 ·exact h.elim
theorem zSm :¬LetsOut (zOm Q):=by
 rintro⟨a,w,h,_⟩;cases h
theorem zOt (i:Nat)(hil':i<listed.size):(fun j=>(listed.setIfInBounds i true).getD j false)=fun j=>listed.getD j false||j==i:=by
 have hLi:(listed.setIfInBounds i true).getD i false=true:=by simp[Array.getD_eq_getD_getElem?,hil']
 funext j
 by_cases hij:j=i
 ·subst hij;rw[hLi];simp
 ·rw[getD_set_ne false (Ne.symm hij)];simp[hij]
theorem zL3 {fuel:Nat}(hil':i<listed.size)(h0:listed.getD i true=false)(hc:listed.toList.countP (·==false)<=fuel+1):(listed.setIfInBounds i true).toList.countP (·==false)<=fuel:=by
 have hf:listed[i]=false:=by simpa [Array.getD_eq_getD_getElem?,Array.getElem?_eq_getElem hil'] using h0
 rw[Array.toList_setIfInBounds];have hl:i<listed.toList.length:=by simpa using hil'
 have hs1:listed.toList.countP (·==false)=(listed.toList.set i true).countP (·==false)+1:=by
  exact zEk _ _ (by rw[gE hl];simpa using hf)
 omega
theorem zLl (hs:listed.size=ops.size)(hc:listed.toList.countP (·==false)<=0):Region.ready .any ops listed=[]:=by
 rw[List.eq_nil_iff_forall_not_mem];intro j hj;rw[mem_ready] at hj;obtain⟨h0,o,hoj,_⟩:=hj;have hjl:j<listed.size:=by rw[hs];exact(Array.getElem?_eq_some_iff.1 hoj).1
 have hf:listed[j]=false:=by simpa [Array.getD_eq_getD_getElem?,Array.getElem?_eq_getElem hjl] using h0
 have:0<listed.toList.countP (·==false):=List.countP_pos_iff.2 ⟨false,by rw[<-hf];simp,rfl⟩;omega
theorem zK0 (h:zSr ops es=true):Region.noSelect ops=true/\zFm ops=true/\zMd ops=true/\∀i o,ops[i]?=some o->opE ops es i o=true:=by
 simp only[zSr,Bool.and_eq_true] at h;obtain⟨⟨⟨h1,h2⟩,h3⟩,h4⟩:=h;refine⟨h1,h2,h4,fun i o ho=>?_⟩;have h5:=List.all_eq_true.1 h3 i (List.mem_range.2 (Array.getElem?_eq_some_iff.1 ho).1);rw[ho] at h5;exact h5
def yAf (P:Program)(ops:Array Oper)(ks:List Nat)(es:List Bool)(V:Nat->Value)(a0:Act):Prop:=∀i o w,ops[i]?=some o->isP ks i=true->if Region.wanted o (yielded ops (fin ops V a0).tmps)=true then Gives P (execOp (evAct es a0 (fin ops V a0) i).eval o) w (fun v w'=>v=V i/\w'=w) else V i=undef
theorem zVm (hc:Closed ops fun j=>listed.getD j false)(hLi:listed.getD i false=false):∀j oj,ops[j]?=some oj->bound oj i=true->listed.getD j false=false:=fun j oj hoj hbj=>by
 cases hLj:listed.getD j false with
 |false=>rfl
 |true=>
  unfold bound at hbj;obtain⟨e,he,hh⟩:=Array.any_eq_true'.1 hbj;rw[Bool.and_eq_true,beq_iff_eq] at hh;have:=hc j oj hoj hLj e he hh.2;rw[hh.1] at this;have h9:listed.getD i false=true:=this;rw[hLi] at h9;cases h9
theorem zNl (hok:zQ8 ops ks es=true)(hp:yAf P ops ks es V a0):
  ∀(fuel:Nat) (r:List Nat) (listed:Array Bool) (A a:Act) (w:World),listed.size=ops.size->(listed.toList.countP (·==false))<=fuel->Closed ops (fun j=>listed.getD j false)->
   r.Pairwise (fun x y=>x<y)->(∀i∈r,isT ks i=true/\i∈numsOf 3 0 ks/\listed.getD i false=false)->(∀i,i<ops.size->isP ks i=false->i∉r->listed.getD i false=true)->
   zDk ops V a0 ks (fun j=>listed.getD j false) A a->wpOps P ops (zOm Q) r A w->wpAny P .any ops Q fuel listed a w:=by
 simp only[zQ8,Bool.and_eq_true] at hok;obtain⟨⟨⟨hE,hlen⟩,hall⟩,htl⟩:=hok;obtain⟨hsel,hd,hedge,hopE⟩:=zK0 hE;have fini:∀(r:List Nat) (listed:Array Bool) (A a:Act) (w:World),listed.size=ops.size->(∀i∈r,isT ks i=true/\i∈numsOf 3 0 ks/\listed.getD i false=false)->(∀i∈r,i<ops.size)->zDk ops V a0 ks (fun j=>listed.getD j false) A a->wpOps P ops (zOm Q) r A w->Region.ready .any ops listed=[]->Q .normal a w:=by
  intro r listed A a w hs hr hlt ho h hrd;have hL:=zG1 (ops:=ops) (listed:=listed) rfl hs hedge (fun i hi=>by rw[hrd] at hi;cases hi);cases r with
  |nil=>rw[ho.end hL];exact h.2
  |cons t r=>
   have h1:=(hr t List.mem_cons_self).2.2;rw[hL t (hlt t List.mem_cons_self)] at h1;cases h1
 have numLt:∀t∈numsOf 3 0 ks,t<ops.size:=by
  have key:∀(l:List Nat) (k t:Nat),t∈numsOf 3 k l->t<k+l.length:=by
   intro l
   induction l with
   |nil=>intro k t h;simp[numsOf] at h
   |cons q l ih=>
    intro k t h;rw[numsOf] at h;rw[List.length_cons]
    split at h
    ·rcases List.mem_cons.1 h with rfl|h
     ·omega
     ·have:=ih _ _ h;omega
    ·have:=ih _ _ h;omega
  intro t ht;have:=key ks 0 t ht;have h2:=of_decide_eq_true hlen;omega
 intro fuel
 induction fuel with
 |zero=>
  intro r listed A a w hs hcnt hc hpw hr hrest ho h;have hrd:=zLl (ops:=ops) hs hcnt;exact⟨hrd,fini r listed A a w hs hr (fun i hi=>numLt i (hr i hi).2.1) ho h hrd⟩
 |succ fuel ih=>
  intro r listed A a w hs hcnt hc hpw hr hrest ho h;refine⟨fini r listed A a w hs hr (fun i hi=>numLt i (hr i hi).2.1) ho h,fun i hi=>?_⟩;rw[mem_ready] at hi;obtain⟨h0,o,hoi,hb⟩:=hi;have hil:i<ops.size:=(Array.getElem?_eq_some_iff.1 hoi).1;have hil':i<listed.size:=by omega
  have hLi:listed.getD i false=false:=zUj h0;have hL':=zOt i hil';have hcount:=zL3 hil' h0 hcnt;have hcl':Closed ops fun j=>(listed.setIfInBounds i true).getD j false:=by rw[hL'];exact zD3 hc hoi hb
  have hdst:o.dst=zAk ops i:=by unfold zAk;rw[hoi];rfl
  have hchk:=List.all_eq_true.1 hall i (List.mem_range.2 hil);rw[hoi] at hchk;simp only[Bool.and_eq_true,Bool.or_eq_true,Bool.not_eq_true'] at hchk
  by_cases hir:i∈r
  ·obtain⟨hT,hn,_⟩:=hr i hir;obtain⟨hg0,he0⟩:=hchk.2.resolve_left (by rw[hT];simp);have hg:o.guard=none:=by simpa using hg0
   --the first of the tail
   obtain⟨r',rfl⟩:∃r',r=i::r':=by
    cases r with
    |nil=>cases hir
    |cons t r'=>
     rcases List.mem_cons.1 hir with rfl|hir'
     ·exact⟨r',rfl⟩
     ·exfalso;have hti:t<i:=(List.pairwise_cons.1 hpw).1 i hir';have h1:=List.all_eq_true.1 htl i hn;have h2:=List.all_eq_true.1 h1 t (List.mem_range.2 (by omega));have htT:=(hr t List.mem_cons_self).1;have htP:isP ks t=false:=by
       unfold isT at htT;unfold isP;rw[eq_of_beq htT];rfl
      rw[htP] at h2;simp only[Bool.false_or,Bool.or_eq_true,decide_eq_true_eq] at h2;rcases h2 with h2|h2
      ·omega
      ·have h3:=zAz (L:=fun j=>listed.getD j false) hc hoi hb h2;have h4:=(hr t List.mem_cons_self).2.2;rw[show listed.getD t false=true from h3] at h4;cases h4
   rw[wpOps_cons] at h;unfold wpOp at h⊢;simp only[hoi] at h⊢;have hw1:∀t,Region.wanted o (yielded ops t)=true:=fun t=>by simp[Region.wanted,hg]
   rw[if_pos (hw1 _)] at h⊢;rcases h with h|h
   ·left
    unfold Oper.wp at h⊢;have hop:=hopE i o hoi;unfold opE at hop;rw[if_neg (by simpa using he0)] at hop;have hexec:execOp a.eval o=execOp A.eval o:=execOp_congr o (fun cs b=>Region.noSelect_spec hsel i o cs b hoi) (ho.eval hop hb);rw[hexec];refine zQ5 ho.defers (fun v w' ds hk=>?_) h;rw[hdst] at hk⊢;refine ih r' _ _ _ w' (by simpa using hs) hcount hcl' (List.pairwise_cons.1 hpw).2 (fun j hj=>?_) (fun j hj hjP hjr=>?_) (by rw[hL'];exact ho.put hd i hT v ds) hk
    ·obtain⟨q1,q2,q3⟩:=hr j (List.mem_cons_of_mem _ hj);have:=(List.pairwise_cons.1 hpw).1 j hj;refine⟨q1,q2,?_⟩;rw[getD_set_ne false (by omega)];exact q3
    ·by_cases hji:j=i
     ·subst hji;simp[Array.getD_eq_getD_getElem?,hil']
     ·rw[getD_set_ne false (Ne.symm hji)];exact hrest j hj hjP fun hm=>by
       rcases List.mem_cons.1 hm with h1|h1
       ·exact hji h1
       ·exact hjr h1
   ·exact absurd h.2 zSm
  ·have hP:isP ks i=true:=by
    cases hq:isP ks i with
    |true=>rfl
    |false=>
     have:=hrest i hil hq hir;rw[hLi] at this;cases this
   have hTf:isT ks i=false:=by
    unfold isP at hP;unfold isT;rcases Bool.or_eq_true _ _▸hP with h1|h1
    ·rw[eq_of_beq h1];rfl
    ·rw[eq_of_beq h1];rfl
   have hpure:=hp i o w hoi hP;have hop:=hopE i o hoi;obtain⟨hev,hwant⟩:(∀y∈o.op.operands,a.eval y=(evAct es a0 (fin ops V a0) i).eval y)/\Region.wanted o (yielded ops a.tmps)=Region.wanted o (yielded ops (fin ops V a0).tmps):=by
    unfold opE at hop;unfold evAct
    by_cases hes:es.getD i false=true
    ·rw[if_pos hes] at hop⊢;unfold zMw at hop;rw[Bool.and_eq_true] at hop;refine⟨fun y hy=>?_,?_⟩
     ·cases y with
      |tmp t=>
       have hx':=Array.all_eq_true'.1 hop.2 _ hy;have e:a.tmps[t]?=a0.tmps[t]?:=ho.rest t fun j hj hdj=>by
        have:=List.all_eq_true.1 hx' j (List.mem_range.2 (zBi hdj));rw[hdj,Array.getElem?_eq_getElem (zBi hdj)] at this;have hbj:bound (ops[j]'(zBi hdj)) i=true:=by simpa using this
        have:=zVm hc hLi j _ (Array.getElem?_eq_getElem (zBi hdj)) hbj;have hj':listed.getD j false=true:=hj;rw[this] at hj';cases hj'
       simp only[Act.eval,Array.getD_eq_getD_getElem?,e]
      |_=>rfl
     ·unfold Region.wanted;cases hg:o.guard with
      |none=>rfl
      |some gw=>have:=hop.1;rw[hg] at this;cases this
    ·rw[if_neg hes] at hop⊢;have h1:=(hchk.1.resolve_left (by
      rintro(h|h)
      ·rw[hP] at h;cases h
      ·exact hes h))
     exact ho.yDg hop hb (by simpa using h1)
   have hexec:execOp a.eval o=execOp (evAct es a0 (fin ops V a0) i).eval o:=execOp_congr o (fun cs b=>Region.noSelect_spec hsel i o cs b hoi) hev;have next:wpAny P .any ops Q fuel (listed.setIfInBounds i true) (a.put o.dst (V i)) w:=by
    rw[hdst];refine ih r _ A _ w (by simpa using hs) hcount hcl' hpw (fun j hj=>?_) (fun j hj hjP hjr=>?_) (by rw[hL'];exact ho.putP hd i hTf) h
    ·obtain⟨q1,q2,q3⟩:=hr j hj;refine⟨q1,q2,?_⟩;rw[getD_set_ne false (fun e=>hir (by rw[e];exact hj))];exact q3
    ·by_cases hji:j=i
     ·subst hji;simp[Array.getD_eq_getD_getElem?,hil']
     ·rw[getD_set_ne false (Ne.symm hji)];exact hrest j hj hjP hjr
   unfold wpOp;simp only[hoi];rw[hwant]
   by_cases hw:Region.wanted o (yielded ops (fin ops V a0).tmps)=true
   ·rw[if_pos hw] at hpure⊢;refine .inl (Gives.wp (R:=fun v w'=>v=V i/\w'=w) (by rw[hexec];exact hpure) ?_);rintro v w' ⟨rfl,rfl⟩;exact next
   ·rw[if_neg hw] at hpure⊢;rw[<-hpure];exact next
theorem zN0 :∀{k i:Nat},i∈numsOf 3 k ks->k<=i/\ks[i -k]?=some 3:=by
 induction ks with
 |nil=>intro k i h;simp[numsOf] at h
 |cons q l ih=>
  intro k i h;rw[numsOf] at h;have step:i∈numsOf 3 (k+1) l->k<=i/\(q::l)[i -k]?=some 3:=fun h=>by
   obtain⟨h1,h2⟩:=ih h;refine⟨by omega,?_⟩;rw[show i -k=(i -(k+1))+1 by omega,List.getElem?_cons_succ];exact h2
  split at h
  ·rcases List.mem_cons.1 h with rfl|h
   ·rename_i hq
    exact⟨Nat.le_refl _,by rw[Nat.sub_self,List.getElem?_cons_zero,hq]⟩
   ·exact step h
  ·exact step h
theorem zVz :∀{k i:Nat},ks[i]?=some 3->k+i∈numsOf 3 k ks:=by
 induction ks with
 |nil=>intro k i h;simp at h
 |cons q l ih=>
  intro k i h;rw[numsOf];cases i with
  |zero=>
   simp only[List.getElem?_cons_zero,Option.some.injEq] at h;rw[if_pos h];exact List.mem_cons_self
  |succ i=>
   have:=ih (k:=k+1) (i:=i) (by simpa using h);rw[show k+1+i=k+(i+1) by omega] at this
   split
   ·exact List.mem_cons_of_mem _ this
   ·exact this
theorem zV0 :∀{k:Nat},(numsOf 3 k ks).Pairwise (fun x y=>x<y):=by
 induction ks with
 |nil=>intro k;exact List.Pairwise.nil
 |cons q l ih=>
  intro k;rw[numsOf]
  split
  ·refine List.pairwise_cons.2 ⟨fun i hi=>?_,ih⟩;have:=(zN0 hi).1;omega
  ·exact ih
theorem zK9 :isT ks i=true↔i∈numsOf 3 0 ks:=by
 constructor
 ·intro h;have h1:ks[i]?=some 3:=by
   unfold isT at h;have h2:=eq_of_beq h;rw[List.getD_eq_getElem?_getD] at h2;cases hk:ks[i]? with
   |none=>rw[hk] at h2;cases h2
   |some q=>rw[hk] at h2;rw[show q=3 from h2]
  have:=zVz (k:=0) h1
  rwa [Nat.zero_add] at this
 ·intro h;have:=(zN0 h).2;unfold isT;rw[List.getD_eq_getElem?_getD,show ks[i]?=some 3 from this];rfl
theorem zT0 {vals:X->Nat->Value}{Inv:(Nat->Bool)->X->World->Prop}(hok:zQ8 ops ks es=true)(hp:∀x,yAf P ops ks es (vals x) a0)
  (hcl:∀L x w,Inv L x w->Closed ops L)
  (hstep:∀(i:Nat) (o:Oper) (L:Nat->Bool) (x:X) (w:World),ops[i]?=some o->isT ks i=false->isP ks i=false->L i=false->(∀e∈o.after,Region.binds .any e=true->L e.on=true)->Inv L x w->
   if Region.wanted o (yielded ops (fin ops (vals x) a0).tmps)=true then Gives P (execOp (evAct es a0 (fin ops (vals x) a0) i).eval o) w (fun v w'=>∃x',v=vals x' i/\(∀j,L j=true->vals x' j=vals x j)/\Inv (fun j=>L j||j==i) x' w') else vals x i=undef/\Inv (fun j=>L j||j==i) x w)
  (hpure:∀(i:Nat) (o:Oper) (L:Nat->Bool) (x:X) (w:World),ops[i]?=some o->isP ks i=true->(∀e∈o.after,Region.binds .any e=true->L e.on=true)->Inv L x w->Inv (fun j=>L j||j==i) x w)
  (hend:∀(L:Nat->Bool) (x:X) (w:World),(∀i,i<ops.size->isP ks i=false->isT ks i=false->L i=true)->Inv L x w->wpOps P ops (zOm Q) (numsOf 3 0 ks) (fin ops (vals x) a0) w):
  ∀(fuel:Nat) (listed:Array Bool) (x:X) (a:Act) (w:World),listed.size=ops.size->(listed.toList.countP (·==false))<=fuel->(∀i∈numsOf 3 0 ks,listed.getD i false=false)->zE0 ops (vals x) a0 (fun j=>listed.getD j false) a->Inv (fun j=>listed.getD j false) x w->wpAny P .any ops Q fuel listed a w:=by
 have hok':=hok;simp only[zQ8,Bool.and_eq_true] at hok;obtain⟨⟨⟨hE,hlen⟩,hall⟩,htl⟩:=hok;obtain⟨hsel,hd,hedge,hopE⟩:=zK0 hE;have fini:∀(listed:Array Bool) (x:X) (a:Act) (w:World),listed.size=ops.size->(∀i∈numsOf 3 0 ks,listed.getD i false=false)->zE0 ops (vals x) a0 (fun j=>listed.getD j false) a->Inv (fun j=>listed.getD j false) x w->Region.ready .any ops listed=[]->Q .normal a w:=by
  intro listed x a w hs hnt ho hI hrd;have hL:=zG1 (ops:=ops) (listed:=listed) rfl hs hedge (fun i hi=>by rw[hrd] at hi;cases hi);have h:=hend _ x w (fun i hi _ _=>hL i hi) hI;cases hn:numsOf 3 0 ks with
  |nil=>rw[ho.end hL];rw[hn] at h;exact h.2
  |cons t r=>
   have h1:=hnt t (by rw[hn];exact List.mem_cons_self);have h2:=(zN0 (ks:=ks) (k:=0) (i:=t) (by rw[hn];exact List.mem_cons_self)).2;have h3:=(List.getElem?_eq_some_iff.1 h2).1;have h4:=of_decide_eq_true hlen;rw[hL t (by omega)] at h1;cases h1
 intro fuel
 induction fuel with
 |zero=>
  intro listed x a w hs hcnt hnt ho hI;have hrd:=zLl (ops:=ops) hs hcnt;exact⟨hrd,fini listed x a w hs hnt ho hI hrd⟩
 |succ fuel ih=>
  intro listed x a w hs hcnt hnt ho hI;refine⟨fini listed x a w hs hnt ho hI,fun i hi=>?_⟩;have hi0:=hi;rw[mem_ready] at hi;obtain⟨h0,o,hoi,hb⟩:=hi;have hil:i<ops.size:=(Array.getElem?_eq_some_iff.1 hoi).1;have hil':i<listed.size:=by omega
  have hLi:listed.getD i false=false:=zUj h0;have hL':=zOt i hil';have hcount:=zL3 hil' h0 hcnt;have hc:=hcl _ _ _ hI;have hdst:o.dst=zAk ops i:=by unfold zAk;rw[hoi];rfl
  cases hT:isT ks i with
  |true=>
   --the tail begins
   have hin:=zK9.1 hT;have hrest:∀j,j<ops.size->isP ks j=false->j∉numsOf 3 0 ks->listed.getD j false=true:=fun j hj hP hn=>by
    have h1:=List.all_eq_true.1 htl i hin;have h2:=List.all_eq_true.1 h1 j (List.mem_range.2 hj);rw[hP] at h2;simp only[Bool.false_or,Bool.or_eq_true,decide_eq_true_eq] at h2;rcases h2 with h2|h2
    ·exact absurd (zK9.1 h2.2) hn
    ·exact zAz (L:=fun j=>listed.getD j false) hc hoi hb h2
   have h:=hend _ x w (fun j hj hP hjT=>hrest j hj hP (fun hm=>by rw[zK9.2 hm] at hjT;cases hjT)) hI;have H:=zNl (Q:=Q) hok' (hp x) (fuel+1) (numsOf 3 0 ks) listed _ a w hs hcnt hc zV0 (fun j hj=>⟨zK9.2 hj,hj,hnt j hj⟩) hrest (zDk.start ho) h;exact H.2 i hi0
  |false=>
   have hni:i∉numsOf 3 0 ks:=fun hm=>by rw[zK9.2 hm] at hT;cases hT
   have hop:=hopE i o hoi;obtain⟨hev,hwant⟩:(∀y∈o.op.operands,a.eval y=(evAct es a0 (fin ops (vals x) a0) i).eval y)/\Region.wanted o (yielded ops a.tmps)=Region.wanted o (yielded ops (fin ops (vals x) a0).tmps):=by
    unfold opE at hop;unfold evAct
    by_cases hes:es.getD i false=true
    ·rw[if_pos hes] at hop⊢;exact ho.early hop (zVm hc hLi)
    ·rw[if_neg hes] at hop⊢;exact ho.eval hop hb
   have hexec:execOp a.eval o=execOp (evAct es a0 (fin ops (vals x) a0) i).eval o:=execOp_congr o (fun cs b=>Region.noSelect_spec hsel i o cs b hoi) hev;have next:∀x' w',(∀j,listed.getD j false=true->vals x' j=vals x j)->Inv (fun j=>listed.getD j false||j==i) x' w'->wpAny P .any ops Q fuel (listed.setIfInBounds i true) (a.put o.dst (vals x' i)) w':=by
    intro x' w' hv hI';refine ih _ x' _ w' (by simpa using hs) hcount (fun j hj=>?_) ?_ (by rw[hL'];exact hI')
    ·rw[getD_set_ne false (fun e=>hni (by rw[e];exact hj))];exact hnt j hj
    ·rw[hL',hdst];exact(ho.swap hd hv).put hd i hil hLi
   unfold wpOp;simp only[hoi];rw[hwant];cases hP:isP ks i with
   |true=>
    have hI':=hpure i o _ x w hoi hP hb hI;have hpu:=hp x i o w hoi hP
    by_cases hw:Region.wanted o (yielded ops (fin ops (vals x) a0).tmps)=true
    ·rw[if_pos hw] at hpu⊢;refine .inl (Gives.wp (R:=fun v w'=>v=vals x i/\w'=w) (by rw[hexec];exact hpu) ?_);rintro v w' ⟨rfl,rfl⟩;exact next x _ (fun _ _=>rfl) hI'
    ·rw[if_neg hw] at hpu⊢;rw[<-hpu];exact next x w (fun _ _=>rfl) hI'
   |false=>
    have hst:=hstep i o _ x w hoi hT hP hLi hb hI
    by_cases hw:Region.wanted o (yielded ops (fin ops (vals x) a0).tmps)=true
    ·rw[if_pos hw] at hst⊢;refine .inl (Gives.wp (R:=fun v w'=>∃x',v=vals x' i/\(∀j,listed.getD j false=true->vals x' j=vals x j)/\Inv (fun j=>listed.getD j false||j==i) x' w') (by rw[hexec];exact hst) ?_);rintro v w' ⟨x',rfl,hv,hI'⟩;exact next x' w' hv hI'
    ·rw[if_neg hw] at hst⊢;rw[<-hst.1];exact next x w (fun _ _=>rfl) hst.2
def zKb (ops:Array Oper)(i:Nat):List (Nat×(X->World->Prop))->X->World->Prop
 |[],_,_=>True
 |p::cs,x,w=>(reach ops p.1 ops.size i=true->p.2 x w)/\zKb ops i cs x w
def zAh:List (Nat×(X->World->Prop))->X->World->Prop
 |[],_,_=>True
 |p::cs,x,w=>p.2 x w/\zAh cs x w
def zC7 (ops:Array Oper)(i:Nat):List (Nat×(X->World->Prop))->X->X->World->Prop
 |[],_,_,_=>True
 |p::cs,x,x',w'=>(cond (p.1==i) (p.2 x' w') (reach ops i ops.size p.1=true\/(p.2 x w'->p.2 x' w')))/\zC7 ops i cs x x' w'
def zA6 (cs:List (Nat×(X->World->Prop))):Prop:=∀p∈cs,∀(x:X) (w w':World),p.2 x w->Below w.heap.size w w'->p.2 x w'
theorem zKb.of {cs:List (Nat×(X->World->Prop))}{x:X}(h:∀p∈cs,reach ops p.1 ops.size i=true->p.2 x w):zKb ops i cs x w:=by
 induction cs with
 |nil=>trivial
 |cons p cs ih=>exact⟨h p List.mem_cons_self,ih fun q hq=>h q (List.mem_cons_of_mem _ hq)⟩
theorem zAh.of {cs:List (Nat×(X->World->Prop))}{x:X}(h:∀p∈cs,p.2 x w):zAh cs x w:=by
 induction cs with
 |nil=>trivial
 |cons p cs ih=>exact⟨h p List.mem_cons_self,ih fun q hq=>h q (List.mem_cons_of_mem _ hq)⟩
theorem zC7.at_ {cs:List (Nat×(X->World->Prop))}{x x':X}(h:zC7 ops i cs x x' w'):∀p∈cs,cond (p.1==i) (p.2 x' w') (reach ops i ops.size p.1=true\/(p.2 x w'->p.2 x' w')):=by
 induction cs with
 |nil=>intro p hp;cases hp
 |cons q cs ih=>
  intro p hp;rcases List.mem_cons.1 hp with rfl|hp
  ·exact h.1
  ·exact ih h.2 p hp
theorem zC7.same {cs:List (Nat×(X->World->Prop))}{x:X}(h:(cs.map Prod.fst).contains i=false):zC7 ops i cs x x w':=by
 induction cs with
 |nil=>trivial
 |cons p cs ih=>
  rw[List.map_cons,List.contains_cons,Bool.or_eq_false_iff] at h;refine⟨?_,ih h.2⟩;have h1:(p.1==i)=false:=by
   rw[beq_eq_false_iff_ne];intro e;rw[e] at h;simp at h
  rw[h1];exact .inr fun h=>h
abbrev zX9 (P:Program)(ops:Array Oper)(F:Nat->X->Act)(vs:X->List Value)(cs:List (Nat×(X->World->Prop)))(J:X->World->Prop)(w0:World)(i:Nat)(o:Oper):Prop:=
 ∀(x:X) (w:World),Below w0.heap.size w0 w->J x w->zKb ops i cs x w->Gives P (execOp (F i x).eval o) w fun v w'=>∃x',v=(vs x').getD i undef/\zAg ops i (vs x) (vs x')/\Below w.heap.size w w'/\zC7 ops i cs x x' w'/\J x' w'
abbrev zM9 (P:Program)(F:Nat->X->Act)(vs:X->List Value)(i:Nat)(o:Oper):Prop:=
 ∀(x:X) (w:World),Gives P (execOp (F i x).eval o) w fun v w'=>v=(vs x).getD i undef/\w'=w
def zIa (P:Program)(F:Nat->X->Act)(ops:Array Oper)(vs:X->List Value)(cs:List (Nat×(X->World->Prop)))(J:X->World->Prop)(w0:World):Nat->List Oper->List Nat->Prop
 |i,_::os,0::ks=>(∀x,(vs x).getD i undef=undef)/\zIa P F ops vs cs J w0 (i+1) os ks
 |i,o::os,1::ks=>zX9 P ops F vs cs J w0 i o/\zIa P F ops vs cs J w0 (i+1) os ks
 |i,o::os,2::ks=>zM9 P F vs i o/\zIa P F ops vs cs J w0 (i+1) os ks
 |i,_::os,3::ks=>zIa P F ops vs cs J w0 (i+1) os ks
 |_,[],[]=>True
 |_,_,_=>False
theorem zIa.at_ {F:Nat->X->Act}{vs:X->List Value}{cs:List (Nat×(X->World->Prop))}{J:X->World->Prop}{w0:World}:∀{n:Nat} {os:List Oper} {ks:List Nat},zIa P F ops vs cs J w0 n os ks->∀{i:Nat} {o:Oper},os[i]?=some o->∃k,ks[i]?=some k/\
  ((k=0/\∀x,(vs x).getD (n+i) undef=undef)\/(k=1/\zX9 P ops F vs cs J w0 (n+i) o)\/(k=2/\zM9 P F vs (n+i) o)\/k=3)
 |n,[],_,_,i,o,h=>by simp at h
 |n,p::os,0::ks,⟨h1,h2⟩,0,o,h=>⟨0,rfl,.inl ⟨rfl,h1⟩⟩
 |n,p::os,1::ks,⟨h1,h2⟩,0,o,h=>by
  obtain rfl:p=o:=by simpa using h
  exact⟨1,rfl,.inr (.inl ⟨rfl,h1⟩)⟩
 |n,p::os,2::ks,⟨h1,h2⟩,0,o,h=>by
  obtain rfl:p=o:=by simpa using h
  exact⟨2,rfl,.inr (.inr (.inl ⟨rfl,h1⟩))⟩
 |n,p::os,3::ks,h2,0,o,h=>⟨3,rfl,.inr (jK)⟩
 |n,p::os,0::ks,⟨h1,h2⟩,i+1,o,h=>by
  obtain⟨b,hb,hh⟩:=zIa.at_ h2 (i:=i) (o:=o) (by simpa using h);rw[show n+1+i=n+(i+1) by omega] at hh;exact⟨b,by simpa using hb,hh⟩
 |n,p::os,1::ks,⟨h1,h2⟩,i+1,o,h=>by
  obtain⟨b,hb,hh⟩:=zIa.at_ h2 (i:=i) (o:=o) (by simpa using h);rw[show n+1+i=n+(i+1) by omega] at hh;exact⟨b,by simpa using hb,hh⟩
 |n,p::os,2::ks,⟨h1,h2⟩,i+1,o,h=>by
  obtain⟨b,hb,hh⟩:=zIa.at_ h2 (i:=i) (o:=o) (by simpa using h);rw[show n+1+i=n+(i+1) by omega] at hh;exact⟨b,by simpa using hb,hh⟩
 |n,p::os,3::ks,h2,i+1,o,h=>by
  obtain⟨b,hb,hh⟩:=zIa.at_ (n:=n+1) (os:=os) (ks:=ks) h2 (i:=i) (o:=o) (by simpa using h);rw[show n+1+i=n+(i+1) by omega] at hh;exact⟨b,by simpa using hb,hh⟩
 |n,p::os,[],h,_,_,_=>h.elim
 |n,p::os,(_+4)::ks,h,_,_,_=>h.elim
theorem zQb (hm:P.follows .mixedOrders=true)(ks:List Nat)(es:List Bool)(F:X->Act)(vs:X->List Value)(cs:List (Nat×(X->World->Prop)))(J:X->World->Prop)(x0:X)(hok:zQ8 ops ks es=true)(hF:∀x,fin ops (fun i=>(vs x).getD i undef) a0=F x)
  (hw:∀x,((List.range ops.size).map fun i=>((ops[i]?).map fun o=>Region.wanted o (yielded ops (F x).tmps)).getD true)=ks.map fun k=>k !=0) (hmono:zA6 cs) (hJ:J x0 w0.drew) (hE:zIa P (fun i x=>evAct es a0 (F x) i) ops vs cs J w0 0 ops.toList ks)
  (hcs:(cs.all fun p=> !isP ks p.1&& !isT ks p.1&&decide (p.1<ops.size))=true) (hend:∀(x:X) (w:World),Below w0.heap.size w0 w->J x w->zAh cs x w->wpOps P ops (zOm Q) (numsOf 3 0 ks) (F x) w):(Code.region id ops true).wp P Q a0 w0:=by
 have hlen:ks.length=ops.size:=by
  simp only[zQ8,Bool.and_eq_true,decide_eq_true_eq] at hok;exact hok.1.1.2
 have code:∀i o,ops[i]?=some o->∃k,ks[i]?=some k/\ks.getD i 1=k/\(∀x,Region.wanted o (yielded ops (F x).tmps)=(k !=0))/\
  ((k=0/\∀x,(vs x).getD i undef=undef)\/(k=1/\zX9 P ops (fun i x=>evAct es a0 (F x) i) vs cs J w0 i o)\/(k=2/\zM9 P (fun i x=>evAct es a0 (F x) i) vs i o)\/k=3):=by
  intro i o ho;obtain⟨k,hk,h⟩:=zIa.at_ hE (i:=i) (o:=o) (by rw[Array.getElem?_toList];exact ho);rw[Nat.zero_add] at h;refine⟨k,hk,by rw[List.getD_eq_getElem?_getD,hk];rfl,fun x=>?_,h⟩;have hi:i<ops.size:=(Array.getElem?_eq_some_iff.1 ho).1;have h1:=congrArg (fun l=>l[i]?) (hw x);simp only[List.getElem?_map,List.getElem?_range hi,Option.map_some,ho,hk,Option.getD_some,Option.some.injEq] at h1;exact h1
 refine wp_region_any hm ?_;refine zT0 (ks:=ks) (es:=es) (vals:=fun x i=>(vs x).getD i undef) (a0:=a0) (Inv:=fun L x w=>Closed ops L/\Below w0.heap.size w0 w/\J x w/\∀p∈cs,L p.1=true->p.2 x w) hok (fun x i o w ho hP=>?_) (fun L x w h=>h.1) (fun i o L x w ho hT hP hLi hb hI=>?_) (fun i o L x w ho hP hb hI=>?_) (fun L x w hL hI=>?_) ops.size (Array.replicate ops.size false) x0 a0 _ (by simp) (by
  refine Nat.le_trans (List.countP_le_length) ?_;simp) (fun i _=>?_) ⟨rfl,rfl,fun i t _ h=>?_,fun _ _=>rfl⟩ ⟨fun i o _ h=>?_,zA3 (Below.refl _ _),hJ,fun p _ h=>?_⟩
 ·obtain⟨k,hk,hk2,hwt,h⟩:=code i o ho;have hFx:fin ops (fun i=>(vs x).getD i undef) a0=F x:=hF x;rw[hFx,hwt x];unfold isP at hP;rw[hk2] at hP;rcases h with⟨rfl,h⟩|⟨rfl,h⟩|⟨rfl,h⟩|rfl
  ·rw[if_neg (by simp)];exact h x
  ·cases hP
  ·rw[if_pos (by rfl)];exact h x w
  ·cases hP
 ·obtain⟨k,hk,hk2,hwt,h⟩:=code i o ho;have hFx:fin ops (fun i=>(vs x).getD i undef) a0=F x:=hF x;rw[hFx,hwt x];obtain⟨hc,hbw,hj,hf⟩:=hI;have hca:=zD3 hc ho hb;have hno:∀j,reach ops i ops.size j=true->L j=false:=fun j hj=>by
   cases hLj:L j with
   |false=>rfl
   |true=>
    obtain⟨oj,hoj⟩:=zG8 hj;have:=zAz hc hoj (hc j oj hoj hLj) hj;rw[hLi] at this;cases this
  unfold isP at hP;unfold isT at hT;rw[hk2] at hP hT;rcases h with⟨rfl,h⟩|⟨rfl,h⟩|⟨rfl,h⟩|rfl
  ·cases hP
  ·rw[if_pos (by rfl)];have hg:=h x w hbw hj (zKb.of fun p hp hr=>hf p hp (zAz hc ho hb hr));have key:∀u w',(∃x',u=(vs x').getD i undef/\zAg ops i (vs x) (vs x')/\Below w.heap.size w w'/\zC7 ops i cs x x' w'/\J x' w')->∃x',u=(vs x').getD i undef/\(∀j,L j=true->(vs x').getD j undef=(vs x).getD j undef)/\Closed ops (fun j=>L j||j==i)/\Below w0.heap.size w0 w'/\J x' w'/\∀p∈cs,(L p.1||p.1==i)=true->p.2 x' w':=by
    rintro u w' ⟨x',h1,h2,h3,h4,hj'⟩;refine⟨x',h1,fun j hj=>h2 j (fun e=>by subst e;rw[hLi] at hj;cases hj) ?_,hca,hbw.trans (h3.mono hbw.size),hj',fun p hp hl=>?_⟩
    ·cases hr:reach ops i ops.size j with
     |false=>rfl
     |true=>rw[hno j hr] at hj;cases hj
    ·have h5:=h4.at_ p hp;cases hpi:(p.1==i) with
     |true=>rw[hpi] at h5;exact h5
     |false=>
      rw[hpi] at h5 hl;rw[Bool.or_false] at hl;rcases h5 with hr|h5
      ·rw[hno _ hr] at hl;cases hl
      ·exact h5 (hmono p hp x w w' (hf p hp hl) h3)
   unfold Gives at hg⊢;revert hg;generalize (execOp (evAct es a0 (F x) i).eval o).run P w=r;cases r with
   |halt e w'=>exact fun h=>h
   |ok n w'=>
    cases n with
    |value v=>exact fun h=>key _ _ h
    |skip=>exact fun h=>key _ _ h
    |enter f args=>exact fun h=>Calls.mono h fun e w'' ⟨v,h1,h2⟩=>⟨v,h1,key _ _ h2⟩
    |_=>exact fun h=>h
  ·cases hP
  ·cases hT
 ·obtain⟨hc,hbw,hj,hf⟩:=hI;refine⟨zD3 hc ho hb,hbw,hj,fun p hp hl=>hf p hp ?_⟩;cases hpi:(p.1==i) with
  |true=>
   have h1:=List.all_eq_true.1 hcs p hp;rw[eq_of_beq hpi,hP] at h1;cases h1
  |false=>
   have hl':(L p.1||p.1==i)=true:=hl;rw[hpi,Bool.or_false] at hl';exact hl'
 ·have hFx:fin ops (fun i=>(vs x).getD i undef) a0=F x:=hF x;rw[hFx];refine hend x w hI.2.1 hI.2.2.1 (zAh.of fun p hp=>hI.2.2.2 p hp ?_);have h1:=List.all_eq_true.1 hcs p hp;simp only[Bool.and_eq_true,Bool.not_eq_true',decide_eq_true_eq] at h1;exact hL p.1 h1.2 h1.1.1 h1.1.2
 ·rw[Array.getD_eq_getD_getElem?,Array.getElem?_replicate]
  split<;>rfl
 ·rw[Array.getD_eq_getD_getElem?,Array.getElem?_replicate] at h
  split at h<;>simp at h
 ·dsimp only at h;rw[Array.getD_eq_getD_getElem?,Array.getElem?_replicate] at h
  split at h<;>simp at h
 ·dsimp only at h;rw[Array.getD_eq_getD_getElem?,Array.getElem?_replicate] at h
  split at h<;>simp at h
theorem Gives.still {s:Sem Next}{v:Value}{x:X}{vs:X->List Value}{cs:List (Nat×(X->World->Prop))}{J:X->World->Prop}(hj:J x w)(hc:(cs.map Prod.fst).contains i=false)(h:s.run P w= .ok (.value v) w)(hv:v=(vs x).getD i undef):Gives P s w fun u w'=>∃x',u=(vs x').getD i undef/\zAg ops i (vs x) (vs x')/\Below w.heap.size w w'/\zC7 ops i cs x x' w'/\J x' w':=
 Gives.value h ⟨x,hv,zAg.same,Below.refl _ _,zC7.same hc,hj⟩
theorem Gives.pure {s:Sem Next}{v:Value}{x:X}{vs:X->List Value}(h:s.run P w= .ok (.value v) w)(hv:v=(vs x).getD i undef):Gives P s w fun u w'=>u=(vs x).getD i undef/\w'=w:=
 Gives.value h ⟨hv,rfl⟩
end
theorem jp {X:Type}{s:Sem Next}{x:X}{vs:X->List Value}(v:Value)(h:s.run P w= .ok (.value v) w)(hv:v=(vs x).getD i undef):Gives P s w fun u w'=>u=(vs x).getD i undef/\w'=w:=Gives.pure h hv
theorem gs {o:Array Oper}{X:Type}{s:Sem Next}{x:X}{l:X->List Value}{c:List (Nat×(X->World->Prop))}{J:X->World->Prop}(v:Value)(a:J x w)(b:(c.map Prod.fst).contains i=false)(h:s.run P w= .ok (.value v) w)(d:v=(l x).getD i undef):Gives P s w fun u w'=>∃x',u=(l x').getD i undef/\zAg o i (l x) (l x')/\Below w.heap.size w w'/\zC7 o i c x x' w'/\J x' w':=Gives.still a b h d
theorem jR {X:Type}{vs:X->List Value}{cs:List (Nat×(X->World->Prop))}{J F q:X->World->Prop}{s:X->Sem Next}(k:∀(x:X) (w:World),Below w0.heap.size w0 w->q x w)(hc:(cs.map Prod.fst).contains i=false:=by kernel_rfl)(h:∀(x:X) (w:World),q x w->(s x).run P w= .ok (.value ((vs x).getD i undef)) w:=by intro _ _ c;simp[go_sem,evAct,c])(x:X)(w:World)(hB:Below w0.heap.size w0 w)(hJ:J x w)(_:F x w):Gives P (s x) w fun u w'=>∃x',u=(vs x').getD i undef/\zAg ops i (vs x) (vs x')/\Below w.heap.size w w'/\zC7 ops i cs x x' w'/\J x' w':=Gives.still hJ hc (h x w (k x w hB)) rfl
structure Gh where
 v:Nat->Value
 n:Nat->Nat
@[reducible] def Gh.setV (x:Gh) (k:Nat) (u:Value):Gh:=⟨fun j=>if j=k then u else x.v j,x.n⟩
@[reducible] def Gh.setN (x:Gh) (k:Nat) (u:Nat):Gh:=⟨x.v,fun j=>if j=k then u else x.n j⟩
def Gh.zero:Gh:=⟨fun _=>.nilFunc,fun _=>0⟩
section
variable {P : Program} {ops : Array Oper} {Q : Exit -> Act -> World -> Prop} {X : Type}
theorem zA6.nil:zA6 ([]:List (Nat×(X->World->Prop))):=fun p hp=>by cases hp
theorem zA6.cons {p:Nat×(X->World->Prop)}{cs:List (Nat×(X->World->Prop))}(h:∀(x:X) (w w':World),p.2 x w->Below w.heap.size w w'->p.2 x w')(t:zA6 cs):zA6 (p::cs):=fun q hq=>by
 rcases List.mem_cons.1 hq with rfl|hq
 ·exact h
 ·exact t q hq
theorem zC0 {R:Value->World->Prop}(ho:ops[i]?=some o)(hg:o.guard=none)(h:Gives P (execOp a.eval o) w R)(hK:∀v w',R v w'->wpOps P ops Q l (a.put o.dst v) w'):wpOps P ops Q (i::l) a w:=
 zDz ho hg (Gives.wp h hK)
theorem zAu (ho:ops[i]?=some o)(hg:o.guard=none)(h:(execOp a.eval o).run P w= .ok .skip w')(hK:wpOps P ops Q l (a.put o.dst undef) w'):wpOps P ops Q (i::l) a w:=
 zC0 ho hg (Gives.skip (R:=fun u w1=>u=undef/\w1=w') h ⟨rfl,rfl⟩) fun _ _ ⟨e1,e2⟩=>by rw[e1,e2];exact hK
theorem zAa (h:Q .normal a w):wpOps P ops (zOm Q) [] a w:=⟨rfl,h⟩
end
theorem qm {F:Gh->Act}(ks:List Nat)(es:List Bool)(vs:Gh->List Value)(cs:List (Nat×(Gh->World->Prop)))(J:Gh->World->Prop)(hmono:zA6 cs)(hJ:J Gh.zero w0.drew)(hE:zIa P (fun i x=>evAct es a0 (F x) i) ops vs cs J w0 0 ops.toList ks)(hend:∀(x:Gh) (w:World),Below w0.heap.size w0 w->J x w->zAh cs x w->wpOps P ops (zOm Q) (numsOf 3 0 ks) (F x) w)
  (hm:P.follows .mixedOrders=true:=by kernel_rfl) (hok:zQ8 ops ks es=true:=by kernel_rfl) (hF:∀x,fin ops (fun i=>(vs x).getD i undef) a0=F x:=by intro _;simp[fin,zBz,zAk,List.range,List.range.loop,Act.put];rfl) (hw:∀x,((List.range ops.size).map fun i=>((ops[i]?).map fun o=>Region.wanted o (yielded ops (F x).tmps)).getD true)=ks.map fun k=>k !=0:=by intro _;kernel_rfl)
  (hcs:(cs.all fun p=> !isP ks p.1&& !isT ks p.1&&decide (p.1<ops.size))=true:=by kernel_rfl):(Code.region id ops true).wp P Q a0 w0:=zQb hm ks es F vs cs J Gh.zero hok hF hw hmono hJ hE hcs hend
end
namespace El
open At Ch Sp Sy Go.RowKit
variable{x w w':World}{g B s:Nat}{t:TypeId}{d0 d1 d2 d3 d4:Value}{P:Nat->Prop}{xs:List Trm}{path:List Int}{d n:Tre}
abbrev zerC:Array Value:=qT
theorem zTv (ok:Nat->Prop)(w:World):TmAt ok w zerT zerC:=TmAt.zero ok w 0 ⟨#[]⟩ (by decide)
theorem zEs (x:World)(g:Nat)(c0 c1 c2 c3 c4:Value):x.grownBy (((((x.setCell ⟨g,0,none⟩ c0).setCell ⟨g,1,none⟩ c1).setCell ⟨g,2,none⟩ c2).setCell ⟨g,3,none⟩ c3).setCell ⟨g,4,none⟩ c4) (some g):=
 zB6 (zB6 (zB6 (zB6 (zA8 x ⟨g,0,none⟩ c0) (zA8 _ ⟨g,1,none⟩ c1)) (zA8 _ ⟨g,2,none⟩ c2)) (zA8 _ ⟨g,3,none⟩ c3)) (zA8 _ ⟨g,4,none⟩ c4)
theorem set5 (h:Blk x g t #[d0,d1,d2,d3,d4])(c0 c1 c2 c3 c4:Value):Blk (((((x.setCell ⟨g,0,none⟩ c0).setCell ⟨g,1,none⟩ c1).setCell ⟨g,2,none⟩ c2).setCell ⟨g,3,none⟩ c3).setCell ⟨g,4,none⟩ c4) g t #[c0,c1,c2,c3,c4]:=((((h.set_ 0 c0).set_ 1 c1).set_ 2 c2).set_ 3 c3).set_ 4 c4
theorem zNp (h:Below B w x)(hB:B<=x.heap.size)(hg:B<=g)(c0 c1 c2 c3 c4:Value):Below B w (((((x.setCell ⟨g,0,none⟩ c0).setCell ⟨g,1,none⟩ c1).setCell ⟨g,2,none⟩ c2).setCell ⟨g,3,none⟩ c3).setCell ⟨g,4,none⟩ c4):=
 h.grown (zEs x g c0 c1 c2 c3 c4) hB fun r e=>by have:=sj e;omega
theorem _root_.Go.Proofs.YtapgncbegadbnaaGreatDoor.Sp.AppT.zS3 {v:Value}{row:Option Nat}(h:AppT P w B v xs)(hg:w.grownBy w' row)(hv:∀b,v.ownBlock=some b->row≠some b)(hP:∀b,P b->some b≠row):AppT P w' B v xs:=by
 obtain⟨css,h1,h2,h3⟩:=h;refine⟨css,World.ownsRow.kept h1 hg ?_,h2,fun j c x hj hx=>(h3 j c x hj hx).grown hg (fun b _ hb=>hP b hb.2) (fun _ _ h=>h)⟩;cases hq:v.ownBlock with
 |none=>exact .inl rfl
 |some b=>exact .inr fun e=>hv b hq e.symm
theorem _root_.Go.Proofs.YtapgncbegadbnaaGreatDoor.Sp.AppT.weak {P':Nat->Prop}{v:Value}(h:AppT P w B v xs)(hP:∀b,b<w.heap.size->P b->P' b):AppT P' w B v xs:=OwnT.any h fun b hb ho=>⟨ho.1,hP b hb ho.2⟩
theorem _root_.Go.Proofs.YtapgncbegadbnaaGreatDoor.Sp.AppT.ltT {v:Value}(h:AppT P w B v xs):∀r,v.ownBlock=some r->B<=r/\r<w.heap.size:=OwnT.lt h
def LRes (lo hi:Nat)(m:Mea Trm)(w:World)(c f:Value):Prop:=match m with
 | .ok t=>∃cc,c= .agg cc/\f= .pointer none/\TmAt (fun b=>lo<=b/\b<hi) w t cc
 | .bad er p=>c= .agg zerC/\∃g,f=qP g/\zE6 (fun b=>lo<=b/\b<hi) w g er p
theorem LRes.keep {lo hi:Nat}{m:Mea Trm}{w w':World}{c f:Value}(h:LRes lo hi m w c f)(hb:Below w.heap.size w w'):LRes lo hi m w' c f:=by
 cases m with
 |ok t=>obtain⟨cc,h1,h2,h3⟩:=h;exact⟨cc,h1,h2,h3.keep hb⟩
 |bad er p=>obtain⟨h1,g,h2,h3⟩:=h;exact⟨h1,g,h2,h3.keep hb⟩
def MeaP (m:Mea Trm)(w:World)(e:Ending)(w':World):Prop:=(match m with
 | .ok t=>∃c,e= .returned (.tuple #[.agg c,.pointer none])/\TmAt (fun b=>w.heap.size<=b) w' t c
 | .bad er p=>∃g,e= .returned (.tuple #[.agg zerC,qP g])/\zE6 (fun b=>w.heap.size<=b) w' g er p)/\Below w.heap.size w w'
theorem yDd {ok:Nat->Prop}{t:Trm}{c:Array Value}(h:TmAt ok w t c):TmAt (fun b=>ok b/\b<w.heap.size) w t c:=h.any fun _ hb ho=>⟨ho,hb⟩
theorem MeaP.res {m:Mea Trm}{e:Ending}(h:MeaP m w e w'):∃c f,e= .returned (.tuple #[c,f])/\LRes w.heap.size w'.heap.size m w' c f/\Below w.heap.size w w':=by
 obtain⟨h1,hb⟩:=h;cases m with
 |ok t=>
  obtain⟨c,rfl,ht⟩:=h1;exact⟨_,_,rfl,⟨c,rfl,rfl,yDd ht⟩,hb⟩
 |bad er p=>
  obtain⟨g,rfl,hf⟩:=h1;exact⟨_,_,rfl,⟨rfl,g,rfl,hf.any fun _ h1 h2=>⟨h2,h1⟩⟩,hb⟩
def zT4 (m:Mea Prt)(w:World)(e:Ending)(w':World):Prop:=(match m with
 | .ok p=>∃c,e= .returned (.tuple #[.agg c,.pointer none])/\TmAt (fun b=>w.heap.size<=b) w' p.opnd c
 | .bad er q=>∃g,e= .returned (.tuple #[.agg zerC,qP g])/\zE6 (fun b=>w.heap.size<=b) w' g er q)/\Below w.heap.size w w'
def zV7 (g:Nat)(A:Option Addr)(cap:Nat)(rs:List Rul)(f:Nat):Prop:=∀(items:List Tre) (path:List Int) (k:Nat) (A1 Ap:Option Addr) (c1 cp:Nat) (w:World),zGv w g A cap rs->zAo w A1 items->items.length<=c1->c1<=9223372036854775807->zAr w Ap path->path.length+zA4 items+1<=900000->zA4 items<f->zC2 1 items=true->k<=2->
 Calls Tryz.prog 21 #[qP g,.slice A1 items.length c1,.slice Ap path.length cp,qI k] w (MeaP (zAb rs f items path k) w)
def zCm (n:Tre)(s:Nat):Bool:=decide (n.kind=6)&&(decide (s=0)&&(match n.kids with
 |d::_=>d.kids.isEmpty
 |[]=>false))
def zF6 (M:List Tre->List Int->Nat->Mea Trm)(n:Tre)(path:List Int)(s:Nat):Mea (List Trm):=if zCm n s=true then zAn M path (n.kids.drop 1) 1 0 else zAn M path (n.kids.drop s) s 0
theorem zHx {M:List Tre->List Int->Nat->Mea Trm}{ks:List Tre}{b:Nat}(h:ks[s]?=some d):zAn M path (ks.drop s) s b=(M d.kids (path++[(s:Int)]) b).then_ fun t=>(zAn M path (ks.drop (s+1)) (s+1) 0).then_ fun ts=>.ok (t::ts):=by
 obtain⟨hl,rfl⟩:=List.getElem?_eq_some_iff.1 h;rw[List.drop_eq_getElem_cons hl,zAn]
theorem zNm {M:List Tre->List Int->Nat->Mea Trm}(h:zCm n s=true):zF6 M n path s=zF6 M n path (s+1):=by
 have hs:s=0:=by
  unfold zCm at h;simp only[Bool.and_eq_true,decide_eq_true_eq] at h;exact h.2.1
 subst hs;unfold zF6;rw[if_pos h,if_neg];unfold zCm;simp
theorem zXi {M:List Tre->List Int->Nat->Mea Trm}(h:zCm n s=false)(hd:n.kids[s]?=some d):zF6 M n path s=(M d.kids (path++[(s:Int)]) 0).then_ fun t=>(zF6 M n path (s+1)).then_ fun ts=>.ok (t::ts):=by
 have h1:zCm n (s+1)=false:=by unfold zCm;simp
 unfold zF6;rw[if_neg (by rw[h];simp),if_neg (by rw[h1];simp),zHx hd]
theorem rest_end {M:List Tre->List Int->Nat->Mea Trm}(h:n.kids≠[]):zF6 M n path n.kids.length= .ok []:=by
 have h1:zCm n n.kids.length=false:=by
  unfold zCm;rw[decide_eq_false (show ¬n.kids.length=0 from fun e=>h (List.length_eq_zero_iff.1 e))];simp
 unfold zF6;rw[if_neg (by rw[h1];simp),List.drop_length,zAn]
theorem zVv {M:List Tre->List Int->Nat->Mea Trm}(h2:n.kind≠2)(h3:n.kind≠3)(h4:n.kind≠4)(hk:n.kids≠[]):zCr M n path=(zF6 M n path 0).then_ fun ts=>.ok ⟨.mk 4 (zB1 n).1 ⟨#[]⟩ (zB1 n).2 ts,[],⟨#[]⟩,⟨#[]⟩⟩:=by
 unfold zCr;rw[if_neg h2,if_neg h3,if_neg h4]
 congr 1
 unfold zF6 zCm;cases hn:n.kids with
 |nil=>exact absurd hn hk
 |cons d ks=>
  simp only[List.drop_succ_cons,List.drop_zero]
  by_cases h:n.kind=6/\d.kids.isEmpty=true
  ·rw[if_pos h,if_pos (by rw[decide_eq_true h.1,h.2];rfl)]
  ·rw[if_neg h,if_neg (by
    intro e;simp only[Bool.and_eq_true,decide_eq_true_eq] at e;exact h ⟨e.1,e.2.2⟩)]
def zDs (tot:Mea (List Trm))(xs:List Trm)(rest:Mea (List Trm)):Prop:=tot=rest.then_ fun ts=>.ok (xs++ts)
theorem zDs.start (m:Mea (List Trm)):zDs m [] m:=by
 unfold zDs;cases m<;>rfl
theorem zDs.bad {tot:Mea (List Trm)}{xs:List Trm}{m:Mea Trm}{F:Trm->Mea (List Trm)}{er:Int}{p:List Int}(h:zDs tot xs (m.then_ F))(hm:m= .bad er p):tot= .bad er p:=by
 unfold zDs at h;rw[h,hm];rfl
theorem zDs.next {tot:Mea (List Trm)}{m:Mea Trm}{r:Mea (List Trm)}{t:Trm}(h:zDs tot xs (m.then_ fun t=>r.then_ fun ts=>.ok (t::ts)))(hm:m= .ok t):zDs tot (xs++[t]) r:=by
 unfold zDs at*;rw[h,hm];cases r with
 |ok ts=>simp[Mea.then_]
 |bad e p=>rfl
theorem zDs.end {tot:Mea (List Trm)}(h:zDs tot xs (.ok [])):tot= .ok xs:=by
 unfold zDs at h;rw[h];simp[Mea.then_]
theorem zDa (h:zAt n=true)(hd:n.kids[s]?=some d):zAt d=true/\zBk n.kind d.kind=false:=by
 obtain⟨k,t,c,ks⟩:=n;rw[zAt,Bool.and_eq_true] at h;have key:∀(ks:List Tre) (s:Nat),zC2 k ks=true->ks[s]?=some d->zAt d=true/\zBk k d.kind=false:=by
  intro ks
  induction ks with
  |nil=>intro s _ h;simp at h
  |cons x ks ih=>
   intro s h hs;rw[zC2] at h;simp only[Bool.and_eq_true,Bool.not_eq_true'] at h;cases s with
   |zero=>
        obtain rfl:x=d:=by simpa using hs
        exact⟨h.2.1,h.1⟩
   |succ s=>exact ih s h.2.2 (by simpa using hs)
 exact key ks s h.2 hd
theorem zJj (h:zAt n=true)(hk:n.kind≠1)(hd:n.kids[s]?=some d):zC2 1 d.kids=true:=by
 obtain⟨h1,h2⟩:=zDa h hd;have h3:d.kind=1:=by
  unfold zBk at h2;rw[decide_eq_false hk] at h2
  by_cases e:d.kind=1
  ·exact e
  ·rw[decide_eq_false e] at h2;cases h2
 obtain⟨k,t,c,ks⟩:=d;rw[zAt,Bool.and_eq_true] at h1;change k=1 at h3;rw[h3] at h1;exact h1.2
theorem zEb (h:zAt n=true):zE3 n.kind n.text.data.toList=true/\zBu n.kind n.cols n.kids.length=true:=by
 obtain⟨k,t,c,ks⟩:=n;rw[zAt,Bool.and_eq_true,ownT,Bool.and_eq_true] at h;exact h.1
theorem zXq {l:List UInt8}(h:symB l=true):l.length<=16:=by
 unfold symB at h
 split at h
 ·simp
 ·simp only[Bool.and_eq_true,decide_eq_true_eq] at h;exact h.2.1
theorem zSv {k:Int}{l:List UInt8}(h:zE3 k l=true):l.length<=1000:=by
 unfold zE3 at h
 split at h
 ·have:=zXq h;omega
 ·split at h
  ·unfold numP at h;rw[Bool.and_eq_true,decide_eq_true_eq] at h;omega
  ·split at h
   ·rw[Bool.and_eq_true,decide_eq_true_eq] at h;omega
   ·split at h
    ·unfold inB at h;have hm:=List.contains_iff_mem.1 h;have:∀a∈zAx,a.length<=1000:=by decide
     exact this _ hm
    ·split at h
     ·unfold zPl at h
      split at h
      ·simp
      ·cases h
     ·rw[List.isEmpty_iff] at h;rw[h];simp
theorem zCp (h:zAt n=true):n.text.size<=1000:=by
 have:=zSv (zEb h).1
 simpa using this
theorem zE8 (a b:ByteArray):(a++b).size=a.size+b.size:=by simp
theorem zLf (h:n.text.size<=1000)(hc:n.kind=12->n.cols<100):(zB1 n).1.size<=2000/\(zB1 n).2.size<=2000:=by
 have q:divS.size<=2000/\zSl.size<=2000/\zKw.size<=2000/\zEf.size<=2000/\indS.size<=2000/\subS.size<=2000/\powS.size<=2000/\supS.size<=2000/\zTr.size<=2000/\zK6.size<=2000/\accS.size<=2000/\matS.size<=1000/\fenS.size<=1000/\absS.size<=2000/\grpS.size<=2000:=by decide
 obtain⟨q1,q2,q3,q4,q5,q6,q7,q8,q9,q10,q11,q12,q13,q14,q15⟩:=q;unfold zB1
 split
 ·exact⟨q1,q2⟩
 split
 ·refine⟨?_,q4⟩;dsimp only
  split
  ·split
   ·exact q3
   ·exact q4
  ·exact q4
 split
 ·exact⟨q5,q6⟩
 split
 ·exact⟨q7,q8⟩
 split
 ·exact⟨q9,q10⟩
 split
 ·exact⟨by show n.text.size<=2000;omega,q11⟩
 split
 ·next h12=>
  refine⟨by show matS.size<=2000;omega,?_⟩;have h1:(Lib.decDigits n.cols.toNat).length<=20:=by rw[Lib.decDigits_length];exact Lib.nDigits_le20 _ (by have:=hc h12;omega)
  have h2:(bys (Lib.decDigits n.cols.toNat)).size<=20:=by simpa [bys,ByteArray.size] using h1
  show(matS++bys (Lib.decDigits n.cols.toNat)).size<=2000;rw[zE8];omega
 ·refine⟨?_,?_⟩
  ·show(if n.text.data.toList=[124,124] then absS else grpS).size<=2000
   split
   ·exact q14
   ·exact q15
  ·show(fenS++n.text).size<=2000;rw[zE8];omega
theorem zHa (h:zAt n=true)(e:n.kind=12):0<=n.cols/\n.cols<100:=by
 have h:=(zEb h).2;unfold zBu at h;rw[if_pos e,Bool.and_eq_true,decide_eq_true_eq] at h;omega
theorem zI7 (hd:n.kids[s]?=some d):zA4 d.kids+2<=zA7 n:=by
 obtain⟨k,t,c,ks⟩:=n;obtain⟨k',t',c',ks'⟩:=d;rw[zA7];have key:∀(ks:List Tre) (s:Nat),ks[s]?=some (.mk k' t' c' ks')->zA4 ks'+1<=zA4 ks:=by
  intro ks
  induction ks with
  |nil=>intro s h;simp at h
  |cons x ks ih=>
   intro s hs;rw[zA4];cases s with
   |zero=>
    obtain rfl:x= .mk k' t' c' ks':=by simpa using hs
    rw[zA7];omega
   |succ s=>have:=ih s (by simpa using hs);omega
 have:=key ks s hd;show zA4 ks'+2<=_;omega
theorem fin5 (h:Blk x g t #[d0,d1,d2,d3,d4])(hb:Below B w x)(hg:B<=g)(c0 c1 c2 c3 c4:Value):∃w9,((((x.setCell ⟨g,0,none⟩ c0).setCell ⟨g,1,none⟩ c1).setCell ⟨g,2,none⟩ c2).setCell ⟨g,3,none⟩ c3).setCell ⟨g,4,none⟩ c4=w9/\RowKit.Hid (Blk w9 g t #[c0,c1,c2,c3,c4])/\RowKit.Hid (Below B w w9)/\RowKit.Hid (x.grownBy w9 (some g)):=
 ⟨_,rfl,Lib.hid (set5 h c0 c1 c2 c3 c4),Lib.hid (zNp hb (Nat.le_trans hg (Nat.le_of_lt h.lt)) hg c0 c1 c2 c3 c4),Lib.hid (zEs x g c0 c1 c2 c3 c4)⟩
theorem fin5n (h:Blk x g t #[d0,d1,d2,d3,d4])(c0 c1 c2 c3 c4:Value):∃w9,((((x.setCell ⟨g,0,none⟩ c0).setCell ⟨g,1,none⟩ c1).setCell ⟨g,2,none⟩ c2).setCell ⟨g,3,none⟩ c3).setCell ⟨g,4,none⟩ c4=w9/\RowKit.Hid (Blk w9 g t #[c0,c1,c2,c3,c4])/\RowKit.Hid (x.grownBy w9 (some g)):=
 ⟨_,rfl,Lib.hid (set5 h c0 c1 c2 c3 c4),Lib.hid (zEs x g c0 c1 c2 c3 c4)⟩
theorem jF {c0 c1 c2 c3 c4:Value}(h:RowKit.Hid (Blk x g t #[c0,c1,c2,c3,c4])):x.cell? ⟨g,0,none⟩=some c0/\x.cell? ⟨g,1,none⟩=some c1/\x.cell? ⟨g,2,none⟩=some c2/\x.cell? ⟨g,3,none⟩=some c3/\x.cell? ⟨g,4,none⟩=some c4:=
 ⟨h.out.cell 0,h.out.cell 1,h.out.cell 2,h.out.cell 3,h.out.cell 4⟩
end El
end Go.Proofs.YtapgncbegadbnaaGreatDoor
