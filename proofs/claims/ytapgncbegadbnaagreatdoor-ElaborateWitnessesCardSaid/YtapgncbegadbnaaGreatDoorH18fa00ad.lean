/- A region that draws its order, where each operation comes to one value whatever the. -/
import Derived.Orders
import Derived.Test.YtapgncbegadbnaaGreatDoorHdec6edca
import Derived.Deep.QuietTactic
import Derived.BigQuiet
import Derived.Deep.RegionWith
import Derived.Deep.RegionHeld3
import Derived.Deep.DeepCutAuto
import Derived.DataElems
set_option maxRecDepth 100000
set_option maxHeartbeats 2000000
namespace Go.Proofs.YtapgncbegadbnaaGreatDoor
section
variable{P:Program}{w w0:World}{R:Value->World->Prop}{i t id:Nat}{vals:Nat->Value}{a0:Act}{L:Nat->Bool}{a b:Prop}{I:World->Prop}
def Gives (P:Program)(s:Sem Next)(w:World)(R:Value->World->Prop):Prop:=
 match s.run P w with
 | .ok (.value v) w'=>R v w'
 | .ok .skip w'=>R undef w'
 | .ok (.enter f args) w'=>Calls P f args w' fun e w''=>∃v,e= .returned v/\R v w''
 |_=>False
theorem Gives.wp {P:Program}{o:Oper}{a:Act}{w:World}{R:Value->World->Prop}{K:Act->World->Prop}{Q:Exit->Act->World->Prop}(h:Gives P (execOp a.eval o) w R)(hK:∀v w',R v w'->K (a.put o.dst v) w'):o.wp P a w K Q:=by
 unfold Oper.wp;unfold Gives at h;generalize (execOp a.eval o).run P w=x at h;cases x with
 |halt e w'=>exact h.elim
 |ok n w'=>
  cases n with
  |value v=>exact hK _ _ h
  |skip=>exact hK _ _ h
  |enter f args=>
   refine Calls.mono h fun e w'' he=>?_
   obtain⟨v,rfl,hr⟩:=he;exact hK _ _ hr
  |_=>exact h.elim
theorem Gives.value {P:Program}{s:Sem Next}{w w':World}{v:Value}{R:Value->World->Prop}(h:s.run P w= .ok (.value v) w')(hR:R v w'):Gives P s w R:=by unfold Gives;rw[h];exact hR
theorem Gives.skip {P:Program}{s:Sem Next}{w w':World}{R:Value->World->Prop}(h:s.run P w= .ok .skip w')(hR:R undef w'):Gives P s w R:=by unfold Gives;rw[h];exact hR
theorem Gives.call {s:Sem Next}{w':World}{f:FuncId}{args:Array Value}(h:s.run P w= .ok (.enter f args) w')(hR:Calls P f args w' fun e w''=>∃v,e= .returned v/\R v w''):Gives P s w R:=by unfold Gives;rw[h];exact hR
section
variable {P : Program} {ops : Array Oper} {Q : Exit -> Act -> World -> Prop}
def zAk (ops:Array Oper)(i:Nat):Option Tmp:=(ops[i]?).bind (·.dst)
def zBz (ops:Array Oper)(vals:Nat->Value)(a:Act)(l:List Nat):Act:=l.foldl (fun a i=>a.put (zAk ops i) (vals i)) a
def fin (ops:Array Oper)(vals:Nat->Value)(a:Act):Act:=zBz ops vals a (List.range ops.size)
def zFm (ops:Array Oper):Bool:=(List.range ops.size).all fun i=>(List.range ops.size).all fun j=>i==j||zAk ops i !=zAk ops j||(zAk ops i).isNone
def bound (o:Oper)(j:Nat):Bool:=o.after.any fun e=>e.on==j&&Region.binds .any e
def zEa (ops:Array Oper)(o:Oper):Bool:=
 (o.op.operands.all fun| .tmp t=>(List.range ops.size).all fun j=>zAk ops j !=some t||bound o j |_=>true)&&
 (match o.guard with|none=>true|some (g,_)=>bound o g)
def zHv (ops:Array Oper):Bool:=Region.noSelect ops&&zFm ops&&(ops.all (zEa ops))&&(List.range ops.size).all fun i=>match ops[i]? with
 |some o=>o.after.all fun e=> !Region.binds .any e||decide (e.on<i)
 |none=>true
theorem zE4 (a:Act)(d:Option Tmp)(v:Value)(t:Nat):(a.put d v).tmps[t]?=if d=some t/\t<a.tmps.size then some v else a.tmps[t]?:=by
 cases d with
 |none=>simp[Act.put]
 |some d=>
  simp only[Act.put,Array.getElem?_setIfInBounds,Option.some.injEq]
  by_cases h:d=t
  ·subst h
   by_cases h2:d<a.tmps.size
   ·simp[h2]
   ·simp[h2]
  ·simp[h]
theorem zFz (a:Act)(d:Option Tmp)(v:Value):(a.put d v).tmps.size=a.tmps.size:=by cases d<;>simp[Act.put]
theorem put_defers (a:Act)(d:Option Tmp)(v:Value):(a.put d v).defers=a.defers:=by cases d<;>simp[Act.put]
theorem zBg (vals:Nat->Value):∀(l:List Nat) (a:Act),(zBz ops vals a l).tmps.size=a.tmps.size/\(zBz ops vals a l).defers=a.defers
 |[],a=>⟨rfl,rfl⟩
 |i::l,a=>by
  obtain⟨h1,h2⟩:=zBg vals l (a.put (zAk ops i) (vals i));exact⟨h1.trans (zFz _ _ _),h2.trans (put_defers _ _ _)⟩
theorem zCf (vals:Nat->Value)(t:Nat):∀(l:List Nat) (a:Act),(∀i∈l,zAk ops i≠some t)->(zBz ops vals a l).tmps[t]?=a.tmps[t]?
 |[],_,_=>rfl
 |i::l,a,h=>by
  have:=zCf vals t l (a.put (zAk ops i) (vals i)) (fun j hj=>h j (List.mem_cons_of_mem _ hj));rw[show zBz ops vals a (i::l)=zBz ops vals (a.put (zAk ops i) (vals i)) l from rfl,this,zE4,if_neg (fun hc=>h i List.mem_cons_self hc.1)]
theorem zMf (vals:Nat->Value)(hd:zFm ops=true)(t i:Nat)(hi:zAk ops i=some t):∀(l:List Nat) (a:Act),i∈l->(∀j∈l,j<ops.size)->t<a.tmps.size->(zBz ops vals a l).tmps[t]?=some (vals i)
 |[],_,h,_,_=>by cases h
 |j::l,a,h,hl,ht=>by
  rw[show zBz ops vals a (j::l)=zBz ops vals (a.put (zAk ops j) (vals j)) l from rfl]
  by_cases hm:i∈l
  ·exact zMf vals hd t i hi l _ hm (fun k hk=>hl k (List.mem_cons_of_mem _ hk)) (by rw[zFz];exact ht)
  ·obtain rfl:i=j:=by simpa [hm] using h
   rw[zCf vals t l _ ?_,zE4,if_pos ⟨hi,ht⟩];intro k hk hkt;have h1:=List.all_eq_true.1 hd i (List.mem_range.2 (hl i List.mem_cons_self));have h2:=List.all_eq_true.1 h1 k (List.mem_range.2 (hl k (List.mem_cons_of_mem _ hk)));rw[hi,hkt] at h2;simp at h2;subst h2;exact hm hk
theorem zBi (h:zAk ops i=some t):i<ops.size:=by
 rcases Nat.lt_or_ge i ops.size with h'|h'
 ·exact h'
 ·unfold zAk at h;rw[Array.getElem?_eq_none h'] at h;cases h
structure zE0 (ops:Array Oper)(vals:Nat->Value)(a0:Act)(L:Nat->Bool)(a:Act):Prop where
 size:a.tmps.size=a0.tmps.size
 defers:a.defers=a0.defers
 done:∀i t,zAk ops i=some t->L i=true->a.tmps[t]?=(fin ops vals a0).tmps[t]?
 rest:∀t,(∀i,L i=true->zAk ops i≠some t)->a.tmps[t]?=a0.tmps[t]?
theorem fin_at (hd:zFm ops=true)(h:zAk ops i=some t)(ht:t<a0.tmps.size):(fin ops vals a0).tmps[t]?=some (vals i):=
 zMf vals hd t i h _ a0 (List.mem_range.2 (zBi h)) (fun _ hj=>List.mem_range.1 hj) ht
theorem zE0.put {vals:Nat->Value}{a0:Act}{L:Nat->Bool}{a:Act}(hd:zFm ops=true)(h:zE0 ops vals a0 L a)(i:Nat)(hi:i<ops.size)(hL:L i=false):zE0 ops vals a0 (fun j=>L j||j==i) (a.put (zAk ops i) (vals i)):=by
 obtain⟨h1,h2,h3,h4⟩:=h;refine⟨(zFz _ _ _).trans h1,(put_defers _ _ _).trans h2,fun j t hj hjL=>?_,fun t ht=>?_⟩
 ·rw[zE4]
  by_cases hc:zAk ops i=some t/\t<a.tmps.size
  ·rw[if_pos hc,fin_at hd hc.1 (by have:=hc.2;rwa [h1] at this)]
  ·rw[if_neg hc]
   by_cases hij:j=i
   ·subst hij;have hlt:¬t<a.tmps.size:=fun hl=>hc ⟨hj,hl⟩
    rw[Array.getElem?_eq_none (Nat.le_of_not_lt hlt)];exact(Array.getElem?_eq_none (show(zBz ops vals a0 (List.range ops.size)).tmps.size<=t by rw[(zBg vals _ a0).1,<-h1];exact Nat.le_of_not_lt hlt)).symm
   ·exact h3 j t hj (by simpa [hij] using hjL)
 ·rw[zE4,if_neg (fun hc=>ht i (by simp) hc.1)];exact h4 t fun j hj=>ht j (by simp[hj])
theorem zE0.end {a:Act}(h:zE0 ops vals a0 L a)(hall:∀i,i<ops.size->L i=true):a=fin ops vals a0:=by
 obtain⟨h1,h2,h3,h4⟩:=h;have ht:a.tmps=(fin ops vals a0).tmps:=by
  refine Array.ext_getElem? fun t=>?_
  by_cases hc:∃i,zAk ops i=some t
  ·obtain⟨i,hi⟩:=hc;exact h3 i t hi (hall i (zBi hi))
  ·rw[h4 t fun i _ hi=>hc ⟨i,hi⟩];exact(zCf vals t _ a0 fun i _ hi=>hc ⟨i,hi⟩).symm
 cases a with
 |mk tm de=>
  have e2:de=(fin ops vals a0).defers:=h2.trans (zBg vals _ a0).2.symm;cases hf:fin ops vals a0 with
  |mk tm' de'=>rw[hf] at ht e2;simp only at ht e2;rw[ht,e2]
theorem zDi {o:Oper}{j:Nat}(hb:bound o j=true)(hL:∀e∈o.after,Region.binds .any e=true->L e.on=true):L j=true:=by
 unfold bound at hb;obtain⟨e,he,h⟩:=Array.any_eq_true'.1 hb;simp only[Bool.and_eq_true,beq_iff_eq] at h;rw[<-h.1];exact hL e he h.2
theorem zE0.eval {vals:Nat->Value}{a0:Act}{L:Nat->Bool}{a:Act}(h:zE0 ops vals a0 L a){o:Oper}(ho:zEa ops o=true)(hL:∀e∈o.after,Region.binds .any e=true->L e.on=true):
  (∀x∈o.op.operands,a.eval x=(fin ops vals a0).eval x)/\Region.wanted o (yielded ops a.tmps)=Region.wanted o (yielded ops (fin ops vals a0).tmps):=by
 unfold zEa at ho;rw[Bool.and_eq_true] at ho;obtain⟨h1,h2⟩:=ho;refine⟨fun x hx=>?_,?_⟩
 ·cases x with
  |tmp t=>
   have hx':=Array.all_eq_true'.1 h1 _ hx;have e:a.tmps[t]?=(fin ops vals a0).tmps[t]?:=by
    by_cases hc:∃i,zAk ops i=some t
    ·obtain⟨i,hi⟩:=hc;have:=List.all_eq_true.1 hx' i (List.mem_range.2 (zBi hi));rw[hi] at this;exact h.done i t hi (zDi (by simpa using this) hL)
    ·rw[h.rest t fun i _ hi=>hc ⟨i,hi⟩];exact(zCf vals t _ a0 fun i _ hi=>hc ⟨i,hi⟩).symm
   simp only[Act.eval,Array.getD_eq_getD_getElem?,e]
  |_=>rfl
 ·unfold Region.wanted;cases hg:o.guard with
  |none=>rfl
  |some gw=>
   obtain⟨g,want⟩:=gw;rw[hg] at h2;have hLg:=zDi h2 hL;have:yielded ops a.tmps g=yielded ops (fin ops vals a0).tmps g:=by
    unfold yielded;cases hd:(ops[g]?).bind (·.dst) with
    |none=>rfl
    |some t=>simp only[Option.bind_some,h.done g t hd hLg]
   simp only[this]
theorem zEk:∀(l:List Bool) (i:Nat),l[i]?=some false->l.countP (·==false)=(l.set i true).countP (·==false)+1
 |[],i,h=>by simp at h
 |b::l,0,h=>by
  obtain rfl:b=false:=by simpa using h
  simp
 |b::l,i+1,h=>by
  have ih:=zEk l i (by simpa using h);simp only[List.set_cons_succ,List.countP_cons];omega
theorem zKx {Inv:(Nat->Bool)->World->Prop}(hok:zHv ops=true)
  (hstep:∀(i:Nat) (o:Oper) (L:Nat->Bool) (w:World),ops[i]?=some o->L i=false->(∀e∈o.after,Region.binds .any e=true->L e.on=true)->Inv L w->
   if Region.wanted o (yielded ops (fin ops vals a0).tmps)=true then Gives P (execOp (fin ops vals a0).eval o) w (fun v w'=>v=vals i/\Inv (fun j=>L j||j==i) w') else vals i=undef/\Inv (fun j=>L j||j==i) w)
  (hend:∀(L:Nat->Bool) (w:World),(∀i,i<ops.size->L i=true)->Inv L w->Q .normal (fin ops vals a0) w):
  ∀(fuel:Nat) (listed:Array Bool) (a:Act) (w:World),listed.size=ops.size->(listed.toList.countP (·==false))<=fuel->zE0 ops vals a0 (fun j=>listed.getD j false) a->Inv (fun j=>listed.getD j false) w->wpAny P .any ops Q fuel listed a w:=by
 simp only[zHv,Bool.and_eq_true] at hok;obtain⟨⟨⟨hsel,hd⟩,hall⟩,hedge⟩:=hok;have fini:∀(listed:Array Bool) (a:Act) (w:World),listed.size=ops.size->zE0 ops vals a0 (fun j=>listed.getD j false) a->Inv (fun j=>listed.getD j false) w->Region.ready .any ops listed=[]->Q .normal a w:=by
  intro listed a w hs ho hI hr;have hL:∀i,i<ops.size->listed.getD i false=true:=by
   intro i
   induction i using Nat.strongRecOn with
   |_ i ih=>
    intro hi;refine Classical.byContradiction fun hn=>?_
    have hm:i∈Region.ready .any ops listed:=by
     rw[mem_ready];refine⟨?_,ops[i],Array.getElem?_eq_getElem hi,fun e he hb=>?_⟩
     ·have hil:i<listed.size:=by omega
      simp only[Array.getD_eq_getD_getElem?,Array.getElem?_eq_getElem hil,Option.getD_some] at hn⊢
      simpa using hn
     ·have h1:=List.all_eq_true.1 hedge i (List.mem_range.2 hi);rw[Array.getElem?_eq_getElem hi] at h1;have h2:=Array.all_eq_true'.1 h1 e he;rw[hb] at h2;have h3:e.on<i:=by simpa using h2
      exact ih e.on h3 (by omega)
    rw[hr] at hm;cases hm
  rw[ho.end hL];exact hend _ w hL hI
 intro fuel
 induction fuel with
 |zero=>
  intro listed a w hs hc ho hI;have hr:Region.ready .any ops listed=[]:=by
   rw[List.eq_nil_iff_forall_not_mem];intro j hj;rw[mem_ready] at hj;obtain⟨h0,o,hoj,_⟩:=hj;have hjl:j<listed.size:=by rw[hs];exact(Array.getElem?_eq_some_iff.1 hoj).1
   have hf:listed[j]=false:=by simpa [Array.getD_eq_getD_getElem?,Array.getElem?_eq_getElem hjl] using h0
   have:0<listed.toList.countP (·==false):=List.countP_pos_iff.2 ⟨false,by rw[<-hf];simp,rfl⟩;omega
  exact⟨hr,fini listed a w hs ho hI hr⟩
 |succ fuel ih=>
  intro listed a w hs hc ho hI;refine⟨fini listed a w hs ho hI,fun i hi=>?_⟩;rw[mem_ready] at hi;obtain⟨h0,o,hoi,hb⟩:=hi;have hil:i<ops.size:=(Array.getElem?_eq_some_iff.1 hoi).1;have hil':i<listed.size:=by omega
  have hf:listed[i]=false:=by simpa [Array.getD_eq_getD_getElem?,Array.getElem?_eq_getElem hil'] using h0
  have hLi:listed.getD i false=false:=by simp[Array.getD_eq_getD_getElem?,Array.getElem?_eq_getElem hil',hf]
  have hL':(fun j=>(listed.setIfInBounds i true).getD j false)=fun j=>listed.getD j false||j==i:=by
   funext j
   by_cases hij:j=i
   ·subst hij;simp[Array.getD_eq_getD_getElem?,hil']
   ·rw[getD_set_ne false (Ne.symm hij)];simp[hij]
  have hcount:(listed.setIfInBounds i true).toList.countP (·==false)<=fuel:=by
   rw[Array.toList_setIfInBounds];have hl:i<listed.toList.length:=by simpa using hil'
   have hs1:listed.toList.countP (·==false)=(listed.toList.set i true).countP (·==false)+1:=by
    exact zEk _ _ (by rw[List.getElem?_eq_getElem hl];simpa using hf)
   omega
  have hoOk:zEa ops o=true:=by
   obtain⟨_,hx⟩:=Array.getElem?_eq_some_iff.1 hoi;exact Array.all_eq_true'.1 hall o (by rw[<-hx];exact Array.getElem_mem _)
  obtain⟨hev,hwant⟩:=ho.eval hoOk hb;have hexec:execOp a.eval o=execOp (fin ops vals a0).eval o:=execOp_congr o (fun cs b=>Region.noSelect_spec hsel i o cs b hoi) hev;have hst:=hstep i o _ w hoi hLi hb hI;have hdst:o.dst=zAk ops i:=by unfold zAk;rw[hoi];rfl
  have next:∀w',Inv (fun j=>listed.getD j false||j==i) w'->wpAny P .any ops Q fuel (listed.setIfInBounds i true) (a.put o.dst (vals i)) w':=by
   intro w' hI';refine ih _ _ w' (by simpa using hs) hcount ?_ (by rw[hL'];exact hI');rw[hL',hdst];exact ho.put hd i hil hLi
  unfold wpOp;simp only[hoi];rw[hwant]
  by_cases hw:Region.wanted o (yielded ops (fin ops vals a0).tmps)=true
  ·rw[if_pos hw] at hst⊢;refine .inl (Gives.wp (R:=fun v w'=>v=vals i/\Inv (fun j=>listed.getD j false||j==i) w') (by rw[hexec];exact hst) ?_);rintro v w' ⟨rfl,hI'⟩;exact next w' hI'
  ·rw[if_neg hw] at hst⊢;rw[<-hst.1];exact next w hst.2
theorem zQ1 (hm:P.follows .mixedOrders=true)(vals:Nat->Value)(Inv:World->Prop)(hok:zHv ops=true)(h0:Inv w0.drew)
  (hstep:∀(i:Nat) (o:Oper) (w:World),ops[i]?=some o->Inv w->
   if Region.wanted o (yielded ops (fin ops vals a0).tmps)=true then Gives P (execOp (fin ops vals a0).eval o) w (fun v w'=>v=vals i/\Inv w') else vals i=undef/\Inv w)
  (hend:∀w:World,Inv w->Q .normal (fin ops vals a0) w):(Code.region id ops true).wp P Q a0 w0:=by
 refine wp_region_any hm ?_;refine zKx (vals:=vals) (a0:=a0) (Inv:=fun _ w=>Inv w) hok (fun i o L w ho _ _ hI=>hstep i o w ho hI) (fun _ w _ hI=>hend w hI) ops.size (Array.replicate ops.size false) a0 _ (by simp) (by
  refine Nat.le_trans (List.countP_le_length) ?_;simp) ⟨rfl,rfl,fun i t _ h=>?_,fun _ _=>rfl⟩ h0
 rw[Array.getD_eq_getD_getElem?,Array.getElem?_replicate] at h
 split at h<;>simp at h
def Each (P:Program)(F:Act)(Inv:World->Prop):List Oper->List Value->List Bool->Prop
 |o::os,v::vs,true::bs=>(∀w,Inv w->Gives P (execOp F.eval o) w fun u w'=>u=v/\Inv w')/\Each P F Inv os vs bs
 |_::os,v::vs,false::bs=>v=undef/\Each P F Inv os vs bs
 |[],[],[]=>True
 |_,_,_=>False
theorem Each.at_ {F:Act}{Inv:World->Prop}:∀{os:List Oper} {vs:List Value} {bs:List Bool},Each P F Inv os vs bs->∀{i:Nat} {o:Oper},os[i]?=some o->∃b,bs[i]?=some b/\∀w,Inv w->if b=true then Gives P (execOp F.eval o) w (fun u w'=>u=vs.getD i undef/\Inv w') else vs.getD i undef=undef/\Inv w
 |[],[],[],_,i,o,h=>by simp at h
 |o::os,v::vs,true::bs,⟨h1,h2⟩,0,o',h=>by
  obtain rfl:o=o':=by simpa using h
  exact⟨true,rfl,fun w hI=>by rw[if_pos rfl];exact h1 w hI⟩
 |o::os,v::vs,false::bs,⟨h1,h2⟩,0,o',h=>⟨false,rfl,fun w hI=>by rw[if_neg (by simp)];exact⟨h1,hI⟩⟩
 |o::os,v::vs,true::bs,⟨h1,h2⟩,i+1,o',h=>by
  obtain⟨b,hb,hh⟩:=Each.at_ h2 (i:=i) (o:=o') (by simpa using h);exact⟨b,by simpa using hb,by simpa using hh⟩
 |o::os,v::vs,false::bs,⟨h1,h2⟩,i+1,o',h=>by
  obtain⟨b,hb,hh⟩:=Each.at_ h2 (i:=i) (o:=o') (by simpa using h);exact⟨b,by simpa using hb,by simpa using hh⟩
 |[],[],_::_,h,_,_,_=>h.elim
 |[],_::_,_,h,_,_,_=>h.elim
 |_::_,[],_,h,_,_,_=>h.elim
 |_::_,_::_,[],h,_,_,_=>h.elim
theorem zK8 (hm:P.follows .mixedOrders=true)(F:Act)(vs:List Value)(bs:List Bool)(Inv:World->Prop)(hok:zHv ops=true)(hF:fin ops (fun i=>vs.getD i undef) a0=F)
  (hw:((List.range ops.size).map fun i=>((ops[i]?).map fun o=>Region.wanted o (yielded ops F.tmps)).getD true)=bs) (h0:Inv w0.drew) (hE:Each P F Inv ops.toList vs bs) (hend:∀w:World,Inv w->Q .normal F w):(Code.region id ops true).wp P Q a0 w0:=by
 subst hF;refine zQ1 hm (fun i=>vs.getD i undef) Inv hok h0 (fun i o w ho hI=>?_) hend;have hi:i<ops.size:=(Array.getElem?_eq_some_iff.1 ho).1;obtain⟨b,hb,hh⟩:=hE.at_ (i:=i) (o:=o) (by rw[Array.getElem?_toList];exact ho);rw[<-hw,List.getElem?_map,List.getElem?_range hi] at hb;simp only[Option.map_some,ho,Option.getD_some,Option.some.injEq] at hb;have:=hh w hI;rw[<-hb] at this;exact this
end
theorem jv {s:Sem Next}(v:Value)(w':World)(h:s.run P w= .ok (.value v) w')(hR:R v w'):Gives P s w R:=Gives.value h hR
theorem jc {s:Sem Next}(f:FuncId)(args:Array Value)(w':World)(h:s.run P w= .ok (.enter f args) w')(hR:Calls P f args w' fun e w''=>∃v,e= .returned v/\R v w''):Gives P s w R:=Gives.call h hR
theorem bn {α:Type _}[BEq α][LawfulBEq α]{a b:α}(h:¬a=b):(a==b)=false:=beq_eq_false_iff_ne.2 h
theorem ll {n m k:Nat}(h:n<m)(h2:m<=k):n<k:=Nat.lt_of_lt_of_le h h2
theorem jK {α:Sort _}{x:α}:a\/b\/x=x:=.inr (.inr rfl)
theorem jA {s:Sem Next}{v:Value}(h:∀w:World,s.run P w= .ok (.value v) w:=by intro _;kernel_rfl)(w:World)(hI:I w):Gives P s w fun u x=>u=v/\I x:=Gives.value (h w) ⟨rfl,hI⟩
theorem jB {s:Sem Next}{v:Value}(h:∀w:World,s.run P w= .ok (.value v) w:=by intro _;simp[go_sem])(w:World)(hI:I w):Gives P s w fun u x=>u=v/\I x:=Gives.value (h w) ⟨rfl,hI⟩
theorem jQ {s:Sem Next}{v:Value}{q:World->Prop}(k:∀w:World,I w->q w)(h:∀w:World,q w->s.run P w= .ok (.value v) w:=by intro _ c;simp[go_sem,c])(w:World)(hI:I w):Gives P s w fun u x=>u=v/\I x:=Gives.value (h w (k w hI)) ⟨rfl,hI⟩
theorem jC {X:Type}{s:X->Sem Next}{v:X->Value}(h:∀(x:X) (w:World),(s x).run P w= .ok (.value (v x)) w:=by intro _ _;kernel_rfl)(x:X)(w:World):Gives P (s x) w fun u y=>u=v x/\y=w:=Gives.value (h x w) ⟨rfl,rfl⟩
theorem jI {X:Type}{s:X->Sem Next}{v:X->Value}(h:∀(x:X) (w:World),(s x).run P w= .ok (.value (v x)) w:=by intro _ _;simp[go_sem,evAct])(x:X)(w:World):Gives P (s x) w fun u y=>u=v x/\y=w:=Gives.value (h x w) ⟨rfl,rfl⟩
theorem jM {s:Sem Next}{v:Value}{a b c:(Nat->Bool)->Prop}{I J:(Nat->Bool)->World->Prop}(h:∀w:World,s.run P w= .ok (.value v) w:=by intro _;kernel_rfl)(g:∀L w,I L w->J L w:=by intro _ _ h;exact h)(L:Nat->Bool)(w:World)(_:a L)(_:b L)(_:c L)(hI:I L w):Gives P s w fun u x=>u=v/\J L x:=Gives.value (h w) ⟨rfl,g L w hI⟩
theorem jO {s:Sem Next}{v:Value}{a b c:(Nat->Bool)->Prop}{I J:(Nat->Bool)->World->Prop}(h:∀w:World,s.run P w= .ok (.value v) w:=by intro _;simp[go_sem])(g:∀L w,I L w->J L w:=by intro _ _ h;exact h)(L:Nat->Bool)(w:World)(_:a L)(_:b L)(_:c L)(hI:I L w):Gives P s w fun u x=>u=v/\J L x:=Gives.value (h w) ⟨rfl,g L w hI⟩
theorem jE (h:a->b)(g:a:=by kernel_rfl):b:=h g
theorem jG (h:a:=by kernel_rfl):a\/b:=.inl h
theorem jH :a\/(b->b):=.inr fun h=>h
def qt:Nat->List Bool->List Bool
 |0,l=>l
 |n+1,l=>true::qt n l
def qf:Nat->List Bool->List Bool
 |0,l=>l
 |n+1,l=>false::qf n l
theorem ql {ops:Array Oper}{Q:Exit->Act->World->Prop}{F:Act}(vs:List Value)(bs:List Bool)(Inv:World->Prop)(h0:Inv w0.drew)(hE:Each P F Inv ops.toList vs bs)(hend:∀w:World,Inv w->Q .normal F w)(hm:P.follows .mixedOrders=true:=by kernel_rfl)(hok:zHv ops=true:=by kernel_rfl)(hF:fin ops (fun i=>vs.getD i undef) a0=F:=by simp[fin,zBz,zAk,List.range,List.range.loop,Act.put];rfl)
  (hw:((List.range ops.size).map fun i=>((ops[i]?).map fun o=>Region.wanted o (yielded ops F.tmps)).getD true)=bs:=by kernel_rfl):(Code.region id ops true).wp P Q a0 w0:=zK8 hm F vs bs Inv hok hF hw h0 hE hend
end
section
open Go.RowKit
variable{w:World}{A:Option Addr}{rs os:List Rul}{j:Nat}{r:Rul}
def zAc (w:World)(A:Option Addr)(rs:List Rul):Prop:=∀(k:Nat) (r:Rul),rs[k]?=some r->r.fits/\∃ad:Addr,A=some ad/\ad.block<w.heap.size/\∀(j:Nat) (v:Value),r.c[j]?=some v->w.cell? (ad.add (k*6+j))=some v
theorem add_block (a:Addr)(n:Nat):(a.add n).block=a.block:=by unfold Addr.add;split<;>rfl
theorem zAc.keep {w':World}(h:zAc w A rs)(hb:Below w.heap.size w w'):zAc w' A rs:=fun k r hk=>by
 obtain⟨hf,ad,hA,hlt,hc⟩:=h k r hk;exact⟨hf,ad,hA,ll hlt hb.size,fun j v hj=>(hb.cell (by rw[add_block];exact hlt)).trans (hc j v hj)⟩
theorem zAc.drew {w:World}{A:Option Addr}{rs:List Rul}(h:zAc w A rs):zAc w.drew A rs:=h
theorem zAc.alloc {w:World}{A:Option Addr}{rs:List Rul}(h:zAc w A rs)(o:Obj):zAc (w.alloc o) A rs:=h.keep (zA0 w o)
theorem zAc.take {w:World}{A:Option Addr}{rs:List Rul}(h:zAc w A rs)(n:Nat):zAc w A (rs.take n):=fun k r hk=>h k r (by
 rw[List.getElem?_take] at hk
 split at hk
 ·exact hk
 ·cases hk)
theorem zF9 {a:Addr}{n:Nat}{v:Value}(h:w.cell? (a.add (n+(j+1)))=some v):w.cell? ⟨(a.add n).block,(a.add n).off+(j+1),none⟩=some v:=by
 rw[<-Addr.add_add] at h;unfold Addr.add at h⊢
 simpa using h
theorem zAc.at_ (h:zAc w A rs){k:Nat}(hk:rs[k]?=some r):
  r.fits/\∃ad:Addr,A=some ad/\ad.block<w.heap.size/\w.cell? (ad.add (k*6))=some (qI r.kind)/\w.cell? ⟨(ad.add (k*6)).block,(ad.add (k*6)).off+1,none⟩=some (.string r.sym)/\w.cell? ⟨(ad.add (k*6)).block,(ad.add (k*6)).off+2,none⟩=some (.string r.nam)/\w.cell? ⟨(ad.add (k*6)).block,(ad.add (k*6)).off+3,none⟩=some (qI r.prec)/\w.cell? ⟨(ad.add (k*6)).block,(ad.add (k*6)).off+4,none⟩=some (qI r.left)/\w.cell? ⟨(ad.add (k*6)).block,(ad.add (k*6)).off+5,none⟩=some (qI r.right):=by
 obtain⟨hf,ad,hA,hlt,hc⟩:=h k r hk;exact⟨hf,ad,hA,hlt,hc 0 _ rfl,zF9 (j:=0) (hc 1 _ rfl),zF9 (j:=1) (hc 2 _ rfl),zF9 (j:=2) (hc 3 _ rfl),zF9 (j:=3) (hc 4 _ rfl),zF9 (j:=4) (hc 5 _ rfl)⟩
def yC7 (os:List Rul)(r:Rul)(w:World)(e:Ending)(w':World):Prop:=∃n:Int,e= .returned (qI n)/\decide (0<=n)=(os.any fun o=>zBd o r)/\Below w.heap.size w w'
abbrev clo (g:Nat):Value:=.func (.func 69) #[] #[qP g]
theorem zVl (A:Option Addr)(cap g:Nat)(os:List Rul)(r:Rul)(w:World)(hR:zAc w A os)(hK:Blk w g 53 r.c)(hn:os.length<=1000000):Calls Tryz.prog 102 #[.slice A os.length cap,clo g] w (yC7 os r w):=by
 have HR:=zh hR;have HK:=zh hK;clear hR hK;go_enter Tryz.func102,Tryz.ntmps102;go_wp2_with fail
 go_loopw [8] (fun i wr=>∃k:Nat,k<=os.length/\i=qI k/\Hid (∀(j:Nat) x,os[j]?=some x->j<k->zBd x r=false)/\Hid (zAc wr A os)/\Hid (Blk wr g 53 r.c)/\Hid (Below w.heap.size w wr)) (fun i _=>os.length -(intOf i).toNat)
 case atStart=>exact⟨0,by omega,rfl,(fun j _ _ h=>by omega),HR,HK,Below.refl _ _⟩
 case round=>
  clear HR HK;obtain⟨k,hk,rfl,HJ,HR,HK,H0⟩:=hrel
  by_cases hlt:k<os.length
  ·obtain⟨x,hx⟩:∃x,os[k]?=some x:=⟨_,gE hlt⟩
   obtain⟨hf,ad,rfl,hadl,c0,c1,c2,c3,c4,c5⟩:=HR.out.at_ hx;have HX:=zh hx;clear hx hf;go_wp2_with fail;refine(zZ5 x r g _ HK.out).mono ?_;rintro e w1 ⟨rfl,hb⟩;have NR:=zh (HR.out.keep hb);have NK:=kp hb HK;have NB:=jt H0 hb;clear hb HR HK H0 c0 c1 c2 c3 c4 c5;cases hq:zBd x r
   ·have HQ:=zh hq;clear hq;go_wp2;go_roundw
    case rel=>exact⟨k+1,by omega,by go_num,(fun j y hj h=>by
     rcases Nat.lt_or_ge j k with h'|h'
     ·exact HJ.out j y hj h'
     ·obtain rfl:j=k:=by omega
      rw[HX.out] at hj;obtain rfl:=sj hj;exact HQ.out),NR,NK,NB⟩
    case measure=>simp[intOf];omega
   ·have HQ:=zh (show(os.any fun o=>zBd o r)=true from List.any_eq_true.2 ⟨x,List.mem_of_getElem? HX.out,hq⟩);clear hq;go_wp2;go_ret;exact⟨_,rfl,by rw[HQ.out];simp,NB.out⟩
  ·have HQ:=zh (show(os.any fun o=>zBd o r)=false by
    rw[List.any_eq_false];intro x hx;obtain⟨j,hj⟩:=List.mem_iff_getElem?.1 hx;have hjl:j<os.length:=(List.getElem?_eq_some_iff.1 hj).1;rw[HJ.out j x hj (by omega)];simp)
   go_wp2;go_ret;exact⟨_,rfl,by rw[HQ.out];rfl,H0.out⟩
theorem zOi (A:Option Addr)(cap g:Nat)(os:List Rul)(r:Rul)(w:World)(hR:zAc w A os)(hK:Blk w g 53 r.c)(hn:os.length<=1000000):Calls Tryz.prog 68 #[.slice A os.length cap,clo g] w fun e w'=>e= .returned (.bool (os.any fun o=>zBd o r))/\Below w.heap.size w w':=by
 have HR:=zh hR;have HK:=zh hK;clear hR hK;go_enter Tryz.func68,Tryz.ntmps68;go_wp2_with fail;refine(zVl A cap g os r _ HR.out HK.out hn).mono ?_;rintro e w1 ⟨n,rfl,hq,hb⟩;have HQ:=zh hq;have HB:=zh hb;clear hq hb;go_wp2;go_ret;exact⟨zA1 HQ.out,HB.out⟩
theorem zOs (A:Option Addr)(cap:Nat)(os:List Rul)(r:Rul)(w:World)(hR:zAc w A os)(hn:os.length<=1000000):Calls Tryz.prog 35 #[.slice A os.length cap,r.v] w fun e w'=>e= .returned (.bool (!zE7 os r))/\Below w.heap.size w w':=by
 have HR:=zh hR;have HN:=zh (show(!zE7 os r)=(os.any fun o=>zBd o r) by unfold zE7;rw[Bool.not_not]);clear hR;go_enter Tryz.func35,Tryz.ntmps35;go_wp2_with fail;refine(zOi A cap w.heap.size os r _ (HR.out.alloc _) (Blk.new w 53 r.c) hn).mono ?_;rintro e w1 ⟨rfl,hb⟩;have HB:=zh ((zA0 w _).trans (hb.mono (by simp)));clear hb;rw[<-HN.out];generalize hbe:(!zE7 os r)=b;have HBE:=zh hbe;clear hbe;go_wp2;go_ret;exact⟨zA1 HBE.out.symm,HB.out⟩
theorem zLu (A:Option Addr)(n cap:Nat)(os:List Rul)(r:Rul)(w:World)(hR:zAc w A os)(hl:os.length=n)(hn:n<=1000000):Calls Tryz.prog 35 #[.slice A n cap,r.v] w fun e w'=>e= .returned (.bool (!zE7 os r))/\Below w.heap.size w w':=by
 subst hl;exact zOs A cap os r w hR hn
theorem zV6 (rs:List Rul)(h:64<rs.length):zAd rs=false:=by unfold zAd;rw[decide_eq_false (by omega)];rfl
theorem zQg (rs:List Rul)(h:rs.length<=64):zAd rs=zCd rs rs.length:=by unfold zAd;rw[decide_eq_true h];rfl
theorem zCo (A:Option Addr)(cap:Nat)(rs:List Rul)(w:World)(hR:zAc w A rs)(hc:rs.length<=cap)(_hcap:cap<=9223372036854775807):Calls Tryz.prog 18 #[.slice A rs.length cap] w fun e w'=>e= .returned (.bool (zAd rs))/\Below w.heap.size w w':=by
 have HR:=zh hR;clear hR
 by_cases h64:64<rs.length
 ·rw[zV6 rs h64];go_enter Tryz.func18,Tryz.ntmps18;go_wp2;go_ret;exact⟨rfl,Below.refl _ _⟩
 ·rw[zQg rs (by omega)];go_enter Tryz.func18,Tryz.ntmps18;go_wp2_with fail
  go_loopw [10] (fun i wr=>∃k:Nat,k<=rs.length/\i=qI k/\Hid (zCd rs k=true)/\Hid (zAc wr A rs)/\Hid (Below w.heap.size w wr)) (fun i _=>rs.length -(intOf i).toNat)
  case atStart=>exact⟨0,by omega,rfl,rfl,HR,Below.refl _ _⟩
  case round=>
   clear HR;obtain⟨k,hk,rfl,HV,HR,H0⟩:=hrel
   by_cases hlt:k<rs.length
   ·obtain⟨x,hx⟩:∃x,rs[k]?=some x:=⟨_,gE hlt⟩
    obtain⟨hf,ad,rfl,hadl,c0,c1,c2,c3,c4,c5⟩:=HR.out.at_ hx;have HX:=zh (zGx hx);have HF:=zh hf;have HZ:=zh (@zFu rs (k+1) rs.length);have HT:=zh (HR.out.take k);have HTL:=zh (show(rs.take k).length=k by rw[List.length_take];omega);rw[HV.out,Bool.true_and] at HX;clear hx hf;go_upto_region 6 with(fail)
    have K0:=zh (Blk.new wr 53 x.c);have N0:=zh (HR.out.alloc (.cells x.c 53));have NT:=zh (HT.out.alloc (.cells x.c 53));have NB:=zh (H0.out.alloc H0.out.size (.cells x.c 53));clear HR HT H0 c0 c1 c2 c3 c4 c5;generalize wr.alloc (.cells #[qI x.kind,.string x.sym,.string x.nam,qI x.prec,qI x.left,qI x.right] 53)=w2 at*;generalize wr.heap.size=g at*;have c0:=K0.out.cell;have l0:=K0.out.lt;cases ho:ownB x
    ·have HOW:=zh ho;rw[ho,Bool.false_and] at HX;clear ho
     go_cut [24] (fun b wc=>b= .bool true/\Hid (zAc wc (some ad) rs)/\Hid (Below w.heap.size w wc))
     case first=>
      refine zK8 (by kernel_rfl) ⟨#[.slice (some ad) rs.length cap,undef,u2,qI k,qP g,.slice (some ad) rs.length cap,qI rs.length,.bool (decide (64<(rs.length:Int))),.slice (some ad) rs.length cap,qI rs.length,qI k,.bool true,qI k,.pointer (some (ad.add (k*6))),x.v,x.v,.bool false,.bool true,.bool true,undef,undef,undef,undef,undef,.bool true,u25],[]⟩ [x.v,.bool false,.bool true,.bool true,undef,undef,undef,undef,undef,.bool true] [true,true,true,true,false,false,false,false,false,true] (fun wq=>Hid (Blk wq g 53 x.c)/\Hid (zAc wq (some ad) rs)/\Hid (Below w.heap.size w wq)) (by kernel_rfl) (by kernel_rfl) (by kernel_rfl) ⟨K0.out.drew,N0.out.drew,zA3 NB.out⟩ ?_ ?_
      ·refine⟨fun wq hI=>?_,fun wq hI=>?_,jA,jA,rfl,rfl,rfl,rfl,rfl,jA,trivial⟩
       ·obtain⟨J0,J1,J2⟩:=hI;have cJ:=J0.out.cell;exact jv (x.v) wq (by simp[execOp,Act.eval,go_sem,cJ]) ⟨rfl,J0,J1,J2⟩
       ·obtain⟨J0,J1,J2⟩:=hI;refine jc 34 (#[x.v]) wq (by kernel_rfl) ((zGz x _ HF.out).mono ?_);rintro e wa ⟨rfl,hb⟩;exact⟨_,rfl,by rw[HOW.out],keep hb J0.out,J1.out.keep hb,J2.out.trans (hb.mono J2.out.size)⟩
      ·intro wq hI;go_wp2;go_meet;exact⟨rfl,hI.2.1,hI.2.2⟩
     case rest=>
      clear K0 NT N0 NB c0 l0;obtain⟨rfl,N0,NB⟩:=hcut;go_wp2;go_ret;exact⟨zA1 (HZ.out HX.out (by omega)).symm,NB.out⟩
    ·have HOW:=zh ho;rw[ho,Bool.true_and] at HX;clear ho;cases hfr:zE7 (rs.take k) x
     ·rw[hfr] at HX;have HFR:=zh hfr;clear hfr
      go_cut [24] (fun b wc=>b= .bool true/\Hid (zAc wc (some ad) rs)/\Hid (Below w.heap.size w wc))
      case first=>
       go_region_with (first|(go_at_call 34;refine(zGz x _ HF.out).mono ?_;rintro e wa ⟨rfl,hb5⟩;have MK:=zh (keep hb5 K0.out.drew);have MR:=zh (N0.out.drew.keep hb5);have MT:=zh (NT.out.drew.keep hb5);have MB:=zh ((zA3 NB.out).trans (hb5.mono NB.out.size));clear hb5;have cM:=fun i=>MK.out.cell i;have lM:=MK.out.lt;rw[HOW.out])|(go_at_call 35;refine(zLu (some ad) k cap (rs.take k) x _ MT.out HTL.out (by omega)).mono ?_;rintro e wb ⟨rfl,hb6⟩;have LR:=zh (MR.out.keep hb6);have LB:=jt MB hb6;clear hb6;rw[HFR.out]))
       all_goals (go_wp2;go_meet;exact⟨rfl,LR,LB⟩)
      case rest=>
       clear K0 NT N0 NB c0 l0;obtain⟨rfl,N0,NB⟩:=hcut;go_wp2;go_ret;exact⟨zA1 (HZ.out HX.out (by omega)).symm,NB.out⟩
     ·rw[hfr] at HX;have HFR:=zh hfr;clear hfr
      go_cut [24] (fun b wc=>b= .bool false/\Hid (zAc wc (some ad) rs)/\Hid (Below w.heap.size w wc))
      case first=>
       go_region_with (first|(go_at_call 34;refine(zGz x _ HF.out).mono ?_;rintro e wa ⟨rfl,hb5⟩;have MK:=zh (keep hb5 K0.out.drew);have MR:=zh (N0.out.drew.keep hb5);have MT:=zh (NT.out.drew.keep hb5);have MB:=zh ((zA3 NB.out).trans (hb5.mono NB.out.size));clear hb5;have cM:=fun i=>MK.out.cell i;have lM:=MK.out.lt;rw[HOW.out])|(go_at_call 35;refine(zLu (some ad) k cap (rs.take k) x _ MT.out HTL.out (by omega)).mono ?_;rintro e wb ⟨rfl,hb6⟩;have LR:=zh (MR.out.keep hb6);have LB:=jt MB hb6;clear hb6;rw[HFR.out]))
       all_goals (go_wp2;go_meet;exact⟨rfl,LR,LB⟩)
      case rest=>
       clear K0 NT N0 NB c0 l0;obtain⟨rfl,N0,NB⟩:=hcut;go_wp2;go_roundw
       case rel=>exact⟨k+1,by omega,by go_num,HX.out,N0,NB⟩
       case measure=>simp[intOf];omega
   ·obtain rfl:k=rs.length:=by omega
    go_wp2;go_ret;exact⟨zA1 HV.out.symm,H0.out⟩
theorem zLi (o r:Rul):zBd o r=zBd r o:=by
 unfold zBd;rw[show decide (o.kind=r.kind)=decide (r.kind=o.kind) from decide_eq_decide.2 ⟨Eq.symm,Eq.symm⟩,Bool.beq_comm (a:=o.sym.toList),Bool.beq_comm (a:=o.nam.toList)]
theorem zKd {x:Rul}(hj:os[j]?=some x)(h:zBd r x=true):zE7 os r=false:=by
 unfold zE7;rw[Bool.not_eq_false',List.any_eq_true];exact⟨x,List.mem_of_getElem? hj,by rw[zLi];exact h⟩
theorem zTs (h:∀(j:Nat) x,os[j]?=some x->zBd r x=false):zE7 os r=true:=by
 unfold zE7;rw[Bool.not_eq_true',List.any_eq_false];intro x hx;obtain⟨j,hj⟩:=List.mem_iff_getElem?.1 hx;rw[zLi,h j x hj];simp
theorem zXc (rs:List Rul):zAd rs=(zCd rs rs.length&&decide (rs.length<=64)):=by unfold zAd;rw[Bool.and_comm]
theorem zB8 (A:Option Addr)(cap:Nat)(rs:List Rul)(w:World)(hR:zAc w A rs)(hn:rs.length<=1000000):Calls Tryz.prog 28 #[.slice A rs.length cap] w fun e w'=>e= .returned (.bool (zAd rs))/\Below w.heap.size w w':=by
 have HR:=zh hR;have HVD:=zh (zXc rs);clear hR;go_enter Tryz.func28,Tryz.ntmps28;go_wp2_with fail
 go_loopw [3] (fun i wr=>∃k:Nat,k<=rs.length/\i=qI k/\Hid (zCd rs k=true)/\Hid (zAc wr A rs)/\Hid (Below w.heap.size w wr)) (fun i _=>rs.length -(intOf i).toNat)
 case atStart=>exact⟨0,by omega,rfl,rfl,HR,Below.refl _ _⟩
 case round=>
  clear HR;obtain⟨k,hk,rfl,HV,HR,H0⟩:=hrel
  by_cases hlt:k<rs.length
  ·obtain⟨x,hx⟩:∃x,rs[k]?=some x:=⟨_,gE hlt⟩
   obtain⟨hf,ad,rfl,hadl,c0,c1,c2,c3,c4,c5⟩:=HR.out.at_ hx;have HX:=zh (zGx hx);have HXK:=zh hx;have HZ:=zh (@zFu rs (k+1) rs.length);rw[HV.out,Bool.true_and] at HX;clear hx;go_wp2_with fail;refine(zZo x _ hf).mono ?_;rintro e w1 ⟨rfl,hb⟩;have NR:=zh (HR.out.keep hb);have NB:=jt H0 hb;clear HR H0 hb c0 c1 c2 c3 c4 c5 hf;cases ho:ownB x
   ·rw[ho,Bool.false_and] at HX;clear ho;go_wp2;go_ret;exact⟨zA1 (by rw[HVD.out,HZ.out HX.out (by omega)];rfl),NB.out⟩
   ·rw[ho,Bool.true_and] at HX;clear ho;go_wp2_with fail
    go_loopw [4] (fun i wr=>∃j:Nat,j<=k/\i=qI j/\Hid (∀(m:Nat) y,rs[m]?=some y->m<j->zBd x y=false)/\Hid (zAc wr (some ad) rs)/\Hid (Below w.heap.size w wr)) (fun i _=>k -(intOf i).toNat)
    case atStart=>exact⟨0,by omega,rfl,(fun _ _ _ h=>by omega),NR,NB⟩
    case round=>
     clear NR NB;obtain⟨j,hj,rfl,HJ,HR,H0⟩:=hrel
     by_cases hlj:j<k
     ·obtain⟨y,hy⟩:∃y,rs[j]?=some y:=⟨_,gE (by omega)⟩
      obtain⟨_,ad1,he1,_,c0,c1,c2,c3,c4,c5⟩:=HR.out.at_ HXK.out;obtain rfl:=sj he1;obtain⟨_,ad2,he2,_,d0,d1,d2,d3,d4,d5⟩:=HR.out.at_ hy;obtain rfl:=sj he2;have HY:=zh hy;clear hy he1 he2;cases hq:zBd x y
      ·have HQ:=zh hq;clear hq;go_upto_region 9 with(fail)
       go_cut [30] (fun b wc=>b= .bool false/\Hid (zAc wc (some ad) rs)/\Hid (Below w.heap.size w wc))
       case first=>
        go_region_with (go_at_call 58;refine(zLj x y _).mono ?_;rintro e w2 ⟨rfl,hb5⟩;have MR:=zh (HR.out.drew.keep hb5);have MB:=zh ((zA3 H0.out).trans (hb5.mono H0.out.size));clear hb5;rw[HQ.out])
        all_goals (go_wp2;go_meet;exact⟨rfl,MR,MB⟩)
       case rest=>
        clear HR H0 c0 c1 c2 c3 c4 c5 d0 d1 d2 d3 d4 d5;obtain⟨rfl,HR,H0⟩:=hcut;go_wp2;go_roundw
        case rel=>exact⟨j+1,by omega,by go_num,(fun m z hm h=>by
         rcases Nat.lt_or_ge m j with h'|h'
         ·exact HJ.out m z hm h'
         ·obtain rfl:m=j:=by omega
          rw[HY.out] at hm;obtain rfl:=sj hm;exact HQ.out),HR,H0⟩
        case measure=>simp[intOf];omega
      ·have HQ:=zh hq;have HFF:=zh (zKd (os:=rs.take k) (r:=x) (j:=j) (x:=y) (by rw[List.getElem?_take,if_pos hlj];exact HY.out) hq);rw[HFF.out] at HX;clear hq;go_upto_region 9 with(fail)
       go_cut [30] (fun b wc=>b= .bool true/\Hid (zAc wc (some ad) rs)/\Hid (Below w.heap.size w wc))
       case first=>
        go_region_with (go_at_call 58;refine(zLj x y _).mono ?_;rintro e w2 ⟨rfl,hb5⟩;have MR:=zh (HR.out.drew.keep hb5);have MB:=zh ((zA3 H0.out).trans (hb5.mono H0.out.size));clear hb5;rw[HQ.out])
        all_goals (go_wp2;go_meet;exact⟨rfl,MR,MB⟩)
       case rest=>
        clear HR H0 c0 c1 c2 c3 c4 c5 d0 d1 d2 d3 d4 d5;obtain⟨rfl,HR,H0⟩:=hcut;go_wp2;go_ret;exact⟨zA1 (by rw[HVD.out,HZ.out HX.out (by omega)];rfl),H0.out⟩
     ·have HFT:=zh (zTs (os:=rs.take k) (r:=x) fun m y hm=>by
       rw[List.getElem?_take] at hm
       split at hm
       ·exact HJ.out m y hm (by omega)
       ·cases hm)
      rw[HFT.out] at HX;go_wp2;go_roundw
      case rel=>exact⟨k+1,by omega,by go_num,HX.out,HR,H0⟩
      case measure=>simp[intOf];omega
  ·obtain rfl:k=rs.length:=by omega
   rw[HV.out,Bool.true_and] at HVD;go_wp2;go_ret;exact⟨zA1 (by rw[HVD.out];exact decide_eq_decide.2 (by omega)),H0.out⟩
end
section
variable{m i id:Nat}{o:Oper}{L:Nat->Bool}{a0:Act}{w0:World}
section
variable {P : Program} {ops : Array Oper} {Q : Exit -> Act -> World -> Prop}
def reach (ops:Array Oper)(j:Nat):Nat->Nat->Bool
 |0,_=>false
 |fuel+1,i=>match ops[i]? with
  |some o=>o.after.any fun e=>Region.binds .any e&&(e.on==j||reach ops j fuel e.on)
  |none=>false
def yAm (ops:Array Oper)(us:List Nat)(m:Nat):Bool:=(List.range' m (ops.size -m)).all fun i=>(List.range i).all fun j=>us.contains j||reach ops j ops.size i
def Closed (ops:Array Oper)(L:Nat->Bool):Prop:=∀i o,ops[i]?=some o->L i=true->∀e∈o.after,Region.binds .any e=true->L e.on=true
theorem zAz {L:Nat->Bool}(hc:Closed ops L){j:Nat}:∀{fuel i:Nat} {o:Oper},ops[i]?=some o->(∀e∈o.after,Region.binds .any e=true->L e.on=true)->reach ops j fuel i=true->L j=true
 |0,_,_,_,_,h=>by cases h
 |fuel+1,i,o,ho,hL,h=>by
  rw[reach,ho] at h;obtain⟨e,he,h2⟩:=Array.any_eq_true'.1 h;rw[Bool.and_eq_true,Bool.or_eq_true,beq_iff_eq] at h2;have h3:=hL e he h2.1;rcases h2.2 with h4|h4
  ·rw[<-h4];exact h3
  ·cases ho2:ops[e.on]? with
   |none=>
    cases fuel with
    |zero=>cases h4
    |succ f=>rw[reach,ho2] at h4;cases h4
   |some o2=>exact zAz hc ho2 (hc e.on o2 ho2 h3) h4
abbrev zC4 (ops:Array Oper)(m:Nat):Array Oper:=ops.extract 0 m
theorem yAi (hi:i<m):(zC4 ops m)[i]?=ops[i]?:=by
 rw[Array.getElem?_extract]
 split
 ·simp
 ·rename_i h
  rw[Array.getElem?_eq_none (by omega)]
theorem zRc (h:m<=ops.size):(zC4 ops m).size=m:=by rw[Array.size_extract];omega
theorem zUo {g:Nat}(hg:g<m)(t:Array Value):yielded (zC4 ops m) t g=yielded ops t g:=by unfold yielded;rw[yAi hg]
def zMd (ops:Array Oper):Bool:=(List.range ops.size).all fun i=>match ops[i]? with
 |some o=>o.after.all fun e=> !Region.binds .any e||decide (e.on<i)
 |none=>true
def zM4 (ops:Array Oper)(m:Nat):Bool:=Region.noSelect ops&&zFm (zC4 ops m)&&((zC4 ops m).all (zEa (zC4 ops m)))&&zMd ops
theorem zLk (he:zMd ops=true)(hi:i<m)(ho:ops[i]?=some o)(hop:zEa (zC4 ops m) o=true)(t:Array Value):Region.wanted o (yielded (zC4 ops m) t)=Region.wanted o (yielded ops t):=by
 unfold Region.wanted;cases hg:o.guard with
 |none=>rfl
 |some gw=>
  obtain⟨g,want⟩:=gw;unfold zEa at hop;rw[Bool.and_eq_true,hg] at hop;obtain⟨e,hee,h2⟩:=Array.any_eq_true'.1 hop.2;simp only[Bool.and_eq_true,beq_iff_eq] at h2;have h3:=List.all_eq_true.1 he i (List.mem_range.2 (Array.getElem?_eq_some_iff.1 ho).1);rw[ho] at h3;have h4:=Array.all_eq_true'.1 h3 e hee;rw[h2.2] at h4;have h5:e.on<i:=by simpa using h4
  simp only[zUo (ops:=ops) (m:=m) (g:=g) (by omega)]
theorem zG1 {listed:Array Bool}(hL:L=fun j=>listed.getD j false)(hs:listed.size=ops.size)(hedge:zMd ops=true)(hr:∀i,i∉Region.ready .any ops listed):∀i,i<ops.size->L i=true:=by
 intro i;subst hL
 induction i using Nat.strongRecOn with
 |_ i ih=>
  intro hi;refine Classical.byContradiction fun hn=>hr i ?_
  rw[mem_ready];refine⟨?_,ops[i],Array.getElem?_eq_getElem hi,fun e he hb=>?_⟩
  ·have hil:i<listed.size:=by omega
   simp only[Array.getD_eq_getD_getElem?,Array.getElem?_eq_getElem hil,Option.getD_some] at hn⊢
   simpa using hn
  ·have h1:=List.all_eq_true.1 hedge i (List.mem_range.2 hi);rw[Array.getElem?_eq_getElem hi] at h1;have h2:=Array.all_eq_true'.1 h1 e he;rw[hb] at h2;have h3:e.on<i:=by simpa using h2
   exact ih e.on h3 (by omega)
theorem zD3 (hc:Closed ops L)(ho:ops[i]?=some o)(hb:∀e∈o.after,Region.binds .any e=true->L e.on=true):Closed ops fun j=>L j||j==i:=by
 intro k o' hk hL e he hbe
 by_cases hki:k=i
 ·subst hki;obtain rfl:=Option.some.inj (ho.symm.trans hk);show(L e.on||e.on==k)=true;rw[hb e he hbe];rfl
 ·show(L e.on||e.on==i)=true;rw[hc k o' hk (by simpa [hki] using hL) e he hbe];rfl
theorem zSw {vals:Nat->Value}{Inv:World->Prop}{us:List Nat}(hok:zM4 ops m=true)(htail:yAm ops us m=true)(hmn:m<=ops.size)
  (hstep:∀(i:Nat) (o:Oper) (w:World),i<m->ops[i]?=some o->Inv w->
   if Region.wanted o (yielded ops (fin (zC4 ops m) vals a0).tmps)=true then Gives P (execOp (fin (zC4 ops m) vals a0).eval o) w (fun v w'=>v=vals i/\Inv w') else vals i=undef/\Inv w)
  (hend:∀w:World,Inv w->wpOps P ops Q (List.range' m (ops.size -m)) (fin (zC4 ops m) vals a0) w):
  ∀(fuel:Nat) (listed:Array Bool) (a:Act) (w:World),listed.size=ops.size->(listed.toList.countP (·==false))<=fuel->Closed ops (fun j=>listed.getD j false)->(∀u∈us,listed.getD u false=true)->
   ((zE0 (zC4 ops m) vals a0 (fun j=>listed.getD j false) a/\Inv w/\∀i,m<=i->listed.getD i false=false)\/
    ∃q,m<=q/\q<=ops.size/\(∀i,i<ops.size->listed.getD i false=decide (i<q))/\wpOps P ops Q (List.range' q (ops.size -q)) a w)->
   wpAny P .any ops Q fuel listed a w:=by
 simp only[zM4,Bool.and_eq_true] at hok;have hcs:=zRc (ops:=ops) hmn;obtain⟨⟨⟨hsel,hd⟩,hall⟩,hedge⟩:=hok
 --the tail waits for all that is ahead of it
 have wait:∀(listed:Array Bool) (i:Nat) (o:Oper),Closed ops (fun j=>listed.getD j false)->(∀u∈us,listed.getD u false=true)->m<=i->ops[i]?=some o->(∀e∈o.after,Region.binds .any e=true->listed.getD e.on false=true)->∀j,j<i->listed.getD j false=true:=by
  intro listed i o hc hus hmi ho hb j hj;have hi:i<ops.size:=(Array.getElem?_eq_some_iff.1 ho).1;have h1:=List.all_eq_true.1 htail i (List.mem_range'_1.2 ⟨hmi,by omega⟩);have h2:=List.all_eq_true.1 h1 j (List.mem_range.2 hj);rw[Bool.or_eq_true] at h2;rcases h2 with h2|h2
  ·exact hus j (by simpa using h2)
  ·exact zAz (L:=fun j=>listed.getD j false) hc ho hb h2
 intro fuel
 induction fuel with
 |zero=>
  intro listed a w hs hcnt hc hus hph;have hr:∀i,i∉Region.ready .any ops listed:=by
   intro j hj;rw[mem_ready] at hj;obtain⟨h0,o,hoj,_⟩:=hj;have hjl:j<listed.size:=by rw[hs];exact(Array.getElem?_eq_some_iff.1 hoj).1
   have hf:listed[j]=false:=by simpa [Array.getD_eq_getD_getElem?,Array.getElem?_eq_getElem hjl] using h0
   have:0<listed.toList.countP (·==false):=List.countP_pos_iff.2 ⟨false,by rw[<-hf];simp,rfl⟩;omega
  have hL:=zG1 (ops:=ops) (listed:=listed) rfl hs hedge hr;refine⟨List.eq_nil_iff_forall_not_mem.2 hr,?_⟩;rcases hph with⟨ho,hI,hno⟩|⟨q,hq1,hq2,hq3,hq⟩
  ·have hm2:m=ops.size:=by
    rcases Nat.lt_or_ge m ops.size with h|h
    ·have h1:=hL m h;rw[hno m (Nat.le_refl _)] at h1;cases h1
    ·omega
   have:=hend w hI;rw[show ops.size -m=0 by omega] at this;rw[ho.end (fun i hi=>hL i (by omega))];exact this
  ·have hq4:q=ops.size:=by
    rcases Nat.lt_or_ge q ops.size with h|h
    ·have h1:=hL q h;rw[hq3 q h] at h1;simp at h1
    ·omega
   subst hq4;rw[Nat.sub_self] at hq;exact hq
 |succ fuel ih=>
  intro listed a w hs hcnt hc hus hph
  --a first part that is all done is the tail's beginning
  have hph:(∃j0,j0<m/\listed.getD j0 false=false/\zE0 (zC4 ops m) vals a0 (fun j=>listed.getD j false) a/\Inv w/\∀i,m<=i->listed.getD i false=false)\/
    ∃q,m<=q/\q<=ops.size/\(∀i,i<ops.size->listed.getD i false=decide (i<q))/\wpOps P ops Q (List.range' q (ops.size -q)) a w:=by
   rcases hph with⟨ho,hI,hno⟩|h
   ·by_cases hex:∃j0,j0<m/\listed.getD j0 false=false
    ·obtain⟨j0,h1,h2⟩:=hex;exact .inl ⟨j0,h1,h2,ho,hI,hno⟩
    ·have hal:∀i,i<m->listed.getD i false=true:=fun i hi=>by
      cases h:listed.getD i false with
      |true=>rfl
      |false=>exact absurd ⟨i,hi,h⟩ hex
     refine .inr ⟨m,Nat.le_refl _,hmn,fun i hi=>?_,?_⟩
     ·by_cases him:i<m
      ·rw[hal i him,decide_eq_true him]
      ·rw[hno i (by omega),decide_eq_false him]
     ·rw[ho.end (fun i hi=>hal i (by omega))];exact hend w hI
   ·exact .inr h
  refine⟨fun hr=>?_,fun i hi=>?_⟩
  ·have hL:=zG1 (ops:=ops) (listed:=listed) rfl hs hedge (fun i hi=>by rw[hr] at hi;cases hi);rcases hph with⟨j0,h1,h2,_⟩|⟨q,hq1,hq2,hq3,hq⟩
   ·have:=hL j0 (by omega);rw[h2] at this;cases this
   ·have hq4:q=ops.size:=by
     rcases Nat.lt_or_ge q ops.size with h|h
     ·have h1:=hL q h;rw[hq3 q h] at h1;simp at h1
     ·omega
    subst hq4;rw[Nat.sub_self] at hq;exact hq
  ·rw[mem_ready] at hi;obtain⟨h0,o,hoi,hb⟩:=hi;have hil:i<ops.size:=(Array.getElem?_eq_some_iff.1 hoi).1;have hil':i<listed.size:=by omega
   have hf:listed[i]=false:=by simpa [Array.getD_eq_getD_getElem?,Array.getElem?_eq_getElem hil'] using h0
   have hLi:listed.getD i false=false:=by simp[Array.getD_eq_getD_getElem?,Array.getElem?_eq_getElem hil',hf]
   have hL':(fun j=>(listed.setIfInBounds i true).getD j false)=fun j=>listed.getD j false||j==i:=by
    funext j
    by_cases hij:j=i
    ·subst hij;simp[Array.getD_eq_getD_getElem?,hil']
    ·rw[getD_set_ne false (Ne.symm hij)];simp[hij]
   have hcount:(listed.setIfInBounds i true).toList.countP (·==false)<=fuel:=by
    rw[Array.toList_setIfInBounds];have hl:i<listed.toList.length:=by simpa using hil'
    have hs1:listed.toList.countP (·==false)=(listed.toList.set i true).countP (·==false)+1:=
     zEk _ _ (by rw[List.getElem?_eq_getElem hl];simpa using hf)
    omega
   have hclosed:Closed ops (fun j=>(listed.setIfInBounds i true).getD j false):=by
    rw[hL'];exact zD3 hc hoi hb
   have hsize:(listed.setIfInBounds i true).size=ops.size:=by simpa using hs
   have hus':∀u∈us,(listed.setIfInBounds i true).getD u false=true:=fun u hu=>getD_set_true (hus u hu)
   rcases hph with⟨j0,h1,h2,ho,hI,hno⟩|⟨q,hq1,hq2,hq3,hq⟩
   ·have him:i<m:=by
     rcases Nat.lt_or_ge i m with h|h
     ·exact h
     ·have:=wait listed i o hc hus h hoi hb j0 (by omega);rw[h2] at this;cases this
    have hoi':(zC4 ops m)[i]?=some o:=(yAi him).trans hoi;have hoOk:zEa (zC4 ops m) o=true:=by
     obtain⟨_,hx⟩:=Array.getElem?_eq_some_iff.1 hoi';exact Array.all_eq_true'.1 hall o (by rw[<-hx];exact Array.getElem_mem _)
    obtain⟨hev,hwant⟩:=ho.eval hoOk hb;rw[zLk hedge him hoi hoOk,zLk hedge him hoi hoOk] at hwant;have hexec:execOp a.eval o=execOp (fin (zC4 ops m) vals a0).eval o:=execOp_congr o (fun cs b=>Region.noSelect_spec hsel i o cs b hoi) hev;have hst:=hstep i o w him hoi hI;have hdst:o.dst=zAk (zC4 ops m) i:=by unfold zAk;rw[hoi'];rfl
    have next:∀w',Inv w'->wpAny P .any ops Q fuel (listed.setIfInBounds i true) (a.put o.dst (vals i)) w':=by
     intro w' hI';refine ih _ _ w' hsize hcount hclosed hus' (.inl ⟨?_,hI',fun k hk=>?_⟩)
     ·rw[hL',hdst];exact ho.put hd i (by omega) hLi
     ·rw[getD_set_ne false (by omega)];exact hno k hk
    unfold wpOp;simp only[hoi];rw[hwant]
    by_cases hw:Region.wanted o (yielded ops (fin (zC4 ops m) vals a0).tmps)=true
    ·rw[if_pos hw] at hst⊢;refine .inl (Gives.wp (R:=fun v w'=>v=vals i/\Inv w') (by rw[hexec];exact hst) ?_);rintro v w' ⟨rfl,hI'⟩;exact next w' hI'
    ·rw[if_neg hw] at hst⊢;rw[<-hst.1];exact next w hst.2
   ·have hiq:i=q:=by
     have hq5:=hq3 i hil;rw[hLi] at hq5;have hge:q<=i:=by
      have:=of_decide_eq_false hq5.symm;omega
     rcases Nat.lt_or_ge q i with h|h
     ·have h3:=wait listed i o hc hus (by omega) hoi hb q h;rw[hq3 q (by omega)] at h3;simp at h3
     ·omega
    subst hiq;rw[show ops.size -i=(ops.size -(i+1))+1 by omega,List.range'_succ,wpOps_cons] at hq;refine wpOp_mono (fun a' w' h=>?_) hq;refine ih _ a' w' hsize hcount hclosed hus' (.inr ⟨i+1,by omega,by omega,fun k hk=>?_,h⟩);have e:(listed.setIfInBounds i true).getD k false=(listed.getD k false||k==i):=congrFun hL' k;rw[e,hq3 k hk]
    by_cases hki:k=i
    ·subst hki;simp
    ·by_cases hlt:k<i
     ·rw[decide_eq_true hlt,decide_eq_true (by omega)];rfl
     ·rw[decide_eq_false hlt,decide_eq_false (by omega)];simp[hki]
def yAr (P:Program)(ops:Array Oper):List (Nat×Value)->Array Bool->Act->Prop
 |[],_,_=>True
 |(i,v)::us,listed,a=>(∃o,ops[i]?=some o/\Region.free .any ops listed i=true/\(Region.ready .any ops listed).contains i=true/\Yields P ops o v a)/\yAr P ops us (listed.setIfInBounds i true) (a.put (zAk ops i) v)
def zJt:List (Nat×Value)->Array Bool->Array Bool
 |[],listed=>listed
 |(i,_)::us,listed=>zJt us (listed.setIfInBounds i true)
def yC9 (ops:Array Oper):List (Nat×Value)->Act->Act
 |[],a=>a
 |(i,v)::us,a=>yC9 ops us (a.put (zAk ops i) v)
theorem zJx (hsel:Region.noSelect ops=true)(hQ:∀c a w d v,Q (.panic c) (Act.put a d v) w->Q (.panic c) a w):∀(us:List (Nat×Value)) (fuel:Nat) (listed:Array Bool) (a:Act) (w:World),yAr P ops us listed a->wpAny P .any ops Q fuel (zJt us listed) (yC9 ops us a) w->wpAny P .any ops Q (fuel+us.length) listed a w
 |[],_,_,_,_,_,h=>h
 |(i,v)::us,fuel,_,_,w,⟨⟨o,h1,h2,h3,h4⟩,h5⟩,h=>by
  have hd:o.dst=zAk ops i:=by unfold zAk;rw[h1];rfl
  exact wpAny_take (fuel:=fuel+us.length) h1 hsel h2 h3 (fun c a w=>hQ c a w o.dst v) h4 (by rw[hd];exact zJx hsel hQ us fuel _ _ w h5 h)
theorem zPm (hm:P.follows .mixedOrders=true)(hQ:∀c a w d v,Q (.panic c) (Act.put a d v) w->Q (.panic c) a w)(us:List (Nat×Value))(m:Nat)(F:Act)(vs:List Value)(bs:List Bool)(Inv:World->Prop)(hok:zM4 ops m=true)(hT:yAr P ops us (Array.replicate ops.size false) a0)
  (htail:yAm ops (us.map (·.1)) m=true) (hmn:decide (m<=ops.size)=true)
  (hstart:((List.range ops.size).all fun i=>(zJt us (Array.replicate ops.size false)).getD i false==(us.map (·.1)).contains i)=true)
  (hus:(us.all fun u=>decide (u.1<m))=true) (hfree:((List.range ops.size).all fun i=> !(us.map (·.1)).contains i||((ops[i]?).map fun o=>o.after.isEmpty).getD true)=true)
  (hlen:decide (us.length<=ops.size)=true) (hcount:decide ((zJt us (Array.replicate ops.size false)).toList.countP (·==false)<=ops.size -us.length)=true)
  (hA:yC9 ops us a0=zBz (zC4 ops m) (fun i=>vs.getD i undef) a0 (us.map (·.1)))
  (hF:fin (zC4 ops m) (fun i=>vs.getD i undef) a0=F)
  (hw:((List.range m).map fun i=>((ops[i]?).map fun o=>Region.wanted o (yielded ops F.tmps)).getD true)=bs) (h0:Inv w0.drew) (hE:Each P F Inv (ops.toList.take m) vs bs) (hend:∀w:World,Inv w->wpOps P ops Q (List.range' m (ops.size -m)) F w):(Code.region id ops true).wp P Q a0 w0:=by
 subst hF;have hok':=hok;simp only[zM4,Bool.and_eq_true] at hok';obtain⟨⟨⟨hsel,hd⟩,_⟩,_⟩:=hok';have hmn':m<=ops.size:=of_decide_eq_true hmn;have hcs:=zRc (ops:=ops) hmn';have hlen':us.length<=ops.size:=of_decide_eq_true hlen;have hum:∀u∈us.map (·.1),u<m:=by
  intro u hu;obtain⟨x,hx,rfl⟩:=List.mem_map.1 hu;exact of_decide_eq_true (List.all_eq_true.1 hus x hx)
 have hsz:∀(us:List (Nat×Value)) (l:Array Bool),(zJt us l).size=l.size:=by
  intro us
  induction us with
  |nil=>intro l;rfl
  |cons u us ih=>intro l;obtain⟨i,v⟩:=u;rw[zJt,ih];simp
 have hsize:(zJt us (Array.replicate ops.size false)).size=ops.size:=by rw[hsz];simp
 have hL:∀i,(zJt us (Array.replicate ops.size false)).getD i false=(us.map (·.1)).contains i:=by
  intro i;rcases Nat.lt_or_ge i ops.size with h|h
  ·simpa using List.all_eq_true.1 hstart i (List.mem_range.2 h)
  ·rw[Array.getD_eq_getD_getElem?,Array.getElem?_eq_none (by omega)]
   symm
   rw[Option.getD_none,Bool.eq_false_iff];intro hc;have:=hum i (by simpa using hc);omega
 refine wp_region_any hm ?_;have key:=zJx (P:=P) (Q:=Q) hsel hQ us (ops.size -us.length) (Array.replicate ops.size false) a0 {w0 with drawn:=w0.drawn+1} hT;rw[show(ops.size -us.length)+us.length=ops.size by omega] at key;refine key ?_;refine zSw (vals:=fun i=>vs.getD i undef) (a0:=a0) (Inv:=Inv) (us:=us.map (·.1)) hok htail hmn' (fun i o w him ho hI=>?_) hend _ _ _ _ hsize (of_decide_eq_true hcount) ?_ (fun u hu=>?_) (.inl ⟨?_,h0,fun i hi=>?_⟩)
 ·obtain⟨b,hb,hh⟩:=hE.at_ (i:=i) (o:=o) (by rw[List.getElem?_take,if_pos him,Array.getElem?_toList];exact ho);rw[<-hw,List.getElem?_map,List.getElem?_range him] at hb;simp only[Option.map_some,ho,Option.getD_some,Option.some.injEq] at hb;have:=hh w hI;rw[<-hb] at this;exact this
 ·intro i o ho h e he;have h:(zJt us (Array.replicate ops.size false)).getD i false=true:=h;rw[hL i] at h;have hi:i<ops.size:=(Array.getElem?_eq_some_iff.1 ho).1;have h2:=List.all_eq_true.1 hfree i (List.mem_range.2 hi);rw[h,ho] at h2;have h3:o.after.isEmpty=true:=by simpa using h2
  rw[Array.isEmpty_iff] at h3;rw[h3] at he;simp at he
 ·rw[hL u]
  simpa using hu
 ·rw[hA];refine⟨(zBg _ _ a0).1,(zBg _ _ a0).2,fun i t hit hi=>?_,fun t ht=>?_⟩
  ·have hi:(zJt us (Array.replicate ops.size false)).getD i false=true:=hi;rw[hL i] at hi;have hmem:i∈us.map (·.1):=by simpa using hi
   by_cases hl:t<a0.tmps.size
   ·rw[fin_at hd hit hl,zMf _ hd t i hit _ a0 hmem (fun j hj=>by have:=hum j hj;omega) hl]
   ·rw[Array.getElem?_eq_none (by rw[(zBg _ _ a0).1];exact Nat.le_of_not_lt hl)];exact(Array.getElem?_eq_none (show(zBz (zC4 ops m) _ a0 (List.range (zC4 ops m).size)).tmps.size<=t by rw[(zBg _ _ a0).1];exact Nat.le_of_not_lt hl)).symm
  ·refine zCf _ t _ a0 fun i hi=>ht i ?_
   show(zJt us (Array.replicate ops.size false)).getD i false=true;rw[hL i]
   simpa using hi
 ·rw[hL i,Bool.eq_false_iff];intro hc;have:=hum i (by simpa using hc);omega
theorem zDz {l:List Nat}{a:Act}{w:World}(ho:ops[i]?=some o)(hg:o.guard=none)(h:o.wp P a w (wpOps P ops Q l) Q):wpOps P ops Q (i::l) a w:=by
 rw[wpOps_cons];unfold wpOp;simp only[ho];rw[if_pos (by simp[Region.wanted,hg])];exact .inl h
end
section
variable {P : Program} {ops : Array Oper} {Q : Exit -> Act -> World -> Prop}
def zQ0 (P:Program)(F:Act)(ops:Array Oper)(tr:List Nat)(Inv:List Bool->World->Prop):Nat->List Oper->List Value->List Bool->Prop
 |i,o::os,v::vs,true::bs=>(∀(L:Nat->Bool) (w:World),L i=false->(∀j,reach ops j ops.size i=true->L j=true)->(∀j,reach ops i ops.size j=true->L j=false)->Inv (tr.map L) w->Gives P (execOp F.eval o) w fun u w'=>u=v/\Inv (tr.map fun j=>j==i||L j) w')/\zQ0 P F ops tr Inv (i+1) os vs bs
 |i,_::os,v::vs,false::bs=>(v=undef/\∀(L:Nat->Bool) (w:World),Inv (tr.map L) w->Inv (tr.map fun j=>j==i||L j) w)/\zQ0 P F ops tr Inv (i+1) os vs bs
 |_,[],[],[]=>True
 |_,_,_,_=>False
theorem zQ0.at_ {F:Act}{tr:List Nat}{Inv:List Bool->World->Prop}:∀{n:Nat} {os:List Oper} {vs:List Value} {bs:List Bool},zQ0 P F ops tr Inv n os vs bs->∀{i:Nat} {o:Oper},os[i]?=some o->∃b,bs[i]?=some b/\
  if b=true then(∀(L:Nat->Bool) (w:World),L (n+i)=false->(∀j,reach ops j ops.size (n+i)=true->L j=true)->(∀j,reach ops (n+i) ops.size j=true->L j=false)->Inv (tr.map L) w->Gives P (execOp F.eval o) w fun u w'=>u=vs.getD i undef/\Inv (tr.map fun j=>j==(n+i)||L j) w')
  else vs.getD i undef=undef/\∀(L:Nat->Bool) (w:World),Inv (tr.map L) w->Inv (tr.map fun j=>j==(n+i)||L j) w
 |n,[],[],[],_,i,o,h=>by simp at h
 |n,o::os,v::vs,true::bs,⟨h1,h2⟩,0,o',h=>by
  obtain rfl:o=o':=by simpa using h
  exact⟨true,rfl,by rw[if_pos rfl];exact h1⟩
 |n,o::os,v::vs,false::bs,⟨h1,h2⟩,0,o',h=>⟨false,rfl,by rw[if_neg (by simp)];exact h1⟩
 |n,o::os,v::vs,true::bs,⟨h1,h2⟩,i+1,o',h=>by
  obtain⟨b,hb,hh⟩:=zQ0.at_ h2 (i:=i) (o:=o') (by simpa using h);rw[show n+1+i=n+(i+1) by omega] at hh;exact⟨b,by simpa using hb,by simpa using hh⟩
 |n,o::os,v::vs,false::bs,⟨h1,h2⟩,i+1,o',h=>by
  obtain⟨b,hb,hh⟩:=zQ0.at_ h2 (i:=i) (o:=o') (by simpa using h);rw[show n+1+i=n+(i+1) by omega] at hh;exact⟨b,by simpa using hb,by simpa using hh⟩
 |_,[],[],_::_,h,_,_,_=>h.elim
 |_,[],_::_,_,h,_,_,_=>h.elim
 |_,_::_,[],_,h,_,_,_=>h.elim
 |_,_::_,_::_,[],h,_,_,_=>h.elim
theorem zFi (tr:List Nat)(L:Nat->Bool)(i:Nat):(tr.map fun j=>L j||j==i)=tr.map fun j=>j==i||L j:=by
 congr 1;funext j;rw[Bool.or_comm]
theorem zG8 {ops:Array Oper}{j:Nat}:∀{fuel i:Nat},reach ops j fuel i=true->∃o,ops[i]?=some o
 |0,_,h=>by cases h
 |fuel+1,i,h=>by
  rw[reach] at h;cases ho:ops[i]? with
  |none=>rw[ho] at h;cases h
  |some o=>exact⟨o,rfl⟩
theorem zIs (hm:P.follows .mixedOrders=true)(F:Act)(vs:List Value)(bs:List Bool)(tr:List Nat)(Inv:List Bool->World->Prop)(hok:zHv ops=true)(hF:fin ops (fun i=>vs.getD i undef) a0=F)
  (hw:((List.range ops.size).map fun i=>((ops[i]?).map fun o=>Region.wanted o (yielded ops F.tmps)).getD true)=bs) (htr:(tr.all fun i=>decide (i<ops.size))=true) (h0:Inv (tr.map fun _=>false) w0.drew) (hE:zQ0 P F ops tr Inv 0 ops.toList vs bs) (hend:∀w:World,Inv (tr.map fun _=>true) w->Q .normal F w):(Code.region id ops true).wp P Q a0 w0:=by
 subst hF;refine wp_region_any hm ?_;refine zKx (vals:=fun i=>vs.getD i undef) (a0:=a0) (Inv:=fun L w=>Closed ops L/\Inv (tr.map L) w) hok (fun i o L w ho hLi hb hI=>?_) (fun L w hL hI=>?_) ops.size (Array.replicate ops.size false) a0 _ (by simp) (by
  refine Nat.le_trans (List.countP_le_length) ?_;simp) ⟨rfl,rfl,fun i t _ h=>?_,fun _ _=>rfl⟩ ⟨fun i o _ h=>?_,?_⟩
 ·obtain⟨hc,hI⟩:=hI;have hi:i<ops.size:=(Array.getElem?_eq_some_iff.1 ho).1;obtain⟨b,hb2,hh⟩:=hE.at_ (i:=i) (o:=o) (by rw[Array.getElem?_toList];exact ho);rw[Nat.zero_add] at hh;rw[<-hw,List.getElem?_map,List.getElem?_range hi] at hb2;simp only[Option.map_some,ho,Option.getD_some,Option.some.injEq] at hb2;have hca:=zD3 hc ho hb;rw[hb2]
  split
  ·rename_i hbt
   rw[if_pos hbt] at hh;have hg:=hh L w hLi (fun j hj=>zAz hc ho hb hj) (fun j hj=>by
    cases hLj:L j with
    |false=>rfl
    |true=>
     obtain⟨oj,hoj⟩:=zG8 hj;have:=zAz hc hoj (hc j oj hoj hLj) hj;rw[hLi] at this;cases this) hI
   unfold Gives at hg⊢;revert hg;generalize (execOp (fin ops (fun i=>vs.getD i undef) a0).eval o).run P w=x;cases x with
   |halt e w'=>exact fun h=>h
   |ok n w'=>
    cases n with
    |value v=>exact fun h=>⟨h.1,hca,by rw[zFi];exact h.2⟩
    |skip=>exact fun h=>⟨h.1,hca,by rw[zFi];exact h.2⟩
    |enter f args=>exact fun h=>Calls.mono h fun e w'' ⟨v,h1,h2,h3⟩=>⟨v,h1,h2,hca,by rw[zFi];exact h3⟩
    |_=>exact fun h=>h
  ·rename_i hbt
   rw[if_neg hbt] at hh;exact⟨hh.1,hca,by rw[zFi];exact hh.2 L w hI⟩
 ·have e:tr.map L=tr.map fun _=>true:=List.map_congr_left fun i hi=>by
   have:=List.all_eq_true.1 htr i hi;exact hL i (by simpa using this)
  rw[<-e] at hend;exact hend w hI.2
 ·rw[Array.getD_eq_getD_getElem?,Array.getElem?_replicate] at h
  split at h<;>simp at h
 ·dsimp only at h;rw[Array.getD_eq_getD_getElem?,Array.getElem?_replicate] at h
  split at h<;>simp at h
 ·have e:(fun j=>(Array.replicate ops.size false).getD j false)=fun _=>false:=by
   funext j
   rw[Array.getD_eq_getD_getElem?,Array.getElem?_replicate]
   split<;>rfl
  rw[e];exact h0
end
end
end Go.Proofs.YtapgncbegadbnaaGreatDoor
