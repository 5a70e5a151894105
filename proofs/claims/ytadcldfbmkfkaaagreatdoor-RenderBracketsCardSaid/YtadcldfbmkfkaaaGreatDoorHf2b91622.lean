/- What the reference computes of a list, plain; that it is what the program computes. -/
import Derived.Test.YtadcldfbmkfkaaaGreatDoorH68eab11a
namespace Go.Proofs.YtadcldfbmkfkaaaGreatDoor.El
open At Ch Sp Sy Go.RowKit
mutual
def pfxR (rs:List Rul):Rd→List Int
 | .mk r a ks=>(if 0≤r∧kndR rs r=2 then[a] else[])++pfxL rs ks
def pfxL (rs:List Rul):List Rd→List Int
 |[]=>[]
 |k::ks=>pfxR rs k++pfxL rs ks
end
theorem zLa {rs:List Rul}{x:Rd}{i j:Nat}(h:OkR rs x i j):∀q:Int,q∈pfxR rs x↔∃n:Int,(q,n)∈asgR rs x (j:Int)∧kndR rs n=2:=by
 induction h with
 |leaf i=>intro q;rw[zL7,pfxR];simp[pfxL]
 |inf n u i k j y z hu hk h1 h2 hz a b ha hb=>
  intro q;rw[zHg hu hk hz,pfxR,pfxL,pfxL,pfxL,if_neg (by rw[zB5 hu,hk];omega)];simp only[List.nil_append,List.append_nil,List.mem_append,ha,hb,List.mem_cons];constructor
  ·rintro(⟨m,h3,h4⟩|⟨m,h3,h4⟩)
   ·exact⟨m,.inr (.inl h3),h4⟩
   ·exact⟨m,.inr (.inr h3),h4⟩
  ·rintro⟨m,h3|h3|h3,h4⟩
   ·injection h3 with _ h3;rw[h3,zB5 hu,hk] at h4;omega
   ·exact .inl ⟨m,h3,h4⟩
   ·exact .inr ⟨m,h3,h4⟩
 |pre n u i j y hu hk h1 a ha=>
  intro q;rw[zHc hu hk,pfxR,pfxL,pfxL,if_pos ⟨by omega,by rw[zB5 hu,hk]⟩];simp only[List.append_nil,List.mem_append,ha,List.mem_cons];constructor
  ·rintro((rfl|h3)|⟨m,h3,h4⟩)
   ·exact⟨(n:Int),.inl rfl,by rw[zB5 hu,hk]⟩
   ·cases h3
   ·exact⟨m,.inr h3,h4⟩
  ·rintro⟨m,h3|h3,h4⟩
   ·injection h3 with h3 _;exact .inl (.inl h3)
   ·exact .inr ⟨m,h3,h4⟩
 |pos n u i j y hu hk h1 a ha=>
  intro q;rw[zHn hu hk (by omega),pfxR,pfxL,pfxL,if_neg (by rw[zB5 hu,hk];omega)];simp only[List.nil_append,List.append_nil,ha,List.mem_cons];constructor
  ·rintro⟨m,h3,h4⟩;exact⟨m,.inr h3,h4⟩
  ·rintro⟨m,h3|h3,h4⟩
   ·injection h3 with _ h3;rw[h3,zB5 hu,hk] at h4;omega
   ·exact⟨m,h3,h4⟩
 |jux n u i k j y z hu hk h1 h2 hz a b ha hb=>
  intro q;rw[zH9 hu hk hz,pfxR,pfxL,pfxL,pfxL,if_neg (by rw[zB5 hu,hk];omega)];simp only[List.nil_append,List.append_nil,List.mem_append,ha,hb];constructor
  ·rintro(⟨m,h3,h4⟩|⟨m,h3,h4⟩)
   ·exact⟨m,.inl h3,h4⟩
   ·exact⟨m,.inr h3,h4⟩
  ·rintro⟨m,h3|h3,h4⟩
   ·exact .inl ⟨m,h3,h4⟩
   ·exact .inr ⟨m,h3,h4⟩
theorem zKu:∀(ws:List (Int×Int)) (l:List Int) (q:Nat),(∀p∈ws,p.1.toNat≠q)→(ws.foldl (fun l p=>l.set p.1.toNat p.2) l)[q]?=l[q]?
 |[],_,_,_=>rfl
 |p::ws,l,q,h=>by
  rw[List.foldl_cons,zKu ws _ q fun r hr=>h r (List.mem_cons_of_mem _ hr),List.getElem?_set_ne (h p List.mem_cons_self)]
theorem fold_at:∀(ws:List (Int×Int)) (l:List Int),(ws.map Prod.fst).Nodup→(∀p∈ws,0≤p.1∧p.1.toNat<l.length)→∀(q:Nat) (n:Int),((q:Int),n)∈ws→(ws.foldl (fun l p=>l.set p.1.toNat p.2) l)[q]?=some n
 |[],_,_,_,_,_,h=>by cases h
 |p::ws,l,hn,hr,q,n,h=>by
  rw[List.map_cons,List.nodup_cons] at hn;rw[List.foldl_cons];rcases List.mem_cons.1 h with h|h
  ·rw[zKu ws _ q,←h,Int.toNat_natCast,List.getElem?_set_self]
   ·have:=(hr p List.mem_cons_self).2;rw[←h] at this
    simpa using this
   ·intro r hr2 e;have h1:=(hr r (List.mem_cons_of_mem _ hr2)).1;refine hn.1 (List.mem_map.2 ⟨r,hr2,?_⟩);rw[←h];show r.1=(q:Int);omega
  ·refine fold_at ws _ hn.2 (fun r hr2=>?_) q n h;rw[List.length_set];exact hr r (List.mem_cons_of_mem _ hr2)
theorem zEp {rs:List Rul}{x:Rd}{j:Nat}(h:OkR rs x 0 j){q:Nat}{n:Int}(hm:((q:Int),n)∈asgR rs x (j:Int)):(zGd (asgR rs x (j:Int)) j).getD q 0=n:=by
 unfold zGd;rw[List.getD_eq_getElem?_getD,fold_at _ _ (zU8 h) (fun p hp=>?_) q n hm]
 ·rfl
 ·obtain⟨a,b,rfl,_,h2,_⟩:=zEe h p hp;rw[List.length_replicate,Int.toNat_natCast];exact⟨by show(0:Int)≤(a:Int);omega,h2⟩
theorem cover {rs:List Rul}{ts:List ByteArray}:∀(m i j:Nat) (x:Rd),j -i≤m→x∈allR rs ts i j→∀q,i≤q→q<j→tokB ts q zE0=true∨∃n:Nat,((q:Int),(n:Int))∈asgR rs x (j:Int)
 |0,i,j,x,hm,h=>by have:=zDy h;omega
 |m+1,i,j,x,hm,h=>by
  intro q h1 h2;have hij:=zDy h;rcases(zHp hij).1 h with⟨rfl,ht,rfl⟩|⟨n,u,hu,hr⟩
  ·obtain rfl:q=i:=by omega
   exact .inl ht
  ·rcases hr with⟨hk,k,y,z,h3,h4,_,hy,hz,rfl⟩|⟨hk,y,_,hy,rfl⟩|⟨hk,y,_,hy,rfl⟩|⟨hk,k,y,z,h3,h4,hy,hz,rfl⟩
   ·rw[zHg hu hk (zAr hz).1];rcases Nat.lt_trichotomy q k with h5|rfl|h5
    ·rcases cover m i k y (by omega) (zAd.1 hy).1 q h1 h5 with h6|⟨c,h6⟩
     ·exact .inl h6
     ·exact .inr ⟨c,List.mem_cons_of_mem _ (List.mem_append_left _ h6)⟩
    ·exact .inr ⟨n,List.mem_cons_self⟩
    ·rcases cover m (k+1) j z (by omega) (zAd.1 hz).1 q (by omega) h2 with h6|⟨c,h6⟩
     ·exact .inl h6
     ·exact .inr ⟨c,List.mem_cons_of_mem _ (List.mem_append_right _ h6)⟩
   ·rw[zHc hu hk]
    by_cases h5:q=i
    ·subst h5;exact .inr ⟨n,List.mem_cons_self⟩
    ·rcases cover m (i+1) j y (by omega) (zAd.1 hy).1 q (by omega) h2 with h6|⟨c,h6⟩
     ·exact .inl h6
     ·exact .inr ⟨c,List.mem_cons_of_mem _ h6⟩
   ·rw[zHn hu hk (by omega)]
    by_cases h5:q=j -1
    ·subst h5;exact .inr ⟨n,List.mem_cons_self⟩
    ·rcases cover m i (j -1) y (by omega) (zAd.1 hy).1 q h1 (by omega) with h6|⟨c,h6⟩
     ·exact .inl h6
     ·exact .inr ⟨c,List.mem_cons_of_mem _ h6⟩
   ·rw[zH9 hu hk (zAr hz).1]
    by_cases h5:q<k
    ·rcases cover m i k y (by omega) (zAd.1 hy).1 q h1 h5 with h6|⟨c,h6⟩
     ·exact .inl h6
     ·exact .inr ⟨c,List.mem_append_left _ h6⟩
    ·rcases cover m k j z (by omega) (zAd.1 hz).1 q (by omega) h2 with h6|⟨c,h6⟩
     ·exact .inl h6
     ·exact .inr ⟨c,List.mem_append_right _ h6⟩
theorem zXo {rs:List Rul}{ts:List ByteArray}{x:Rd}{j:Nat}(hx:x∈allR rs ts 0 j){q:Nat}(hq:q<j)(ht:tokB ts q zE0=false):decide ((q:Int)∈pfxR rs x)=decide (kndR rs ((zGd (asgR rs x (j:Int)) j).getD q 0)=2):=by
 have hok:=zBv _ 0 j x (Nat.le_refl _) hx;rcases cover _ 0 j x (Nat.le_refl _) hx q (Nat.zero_le _) hq with h|⟨n,h⟩
 ·rw[h] at ht;cases ht
 ·rw[zEp hok h];refine decide_eq_decide.2 ⟨fun h1=>?_,fun h1=>(zLa hok _).2 ⟨_,h,h1⟩⟩;obtain⟨m,h2,h3⟩:=(zLa hok _).1 h1;have h4:=zEp hok h;rw[zEp hok h2] at h4;rw[←h4];exact h3
def zDd (n:Tre)(k:Nat):ByteArray×ByteArray:=
 if n.kind=5 then(divS,zCy)
 else if n.kind=6 then(if k=1 then zR2 else zC8,zC8)
 else if n.kind=7 then(indS,subS) else if n.kind=8 then(powS,supS) else if n.kind=9 then(zYc,zCg)
 else if n.kind=10 then(n.text,accS)
 else if n.kind=12 then(matS,matS++bys (Lib.decDigits n.cols.toNat))
 else((if n.text.data.toList=[124,124] then absS else grpS),fenS++n.text)
def opdT (n:Tre)(ts:List Trm):Trm:=
 if n.kind=2 then .mk 2 n.text ⟨#[]⟩ ⟨#[]⟩ [] else if n.kind=3 then .mk 1 n.text ⟨#[]⟩ ⟨#[]⟩ [] else if n.kind=4 then .mk 3 n.text ⟨#[]⟩ ⟨#[]⟩ []
 else .mk 4 (zDd n ts.length).1 ⟨#[]⟩ (zDd n ts.length).2 ts
def sltF (rs:List Rul)(M:List Tre→List Int→Nat→Mea Trm)(n:Tre)(path:List Int)(op pre:Bool):Mea (List Trm):=
 if op=true then zAp M path n.kids.tail 1 (if(varN rs n pre).isSome then 2 else 0)
 else match n.kids with
  |d::ks=>if n.kind=6∧d.kids.isEmpty=true then zAp M path ks 1 0 else zAp M path (d::ks) 0 0
  |[]=>.ok []
def sfxS (k:Int):ByteArray:=if k=7 then subS else if k=8 then supS else if k=9 then zCg else⟨#[]⟩
def zerN:Tre:=.mk 0 ⟨#[]⟩ 0 []
def mkB (rs:List Rul)(nam:ByteArray)(k:Int)(p:Option (Tre×List Trm))(args:List Trm):Trm:=match p with
 |none=>.mk 4 nam ⟨#[]⟩ (zCz k) args
 |some (n,ts)=>match varN rs n (decide (k=2)) with
  |none=>.mk 4 nam ⟨#[]⟩ (zCz k++sfxS n.kind) (ts++args)
  |some v=>.mk 5 nam v (zE8++sfxS n.kind) (ts++args)
mutual
def bldR (rs:List Rul)(items:List Tre)(xs:List (List Trm)):Rd→Int→Trm
 | .mk r a ks,fin=>if r<0 then opdT ((items[a.toNat]?).getD zerN) ((xs[a.toNat]?).getD [])
  else mkB rs (zI8 rs r) (kndR rs r) (if 0≤opI rs (.mk r a ks) fin then some ((items[(opI rs (.mk r a ks) fin).toNat]?).getD zerN,(xs[(opI rs (.mk r a ks) fin).toNat]?).getD []) else none) (bldL rs items xs ks (zB0 rs (.mk r a ks) fin))
def bldL (rs:List Rul)(items:List Tre)(xs:List (List Trm)):List Rd→List Int→List Trm
 |k::ks,e::es=>bldR rs items xs k e::bldL rs items xs ks es
 |_,_=>[]
end
def zD5 (rs:List Rul)(M:List Tre→List Int→Nat→Mea Trm)(path:List Int)(pb:Nat→Bool)(k:Nat):List Tre→List ByteArray→Nat→Mea (List (List Trm))
 |n::ns,t::ts,i=>(sltF rs M n (path++[((k+i:Nat):Int)]) (!decide (t.data.toList=[35])) (pb i)).then_ fun p=>(zD5 rs M path pb k ns ts (i+1)).then_ fun ps=>.ok (p::ps)
 |_,_,_=>.ok []
def zK3 (rs:List Rul)(t:ByteArray)(n:Tre)(kd:Int)(ts:List Trm):Prt:=
 if t.data.toList=[35] then⟨opdT n ts,[],⟨#[]⟩,⟨#[]⟩⟩ else if n.kind=2 then zerP else⟨zerT,ts,endS n.kind,(varN rs n (decide (kd=2))).getD ⟨#[]⟩⟩
def zIs (rs:List Rul)(kd:Nat→Int):List Tre→List ByteArray→List (List Trm)→Nat→List Prt
 |n::ns,t::ts,x::xs,i=>zK3 rs t n (kd i) x::zIs rs kd ns ts xs (i+1)
 |_,_,_,_=>[]
theorem zSr (rs:List Rul)(kd:Nat→Int):∀(ns:List Tre) (ts:List ByteArray) (xs:List (List Trm)) (i q:Nat) (n:Tre) (t:ByteArray) (x:List Trm),ns[q]?=some n→ts[q]?=some t→xs[q]?=some x→(zIs rs kd ns ts xs i)[q]?=some (zK3 rs t n (kd (i+q)) x)
 |[],_,_,_,q,_,_,_,h,_,_=>by simp at h
 |_::_,[],_,_,q,_,_,_,_,h,_=>by simp at h
 |_::_,_::_,[],_,q,_,_,_,_,_,h=>by simp at h
 |a::ns,b::ts,c::xs,i,0,n,t,x,h1,h2,h3=>by
  rw[List.getElem?_cons_zero] at h1 h2 h3;injection h1 with h1;injection h2 with h2;injection h3 with h3;subst h1;subst h2;subst h3;rfl
 |a::ns,b::ts,c::xs,i,q+1,n,t,x,h1,h2,h3=>by
  rw[List.getElem?_cons_succ] at h1 h2 h3;rw[zIs,List.getElem?_cons_succ,zSr rs kd ns ts xs (i+1) q n t x h1 h2 h3,show i+1+q=i+(q+1) by omega]
theorem zJ3 {M:List Tre→List Int→Nat→Mea Trm}{path:List Int}:∀{ks:List Tre} {s b:Nat} {ts:List Trm},zAp M path ks s b= .ok ts→ts.length=ks.length
 |[],_,_,ts,h=>by rw[zAp] at h;injection h with h;rw[←h];rfl
 |n::ns,s,b,ts,h=>by
  rw[zAp] at h;cases h1:M n.kids (path++[(s:Int)]) b with
  |bad e p=>rw[h1] at h;cases h
  |ok t=>
   rw[h1] at h;simp only[Mea.then_] at h;cases h2:zAp M path ns (s+1) 0 with
   |bad e p=>rw[h2] at h;cases h
   |ok us=>
    rw[h2] at h;simp only at h;injection h with h;rw[←h,List.length_cons,List.length_cons,zJ3 h2]
def kindOk (n:Tre):Prop:=(n.kind=2∨n.kind=3∨n.kind=4→n.kids=[])∧(n.kind=6→n.kids.length=2)
theorem zVf {rs:List Rul}{M:List Tre→List Int→Nat→Mea Trm}{n:Tre}{path:List Int}{pre:Bool}(h:kindOk n):zBu M n path=(sltF rs M n path false pre).then_ fun ts=>.ok ⟨opdT n ts,[],⟨#[]⟩,⟨#[]⟩⟩:=by
 unfold zBu sltF opdT;rw[if_neg (by decide:¬(false=true))]
 by_cases h2:n.kind=2
 ·rw[if_pos h2,h.1 (.inl h2)];simp only[Mea.then_,if_pos h2]
 rw[if_neg h2]
 by_cases h3:n.kind=3
 ·rw[if_pos h3,h.1 (.inr (.inl h3))];simp only[Mea.then_,if_pos h3,if_neg h2]
 rw[if_neg h3]
 by_cases h4:n.kind=4
 ·rw[if_pos h4,h.1 (.inr (.inr h4))];simp only[Mea.then_,if_pos h4,if_neg h2,if_neg h3]
 rw[if_neg h4];simp only[if_neg h2,if_neg h3,if_neg h4]
 by_cases h6:n.kind=6
 ·have hk:=h.2 h6
  match hq:n.kids with
  |[]=>rw[hq] at hk;simp at hk
  |d::ks=>
   rw[hq,List.length_cons] at hk;dsimp only;have hsh:∀m:Nat,(zB3 n=zDd n m)↔(if d.kids.isEmpty=true then zR2 else zC8)=(if m=1 then zR2 else zC8):=by
    intro m;unfold zB3 zDd;have h5:¬n.kind=5:=by omega
    rw[if_neg h5,if_pos h6,if_neg h5,if_pos h6,hq];dsimp only;rw[Prod.mk.injEq];exact⟨fun e=>e.1,fun e=>⟨e,rfl⟩⟩
   by_cases hd:d.kids.isEmpty=true
   ·rw[if_pos ⟨h6,hd⟩];cases hs:zAp M path ks 1 0 with
    |bad e p=>rfl
    |ok ts=>
     have:=zJ3 hs;simp only[Mea.then_];rw[(hsh ts.length).2 (by rw[if_pos hd,if_pos (by omega)])]
   ·rw[if_neg (fun e=>hd e.2)];cases hs:zAp M path (d::ks) 0 0 with
    |bad e p=>rfl
    |ok ts=>
     have:=zJ3 hs;rw[List.length_cons] at this;simp only[Mea.then_];rw[(hsh ts.length).2 (by rw[if_neg hd,if_neg (by omega)])]
 ·have hsh:∀m:Nat,zB3 n=zDd n m:=by
   intro m;unfold zB3 zDd;rw[if_neg h6,if_neg h6]
  congr 1
  funext ts
  rw[hsh ts.length]
theorem zWm {rs:List Rul}{M:List Tre→List Int→Nat→Mea Trm}{n:Tre}{path:List Int}{pre:Bool}(h:kindOk n):scrF rs M n path pre=(sltF rs M n path true pre).then_ fun ts=>.ok (if n.kind=2 then zerP else⟨zerT,ts,endS n.kind,(varN rs n pre).getD ⟨#[]⟩⟩):=by
 unfold scrF sltF;rw[if_pos rfl]
 by_cases h2:n.kind=2
 ·rw[if_pos h2,h.1 (.inl h2),List.tail_nil,zAp];simp only[Mea.then_,if_pos h2]
 ·rw[if_neg h2];simp only[if_neg h2]
theorem zKq {rs:List Rul}{M:List Tre→List Int→Nat→Mea Trm}{path:List Int}{pb:Nat→Bool}{kd:Nat→Int}{k:Nat}:∀(ns:List Tre) (ts:List ByteArray) (i:Nat),(∀n∈ns,kindOk n)→(∀(q:Nat) (t:ByteArray),ts[q]?=some t→t.data.toList≠[35]→pb (i+q)=decide (kd (i+q)=2))→
  zAy rs M path kd k ns ts i=(zD5 rs M path pb k ns ts i).then_ fun xs=>.ok (zIs rs kd ns ts xs i)
 |[],_,_,_,_=>by simp[zAy,zD5,Mea.then_,zIs]
 |_::_,[],_,_,_=>by simp[zAy,zD5,Mea.then_,zIs]
 |n::ns,t::ts,i,hk,hp=>by
  have ih:=zKq (rs:=rs) (M:=M) (path:=path) (pb:=pb) (kd:=kd) (k:=k) ns ts (i+1) (fun m hm=>hk m (List.mem_cons_of_mem _ hm)) (fun q u hu hne=>by have:=hp (q+1) u (by simpa using hu) hne;rw[show i+1+q=i+(q+1) by omega];exact this);rw[zAy,zD5,ih];have hkn:=hk n List.mem_cons_self;have hh:(if t.data.toList=[35] then zBu M n (path++[((k+i:Nat):Int)]) else scrF rs M n (path++[((k+i:Nat):Int)]) (decide (kd i=2)))=(sltF rs M n (path++[((k+i:Nat):Int)]) (!decide (t.data.toList=[35])) (pb i)).then_ fun x=>.ok (zK3 rs t n (kd i) x):=by
   by_cases h:t.data.toList=[35]
   ·rw[if_pos h,decide_eq_true h,Bool.not_true,zVf (rs:=rs) (pre:=pb i) hkn]
    congr 1
    funext x
    unfold zK3;rw[if_pos h]
   ·have:=hp 0 t rfl h;rw[Nat.add_zero] at this;rw[if_neg h,decide_eq_false h,Bool.not_false,this,zWm hkn]
    congr 1
    funext x
    unfold zK3;rw[if_neg h]
  rw[hh];cases sltF rs M n (path++[((k+i:Nat):Int)]) (!decide (t.data.toList=[35])) (pb i) with
  |bad e p=>rfl
  |ok x=>
   simp only[Mea.then_];cases zD5 rs M path pb k ns ts (i+1) with
   |bad e p=>rfl
   |ok xs=>simp only[zIs]
theorem yBd {l:List UInt8}(h:idB l=true):l≠[]:=by
 rintro rfl;revert h;decide
theorem zYp {rs:List Rul}{n:Tre}{p:Bool}{v:ByteArray}(h:varN rs n p=some v):v.data.toList≠[]∧(n.kind=7∨n.kind=9)∧p=true:=by
 unfold varN at h
 split at h
 ·next hk=>
  refine⟨?_,hk.2,hk.1⟩
  split at h
  ·unfold zMk at h
   split at h
   ·split at h
    ·next hc=>injection h with h;rw[←h];exact yBd hc.1.2.1
    ·cases h
   ·cases h
  ·cases h
 ·cases h
theorem zZ8 {rs:List Rul}{t:ByteArray}{n:Tre}{kd:Int}{ts:List Trm}{nam:ByteArray}{args:List Trm}(ht:t.data.toList≠[35])(hk:n.kind=2∨scrB n.kind=true)(h0:n.kind=2→ts=[]):mkOp nam kd (some (zK3 rs t n kd ts)) args=mkB rs nam kd (some (n,ts)) args:=by
 unfold zK3;rw[if_neg ht]
 by_cases h2:n.kind=2
 ·rw[if_pos h2,h0 h2];have hv:varN rs n (decide (kd=2))=none:=by
   cases hv:varN rs n (decide (kd=2)) with
   |none=>rfl
   |some v=>have:=(zYp hv).2.1;omega
  unfold mkOp mkB;dsimp only;rw[hv,if_pos (by decide:zerP.vr.data.toList=[])];dsimp only;have hs:sfxS n.kind=⟨#[]⟩:=by unfold sfxS;rw[if_neg (by omega),if_neg (by omega),if_neg (by omega)]
  rw[hs];rfl
 ·rw[if_neg h2];have hk2:=hk.resolve_left h2;unfold scrB at hk2;have hk3:=of_decide_eq_true hk2;have hs:sfxS n.kind=endS n.kind:=by
   unfold sfxS endS
   split
   ·rfl
   split
   ·rfl
   ·rw[if_pos (by omega)]
  unfold mkOp mkB;dsimp only;rw[hs];cases hv:varN rs n (decide (kd=2)) with
  |none=>
   rw[if_pos (by decide)]
  |some v=>
   rw[if_neg (by rw[Option.getD_some];exact(zYp hv).1)];rfl
theorem zYi {rs:List Rul}{n:Nat}{u:Rul}{i k j:Nat}{y z:Rd}(hu:rs[n]?=some u)(hk:u.kind=1)(hz:z.at_=((k+1:Nat):Int)):opI rs (.mk n i [y,z]) (j:Int)=(k:Int)∧zB0 rs (.mk n i [y,z]) (j:Int)=[(k:Int),(j:Int)]:=by
 unfold opI zB0 zHa;rw[show Rd.rule (.mk n i [y,z])=(n:Int) from rfl,zB5 hu,if_pos hk,if_pos hk];show z.at_ -1=_∧[z.at_ -1,_]=_;rw[hz,show(((k+1:Nat):Int) -1)=(k:Int) by omega];exact⟨rfl,rfl⟩
theorem zYm {rs:List Rul}{n:Nat}{u:Rul}{i j:Nat}{y:Rd}(hu:rs[n]?=some u)(hk:u.kind=2):opI rs (.mk n i [y]) (j:Int)=(i:Int)∧zB0 rs (.mk n i [y]) (j:Int)=[(j:Int)]:=by
 have h1:¬u.kind=1:=by omega
 unfold opI zB0;rw[show Rd.rule (.mk n i [y])=(n:Int) from rfl,zB5 hu,if_neg h1,if_pos hk,if_neg h1,if_pos hk];exact⟨rfl,rfl⟩
theorem zYu {rs:List Rul}{n:Nat}{u:Rul}{i j:Nat}{y:Rd}(hu:rs[n]?=some u)(hk:u.kind=3)(hj:0<j):opI rs (.mk n i [y]) (j:Int)=((j -1:Nat):Int)∧zB0 rs (.mk n i [y]) (j:Int)=[((j -1:Nat):Int)]:=by
 have h1:¬u.kind=1:=by omega
 have h2:¬u.kind=2:=by omega
 have hj1:(j:Int) -1=((j -1:Nat):Int):=by omega
 unfold opI zB0;rw[show Rd.rule (.mk n i [y])=(n:Int) from rfl,zB5 hu,if_neg h1,if_neg h2,if_pos hk,if_neg h1,if_neg h2,if_pos hk,hj1];exact⟨rfl,rfl⟩
theorem zYe {rs:List Rul}{n:Nat}{u:Rul}{i k j:Nat}{y z:Rd}(hu:rs[n]?=some u)(hk:u.kind=4)(hz:z.at_=(k:Int)):opI rs (.mk n i [y,z]) (j:Int)= -1∧zB0 rs (.mk n i [y,z]) (j:Int)=[(k:Int),(j:Int)]:=by
 have h1:¬u.kind=1:=by omega
 have h2:¬u.kind=2:=by omega
 have h3:¬u.kind=3:=by omega
 unfold opI zB0 zHa;rw[show Rd.rule (.mk n i [y,z])=(n:Int) from rfl,zB5 hu,if_neg h1,if_neg h2,if_neg h3,if_neg h1,if_neg h2,if_neg h3];show _∧[z.at_,_]=_;rw[hz];exact⟨rfl,rfl⟩
theorem zHk (rs:List Rul)(ps:List Prt)(r a:Int)(ks:List Rd)(e:Int):trmR rs ps (.mk r a ks) e=if r<0 then(match ps[a.toNat]? with
   |some p=>p.opnd
   |none=>zerT) else mkOp (zI8 rs r) (kndR rs r) (if 0≤opI rs (.mk r a ks) e then ps[(opI rs (.mk r a ks) e).toNat]? else none) (trmL rs ps ks (zB0 rs (.mk r a ks) e)):=by
 rw[trmR];rfl
theorem zFy (rs:List Rul)(items:List Tre)(xs:List (List Trm))(r a:Int)(ks:List Rd)(fin:Int):bldR rs items xs (.mk r a ks) fin=if r<0 then opdT ((items[a.toNat]?).getD zerN) ((xs[a.toNat]?).getD [])
  else mkB rs (zI8 rs r) (kndR rs r) (if 0≤opI rs (.mk r a ks) fin then some ((items[(opI rs (.mk r a ks) fin).toNat]?).getD zerN,(xs[(opI rs (.mk r a ks) fin).toNat]?).getD []) else none) (bldL rs items xs ks (zB0 rs (.mk r a ks) fin)):=by rw[bldR]
def zVi (rs:List Rul)(ts:List ByteArray)(items:List Tre)(xs:List (List Trm))(ps:List Prt)(kd:Nat→Int)(m:Nat):Prop:=∀q,q<m→∃n t x,items[q]?=some n∧ts[q]?=some t∧xs[q]?=some x∧ps[q]?=some (zK3 rs t n (kd q) x)∧(t.data.toList≠[35]→(n.kind=2∨scrB n.kind=true)∧(n.kind=2→x=[]))
theorem zKs {ts:List ByteArray}{q:Nat}{t:ByteArray}(h:ts[q]?=some t)(s:List UInt8):tokB ts q s=decide (t.data.toList=s):=by
 unfold tokB;rw[h];dsimp only;rw[ByteArray.toList_eq,Bool.eq_iff_iff,beq_iff_eq,decide_eq_true_iff]
theorem zQ2 {rs:List Rul}(hv:zAg rs=true){n:Nat}{u:Rul}(hu:rs[n]?=some u):u.sym.toList≠[35]:=by
 have h:=zJy hv hu;intro e;rcases zQi h with hk|hk|hk|⟨_,hk⟩
 ·unfold ownB at h;rw[if_pos hk,e] at h;simp only[Bool.and_eq_true] at h;exact absurd h.2.2.2.2 (by decide)
 ·unfold ownB at h;rw[if_neg (by omega),if_pos hk,e] at h;simp only[Bool.and_eq_true] at h;exact absurd h.2.2.2.2.1 (by decide)
 ·unfold ownB at h;rw[if_neg (by omega),if_neg (by omega),if_pos hk,e] at h;simp only[Bool.and_eq_true] at h;exact absurd h.2.2.2.2.1 (by decide)
 ·rw[hk] at e;cases e
theorem zEh {rs:List Rul}(hv:zAg rs=true){ts:List ByteArray}{items:List Tre}{xs:List (List Trm)}{ps:List Prt}{kd:Nat→Int}:∀(m i j:Nat) (x:Rd),j -i≤m→zVi rs ts items xs ps kd j→x∈allR rs ts i j→(∀p∈asgR rs x (j:Int),kd p.1.toNat=kndR rs p.2)→trmR rs ps x (j:Int)=bldR rs items xs x (j:Int)
 |0,i,j,x,hm,_,h=>by have:=zDy h;omega
 |m+1,i,j,x,hm,hI,h=>by
  intro hp;have hij:=zDy h;have sub:∀j',j'≤j→zVi rs ts items xs ps kd j':=fun j' hj q hq=>hI q (by omega)
  have opr:∀(q n:Nat) (u:Rul),q<j→rs[n]?=some u→tokB ts q u.sym.toList=true→((q:Int),(n:Int))∈asgR rs x (j:Int)→∀args1 args2:List Trm,args1=args2→mkOp (zI8 rs n) (kndR rs n) (ps[q]?) args1=mkB rs (zI8 rs n) (kndR rs n) (some ((items[q]?).getD zerN,(xs[q]?).getD [])) args2:=by
   rintro q n u hq hu htk hm2 args1 _ rfl;obtain⟨nn,t,x2,h1,h2,h3,h4,h5⟩:=hI q hq;rw[zKs h2] at htk;have hne:t.data.toList≠[35]:=by rw[of_decide_eq_true htk];exact zQ2 hv hu
   have hkq:kd q=kndR rs n:=by have:=hp _ hm2;rwa [Int.toNat_natCast] at this
   rw[h4,h1,h3,hkq,Option.getD_some,Option.getD_some];exact zZ8 hne (h5 hne).1 (h5 hne).2
  rcases(zHp hij).1 h with⟨rfl,ht,rfl⟩|⟨n,u,hu,hr⟩
  ·obtain⟨nn,t,x2,h1,h2,h3,h4,h5⟩:=hI i (by omega);rw[zKs h2] at ht;have ht2:t.data.toList=[35]:=of_decide_eq_true ht;rw[zHk,zFy,if_pos (by decide),if_pos (by decide),Int.toNat_natCast,h4,h1,h3,Option.getD_some,Option.getD_some];show(zK3 rs t nn (kd i) x2).opnd=_;unfold zK3;rw[if_pos ht2]
  ·rcases hr with⟨hk,k,y,z,h3,h4,htk,hy,hz,rfl⟩|⟨hk,y,htk,hy,rfl⟩|⟨hk,y,htk,hy,rfl⟩|⟨hk,k,y,z,h3,h4,hy,hz,rfl⟩
   ·have ha:=zHg (i:=i) (j:=j) (y:=y) hu hk (zAr hz).1;have hn0:¬((n:Int)<0):=by omega
    have ho:=zYi (i:=i) (j:=j) (y:=y) hu hk (zAr hz).1;rw[zHk,zFy,if_neg hn0,if_neg hn0,ho.1,ho.2,if_pos (Int.natCast_nonneg _),if_pos (Int.natCast_nonneg _),Int.toNat_natCast];refine opr k n u (by omega) hu htk (by rw[ha];exact List.mem_cons_self) _ _ ?_;rw[ha] at hp;have e1:=zEh hv m i k y (by omega) (sub k (by omega)) (zAd.1 hy).1 fun p hpm=>hp p (List.mem_cons_of_mem _ (List.mem_append_left _ hpm))
    have e2:=zEh hv m (k+1) j z (by omega) hI (zAd.1 hz).1 fun p hpm=>hp p (List.mem_cons_of_mem _ (List.mem_append_right _ hpm))
    simp only[trmL,bldL,e1,e2]
   ·have ha:=zHc (i:=i) (j:=j) (y:=y) hu hk;have hn0:¬((n:Int)<0):=by omega
    have ho:=zYm (i:=i) (j:=j) (y:=y) hu hk;rw[zHk,zFy,if_neg hn0,if_neg hn0,ho.1,ho.2,if_pos (Int.natCast_nonneg _),if_pos (Int.natCast_nonneg _),Int.toNat_natCast];refine opr i n u (by omega) hu htk (by rw[ha];exact List.mem_cons_self) _ _ ?_;rw[ha] at hp;have e1:=zEh hv m (i+1) j y (by omega) hI (zAd.1 hy).1 fun p hpm=>hp p (List.mem_cons_of_mem _ hpm)
    simp only[trmL,bldL,e1]
   ·have ha:=zHn (i:=i) (j:=j) (y:=y) hu hk (by omega);have hn0:¬((n:Int)<0):=by omega
    have ho:=zYu (i:=i) (j:=j) (y:=y) hu hk (by omega);rw[zHk,zFy,if_neg hn0,if_neg hn0,ho.1,ho.2,if_pos (Int.natCast_nonneg _),if_pos (Int.natCast_nonneg _),Int.toNat_natCast];refine opr (j -1) n u (by omega) hu htk (by rw[ha];exact List.mem_cons_self) _ _ ?_;rw[ha] at hp;have e1:=zEh hv m i (j -1) y (by omega) (sub _ (by omega)) (zAd.1 hy).1 fun p hpm=>hp p (List.mem_cons_of_mem _ hpm)
    simp only[trmL,bldL,e1]
   ·have ha:=zH9 (i:=i) (j:=j) (y:=y) hu hk (zAr hz).1;have hn0:¬((n:Int)<0):=by omega
    have ho:=zYe (i:=i) (j:=j) (y:=y) hu hk (zAr hz).1;rw[zHk,zFy,if_neg hn0,if_neg hn0,ho.1,ho.2,if_neg (c:=0≤(-1:Int)) (by omega),if_neg (c:=0≤(-1:Int)) (by omega)];rw[ha] at hp;have e1:=zEh hv m i k y (by omega) (sub k (by omega)) (zAd.1 hy).1 fun p hpm=>hp p (List.mem_append_left _ hpm)
    have e2:=zEh hv m k j z (by omega) hI (zAd.1 hz).1 fun p hpm=>hp p (List.mem_append_right _ hpm)
    simp only[trmL,bldL,e1,e2];rfl
theorem zM1 {rs:List Rul}:∀{l:List Tre} {ts:List ByteArray},zBm rs l= .inl ts→∀(q:Nat) (n:Tre),l[q]?=some n→ts[q]?=some (tokS rs n)∧rolB rs n=true
 |[],ts,h,q,n,hn=>by simp at hn
 |x::l,ts,h,q,n,hn=>by
  simp only[zBm,zMi] at h;cases hr:rolB rs x with
  |false=>rw[hr] at h;simp at h
  |true=>
   rw[hr,if_pos rfl] at h;dsimp only at h;cases hl:zBm rs l with
   |inr j=>rw[hl] at h;cases h
   |inl us=>
    rw[hl] at h;simp only[Sum.inl.injEq] at h;subst h;cases q with
    |zero=>
     rw[List.getElem?_cons_zero] at hn⊢;injection hn with hn;subst hn;exact⟨rfl,hr⟩
    |succ q=>
     rw[List.getElem?_cons_succ] at hn⊢;exact zM1 hl q n hn
theorem zTc {rs:List Rul}{n:Tre}(h:(tokS rs n).data.toList≠[35]):zD4 rs n=true:=by
 unfold tokS at h
 split at h
 ·assumption
 ·exact absurd rfl h
theorem zUo {rs:List Rul}{n:Tre}(h:zD4 rs n=true):n.kind=2∨scrB n.kind=true:=by
 unfold zD4 at h;rw[Bool.and_eq_true,decide_eq_true_eq] at h;cases hs:scrB n.kind with
 |true=>exact .inr rfl
 |false=>rw[zUp hs] at h;exact .inl h.1
end Go.Proofs.YtadcldfbmkfkaaaGreatDoor.El
