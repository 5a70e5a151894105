/- Strings that are symbols or names: the leaf functions of the program and of the reference. -/
import Derived.Lib.Strings
import Derived.Lib.Hide
import Derived.Lib.SplitLaws
import Derived.Lib.CountLaws
import Derived.Lib.CutLaws
import Derived.Lib.Join
import Derived.Lib.AtoiTie
import Derived.Lib.AtoiAllCases
import Derived.Test.YtchllommcolijaaGreatDoorProg
import Derived.WalkKit
import Derived.WalkSpells
import Derived.WalkLawsBesides
import Derived.Handy
import Derived.Below
import Derived.Laws.OwnMore
import Derived.Deep.Draws
import Derived.Laws.Rows
import Derived.Laws.BitsAllLaws
namespace Go.Proofs.YtchllommcolijaaGreatDoor
def letB (c:UInt8):Bool:=(decide (97≤c.toNat)&&decide (c.toNat≤122))||(decide (65≤c.toNat)&&decide (c.toNat≤90))
def zB2 (l:List UInt8):Bool:=l.all letB
def zAl (l:List UInt8):Bool:=zB2 l&&(decide (1≤l.length)&&decide (l.length≤16))
def zEq:List UInt8:=[43,45,42,47,61,60,62,44,59,58,33,124,39,63,126,64]
def zB1:List (List UInt8):=[[102,114,97,99],[114,111,111,116],[109,97,116,114,105,120],[102,101,110,99,101]]
def zAu:List (List UInt8):=[[104,97,116],[98,97,114],[118,101,99],[100,111,116],[116,105,108,100,101],[99,104,101,99,107]]
def hasB (l:List UInt8)(c:UInt8):Bool:=l.contains c
def inB (ls:List (List UInt8))(l:List UInt8):Bool:=ls.contains l
def symB (l:List UInt8):Bool:=match l with
 |[c]=>letB c||hasB zEq c
 |_=>decide (2≤l.length)&&(decide (l.length≤16)&&(zB2 l&&(!inB zB1 l&& !inB zAu l)))
structure Rul where
 kind:Int
 sym:ByteArray
 nam:ByteArray
 prec:Int
 left:Int
 right:Int
def inR (n a b:Int):Bool:=decide (a≤n)&&decide (n≤b)
def ownB (r:Rul):Bool:=zAl r.nam.toList&&(inR r.prec 1 100&&(inR r.left 0 101&&(inR r.right 0 101&&
 (if r.kind=1 then symB r.sym.toList else if r.kind=2 then symB r.sym.toList&&decide (r.left=0) else if r.kind=3 then symB r.sym.toList&&decide (r.right=0) else decide (r.kind=4)&&r.sym.toList.isEmpty))))
def zB7 (o r:Rul):Bool:=decide (o.kind=r.kind)&&(o.sym.toList==r.sym.toList||o.nam.toList==r.nam.toList)
def zDx (os:List Rul)(r:Rul):Bool:= !os.any fun o=>zB7 o r
def zC1 (rs:List Rul):Nat→Bool
 |0=>true
 |k+1=>zC1 rs k&&(match rs[k]? with
  |some r=>ownB r&&zDx (rs.take k) r
  |none=>true)
def zAj (rs:List Rul):Bool:=decide (rs.length≤64)&&zC1 rs rs.length
theorem zEx {rs:List Rul}{k j:Nat}(h:zC1 rs k=false)(hj:k≤j):zC1 rs j=false:=by
 induction j with
 |zero=>
      obtain rfl:k=0:=by omega
      exact h
 |succ j ih=>
  by_cases e:k=j+1
  ·rw[←e];exact h
  ·rw[zC1,ih (by omega)];rfl
theorem zG2 {rs:List Rul}{k:Nat}{r:Rul}(h:rs[k]?=some r):zC1 rs (k+1)=(zC1 rs k&&(ownB r&&zDx (rs.take k) r)):=by
 rw[zC1,h]
end Go.Proofs.YtchllommcolijaaGreatDoor
namespace Go.Proofs.YtchllommcolijaaGreatDoor.Ch
inductive Rd where
 |mk (rule at_:Int) (kids:List Rd)
def Rd.rule:Rd→Int
 | .mk r _ _=>r
def Rd.at_:Rd→Int
 | .mk _ a _=>a
def Rd.kids:Rd→List Rd
 | .mk _ _ ks=>ks
mutual
def zC9:Rd→Nat
 | .mk _ _ ks=>zRo ks+1
def zRo:List Rd→Nat
 |[]=>0
 |x::xs=>zC9 x+zRo xs
end
def zD8 (rs:List Rul)(r:Int):Int:=if r<0 then 101 else match rs[r.toNat]? with
 |some x=>x.prec
 |none=>0
def zA4 (rs:List Rul)(l:List Rd)(p:Int):List Rd:=l.filter fun x=>decide (p≤zD8 rs x.rule)
def zAm (r a:Int)(l m:List Rd):List Rd:=l.flatMap fun x=>m.map fun y=>.mk r a [x,y]
def zBc (r a:Int)(l:List Rd):List Rd:=l.map fun x=>.mk r a [x]
def tokB (ts:List ByteArray)(k:Nat)(s:List UInt8):Bool:=match ts[k]? with
 |some t=>t.toList==s
 |none=>false
def zCi:List UInt8:=[35]
def zB3 (rs:List Rul)(ts:List ByteArray)(f:Nat→Nat→List Rd)(i j n:Nat):List Rd:=match rs[n]? with
 |none=>[]
 |some x=>
  if x.kind=1 then(List.range' (i+1) (j -1 -(i+1))).flatMap fun k=>if tokB ts k x.sym.toList then zAm n i (zA4 rs (f i k) x.left) (zA4 rs (f (k+1) j) x.right) else[]
  else if x.kind=2 then(if tokB ts i x.sym.toList then zBc n i (zA4 rs (f (i+1) j) x.right) else[])
  else if x.kind=3 then(if tokB ts (j -1) x.sym.toList then zBc n i (zA4 rs (f i (j -1)) x.left) else[])
  else if x.kind=4 then(List.range' (i+1) (j -(i+1))).flatMap fun k=>zAm n i (zA4 rs (f i k) x.left) (zA4 rs (f k j) x.right)
  else[]
def zD9 (ts:List ByteArray)(i j:Nat):List Rd:=if j=i+1∧tokB ts i zCi=true then[.mk (-1) i []] else[]
def zNe (rs:List Rul)(ts:List ByteArray)(f:Nat→Nat→List Rd)(i j:Nat):List Rd:=zD9 ts i j++(List.range rs.length).flatMap (zB3 rs ts f i j)
def allF (rs:List Rul)(ts:List ByteArray):Nat→Nat→Nat→List Rd
 |0,_,_=>[]
 |m+1,i,j=>if j≤i then[] else zNe rs ts (allF rs ts m) i j
def allR (rs:List Rul)(ts:List ByteArray)(i j:Nat):List Rd:=allF rs ts (j -i) i j
theorem zAt {α β:Type}{l:List α}{f g:α→List β}(h:∀x∈l,f x=g x):l.flatMap f=l.flatMap g:=by
 induction l with
 |nil=>rfl
 |cons a l ih=>rw[List.flatMap_cons,List.flatMap_cons,h a List.mem_cons_self,ih fun x hx=>h x (List.mem_cons_of_mem _ hx)]
theorem zDw {α β:Type}(l:List α):(l.flatMap fun _=>([]:List β))=[]:=by
 induction l with
 |nil=>rfl
 |cons a l ih=>rw[List.flatMap_cons,ih];rfl
theorem zDj {a n k:Nat}(h:k∈List.range' a n):a≤k∧k<a+n:=by
 rw[List.mem_range'_1] at h;exact h
theorem zN0 {rs:List Rul}{ts:List ByteArray}{f g:Nat→Nat→List Rd}{i j n:Nat}(hij:i<j)(h:∀a b,i≤a→b≤j→b -a<j -i→f a b=g a b):zB3 rs ts f i j n=zB3 rs ts g i j n:=by
 unfold zB3;cases rs[n]? with
 |none=>rfl
 |some x=>
  dsimp only
  split
  ·refine zAt fun k hk=>?_
   have:=zDj hk;rw[h i k (by omega) (by omega) (by omega),h (k+1) j (by omega) (by omega) (by omega)]
  ·split
   ·rw[h (i+1) j (by omega) (by omega) (by omega)]
   ·split
    ·rw[h i (j -1) (by omega) (by omega) (by omega)]
    ·split
     ·refine zAt fun k hk=>?_
      have:=zDj hk;rw[h i k (by omega) (by omega) (by omega),h k j (by omega) (by omega) (by omega)]
     ·rfl
theorem zIm {rs:List Rul}{ts:List ByteArray}{f g:Nat→Nat→List Rd}{i j:Nat}(hij:i<j)(h:∀a b,i≤a→b≤j→b -a<j -i→f a b=g a b):zNe rs ts f i j=zNe rs ts g i j:=by
 unfold zNe
 congr 1
 exact zAt fun n _=>zN0 hij h
theorem zF2 {rs:List Rul}{ts:List ByteArray}{m i j:Nat}(h:j≤i):allF rs ts m i j=[]:=by
 cases m with
 |zero=>rfl
 |succ m=>rw[allF,if_pos h]
theorem zMr {rs:List Rul}{ts:List ByteArray}:∀(m m' i j:Nat),j -i≤m→j -i≤m'→allF rs ts m i j=allF rs ts m' i j
 |0,m',i,j,h,_=>by rw[zF2 (by omega),zF2 (by omega)]
 |m+1,0,i,j,_,h=>by rw[zF2 (by omega),zF2 (by omega)]
 |m+1,m'+1,i,j,h,h'=>by
  rw[allF,allF]
  split
  ·rfl
  ·exact zIm (by omega) fun a b _ _ hab=>zMr m m' a b (by omega) (by omega)
theorem zFb {rs:List Rul}{ts:List ByteArray}{i j:Nat}(h:j≤i):allR rs ts i j=[]:=zF2 h
theorem zQ7 {rs:List Rul}{ts:List ByteArray}{i j:Nat}(h:i<j):allR rs ts i j=zNe rs ts (allR rs ts) i j:=by
 unfold allR;obtain⟨m,hm⟩:∃m,j -i=m+1:=⟨j -i -1,by omega⟩
 rw[hm,allF,if_neg (by omega)];exact zIm h fun a b _ _ hab=>zMr m (b -a) a b (by omega) (by omega)
theorem zNq {rs:List Rul}{ts:List ByteArray}{f:Nat→Nat→List Rd}{i j n:Nat}{x:Rd}(h:x∈zB3 rs ts f i j n):x.rule=n∧x.at_=i∧n<rs.length:=by
 unfold zB3 at h;cases hr:rs[n]? with
 |none=>rw[hr] at h;cases h
 |some y=>
  have hn:=(List.getElem?_eq_some_iff.1 hr).1;rw[hr] at h;dsimp only at h;have pr:∀l m,x∈zAm n i l m→x.rule=n∧x.at_=i∧n<rs.length:=by
   intro l m hx;unfold zAm at hx;obtain⟨a,_,hb⟩:=List.mem_flatMap.1 hx;obtain⟨b,_,rfl⟩:=List.mem_map.1 hb;exact⟨rfl,rfl,hn⟩
  have so:∀l,x∈zBc n i l→x.rule=n∧x.at_=i∧n<rs.length:=by
   intro l hx;unfold zBc at hx;obtain⟨b,_,rfl⟩:=List.mem_map.1 hx;exact⟨rfl,rfl,hn⟩
  split at h
  ·obtain⟨k,_,hk⟩:=List.mem_flatMap.1 h
   split at hk
   ·exact pr _ _ hk
   ·cases hk
  ·split at h
   ·split at h
    ·exact so _ h
    ·cases h
   ·split at h
    ·split at h
     ·exact so _ h
     ·cases h
    ·split at h
     ·obtain⟨k,_,hk⟩:=List.mem_flatMap.1 h;exact pr _ _ hk
     ·cases h
theorem zGz {rs:List Rul}{n:Nat}{x:Rul}(h:rs[n]?=some x):zD8 rs n=x.prec:=by
 unfold zD8;rw[if_neg (by omega),Int.toNat_natCast,h]
theorem zC7 {α β:Type}(m:Nat)(A:α→List β):∀l:List α,(l.flatMap fun x=>(A x).take m).take m=(l.flatMap A).take m
 |[]=>rfl
 |a::l=>by
  rw[List.flatMap_cons,List.flatMap_cons,List.take_append,List.take_append,List.take_take,Nat.min_self]
  congr 1
  have ih:=zC7 m A l;have e:∀(k:Nat) (u v:List β),k≤m→u.take m=v.take m→u.take k=v.take k:=by
   intro k u v hk h;have:=congrArg (List.take k) h
   rwa [List.take_take,List.take_take,Nat.min_eq_left hk] at this
  by_cases h:(A a).length≤m
  ·rw[List.length_take,Nat.min_eq_right h];exact e _ _ _ (by omega) ih
  ·rw[List.length_take,Nat.min_eq_left (by omega),Nat.sub_self,show m -(A a).length=0 by omega];rfl
theorem zVh {α:Type}{m:Nat}{a b:List α}:(a.take m++b).take m=(a++b).take m:=by
 rw[List.take_append,List.take_append,List.take_take,Nat.min_self]
 congr 1
 by_cases h:a.length≤m
 ·rw[List.length_take,Nat.min_eq_right h]
 ·rw[List.length_take,Nat.min_eq_left (by omega),Nat.sub_self,show m -a.length=0 by omega]
theorem zFu {α:Type}{m:Nat}{a b:List α}:(a++b.take m).take m=(a++b).take m:=by
 rw[List.take_append,List.take_append,List.take_take]
 congr 2
 omega
theorem zNc (r a:Int)(l m:List Rd):(zAm r a (l.take 2) (m.take 2)).take 2=(zAm r a l m).take 2:=by
 match m with
 |[]=>unfold zAm;rw[List.take_nil];simp only[List.map_nil];rw[zDw,zDw]
 |[y]=>match l with
  |[]=>rfl
  |[x]=>rfl
  |x::x'::l=>rfl
 |y::y'::m=>match l with
  |[]=>rfl
  |x::l=>simp[zAm]
theorem zVg (r a:Int)(l:List Rd):(zBc r a (l.take 2))=(zBc r a l).take 2:=by unfold zBc;rw[List.map_take]
theorem zId {rs:List Rul}{l:List Rd}{p r:Int}(h:∀x∈l,x.rule=r):zA4 rs l p=if p≤zD8 rs r then l else[]:=by
 unfold zA4
 split
 ·rename_i hp
  exact List.filter_eq_self.2 fun x hx=>by rw[h x hx];exact decide_eq_true hp
 ·rename_i hp
  exact List.filter_eq_nil_iff.2 fun x hx=>by rw[h x hx];simpa using hp
theorem zC6 {rs:List Rul}{l m:List Rd}{p:Int}:zA4 rs (l++m) p=zA4 rs l p++zA4 rs m p:=List.filter_append ..
theorem zEn {α:Type}{rs:List Rul}{p:Int}{A:α→List Rd}:∀l:List α,zA4 rs (l.flatMap A) p=l.flatMap fun x=>zA4 rs (A x) p
 |[]=>rfl
 |a::l=>by rw[List.flatMap_cons,List.flatMap_cons,zC6,zEn l]
def zFo (rs:List Rul)(ts:List ByteArray)(i j:Nat):List Rd:=zD9 ts i j++(List.range rs.length).flatMap fun n=>(zB3 rs ts (allR rs ts) i j n).take 2
theorem zPi {rs:List Rul}{ts:List ByteArray}{i j:Nat}(h:i<j)(p:Int):(zA4 rs (zFo rs ts i j) p).take 2=(zA4 rs (allR rs ts i j) p).take 2:=by
 rw[zQ7 h];unfold zFo zNe;rw[zC6,zC6,zEn,zEn];have e:((List.range rs.length).flatMap fun n=>zA4 rs ((zB3 rs ts (allR rs ts) i j n).take 2) p)=(List.range rs.length).flatMap fun n=>(zA4 rs (zB3 rs ts (allR rs ts) i j n) p).take 2:=by
  refine zAt fun n _=>?_
  have hr:∀x∈zB3 rs ts (allR rs ts) i j n,x.rule=n:=fun x hx=>(zNq hx).1
  rw[zId hr,zId (r:=n) fun x hx=>hr x (List.mem_of_mem_take hx)]
  split
  ·rfl
  ·rfl
 rw[e,←zFu,zC7 2 _ _,zFu]
def zC8 (rs:List Rul)(ts:List ByteArray)(i j:Nat)(p:Int):List Rd:=(zA4 rs (allR rs ts i j) p).take 2
theorem zIk {rs:List Rul}{ts:List ByteArray}{i j:Nat}{p:Int}:(zC8 rs ts i j p).length≤2:=by
 unfold zC8;rw[List.length_take];omega
def zBx (rs:List Rul)(kind:Int)(s:List UInt8):Option Nat:=rs.findIdx? fun r=>decide (r.kind=kind)&&r.sym.toList==s
def zAh (rs:List Rul)(kind:Int)(s:List UInt8):Int:=match zBx rs kind s with
 |some n=>n
 |none=> -1
structure App where
 rule:Nat
 frm:Nat
 left:Nat
 right:Nat
 to:Nat
 kids:Nat
def tokL (ts:List ByteArray)(k:Nat):List UInt8:=(ts.getD k ⟨#[]⟩).toList
def preA (rs:List Rul)(ts:List ByteArray)(i j:Nat):List App:=match zBx rs 2 (tokL ts i) with
 |some r=>if i+1<j then[⟨r,i+1,j,0,0,1⟩] else[]
 |none=>[]
def zFp (rs:List Rul)(ts:List ByteArray)(i j:Nat):List App:=match zBx rs 3 (tokL ts (j -1)) with
 |some r=>if i+1<j then[⟨r,i,j -1,0,0,1⟩] else[]
 |none=>[]
def inA (rs:List Rul)(ts:List ByteArray)(i j k:Nat):List App:=match zBx rs 1 (tokL ts k) with
 |some r=>if k+1<j then[⟨r,i,k,k+1,j,2⟩] else[]
 |none=>[]
def juxA (rs:List Rul)(i j k:Nat):List App:=match zBx rs 4 [] with
 |some r=>[⟨r,i,k,k,j,2⟩]
 |none=>[]
def midA (rs:List Rul)(ts:List ByteArray)(i j k:Nat):List App:=inA rs ts i j k++juxA rs i j k
def zDn (rs:List Rul)(ts:List ByteArray)(i j:Nat):List App:=preA rs ts i j++zFp rs ts i j++(List.range' (i+1) (j -(i+1))).flatMap (midA rs ts i j)
def lowR (rs:List Rul)(n:Nat):Int:=match rs[n]? with
 |some x=>if x.kind=2 then x.right else x.left
 |none=>0
def zDm (rs:List Rul)(n:Nat):Int:=match rs[n]? with
 |some x=>if x.kind=2 then 0 else x.right
 |none=>0
def zGe (rs:List Rul)(ts:List ByteArray)(i:Nat)(a:App):List Rd:=
 if a.kids=1 then zBc a.rule i (zC8 rs ts a.frm a.left (lowR rs a.rule)) else zAm a.rule i (zC8 rs ts a.frm a.left (lowR rs a.rule)) (zC8 rs ts a.right a.to (zDm rs a.rule))
def Uniq (rs:List Rul):Prop:=∀(m n:Nat) (x y:Rul),rs[m]?=some x→rs[n]?=some y→x.kind=y.kind→x.sym.toList=y.sym.toList→m=n
theorem zGr {rs:List Rul}{n k:Nat}{x:Rul}(h:zC1 rs k=true)(hn:n<k)(hx:rs[n]?=some x):ownB x=true∧zDx (rs.take n) x=true:=by
 have h1:zC1 rs (n+1)=true:=by
  cases hf:zC1 rs (n+1)
  ·rw[zEx hf (by omega)] at h;cases h
  ·rfl
 rw[zG2 hx,Bool.and_eq_true,Bool.and_eq_true] at h1;exact h1.2
theorem zSs {rs:List Rul}(h:zAj rs=true){m n:Nat}{x y:Rul}(hm:rs[m]?=some x)(hn:rs[n]?=some y)(hk:x.kind=y.kind)(hs:x.sym.toList=y.sym.toList)(hl:m<n):False:=by
 unfold zAj at h;rw[Bool.and_eq_true] at h;have h1:=(zGr h.2 (List.getElem?_eq_some_iff.1 hn).1 hn).2;unfold zDx at h1;rw[Bool.not_eq_true',List.any_eq_false] at h1;have hmem:x∈rs.take n:=List.mem_of_getElem? (i:=m) (by rw[List.getElem?_take,if_pos hl];exact hm);refine h1 x hmem ?_;unfold zB7;rw[decide_eq_true hk,hs];simp
theorem zQs {rs:List Rul}(h:zAj rs=true):Uniq rs:=by
 intro m n x y hm hn hk hs;rcases Nat.lt_trichotomy m n with hl|hl|hl
 ·exact(zSs h hm hn hk hs hl).elim
 ·exact hl
 ·exact(zSs h hn hm hk.symm hs.symm hl).elim
theorem zGp {rs:List Rul}(h:zAj rs=true){n:Nat}{x:Rul}(hx:rs[n]?=some x):ownB x=true:=by
 unfold zAj at h;rw[Bool.and_eq_true] at h;exact(zGr h.2 (List.getElem?_eq_some_iff.1 hx).1 hx).1
theorem zCg {rs:List Rul}{kind:Int}{s:List UInt8}{n:Nat}(h:zBx rs kind s=some n):∃x,rs[n]?=some x∧x.kind=kind∧x.sym.toList=s:=by
 unfold zBx at h;rw[List.findIdx?_eq_some_iff_getElem] at h;obtain⟨hl,hp,_⟩:=h;rw[Bool.and_eq_true] at hp;exact⟨rs[n],List.getElem?_eq_getElem hl,of_decide_eq_true hp.1,eq_of_beq hp.2⟩
theorem zGv {rs:List Rul}(hu:Uniq rs){kind:Int}{s:List UInt8}{n:Nat}{x:Rul}(hx:rs[n]?=some x)(hk:x.kind=kind)(hs:x.sym.toList=s):zBx rs kind s=some n:=by
 cases h:zBx rs kind s with
 |none=>
  unfold zBx at h;rw[List.findIdx?_eq_none_iff] at h;have:=h x (List.mem_of_getElem? hx);rw[hs,decide_eq_true hk] at this;simp at this
 |some m=>
  obtain⟨y,hy,hk2,hs2⟩:=zCg h;rw[hu m n y x hy hx (hk2.trans hk.symm) (hs2.trans hs.symm)]
def zCq (n:Nat)(l:List App):List App:=l.filter fun a=>decide (a.rule=n)
theorem zCz {n:Nat}{l m:List App}:zCq n (l++m)=zCq n l++zCq n m:=List.filter_append ..
theorem zGq {α:Type}{n:Nat}{A:α→List App}:∀l:List α,zCq n (l.flatMap A)=l.flatMap fun x=>zCq n (A x)
 |[]=>rfl
 |a::l=>by rw[List.flatMap_cons,List.flatMap_cons,zCz,zGq l]
theorem zT6 {rs:List Rul}(hu:Uniq rs){ts:List ByteArray}{i j n:Nat}{x:Rul}(hx:rs[n]?=some x):zCq n (preA rs ts i j)=if x.kind=2∧x.sym.toList=tokL ts i∧i+1<j then[⟨n,i+1,j,0,0,1⟩] else[]:=by
 unfold preA
 by_cases h:x.kind=2∧x.sym.toList=tokL ts i
 ·rw[zGv hu hx h.1 h.2]
  by_cases hj:i+1<j
  ·simp[hj,h.1,h.2,zCq]
  ·simp[hj,zCq]
 ·rw[if_neg (fun hh=>h ⟨hh.1,hh.2.1⟩)];cases hf:zBx rs 2 (tokL ts i) with
  |none=>rfl
  |some m=>
   obtain⟨y,hy,hk,hs⟩:=zCg hf;have hne:m≠n:=by
    rintro rfl;rw[hx] at hy;obtain rfl:=Option.some.inj hy;exact h ⟨hk,hs⟩
   by_cases hj:i+1<j<;>simp[hj,zCq,hne]
theorem zQn {rs:List Rul}(hu:Uniq rs){ts:List ByteArray}{i j n:Nat}{x:Rul}(hx:rs[n]?=some x):zCq n (zFp rs ts i j)=if x.kind=3∧x.sym.toList=tokL ts (j -1)∧i+1<j then[⟨n,i,j -1,0,0,1⟩] else[]:=by
 unfold zFp
 by_cases h:x.kind=3∧x.sym.toList=tokL ts (j -1)
 ·rw[zGv hu hx h.1 h.2]
  by_cases hj:i+1<j
  ·simp[hj,h.1,h.2,zCq]
  ·simp[hj,zCq]
 ·rw[if_neg (fun hh=>h ⟨hh.1,hh.2.1⟩)];cases hf:zBx rs 3 (tokL ts (j -1)) with
  |none=>rfl
  |some m=>
   obtain⟨y,hy,hk,hs⟩:=zCg hf;have hne:m≠n:=by
    rintro rfl;rw[hx] at hy;obtain rfl:=Option.some.inj hy;exact h ⟨hk,hs⟩
   by_cases hj:i+1<j<;>simp[hj,zCq,hne]
theorem zVm {rs:List Rul}(hu:Uniq rs){ts:List ByteArray}{i j k n:Nat}{x:Rul}(hx:rs[n]?=some x):zCq n (inA rs ts i j k)=if x.kind=1∧x.sym.toList=tokL ts k∧k+1<j then[⟨n,i,k,k+1,j,2⟩] else[]:=by
 unfold inA
 by_cases h:x.kind=1∧x.sym.toList=tokL ts k
 ·rw[zGv hu hx h.1 h.2]
  by_cases hj:k+1<j
  ·simp[hj,h.1,h.2,zCq]
  ·simp[hj,zCq]
 ·rw[if_neg (fun hh=>h ⟨hh.1,hh.2.1⟩)];cases hf:zBx rs 1 (tokL ts k) with
  |none=>rfl
  |some m=>
   obtain⟨y,hy,hk,hs⟩:=zCg hf;have hne:m≠n:=by
    rintro rfl;rw[hx] at hy;obtain rfl:=Option.some.inj hy;exact h ⟨hk,hs⟩
   by_cases hj:k+1<j<;>simp[hj,zCq,hne]
theorem zT0 {rs:List Rul}(hu:Uniq rs){i j k n:Nat}{x:Rul}(hx:rs[n]?=some x):zCq n (juxA rs i j k)=if x.kind=4∧x.sym.toList=[] then[⟨n,i,k,k,j,2⟩] else[]:=by
 unfold juxA
 by_cases h:x.kind=4∧x.sym.toList=[]
 ·rw[zGv hu hx h.1 h.2,if_pos h];simp[zCq]
 ·rw[if_neg h];cases hf:zBx rs 4 [] with
  |none=>rfl
  |some m=>
   obtain⟨y,hy,hk,hs⟩:=zCg hf;have hne:m≠n:=by
    rintro rfl;rw[hx] at hy;obtain rfl:=Option.some.inj hy;exact h ⟨hk,hs⟩
   simp[zCq,hne]
theorem zLm {ts:List ByteArray}{k:Nat}(hk:k<ts.length)(s:List UInt8):tokB ts k s=true↔s=tokL ts k:=by
 unfold tokB tokL;rw[List.getElem?_eq_getElem hk,List.getD_eq_getElem?_getD,List.getElem?_eq_getElem hk];show(ts[k].toList==s)=true↔s=ts[k].toList;rw[beq_iff_eq];exact eq_comm
theorem zJ8 {rs:List Rul}{n:Nat}{x:Rul}(hx:rs[n]?=some x):lowR rs n=if x.kind=2 then x.right else x.left:=by unfold lowR;rw[hx]
theorem zLc {rs:List Rul}{n:Nat}{x:Rul}(hx:rs[n]?=some x):zDm rs n=if x.kind=2 then 0 else x.right:=by unfold zDm;rw[hx]
theorem zPu {rs:List Rul}{ts:List ByteArray}{i n a b:Nat}:zGe rs ts i ⟨n,a,b,0,0,1⟩=zBc n i (zC8 rs ts a b (lowR rs n)):=rfl
theorem zPb {rs:List Rul}{ts:List ByteArray}{i n a b c d:Nat}:zGe rs ts i ⟨n,a,b,c,d,2⟩=zAm n i (zC8 rs ts a b (lowR rs n)) (zC8 rs ts c d (zDm rs n)):=rfl
theorem zN3 {rs:List Rul}{ts:List ByteArray}{n i a b:Nat}{p:Int}:(zBc n i (zC8 rs ts a b p)).take 2=(zBc n i (zA4 rs (allR rs ts a b) p)).take 2:=by
 unfold zC8;rw[zVg,List.take_take,Nat.min_self]
theorem zKx {r:Rul}(h:ownB r=true):(r.kind=1∨r.kind=2∨r.kind=3∨(r.kind=4∧r.sym.toList=[])):=by
 unfold ownB at h;simp only[Bool.and_eq_true] at h;obtain⟨_,_,_,_,h⟩:=h
 split at h
 ·exact .inl ‹_›
 ·split at h
  ·exact .inr (.inl ‹_›)
  ·split at h
   ·exact .inr (.inr (.inl ‹_›))
   ·rw[Bool.and_eq_true] at h;exact .inr (.inr (.inr ⟨of_decide_eq_true h.1,List.isEmpty_iff.1 h.2⟩))
theorem zV9 {r a:Int}:zBc r a []=[]:=rfl
theorem zUr {rs:List Rul}(hv:zAj rs=true){ts:List ByteArray}{i j n:Nat}(hij:i<j)(hj:j≤ts.length)(hn:n<rs.length):((zCq n (zDn rs ts i j)).flatMap (zGe rs ts i)).take 2=(zB3 rs ts (allR rs ts) i j n).take 2:=by
 obtain⟨x,hx⟩:∃x,rs[n]?=some x:=⟨_,List.getElem?_eq_getElem hn⟩
 have hu:=zQs hv;unfold zDn;rw[zCz,zCz,zGq,zT6 hu hx,zQn hu hx];have hmid:((List.range' (i+1) (j -(i+1))).flatMap fun k=>zCq n (midA rs ts i j k))=(List.range' (i+1) (j -(i+1))).flatMap fun k=>(if x.kind=1∧x.sym.toList=tokL ts k∧k+1<j then[(⟨n,i,k,k+1,j,2⟩:App)] else[])++(if x.kind=4∧x.sym.toList=[] then[(⟨n,i,k,k,j,2⟩:App)] else[]):=by
  refine zAt fun k _=>?_
  unfold midA;rw[zCz,zVm hu hx,zT0 hu hx]
 rw[hmid];clear hmid;unfold zB3;rw[hx];dsimp only;rcases zKx (zGp hv hx) with hk|hk|hk|⟨hk,hs⟩
 ·rw[if_neg (show ¬(x.kind=2∧x.sym.toList=tokL ts i∧i+1<j) from fun hh=>by have:=hh.1;have:=hh.2.2;omega),if_neg (show ¬(x.kind=3∧x.sym.toList=tokL ts (j -1)∧i+1<j) from fun hh=>by have:=hh.1;have:=hh.2.2;omega),if_pos hk,List.nil_append,List.nil_append];have hlow:lowR rs n=x.left:=by rw[zJ8 hx,if_neg (by omega)]
  have hhigh:zDm rs n=x.right:=by rw[zLc hx,if_neg (by omega)]
  rw[List.flatMap_assoc,←zC7 2 (fun k=>if tokB ts k x.sym.toList=true then zAm n i (zA4 rs (allR rs ts i k) x.left) (zA4 rs (allR rs ts (k+1) j) x.right) else[])];have hr:List.range' (i+1) (j -(i+1))=List.range' (i+1) (j -1 -(i+1))++(if i+1<j then[j -1] else[]):=by
   by_cases h:i+1<j
   ·rw[if_pos h,show j -(i+1)=(j -1 -(i+1))+1 by omega,List.range'_concat]
    congr 2
    omega
   ·rw[if_neg h,show j -(i+1)=0 by omega,show j -1 -(i+1)=0 by omega];rfl
  rw[hr,List.flatMap_append];have h0:((if i+1<j then[j -1] else[]).flatMap fun k=>((if x.kind=1∧x.sym.toList=tokL ts k∧k+1<j then[(⟨n,i,k,k+1,j,2⟩:App)] else[])++(if x.kind=4∧x.sym.toList=[] then[(⟨n,i,k,k,j,2⟩:App)] else[])).flatMap (zGe rs ts i))=[]:=by
   by_cases h:i+1<j
   ·rw[if_pos h];simp only[List.flatMap_cons,List.flatMap_nil,List.append_nil];rw[if_neg (show ¬(x.kind=1∧x.sym.toList=tokL ts (j -1)∧j -1+1<j) from fun hh=>by have:=hh.1;have:=hh.2.2;omega),if_neg (show ¬(x.kind=4∧x.sym.toList=[]) by omega)];rfl
   ·rw[if_neg h];rfl
  rw[h0,List.append_nil,←zC7 2]
  congr 1
  refine zAt fun k hkr=>?_
  have hkm:=zDj hkr;have hb:=zLm (ts:=ts) (k:=k) (by omega) x.sym.toList;rw[if_neg (show ¬(x.kind=4∧x.sym.toList=[]) by omega),List.append_nil]
  by_cases ht:tokB ts k x.sym.toList=true
  ·rw[if_pos (show x.kind=1∧x.sym.toList=tokL ts k∧k+1<j from⟨hk,hb.1 ht,by omega⟩),if_pos ht,List.flatMap_cons,List.flatMap_nil,List.append_nil,zPb,hlow,hhigh];exact zNc _ _ _ _
  ·rw[if_neg (show ¬(x.kind=1∧x.sym.toList=tokL ts k∧k+1<j) from fun hh=>ht (hb.2 hh.2.1)),if_neg ht];rfl
 ·rw[if_neg (show ¬(x.kind=3∧x.sym.toList=tokL ts (j -1)∧i+1<j) from fun hh=>by have:=hh.1;have:=hh.2.2;omega),if_neg (show ¬x.kind=1 by omega),if_pos hk];have h0:((List.range' (i+1) (j -(i+1))).flatMap fun k=>(if x.kind=1∧x.sym.toList=tokL ts k∧k+1<j then[(⟨n,i,k,k+1,j,2⟩:App)] else[])++(if x.kind=4∧x.sym.toList=[] then[(⟨n,i,k,k,j,2⟩:App)] else[]))=[]:=by
   refine(zAt (g:=fun _=>[]) fun k _=>?_).trans (zDw _);rw[if_neg (show ¬(x.kind=1∧x.sym.toList=tokL ts k∧k+1<j) from fun hh=>by have:=hh.1;have:=hh.2.2;omega),if_neg (show ¬(x.kind=4∧x.sym.toList=[]) by omega)];rfl
  rw[h0,List.append_nil,List.append_nil];have hb:=zLm (ts:=ts) (k:=i) (by omega) x.sym.toList;have hlow:lowR rs n=x.right:=by rw[zJ8 hx,if_pos hk]
  by_cases ht:tokB ts i x.sym.toList=true
  ·rw[if_pos ht]
   by_cases h:i+1<j
   ·rw[if_pos (show x.kind=2∧x.sym.toList=tokL ts i∧i+1<j from⟨hk,hb.1 ht,h⟩),List.flatMap_cons,List.flatMap_nil,List.append_nil,zPu,hlow];exact zN3
   ·rw[if_neg (show ¬(x.kind=2∧x.sym.toList=tokL ts i∧i+1<j) from fun hh=>h hh.2.2),zFb (by omega)];rfl
  ·rw[if_neg (show ¬(x.kind=2∧x.sym.toList=tokL ts i∧i+1<j) from fun hh=>ht (hb.2 hh.2.1)),if_neg ht];rfl
 ·rw[if_neg (show ¬(x.kind=2∧x.sym.toList=tokL ts i∧i+1<j) from fun hh=>by have:=hh.1;have:=hh.2.2;omega),if_neg (show ¬x.kind=1 by omega),if_neg (show ¬x.kind=2 by omega),if_pos hk];have h0:((List.range' (i+1) (j -(i+1))).flatMap fun k=>(if x.kind=1∧x.sym.toList=tokL ts k∧k+1<j then[(⟨n,i,k,k+1,j,2⟩:App)] else[])++(if x.kind=4∧x.sym.toList=[] then[(⟨n,i,k,k,j,2⟩:App)] else[]))=[]:=by
   refine(zAt (g:=fun _=>[]) fun k _=>?_).trans (zDw _);rw[if_neg (show ¬(x.kind=1∧x.sym.toList=tokL ts k∧k+1<j) from fun hh=>by have:=hh.1;have:=hh.2.2;omega),if_neg (show ¬(x.kind=4∧x.sym.toList=[]) by omega)];rfl
  rw[h0,List.append_nil,List.nil_append];have hb:=zLm (ts:=ts) (k:=j -1) (by omega) x.sym.toList;have hlow:lowR rs n=x.left:=by rw[zJ8 hx,if_neg (by omega)]
  by_cases ht:tokB ts (j -1) x.sym.toList=true
  ·rw[if_pos ht]
   by_cases h:i+1<j
   ·rw[if_pos (show x.kind=3∧x.sym.toList=tokL ts (j -1)∧i+1<j from⟨hk,hb.1 ht,h⟩),List.flatMap_cons,List.flatMap_nil,List.append_nil,zPu,hlow];exact zN3
   ·rw[if_neg (show ¬(x.kind=3∧x.sym.toList=tokL ts (j -1)∧i+1<j) from fun hh=>h hh.2.2),zFb (by omega)];rfl
  ·rw[if_neg (show ¬(x.kind=3∧x.sym.toList=tokL ts (j -1)∧i+1<j) from fun hh=>ht (hb.2 hh.2.1)),if_neg ht];rfl
 ·rw[if_neg (show ¬(x.kind=2∧x.sym.toList=tokL ts i∧i+1<j) from fun hh=>by have:=hh.1;have:=hh.2.2;omega),if_neg (show ¬(x.kind=3∧x.sym.toList=tokL ts (j -1)∧i+1<j) from fun hh=>by have:=hh.1;have:=hh.2.2;omega),if_neg (show ¬x.kind=1 by omega),if_neg (show ¬x.kind=2 by omega),if_neg (show ¬x.kind=3 by omega),if_pos hk,List.nil_append,List.nil_append];have hlow:lowR rs n=x.left:=by rw[zJ8 hx,if_neg (by omega)]
  have hhigh:zDm rs n=x.right:=by rw[zLc hx,if_neg (by omega)]
  rw[List.flatMap_assoc,←zC7 2 (fun k=>zAm n i (zA4 rs (allR rs ts i k) x.left) (zA4 rs (allR rs ts k j) x.right)),←zC7 2]
  congr 1
  refine zAt fun k hkr=>?_
  rw[if_neg (show ¬(x.kind=1∧x.sym.toList=tokL ts k∧k+1<j) from fun hh=>by have:=hh.1;have:=hh.2.2;omega),if_pos ⟨hk,hs⟩,List.nil_append,List.flatMap_cons,List.flatMap_nil,List.append_nil,zPb,hlow,hhigh];exact zNc _ _ _ _
def gotR (rs:List Rul)(ts:List ByteArray)(i n:Nat)(l:List App):List Rd:=((zCq n l).flatMap (zGe rs ts i)).take 2
theorem zL6 {rs:List Rul}{ts:List ByteArray}{i n:Nat}{l:List App}:(gotR rs ts i n l).length≤2:=by unfold gotR;rw[List.length_take];omega
theorem zQ2 {rs:List Rul}{ts:List ByteArray}{i n:Nat}{l:List App}{a:App}:gotR rs ts i n (l++[a])=if a.rule=n then(gotR rs ts i n l++zGe rs ts i a).take 2 else gotR rs ts i n l:=by
 unfold gotR;rw[zCz]
 by_cases h:a.rule=n
 ·rw[if_pos h,List.flatMap_append,zVh,show zCq n [a]=[a] by simp[zCq,h]];simp
 ·rw[if_neg h,show zCq n [a]=[] by simp[zCq,h],List.append_nil]
theorem zVn {rs:List Rul}{ts:List ByteArray}{i n:Nat}{l:List App}{m:List Rd}(h:¬(gotR rs ts i n l).length<2):(gotR rs ts i n l++m).take 2=gotR rs ts i n l:=by
 have:=zL6 (rs:=rs) (ts:=ts) (i:=i) (n:=n) (l:=l);rw[List.take_append,show 2 -(gotR rs ts i n l).length=0 by omega,List.take_zero,List.append_nil,List.take_of_length_le this]
theorem zWs {rs:List Rul}(hv:zAj rs=true){ts:List ByteArray}{i j:Nat}(hij:i<j)(hj:j≤ts.length):zFo rs ts i j=zD9 ts i j++(List.range rs.length).flatMap fun n=>gotR rs ts i n (zDn rs ts i j):=by
 unfold zFo gotR
 congr 1
 exact zAt fun n hn=>(zUr hv hij hj (List.mem_range.1 hn)).symm
theorem zAr {rs:List Rul}{l:List Rd}{p:Int}{x:Rd}:x∈zA4 rs l p↔x∈l∧p≤zD8 rs x.rule:=by
 unfold zA4;rw[List.mem_filter,decide_eq_true_iff]
theorem zGu {r a:Int}{l m:List Rd}{x:Rd}:x∈zAm r a l m↔∃y z,y∈l∧z∈m∧x= .mk r a [y,z]:=by
 unfold zAm;rw[List.mem_flatMap];constructor
 ·rintro⟨y,hy,h⟩;obtain⟨z,hz,rfl⟩:=List.mem_map.1 h;exact⟨y,z,hy,hz,rfl⟩
 ·rintro⟨y,z,hy,hz,rfl⟩;exact⟨y,hy,List.mem_map.2 ⟨z,hz,rfl⟩⟩
theorem zI9 {r a:Int}{l:List Rd}{x:Rd}:x∈zBc r a l↔∃y,y∈l∧x= .mk r a [y]:=by
 unfold zBc;rw[List.mem_map];exact⟨fun⟨y,h,e⟩=>⟨y,h,e.symm⟩,fun⟨y,h,e⟩=>⟨y,h,e.symm⟩⟩
def zVj (rs:List Rul)(ts:List ByteArray)(i j n:Nat)(u:Rul)(x:Rd):Prop:=
 (u.kind=1∧∃k y z,i<k∧k+1<j∧tokB ts k u.sym.toList=true∧y∈zA4 rs (allR rs ts i k) u.left∧z∈zA4 rs (allR rs ts (k+1) j) u.right∧x= .mk n i [y,z])∨
 (u.kind=2∧∃y,tokB ts i u.sym.toList=true∧y∈zA4 rs (allR rs ts (i+1) j) u.right∧x= .mk n i [y])∨
 (u.kind=3∧∃y,tokB ts (j -1) u.sym.toList=true∧y∈zA4 rs (allR rs ts i (j -1)) u.left∧x= .mk n i [y])∨
 (u.kind=4∧∃k y z,i<k∧k<j∧y∈zA4 rs (allR rs ts i k) u.left∧z∈zA4 rs (allR rs ts k j) u.right∧x= .mk n i [y,z])
theorem zQ9 {rs:List Rul}{ts:List ByteArray}{i j n:Nat}{u:Rul}(hu:rs[n]?=some u){x:Rd}:x∈zB3 rs ts (allR rs ts) i j n↔zVj rs ts i j n u x:=by
 unfold zB3 zVj;rw[hu];dsimp only
 by_cases h1:u.kind=1
 ·rw[if_pos h1,List.mem_flatMap];constructor
  ·rintro⟨k,hk,h⟩;have:=zDj hk
   split at h
   ·obtain⟨y,z,hy,hz,rfl⟩:=zGu.1 h;exact .inl ⟨h1,k,y,z,by omega,by omega,‹_›,hy,hz,rfl⟩
   ·cases h
  ·rintro(⟨_,k,y,z,h2,h3,h4,hy,hz,rfl⟩|⟨h2,_⟩|⟨h2,_⟩|⟨h2,_⟩)
   ·refine⟨k,List.mem_range'_1.2 ⟨by omega,by omega⟩,?_⟩;rw[if_pos h4];exact zGu.2 ⟨y,z,hy,hz,rfl⟩
   ·omega
   ·omega
   ·omega
 ·rw[if_neg h1]
  by_cases h2:u.kind=2
  ·rw[if_pos h2];constructor
   ·intro h
    split at h
    ·obtain⟨y,hy,rfl⟩:=zI9.1 h;exact .inr (.inl ⟨h2,y,‹_›,hy,rfl⟩)
    ·cases h
   ·rintro(⟨h3,_⟩|⟨_,y,h3,hy,rfl⟩|⟨h3,_⟩|⟨h3,_⟩)
    ·omega
    ·rw[if_pos h3];exact zI9.2 ⟨y,hy,rfl⟩
    ·omega
    ·omega
  ·rw[if_neg h2]
   by_cases h3:u.kind=3
   ·rw[if_pos h3];constructor
    ·intro h
     split at h
     ·obtain⟨y,hy,rfl⟩:=zI9.1 h;exact .inr (.inr (.inl ⟨h3,y,‹_›,hy,rfl⟩))
     ·cases h
    ·rintro(⟨h4,_⟩|⟨h4,_⟩|⟨_,y,h4,hy,rfl⟩|⟨h4,_⟩)
     ·omega
     ·omega
     ·rw[if_pos h4];exact zI9.2 ⟨y,hy,rfl⟩
     ·omega
   ·rw[if_neg h3]
    by_cases h4:u.kind=4
    ·rw[if_pos h4,List.mem_flatMap];constructor
     ·rintro⟨k,hk,h⟩;have:=zDj hk;obtain⟨y,z,hy,hz,rfl⟩:=zGu.1 h;exact .inr (.inr (.inr ⟨h4,k,y,z,by omega,by omega,hy,hz,rfl⟩))
     ·rintro(⟨h5,_⟩|⟨h5,_⟩|⟨h5,_⟩|⟨_,k,y,z,h5,h6,hy,hz,rfl⟩)
      ·omega
      ·omega
      ·omega
      ·exact⟨k,List.mem_range'_1.2 ⟨by omega,by omega⟩,zGu.2 ⟨y,z,hy,hz,rfl⟩⟩
    ·rw[if_neg h4];constructor
     ·intro h;cases h
     ·rintro(⟨h5,_⟩|⟨h5,_⟩|⟨h5,_⟩|⟨h5,_⟩)<;>omega
theorem zH4 {rs:List Rul}{ts:List ByteArray}{i j:Nat}(hij:i<j){x:Rd}:x∈allR rs ts i j↔(j=i+1∧tokB ts i zCi=true∧x= .mk (-1) i [])∨∃n u,rs[n]?=some u∧zVj rs ts i j n u x:=by
 rw[zQ7 hij];unfold zNe zD9;rw[List.mem_append,List.mem_flatMap];constructor
 ·rintro(h|⟨n,hn,h⟩)
  ·split at h
   ·exact .inl ⟨(‹_∧_›).1,(‹_∧_›).2,by simpa using h⟩
   ·cases h
  ·obtain⟨u,hu⟩:∃u,rs[n]?=some u:=⟨_,List.getElem?_eq_getElem (List.mem_range.1 hn)⟩
   exact .inr ⟨n,u,hu,(zQ9 hu).1 h⟩
 ·rintro(⟨h1,h2,rfl⟩|⟨n,u,hu,h⟩)
  ·left
   rw[if_pos ⟨h1,h2⟩];simp
  ·right
   exact⟨n,List.mem_range.2 (List.getElem?_eq_some_iff.1 hu).1,(zQ9 hu).2 h⟩
theorem zFv {rs:List Rul}{ts:List ByteArray}{i j:Nat}{x:Rd}(h:x∈allR rs ts i j):i<j:=by
 rcases Nat.lt_or_ge i j with h'|h'
 ·exact h'
 ·rw[zFb h'] at h;cases h
theorem zNl {rs:List Rul}{ts:List ByteArray}{i j n:Nat}{u:Rul}{x:Rd}(h:zVj rs ts i j n u x):x.at_=i∧x.rule=n:=by
 rcases h with⟨_,k,y,z,_,_,_,_,_,rfl⟩|⟨_,y,_,_,rfl⟩|⟨_,y,_,_,rfl⟩|⟨_,k,y,z,_,_,_,_,rfl⟩
 all_goals exact⟨rfl,rfl⟩
theorem zZn {rs:List Rul}{ts:List ByteArray}{i j:Nat}{x:Rd}(h:x∈allR rs ts i j):x.at_=i:=by
 rcases(zH4 (zFv h)).1 h with⟨_,_,rfl⟩|⟨n,u,_,h⟩
 ·rfl
 ·exact(zNl h).1
theorem zB6 {rs:List Rul}{ts:List ByteArray}{i j:Nat}{p:Int}{x:Rd}(h:x∈zA4 rs (allR rs ts i j) p):x.at_=i∧i<j:=⟨zZn (zAr.1 h).1,zFv (zAr.1 h).1⟩
theorem zOc {rs:List Rul}(hv:zAj rs=true){ts:List ByteArray}{i j:Nat}{x:Rd}(h:x∈allR rs ts i j):0≤zD8 rs x.rule∧zD8 rs x.rule≤101:=by
 rcases(zH4 (zFv h)).1 h with⟨_,_,rfl⟩|⟨n,u,hu,h⟩
 ·show 0≤zD8 rs (-1)∧zD8 rs (-1)≤101;unfold zD8;rw[if_pos (by omega)];omega
 ·rw[(zNl h).2,zGz hu];have ho:=zGp hv hu;unfold ownB at ho;simp only[Bool.and_eq_true,inR,decide_eq_true_eq] at ho;omega
end Go.Proofs.YtchllommcolijaaGreatDoor.Ch
namespace Go.Proofs.YtchllommcolijaaGreatDoor
theorem index_one (c:UInt8):∀{a b:List UInt8},c∉a→Lib.index (a++c::b) [c]=(a.length:Int)
 |[],b,_=>by simp[Lib.index,List.isPrefixOf]
 |x::a,b,h=>by
  rw[List.mem_cons,not_or] at h;rw[List.cons_append,Lib.index,index_one c h.2];have hp:([c]:List UInt8).isPrefixOf (x::(a++c::b))=false:=by simp[List.isPrefixOf,h.1]
  rw[hp];have:((a.length:Int)== -1)=false:=by rw[beq_eq_false_iff_ne];omega
  simp[this]
theorem zK3 (c:UInt8):∀{a:List UInt8},c∉a→Lib.index a [c]= -1
 |[],_=>by simp[Lib.index]
 |x::a,h=>by
  rw[List.mem_cons,not_or] at h;rw[Lib.index,zK3 c h.2];have hp:([c]:List UInt8).isPrefixOf (x::a)=false:=by simp[List.isPrefixOf,h.1]
  rw[hp];simp
theorem zTg (c:UInt8){a b:List UInt8}(h:c∉a):Lib.cut (a++c::b) [c]=(a,b,true):=by
 unfold Lib.cut;rw[index_one c h,if_pos (by omega)];simp
theorem zQ5 (c:UInt8){a:List UInt8}(h:c∉a):Lib.cut a [c]=(a,[],false):=by
 unfold Lib.cut;rw[zK3 c h,if_neg (by omega)]
theorem zN2 (c:UInt8)(l:List UInt8):c∉l∨∃a b,l=a++c::b∧c∉a:=by
 induction l with
 |nil=>exact .inl (by simp)
 |cons x r ih=>
  by_cases hx:x=c
  ·subst hx;exact .inr ⟨[],r,rfl,by simp⟩
  ·rcases ih with h|⟨a,b,rfl,h⟩
   ·exact .inl (by simp[h,Ne.symm hx])
   ·exact .inr ⟨x::a,b,rfl,by simp[h,Ne.symm hx]⟩
def bys (l:List UInt8):ByteArray:=⟨l.toArray⟩
theorem zP9 (l:List UInt8):(bys l).data.toList=l:=by simp[bys]
theorem zV6 (b:ByteArray):bys b.data.toList=b:=by simp[bys]
end Go.Proofs.YtchllommcolijaaGreatDoor
namespace Go.Proofs.YtchllommcolijaaGreatDoor.At
inductive Tre where
 |mk (kind:Int) (text:ByteArray) (cols:Int) (kids:List Tre)
def Tre.kind:Tre→Int
 | .mk k _ _ _=>k
def Tre.text:Tre→ByteArray
 | .mk _ s _ _=>s
def Tre.cols:Tre→Int
 | .mk _ _ c _=>c
def Tre.kids:Tre→List Tre
 | .mk _ _ _ ks=>ks
mutual
def zAa:Tre→Nat
 | .mk _ _ _ ks=>zAc ks+1
def zAc:List Tre→Nat
 |[]=>0
 |t::ts=>zAa t+zAc ts
end
mutual
def zDp:Tre→Nat
 | .mk _ _ _ ks=>zDd ks+1
def zDd:List Tre→Nat
 |[]=>0
 |t::ts=>max (zDp t) (zDd ts)
end
def zD0 (c:UInt8):Bool:=decide (48≤c.toNat)&&decide (c.toNat≤57)
def zHu (l:List UInt8):Bool:=l.all zD0&& !l.isEmpty
def numP (l:List UInt8):Bool:=decide (l.length≤20)&&(zHu (Lib.cut l [46]).1&&(!(Lib.cut l [46]).2.2||zHu (Lib.cut l [46]).2.1))
def numR (l:List UInt8):Bool:=l.all (fun c=>c==46||zD0 c)&&(decide (l.head?≠some 46)&&(decide (l.getLast?≠some 46)&&(decide (0<l.length)&&(decide (l.length≤20)&&decide (l.count 46≤1)))))
theorem zNg (c:UInt8)(h:zD0 c=true):c≠46:=by
 rintro rfl;revert h;decide
theorem zH8 {l:List UInt8}(h:l.all zD0=true):l.count 46=0:=by
 rw[List.count_eq_zero];intro hm;exact zNg 46 (List.all_eq_true.1 h 46 hm) rfl
theorem zEz {l:List UInt8}(h:(46:UInt8)∉l):l.all (fun c=>c==46||zD0 c)=l.all zD0:=by
 induction l with
 |nil=>rfl
 |cons a r ih=>
  simp only[List.mem_cons,not_or] at h;rw[List.all_cons,List.all_cons,ih h.2]
  congr 1
  rw[beq_eq_false_iff_ne.2 (fun e=>h.1 e.symm),Bool.false_or]
theorem zPa (l:List UInt8):numR l=numP l:=by
 unfold numR numP;rcases zN2 46 l with h|⟨a,b,rfl,h⟩
 ·rw[zQ5 46 h,zEz h];have h1:l.count 46=0:=List.count_eq_zero.2 h;have h2:l.head?≠some 46:=fun e=>h (List.mem_of_head? e)
  have h3:l.getLast?≠some 46:=fun e=>h (List.mem_of_getLast? e)
  rw[h1,decide_eq_true h2,decide_eq_true h3];unfold zHu;cases l with
  |nil=>simp
  |cons x r=>simp[Bool.and_comm]
 ·rw[zTg 46 h];simp only[Bool.not_true,Bool.false_or];rw[Bool.eq_iff_iff];simp only[Bool.and_eq_true,decide_eq_true_eq,zHu,Bool.not_eq_true',List.isEmpty_eq_false_iff];constructor
  ·rintro⟨h1,h2,h3,h4,h5,h6⟩;rw[List.all_append,List.all_cons,Bool.and_eq_true,zEz h] at h1;have hc:(b.count 46)=0:=by
    rw[List.count_append,List.count_cons_self] at h6;omega
   have hb:(46:UInt8)∉b:=List.count_eq_zero.1 hc;rw[zEz hb] at h1;simp only[Bool.and_eq_true] at h1;refine⟨h5,⟨h1.1,fun e=>?_⟩,h1.2.2,fun e=>?_⟩
   ·subst e;simp at h2
   ·subst e;simp at h3
  ·rintro⟨h1,⟨h2,h3⟩,h4,h5⟩;have hb:(46:UInt8)∉b:=List.count_eq_zero.1 (zH8 h4);refine⟨?_,?_,?_,by simp;omega,h1,?_⟩
   ·rw[List.all_append,List.all_cons,zEz h,zEz hb,h2,h4];rfl
   ·intro e;cases a with
    |nil=>exact h3 rfl
    |cons x r=>
     simp at e;subst e;simp at h
   ·intro e;rw[List.getLast?_append] at e;cases b with
    |nil=>exact h5 rfl
    |cons x r=>
     rw[List.getLast?_cons_cons] at e;have hne:(x::r).getLast?=some 46:=by
      cases hl:(x::r).getLast? with
      |none=>simp at hl
      |some y=>rw[hl] at e;simpa using e
     exact hb (List.mem_of_getLast? hne)
   ·rw[List.count_append,List.count_cons_self,zH8 h2,zH8 h4];omega
def zJs (l:List UInt8):Bool:=l.all fun c=>decide (32≤c.toNat)&&decide (c.toNat≤126)
def zHm:List UInt8:=[40,41,91,93,123,125,124,60,62,47,46]
def zOh (l:List UInt8):Bool:=match l with
 |[a,b]=>hasB zHm a&&hasB zHm b
 |_=>false
def zDu (k:Int)(l:List UInt8):Bool:=
 if k=2 then symB l else if k=3 then numP l else if k=4 then decide (l.length≤200)&&zJs l else if k=10 then inB zAu l else if k=11 then zOh l else l.isEmpty
def zBv (k c:Int)(n:Nat):Bool:=
 if k=12 then decide (1≤c∧c≤16)&&(decide (1≤n∧n≤256)&&decide ((n:Int)%c=0))
 else decide (c=0)&&(if k=1 then decide (n≤200) else if k=2∨k=3∨k=4 then decide (n=0) else if k=5∨k=6∨k=7∨k=8 then decide (n=2) else if k=9 then decide (n=3) else if k=10∨k=11 then decide (n=1) else false)
def ownT (k:Int)(s:List UInt8)(c:Int)(n:Nat):Bool:=zDu k s&&zBv k c n
def zBk (k j:Int):Bool:=(decide (k=1))==(decide (j=1))
mutual
def zB8:Tre→Bool
 | .mk k s c ks=>ownT k s.data.toList c ks.length&&zCm k ks
def zCm (k:Int):List Tre→Bool
 |[]=>true
 |t::ts=> !zBk k t.kind&&(zB8 t&&zCm k ts)
end
def zFt (t:Tre):Bool:=decide (t.kind=1)&&(zB8 t&&(decide (zAa t≤1000)&&decide (zDp t≤24)))
mutual
def chkT:Tre→Nat→Nat→Bool×Nat
 | .mk k s c ks,d,n=>if 1000<n+1∨24<d∨ownT k s.data.toList c ks.length=false then(false,n+1) else chkL k ks (d+1) (n+1)
def chkL (k:Int):List Tre→Nat→Nat→Bool×Nat
 |[],_,n=>(true,n)
 |t::ts,d,n=>if zBk k t.kind then(false,n) else if(chkT t d n).1 then chkL k ts d (chkT t d n).2 else(false,(chkT t d n).2)
end
mutual
theorem zLq:∀(t:Tre) (d n:Nat),n≤1000→((chkT t d n).1=true↔zB8 t=true∧d+zDp t≤25∧n+zAa t≤1000)∧((chkT t d n).1=true→(chkT t d n).2=n+zAa t)
 | .mk k s c ks,d,n,hn=>by
  unfold chkT zB8 zDp zAa
  by_cases h:1000<n+1∨24<d∨ownT k s.data.toList c ks.length=false
  ·rw[if_pos h];refine⟨⟨fun e=>by simp at e,fun⟨h1,h2,h3⟩=>?_⟩,fun e=>by simp at e⟩;rw[Bool.and_eq_true] at h1;rcases h with h|h|h
   ·omega
   ·omega
   ·rw[h] at h1;simp at h1
  ·rw[if_neg h];simp only[not_or,Bool.not_eq_false] at h;obtain⟨g1,g2,g3⟩:=h;obtain⟨i1,i2⟩:=zOx k ks (d+1) (n+1) (by omega) (by omega);rw[g3,Bool.true_and];refine⟨i1.trans ⟨fun⟨a,b,c⟩=>⟨a,by omega,by omega⟩,fun⟨a,b,c⟩=>⟨a,by omega,by omega⟩⟩,fun e=>?_⟩;rw[i2 e];omega
theorem zOx:∀(k:Int) (ts:List Tre) (d n:Nat),n≤1000→d≤25→((chkL k ts d n).1=true↔zCm k ts=true∧d+zDd ts≤25∧n+zAc ts≤1000)∧((chkL k ts d n).1=true→(chkL k ts d n).2=n+zAc ts)
 |k,[],d,n,hn,hd=>by
  unfold chkL zCm zDd zAc;simp;omega
 |k,t::ts,d,n,hn,hd=>by
  unfold chkL zCm zDd zAc;cases hb:zBk k t.kind
  ·obtain⟨a1,a2⟩:=zLq t d n hn;rw[if_neg (by simp)];cases hc:(chkT t d n).1
   ·rw[if_neg (by simp)];rw[hc] at a1;refine⟨⟨fun e=>by simp at e,fun⟨h1,h2,h3⟩=>?_⟩,fun e=>by simp at e⟩;simp only[Bool.not_false,Bool.true_and,Bool.and_eq_true] at h1;have:=a1.2 ⟨h1.1,by omega,by omega⟩;cases this
   ·rw[if_pos rfl];obtain⟨f1,f2,f3⟩:=a1.1 hc;have e2:=a2 hc;rw[e2];obtain⟨b1,b2⟩:=zOx k ts d (n+zAa t) f3 hd;simp only[Bool.not_false,Bool.true_and,f1];refine⟨b1.trans ⟨fun⟨p,q,r⟩=>⟨p,by omega,by omega⟩,fun⟨p,q,r⟩=>⟨p,by omega,by omega⟩⟩,fun e=>?_⟩;rw[b2 e];omega
  ·rw[if_pos rfl];simp
end
theorem zTq (t:Tre):zFt t=(decide (t.kind=1)&&(chkT t 1 0).1):=by
 unfold zFt
 congr 1
 rw[Bool.eq_iff_iff];have:=(zLq t 1 0 (by omega)).1;rw[this];simp only[Bool.and_eq_true,decide_eq_true_eq];constructor
 ·rintro⟨a,b,c⟩;exact⟨a,by omega,by omega⟩
 ·rintro⟨a,b,c⟩;exact⟨a,by omega,by omega⟩
end Go.Proofs.YtchllommcolijaaGreatDoor.At
namespace Go.Proofs.YtchllommcolijaaGreatDoor
open Go.RowKit
theorem zh {p:Prop}(h:p):RowKit.Hid p:=Lib.hid h
theorem sj {α:Type _}{a b:α}(h:some a=some b):a=b:=Option.some.inj h
theorem gE {α:Type _}{l:List α}{i:Nat}(h:i<l.length):l[i]?=some l[i]:=List.getElem?_eq_getElem h
theorem jt {w x y:World}(h:RowKit.Hid (Below w.heap.size w x))(hb:Below x.heap.size x y):RowKit.Hid (Below w.heap.size w y):=Lib.hid (h.out.trans (hb.mono h.out.size))
theorem zA0 {a b:Bool}(h:a=b):Ending.returned (.bool a)= .returned (.bool b):=by rw[h]
theorem zXp (c:UInt8):letB c=(decide (97≤bits .or .u8 (c.toNat:Int) 32)&&decide (bits .or .u8 (c.toNat:Int) 32≤122)):=by
 have h:∀n:Nat,n<256→letB (UInt8.ofNat n)=(decide (97≤bits .or .u8 ((UInt8.ofNat n).toNat:Int) 32)&&decide (bits .or .u8 ((UInt8.ofNat n).toNat:Int) 32≤122)):=by decide+kernel
 have:=h c.toNat c.toNat_lt
 rwa [UInt8.ofNat_toNat] at this
theorem zDq {s:ByteArray}{p:UInt8→Bool}(h:∀(j:Nat) (hj:j<s.size),p s[j]=true):s.toList.all p=true:=by
 rw[ByteArray.toList_eq,List.all_eq_true];intro x hx;obtain⟨j,hj,rfl⟩:=List.mem_iff_getElem.1 hx;exact h j (by simpa using hj)
theorem zAn {s:ByteArray}{p:UInt8→Bool}{k:Nat}(hk:k<s.size)(h:p s[k]=false):s.toList.all p=false:=by
 rw[ByteArray.toList_eq,List.all_eq_false];refine⟨s[k],?_,by simp[h]⟩;rw[Array.mem_toList_iff];exact Array.getElem_mem (xs:=s.data) hk
theorem zC2 (s:ByteArray):s.toList.length=s.size:=by rw[ByteArray.toList_eq,Array.length_toList];rfl
set_option maxHeartbeats 400000 in
theorem zG9 (s:ByteArray)(w:World)(hs:s.size≤9223372036854775807):Calls Tryz.prog 72 #[.string s] w fun e w'=>e= .returned (.bool (zB2 s.toList))∧w=w':=by
 go_enter Tryz.func72,Tryz.ntmps72;go_wp2_with fail
 go_loop [3] (fun i=>∃k:Nat,k≤s.size∧i= .int .i64 k∧Hid (∀(j:Nat) (hj:j<s.size),j<k→letB s[j]=true)) (fun i=>s.size -(intOf i).toNat)
 case atStart=>exact⟨0,by omega,rfl,fun j _ h=>by omega⟩
 case round=>
  obtain⟨k,hk,rfl,HJ⟩:=hrel
  by_cases hlt:k<s.size
  ·have ho:=zXp s[k];cases hl:letB s[k]
   ·have HF:=Lib.hid (zAn hlt hl);rw[hl] at ho;have ho':bits .or .u8 (s[k].toNat:Int) 32<97∨122<bits .or .u8 (s[k].toNat:Int) 32:=by simp at ho;omega
    clear ho hl;rcases ho' with h|h
    ·go_wp2_with fail;go_ret;exact⟨zA0 HF.out.symm,rfl⟩
    ·go_wp2_with fail;go_ret;exact⟨zA0 HF.out.symm,rfl⟩
   ·rw[hl] at ho;have h1:97≤bits .or .u8 (s[k].toNat:Int) 32:=by simp at ho;omega
    have h2:bits .or .u8 (s[k].toNat:Int) 32≤122:=by simp at ho;omega
    have HL:=Lib.hid hl;clear ho hl;go_wp2_with fail;go_round
    case rel=>exact⟨k+1,by omega,by go_num,fun j hj h=>by
     rcases Nat.lt_or_ge j k with h'|h'
     ·exact HJ.out j hj h'
     ·obtain rfl:j=k:=by omega
      exact HL.out⟩
    case measure=>simp[intOf];omega
  ·have HF:=Lib.hid (zDq (s:=s) (p:=letB) fun j hj=>HJ.out j hj (by omega));go_wp2_with fail;go_ret;exact⟨zA0 HF.out.symm,rfl⟩
set_option maxHeartbeats 400000 in
theorem zOn (s:ByteArray)(w:World):Calls Tryz.prog 74 #[.string s] w fun e w'=>e= .returned (.bool (inB zB1 s.toList))∧w=w':=by
 cases h1:(s.toList==[102,114,97,99])
 ·cases h2:(s.toList==[114,111,111,116])
  ·cases h3:(s.toList==[109,97,116,114,105,120])
   ·cases h4:(s.toList==[102,101,110,99,101])
    ·have HR:Hid (inB zB1 s.toList=false):=by simp only[inB,zB1,List.contains_cons,h1,h2,h3,h4];rfl
     go_enter Tryz.func74,Tryz.ntmps74;go_wp2_with fail;go_ret;exact⟨zA0 HR.out.symm,rfl⟩
    ·have HR:Hid (inB zB1 s.toList=true):=by simp only[inB,zB1,List.contains_cons,h1,h2,h3,h4];rfl
     go_enter Tryz.func74,Tryz.ntmps74;go_wp2_with fail;go_ret;exact⟨zA0 HR.out.symm,rfl⟩
   ·have HR:Hid (inB zB1 s.toList=true):=by simp only[inB,zB1,List.contains_cons,h1,h2,h3];rfl
    go_enter Tryz.func74,Tryz.ntmps74;go_wp2_with fail;go_ret;exact⟨zA0 HR.out.symm,rfl⟩
  ·have HR:Hid (inB zB1 s.toList=true):=by simp only[inB,zB1,List.contains_cons,h1,h2];rfl
   go_enter Tryz.func74,Tryz.ntmps74;go_wp2_with fail;go_ret;exact⟨zA0 HR.out.symm,rfl⟩
 ·have HR:Hid (inB zB1 s.toList=true):=by simp only[inB,zB1,List.contains_cons,h1];rfl
  go_enter Tryz.func74,Tryz.ntmps74;go_wp2_with fail;go_ret;exact⟨zA0 HR.out.symm,rfl⟩
set_option maxHeartbeats 400000 in
theorem zJv (s:ByteArray)(w:World):Calls Tryz.prog 46 #[.string s] w fun e w'=>e= .returned (.bool (inB zAu s.toList))∧w=w':=by
 cases h1:(s.toList==[104,97,116])
 ·cases h2:(s.toList==[98,97,114])
  ·cases h3:(s.toList==[118,101,99])
   ·cases h4:(s.toList==[100,111,116])
    ·cases h5:(s.toList==[116,105,108,100,101])
     ·cases h6:(s.toList==[99,104,101,99,107])
      ·have HR:Hid (inB zAu s.toList=false):=by simp only[inB,zAu,List.contains_cons,h1,h2,h3,h4,h5,h6];rfl
       go_enter Tryz.func46,Tryz.ntmps46;go_wp2_with fail;go_ret;exact⟨zA0 HR.out.symm,rfl⟩
      ·have HR:Hid (inB zAu s.toList=true):=by simp only[inB,zAu,List.contains_cons,h1,h2,h3,h4,h5,h6];rfl
       go_enter Tryz.func46,Tryz.ntmps46;go_wp2_with fail;go_ret;exact⟨zA0 HR.out.symm,rfl⟩
     ·have HR:Hid (inB zAu s.toList=true):=by simp only[inB,zAu,List.contains_cons,h1,h2,h3,h4,h5];rfl
      go_enter Tryz.func46,Tryz.ntmps46;go_wp2_with fail;go_ret;exact⟨zA0 HR.out.symm,rfl⟩
    ·have HR:Hid (inB zAu s.toList=true):=by simp only[inB,zAu,List.contains_cons,h1,h2,h3,h4];rfl
     go_enter Tryz.func46,Tryz.ntmps46;go_wp2_with fail;go_ret;exact⟨zA0 HR.out.symm,rfl⟩
   ·have HR:Hid (inB zAu s.toList=true):=by simp only[inB,zAu,List.contains_cons,h1,h2,h3];rfl
    go_enter Tryz.func46,Tryz.ntmps46;go_wp2_with fail;go_ret;exact⟨zA0 HR.out.symm,rfl⟩
  ·have HR:Hid (inB zAu s.toList=true):=by simp only[inB,zAu,List.contains_cons,h1,h2];rfl
   go_enter Tryz.func46,Tryz.ntmps46;go_wp2_with fail;go_ret;exact⟨zA0 HR.out.symm,rfl⟩
 ·have HR:Hid (inB zAu s.toList=true):=by simp only[inB,zAu,List.contains_cons,h1];rfl
  go_enter Tryz.func46,Tryz.ntmps46;go_wp2_with fail;go_ret;exact⟨zA0 HR.out.symm,rfl⟩
set_option maxHeartbeats 400000 in
theorem zHf (n a b:Int)(w:World):Calls Tryz.prog 39 #[.int .i64 n,.int .i64 a,.int .i64 b] w fun e w'=>e= .returned (.bool (inR n a b))∧w=w':=by
 by_cases h1:a≤n
 ·by_cases h2:n≤b
  ·have HR:=Lib.hid (show inR n a b=true by unfold inR;rw[decide_eq_true h1,decide_eq_true h2];rfl);go_enter Tryz.func39,Tryz.ntmps39;go_wp2_with fail;go_ret;exact⟨zA0 (by first|exact HR.out.symm|(rw[HR.out];simp;omega)),rfl⟩
  ·have HR:=Lib.hid (show inR n a b=false by unfold inR;rw[decide_eq_false h2,Bool.and_false]);go_enter Tryz.func39,Tryz.ntmps39;go_wp2_with fail;go_ret;exact⟨zA0 (by first|exact HR.out.symm|(rw[HR.out];simp;omega)),rfl⟩
 ·have HR:=Lib.hid (show inR n a b=false by unfold inR;rw[decide_eq_false h1];rfl);go_enter Tryz.func39,Tryz.ntmps39;go_wp2_with fail;go_ret;exact⟨zA0 (by first|exact HR.out.symm|(rw[HR.out];simp;omega)),rfl⟩
set_option maxHeartbeats 400000 in
theorem zG6 (n a b:Int)(w:World):Calls Tryz.prog 86 #[.int .i64 n,.int .i64 a,.int .i64 b] w fun e w'=>e= .returned (.bool (inR n a b))∧w=w':=by
 by_cases h1:a≤n
 ·by_cases h2:n≤b
  ·have HR:=Lib.hid (show inR n a b=true by unfold inR;rw[decide_eq_true h1,decide_eq_true h2];rfl);go_enter Tryz.func86,Tryz.ntmps86;go_wp2_with fail;go_ret;exact⟨zA0 (by first|exact HR.out.symm|(rw[HR.out];simp;omega)),rfl⟩
  ·have HR:=Lib.hid (show inR n a b=false by unfold inR;rw[decide_eq_false h2,Bool.and_false]);go_enter Tryz.func86,Tryz.ntmps86;go_wp2_with fail;go_ret;exact⟨zA0 (by first|exact HR.out.symm|(rw[HR.out];simp;omega)),rfl⟩
 ·have HR:=Lib.hid (show inR n a b=false by unfold inR;rw[decide_eq_false h1];rfl);go_enter Tryz.func86,Tryz.ntmps86;go_wp2_with fail;go_ret;exact⟨zA0 (by first|exact HR.out.symm|(rw[HR.out];simp;omega)),rfl⟩
set_option maxHeartbeats 400000 in
theorem zSg (s:ByteArray)(w:World)(hs:s.size≤9223372036854775807):Calls Tryz.prog 38 #[.string s] w fun e w'=>e= .returned (.bool (zAl s.toList))∧w=w':=by
 go_enter Tryz.func38,Tryz.ntmps38;go_wp2_with fail
 go_loop [3] (fun i=>∃k:Nat,k≤s.size∧i= .int .i64 k∧Hid (∀(j:Nat) (hj:j<s.size),j<k→letB s[j]=true)) (fun i=>s.size -(intOf i).toNat)
 case atStart=>exact⟨0,by omega,rfl,fun j _ h=>by omega⟩
 case round=>
  obtain⟨k,hk,rfl,HJ⟩:=hrel
  by_cases hlt:k<s.size
  ·have ho:=zXp s[k];cases hl:letB s[k]
   ·have HF:=Lib.hid (zAn hlt hl);rw[hl] at ho;have ho':bits .or .u8 (s[k].toNat:Int) 32<97∨122<bits .or .u8 (s[k].toNat:Int) 32:=by simp at ho;omega
    clear ho hl;rcases ho' with h|h
    ·go_wp2_with fail;go_ret;exact⟨zA0 (by unfold zAl zB2;rw[HF.out];rfl),rfl⟩
    ·go_wp2_with fail;go_ret;exact⟨zA0 (by unfold zAl zB2;rw[HF.out];rfl),rfl⟩
   ·rw[hl] at ho;have h1:97≤bits .or .u8 (s[k].toNat:Int) 32:=by simp at ho;omega
    have h2:bits .or .u8 (s[k].toNat:Int) 32≤122:=by simp at ho;omega
    have HL:=Lib.hid hl;clear ho hl;go_wp2_with fail;go_round
    case rel=>exact⟨k+1,by omega,by go_num,fun j hj h=>by
     rcases Nat.lt_or_ge j k with h'|h'
     ·exact HJ.out j hj h'
     ·obtain rfl:j=k:=by omega
      exact HL.out⟩
    case measure=>simp[intOf];omega
  ·have HF:=Lib.hid (zDq (s:=s) (p:=letB) fun j hj=>HJ.out j hj (by omega));have HZ:=Lib.hid (zC2 s)
   by_cases h1:1≤s.size
   ·by_cases h2:s.size≤16
    ·have HR:=Lib.hid (show zAl s.toList=true by unfold zAl zB2;rw[HF.out,HZ.out,decide_eq_true h1,decide_eq_true h2];rfl);go_wp2_with fail;go_ret;exact⟨zA0 (by first|exact HR.out.symm|(rw[HR.out];simp;omega)),rfl⟩
    ·have HR:=Lib.hid (show zAl s.toList=false by unfold zAl;rw[HZ.out,decide_eq_false h2,Bool.and_false,Bool.and_false]);go_wp2_with fail;go_ret;exact⟨zA0 (by first|exact HR.out.symm|(rw[HR.out];simp;omega)),rfl⟩
   ·have HR:=Lib.hid (show zAl s.toList=false by unfold zAl;rw[HZ.out,decide_eq_false h1,Bool.false_and,Bool.and_false]);go_wp2_with fail;go_ret;exact⟨zA0 (by first|exact HR.out.symm|(rw[HR.out];simp;omega)),rfl⟩
set_option maxHeartbeats 400000 in
theorem zFz (c:UInt8)(w:World):Calls Tryz.prog 112 #[.int .u8 (c.toNat:Int)] w fun e w'=>e= .returned (.bool (letB c))∧w=w':=by
 have hc:=c.toNat_lt
 by_cases h1:97≤c.toNat
 ·by_cases h2:c.toNat≤122
  ·have HR:=Lib.hid (show letB c=true by unfold letB;rw[decide_eq_true h1,decide_eq_true h2];rfl);go_enter Tryz.func112,Tryz.ntmps112;go_wp2_with fail;go_ret;exact⟨zA0 (by first|exact HR.out.symm|(rw[HR.out];simp;omega)),rfl⟩
  ·have HR:=Lib.hid (show letB c=false by unfold letB;rw[decide_eq_false h2,Bool.and_false,decide_eq_false (show ¬c.toNat≤90 by omega),Bool.and_false];rfl);go_enter Tryz.func112,Tryz.ntmps112;go_wp2_with fail;go_ret;exact⟨zA0 (by first|exact HR.out.symm|(rw[HR.out];simp;omega)),rfl⟩
 ·by_cases h3:65≤c.toNat
  ·by_cases h4:c.toNat≤90
   ·have HR:=Lib.hid (show letB c=true by unfold letB;rw[decide_eq_true h3,decide_eq_true h4,Bool.or_eq_true];exact .inr rfl);go_enter Tryz.func112,Tryz.ntmps112;go_wp2_with fail;go_ret;exact⟨zA0 (by first|exact HR.out.symm|(rw[HR.out];simp;omega)),rfl⟩
   ·have HR:=Lib.hid (show letB c=false by unfold letB;rw[decide_eq_false h1,decide_eq_false h4,Bool.and_false];rfl);go_enter Tryz.func112,Tryz.ntmps112;go_wp2_with fail;go_ret;exact⟨zA0 (by first|exact HR.out.symm|(rw[HR.out];simp;omega)),rfl⟩
  ·have HR:=Lib.hid (show letB c=false by unfold letB;rw[decide_eq_false h1,decide_eq_false h3];rfl);go_enter Tryz.func112,Tryz.ntmps112;go_wp2_with fail;go_ret;exact⟨zA0 (by first|exact HR.out.symm|(rw[HR.out];simp;omega)),rfl⟩
def zRh (c:UInt8)(w:World)(e:Ending)(w':World):Prop:=∃n:Int,e= .returned (.int .i64 n)∧(letB c=true→0≤n)∧(letB c=false→n<0)∧w=w'
set_option maxHeartbeats 400000 in
theorem zQe (c:UInt8)(w:World):Calls Tryz.prog 110 #[.int .u8 (c.toNat:Int)] w (zRh c w):=by
 have hc:=c.toNat_lt
 by_cases h1:97≤c.toNat
 ·by_cases h2:c.toNat≤122
  ·have HR:=Lib.hid (show letB c=true by unfold letB;rw[decide_eq_true h1,decide_eq_true h2];rfl);go_enter Tryz.func110,Tryz.ntmps110;go_wp2_with fail;go_ret;exact⟨_,rfl,(fun _=>by omega),(fun h=>absurd (h.symm.trans HR.out) (by decide)),rfl⟩
  ·have HR:=Lib.hid (show letB c=false by unfold letB;rw[decide_eq_false h2,Bool.and_false,decide_eq_false (show ¬c.toNat≤90 by omega),Bool.and_false];rfl);go_enter Tryz.func110,Tryz.ntmps110;go_wp2_with fail;go_ret;exact⟨_,rfl,(fun h=>absurd (h.symm.trans HR.out) (by decide)),(fun _=>by omega),rfl⟩
 ·by_cases h3:65≤c.toNat
  ·by_cases h4:c.toNat≤90
   ·have HR:=Lib.hid (show letB c=true by unfold letB;rw[decide_eq_true h3,decide_eq_true h4,Bool.or_eq_true];exact .inr rfl);go_enter Tryz.func110,Tryz.ntmps110;go_wp2_with fail;go_ret;exact⟨_,rfl,(fun _=>by omega),(fun h=>absurd (h.symm.trans HR.out) (by decide)),rfl⟩
   ·have HR:=Lib.hid (show letB c=false by unfold letB;rw[decide_eq_false h1,decide_eq_false h4,Bool.and_false];rfl);go_enter Tryz.func110,Tryz.ntmps110;go_wp2_with fail;go_ret;exact⟨_,rfl,(fun h=>absurd (h.symm.trans HR.out) (by decide)),(fun _=>by omega),rfl⟩
  ·have HR:=Lib.hid (show letB c=false by unfold letB;rw[decide_eq_false h1,decide_eq_false h3];rfl);go_enter Tryz.func110,Tryz.ntmps110;go_wp2_with fail;go_ret;exact⟨_,rfl,(fun h=>absurd (h.symm.trans HR.out) (by decide)),(fun _=>by omega),rfl⟩
set_option maxHeartbeats 400000 in
theorem zHb (s:ByteArray)(w:World)(hs:s.size≤9223372036854775807):Calls Tryz.prog 85 #[.string s] w fun e w'=>e= .returned (.bool (zAl s.toList))∧w=w':=by
 go_enter Tryz.func85,Tryz.ntmps85;go_wp2_with fail
 go_loop [3] (fun i=>∃k:Nat,k≤s.size∧i= .int .i64 k∧Hid (∀(j:Nat) (hj:j<s.size),j<k→letB s[j]=true)) (fun i=>s.size -(intOf i).toNat)
 case atStart=>exact⟨0,by omega,rfl,fun j _ h=>by omega⟩
 case round=>
  obtain⟨k,hk,rfl,HJ⟩:=hrel
  by_cases hlt:k<s.size
  ·go_wp2_with fail;refine(zQe s[k] _).mono ?_;rintro e w' ⟨n,rfl,hn1,hn2,rfl⟩;cases hl:letB s[k]
   ·have HF:=Lib.hid (zAn hlt hl);have hn:=hn2 hl;clear hn1 hn2 hl;go_wp2_with fail;go_ret;exact⟨zA0 (by unfold zAl zB2;rw[HF.out];rfl),rfl⟩
   ·have hn:=hn1 hl;have HL:=Lib.hid hl;clear hn1 hn2 hl;go_wp2_with fail;go_round
    case rel=>exact⟨k+1,by omega,by go_num,fun j hj h=>by
     rcases Nat.lt_or_ge j k with h'|h'
     ·exact HJ.out j hj h'
     ·obtain rfl:j=k:=by omega
      exact HL.out⟩
    case measure=>simp[intOf];omega
  ·have HF:=Lib.hid (zDq (s:=s) (p:=letB) fun j hj=>HJ.out j hj (by omega));have HZ:=Lib.hid (zC2 s)
   by_cases h1:1≤s.size
   ·by_cases h2:s.size≤16
    ·have HR:=Lib.hid (show zAl s.toList=true by unfold zAl zB2;rw[HF.out,HZ.out,decide_eq_true h1,decide_eq_true h2];rfl);go_wp2_with fail;go_ret;exact⟨zA0 (by first|exact HR.out.symm|(rw[HR.out];simp;omega)),rfl⟩
    ·have HR:=Lib.hid (show zAl s.toList=false by unfold zAl;rw[HZ.out,decide_eq_false h2,Bool.and_false,Bool.and_false]);go_wp2_with fail;go_ret;exact⟨zA0 (by first|exact HR.out.symm|(rw[HR.out];simp;omega)),rfl⟩
   ·have HR:=Lib.hid (show zAl s.toList=false by unfold zAl;rw[HZ.out,decide_eq_false h1,Bool.false_and,Bool.and_false]);go_wp2_with fail;go_ret;exact⟨zA0 (by first|exact HR.out.symm|(rw[HR.out];simp;omega)),rfl⟩
set_option maxHeartbeats 400000 in
theorem zLg (s:ByteArray)(c:UInt8)(w:World)(hs:s.size≤9223372036854775807):Calls Tryz.prog 118 #[.string s,.int .u8 (c.toNat:Int)] w fun e w'=>e= .returned (.bool (hasB s.toList c))∧w=w':=by
 go_enter Tryz.func118,Tryz.ntmps118;go_wp2_with fail
 go_loop [5] (fun i=>∃k:Nat,k≤s.size∧i= .int .i64 k∧Hid (∀(j:Nat) (hj:j<s.size),j<k→(!(s[j]==c))=true)) (fun i=>s.size -(intOf i).toNat)
 case atStart=>exact⟨0,by omega,rfl,fun j _ h=>by omega⟩
 case round=>
  obtain⟨k,hk,rfl,HJ⟩:=hrel
  by_cases hlt:k<s.size
  ·cases hl:(s[k]==c)
   ·have hq:((s[k].toNat:Int)==(c.toNat:Int))=false:=by
     rw[beq_eq_false_iff_ne] at hl⊢;intro e;apply hl;exact UInt8.toNat_inj.1 (by omega)
    have HL:=Lib.hid hl;clear hl;go_wp2_with fail;go_round
    case rel=>exact⟨k+1,by omega,by go_num,fun j hj h=>by
     rcases Nat.lt_or_ge j k with h'|h'
     ·exact HJ.out j hj h'
     ·obtain rfl:j=k:=by omega
      rw[HL.out];rfl⟩
    case measure=>simp[intOf];omega
   ·have hq:((s[k].toNat:Int)==(c.toNat:Int))=true:=by rw[beq_iff_eq] at hl⊢;rw[hl]
    have HF:=Lib.hid (show hasB s.toList c=true by
     unfold hasB;have:=zAn (p:=fun x=> !(x==c)) hlt (by rw[hl];rfl);rw[List.all_eq_false] at this;obtain⟨x,hx,hxc⟩:=this;have e:x=c:=by simpa using hxc
     rw[←e];simpa using hx)
    clear hl;go_wp2_with fail;go_ret;exact⟨zA0 HF.out.symm,rfl⟩
  ·have HF:=Lib.hid (show hasB s.toList c=false by
    unfold hasB;have:=zDq (s:=s) (p:=fun x=> !(x==c)) fun j hj=>HJ.out j hj (by omega)
    rw[List.all_eq_true] at this;rw[Bool.eq_false_iff];intro hc;have hm:c∈s.toList:=by simpa using hc
    have:=this c hm;simp at this)
   go_wp2_with fail;go_ret;exact⟨zA0 HF.out.symm,rfl⟩
theorem zQg:(⟨#[43,45,42,47,61,60,62,44,59,58,33,124,39,63,126,64]⟩:ByteArray).toList=zEq:=by rw[ByteArray.toList_eq];rfl
set_option maxHeartbeats 400000 in
theorem zSt (c:UInt8)(w:World):Calls Tryz.prog 111 #[.int .u8 (c.toNat:Int)] w fun e w'=>e= .returned (.bool (letB c||hasB zEq c))∧w=w':=by
 have HH:=Lib.hid (zLg ⟨#[43,45,42,47,61,60,62,44,59,58,33,124,39,63,126,64]⟩ c);rw[zQg] at HH;cases hl:letB c
 ·have HL:=Lib.hid hl;clear hl;go_enter Tryz.func111,Tryz.ntmps111;go_wp2_with fail;refine(zFz c _).mono ?_;rintro e w' ⟨rfl,rfl⟩;rw[HL.out];go_wp2_with fail;refine(HH.out _ (by decide)).mono ?_;rintro e w' ⟨rfl,rfl⟩;go_wp2_with fail;go_ret;exact⟨zA0 (Bool.false_or _).symm,rfl⟩
 ·have HL:=Lib.hid hl;clear hl;go_enter Tryz.func111,Tryz.ntmps111;go_wp2_with fail;refine(zFz c _).mono ?_;rintro e w' ⟨rfl,rfl⟩;rw[HL.out];go_wp2_with fail;go_ret;exact⟨zA0 (Bool.true_or _).symm,rfl⟩
end Go.Proofs.YtchllommcolijaaGreatDoor
