/- The program's applications of rules: plain. -/
import Derived.Lib.Strings
import Derived.Lib.Hide
import Derived.Lib.SplitLaws
import Derived.Lib.CountLaws
import Derived.Lib.CutLaws
import Derived.Lib.Join
import Derived.Lib.AtoiTie
import Derived.Lib.AtoiAllCases
namespace Go.Proofs.YtapgncbegadbnaaGreatDoor
section
def letB (c:UInt8):Bool:=(decide (97<=c.toNat)&&decide (c.toNat<=122))||(decide (65<=c.toNat)&&decide (c.toNat<=90))
def zB9 (l:List UInt8):Bool:=l.all letB
def zAl (l:List UInt8):Bool:=zB9 l&&(decide (1<=l.length)&&decide (l.length<=16))
def zFf:List UInt8:=[43,45,42,47,61,60,62,44,59,58,33,124,39,63,126,64]
def zB5:List (List UInt8):=[[102,114,97,99],[114,111,111,116],[109,97,116,114,105,120],[102,101,110,99,101]]
def zAx:List (List UInt8):=[[104,97,116],[98,97,114],[118,101,99],[100,111,116],[116,105,108,100,101],[99,104,101,99,107]]
def hasB (l:List UInt8)(c:UInt8):Bool:=l.contains c
def inB (ls:List (List UInt8))(l:List UInt8):Bool:=ls.contains l
def symB (l:List UInt8):Bool:=match l with
 |[c]=>letB c||hasB zFf c
 |_=>decide (2<=l.length)&&(decide (l.length<=16)&&(zB9 l&&(!inB zB5 l&& !inB zAx l)))
structure Rul where
 kind:Int
 sym:ByteArray
 nam:ByteArray
 prec:Int
 left:Int
 right:Int
def inR (n a b:Int):Bool:=decide (a<=n)&&decide (n<=b)
def ownB (r:Rul):Bool:=zAl r.nam.toList&&(inR r.prec 1 100&&(inR r.left 0 101&&(inR r.right 0 101&&
 (if r.kind=1 then symB r.sym.toList else if r.kind=2 then symB r.sym.toList&&decide (r.left=0) else if r.kind=3 then symB r.sym.toList&&decide (r.right=0) else decide (r.kind=4)&&r.sym.toList.isEmpty))))
def zBd (o r:Rul):Bool:=decide (o.kind=r.kind)&&(o.sym.toList==r.sym.toList||o.nam.toList==r.nam.toList)
def zE7 (os:List Rul)(r:Rul):Bool:= !os.any fun o=>zBd o r
def zCd (rs:List Rul):Nat->Bool
 |0=>true
 |k+1=>zCd rs k&&(match rs[k]? with
  |some r=>ownB r&&zE7 (rs.take k) r
  |none=>true)
def zAd (rs:List Rul):Bool:=decide (rs.length<=64)&&zCd rs rs.length
theorem zFu {rs:List Rul}{k j:Nat}(h:zCd rs k=false)(hj:k<=j):zCd rs j=false:=by
 induction j with
 |zero=>
      obtain rfl:k=0:=by omega
      exact h
 |succ j ih=>
  by_cases e:k=j+1
  ·rw[<-e];exact h
  ·rw[zCd,ih (by omega)];rfl
theorem zGx {rs:List Rul}{k:Nat}{r:Rul}(h:rs[k]?=some r):zCd rs (k+1)=(zCd rs k&&(ownB r&&zE7 (rs.take k) r)):=by
 rw[zCd,h]
abbrev qI (n:Int):Value:=.int .i64 n
abbrev qE:Value:=.string ⟨#[]⟩
abbrev qN:Value:=.slice none 0 0
abbrev qP (g:Nat):Value:=.pointer (some ⟨g,0,none⟩)
abbrev qZ:Array Value:= #[.int .i64 0,.string ⟨#[]⟩,.int .i64 0,.slice none 0 0]
abbrev qT:Array Value:= #[.int .i64 0,.string ⟨#[]⟩,.string ⟨#[]⟩,.slice none 0 0,.string ⟨#[]⟩]
end
namespace Ch
variable{a n k i j m b:Nat}{ts:List ByteArray}{p r:Int}
inductive Rd where
 |mk (rule at_:Int) (kids:List Rd)
def Rd.rule:Rd->Int
 | .mk r _ _=>r
def Rd.at_:Rd->Int
 | .mk _ a _=>a
def Rd.kids:Rd->List Rd
 | .mk _ _ ks=>ks
mutual
def zB4:Rd->Nat
 | .mk _ _ ks=>zIy ks+1
def zIy:List Rd->Nat
 |[]=>0
 |x::xs=>zB4 x+zIy xs
end
def zBn (rs:List Rul)(r:Int):Int:=if r<0 then 101 else match rs[r.toNat]? with
 |some x=>x.prec
 |none=>0
def zA5 (rs:List Rul)(l:List Rd)(p:Int):List Rd:=l.filter fun x=>decide (p<=zBn rs x.rule)
def zAm (r a:Int)(l m:List Rd):List Rd:=l.flatMap fun x=>m.map fun y=>.mk r a [x,y]
def zBe (r a:Int)(l:List Rd):List Rd:=l.map fun x=>.mk r a [x]
def tokB (ts:List ByteArray)(k:Nat)(s:List UInt8):Bool:=match ts[k]? with
 |some t=>t.toList==s
 |none=>false
def zCb:List UInt8:=[35]
def zB7 (rs:List Rul)(ts:List ByteArray)(f:Nat->Nat->List Rd)(i j n:Nat):List Rd:=match rs[n]? with
 |none=>[]
 |some x=>
  if x.kind=1 then(List.range' (i+1) (j -1 -(i+1))).flatMap fun k=>if tokB ts k x.sym.toList then zAm n i (zA5 rs (f i k) x.left) (zA5 rs (f (k+1) j) x.right) else[]
  else if x.kind=2 then(if tokB ts i x.sym.toList then zBe n i (zA5 rs (f (i+1) j) x.right) else[])
  else if x.kind=3 then(if tokB ts (j -1) x.sym.toList then zBe n i (zA5 rs (f i (j -1)) x.left) else[])
  else if x.kind=4 then(List.range' (i+1) (j -(i+1))).flatMap fun k=>zAm n i (zA5 rs (f i k) x.left) (zA5 rs (f k j) x.right)
  else[]
def zD0 (ts:List ByteArray)(i j:Nat):List Rd:=if j=i+1/\tokB ts i zCb=true then[.mk (-1) i []] else[]
def zMr (rs:List Rul)(ts:List ByteArray)(f:Nat->Nat->List Rd)(i j:Nat):List Rd:=zD0 ts i j++(List.range rs.length).flatMap (zB7 rs ts f i j)
def allF (rs:List Rul)(ts:List ByteArray):Nat->Nat->Nat->List Rd
 |0,_,_=>[]
 |m+1,i,j=>if j<=i then[] else zMr rs ts (allF rs ts m) i j
def allR (rs:List Rul)(ts:List ByteArray)(i j:Nat):List Rd:=allF rs ts (j -i) i j
theorem zAw {α β:Type}{l:List α}{f g:α->List β}(h:∀x∈l,f x=g x):l.flatMap f=l.flatMap g:=by
 induction l with
 |nil=>rfl
 |cons a l ih=>rw[List.flatMap_cons,List.flatMap_cons,h a List.mem_cons_self,ih fun x hx=>h x (List.mem_cons_of_mem _ hx)]
theorem zE9 {α β:Type}(l:List α):(l.flatMap fun _=>([]:List β))=[]:=by
 induction l with
 |nil=>rfl
 |cons a l ih=>rw[List.flatMap_cons,ih];rfl
theorem zCi (h:k∈List.range' a n):a<=k/\k<a+n:=by
 rw[List.mem_range'_1] at h;exact h
theorem zOn {rs:List Rul}{f g:Nat->Nat->List Rd}(hij:i<j)(h:∀a b,i<=a->b<=j->b -a<j -i->f a b=g a b):zB7 rs ts f i j n=zB7 rs ts g i j n:=by
 unfold zB7;cases rs[n]? with
 |none=>rfl
 |some x=>
  dsimp only
  split
  ·refine zAw fun k hk=>?_
   have:=zCi hk;rw[h i k (by omega) (by omega) (by omega),h (k+1) j (by omega) (by omega) (by omega)]
  ·split
   ·rw[h (i+1) j (by omega) (by omega) (by omega)]
   ·split
    ·rw[h i (j -1) (by omega) (by omega) (by omega)]
    ·split
     ·refine zAw fun k hk=>?_
      have:=zCi hk;rw[h i k (by omega) (by omega) (by omega),h k j (by omega) (by omega) (by omega)]
     ·rfl
theorem zJe {rs:List Rul}{f g:Nat->Nat->List Rd}(hij:i<j)(h:∀a b,i<=a->b<=j->b -a<j -i->f a b=g a b):zMr rs ts f i j=zMr rs ts g i j:=by
 unfold zMr
 congr 1
 exact zAw fun n _=>zOn hij h
theorem zFq {rs:List Rul}(h:j<=i):allF rs ts m i j=[]:=by
 cases m with
 |zero=>rfl
 |succ m=>rw[allF,if_pos h]
theorem zNf {rs:List Rul}{ts:List ByteArray}:∀(m m' i j:Nat),j -i<=m->j -i<=m'->allF rs ts m i j=allF rs ts m' i j
 |0,m',i,j,h,_=>by rw[zFq (by omega),zFq (by omega)]
 |m+1,0,i,j,_,h=>by rw[zFq (by omega),zFq (by omega)]
 |m+1,m'+1,i,j,h,h'=>by
  rw[allF,allF]
  split
  ·rfl
  ·exact zJe (by omega) fun a b _ _ hab=>zNf m m' a b (by omega) (by omega)
theorem zEc {rs:List Rul}(h:j<=i):allR rs ts i j=[]:=zFq h
theorem zOf {rs:List Rul}(h:i<j):allR rs ts i j=zMr rs ts (allR rs ts) i j:=by
 unfold allR;obtain⟨m,hm⟩:∃m,j -i=m+1:=⟨j -i -1,by omega⟩
 rw[hm,allF,if_neg (by omega)];exact zJe h fun a b _ _ hab=>zNf m (b -a) a b (by omega) (by omega)
theorem zFb {rs:List Rul}{f:Nat->Nat->List Rd}{x:Rd}(h:x∈zB7 rs ts f i j n):x.rule=n/\x.at_=i/\n<rs.length:=by
 unfold zB7 at h;cases hr:rs[n]? with
 |none=>rw[hr] at h;cases h
 |some y=>
  have hn:=(List.getElem?_eq_some_iff.1 hr).1;rw[hr] at h;dsimp only at h;have pr:∀l m,x∈zAm n i l m->x.rule=n/\x.at_=i/\n<rs.length:=by
   intro l m hx;unfold zAm at hx;obtain⟨a,_,hb⟩:=List.mem_flatMap.1 hx;obtain⟨b,_,rfl⟩:=List.mem_map.1 hb;exact⟨rfl,rfl,hn⟩
  have so:∀l,x∈zBe n i l->x.rule=n/\x.at_=i/\n<rs.length:=by
   intro l hx;unfold zBe at hx;obtain⟨b,_,rfl⟩:=List.mem_map.1 hx;exact⟨rfl,rfl,hn⟩
  split at h
  ·obtain⟨k,_,hk⟩:=List.mem_flatMap.1 h
   split at hk
   ·exact pr _ _ hk
   ·cases hk
  ·split at h
   ·split at h
    ·exact so _ h
    ·cases h
   ·split at h
    ·split at h
     ·exact so _ h
     ·cases h
    ·split at h
     ·obtain⟨k,_,hk⟩:=List.mem_flatMap.1 h;exact pr _ _ hk
     ·cases h
theorem zHu {rs:List Rul}{x:Rul}(h:rs[n]?=some x):zBn rs n=x.prec:=by
 unfold zBn;rw[if_neg (by omega),Int.toNat_natCast,h]
theorem zCh {α β:Type}(m:Nat)(A:α->List β):∀l:List α,(l.flatMap fun x=>(A x).take m).take m=(l.flatMap A).take m
 |[]=>rfl
 |a::l=>by
  rw[List.flatMap_cons,List.flatMap_cons,List.take_append,List.take_append,List.take_take,Nat.min_self]
  congr 1
  have ih:=zCh m A l;have e:∀(k:Nat) (u v:List β),k<=m->u.take m=v.take m->u.take k=v.take k:=by
   intro k u v hk h;have:=congrArg (List.take k) h
   rwa [List.take_take,List.take_take,Nat.min_eq_left hk] at this
  by_cases h:(A a).length<=m
  ·rw[List.length_take,Nat.min_eq_right h];exact e _ _ _ (by omega) ih
  ·rw[List.length_take,Nat.min_eq_left (by omega),Nat.sub_self,show m -(A a).length=0 by omega];rfl
theorem zYz {α:Type}{a b:List α}:(a.take m++b).take m=(a++b).take m:=by
 rw[List.take_append,List.take_append,List.take_take,Nat.min_self]
 congr 1
 by_cases h:a.length<=m
 ·rw[List.length_take,Nat.min_eq_right h]
 ·rw[List.length_take,Nat.min_eq_left (by omega),Nat.sub_self,show m -a.length=0 by omega]
theorem zGl {α:Type}{a b:List α}:(a++b.take m).take m=(a++b).take m:=by
 rw[List.take_append,List.take_append,List.take_take]
 congr 2
 omega
theorem zOd (r a:Int)(l m:List Rd):(zAm r a (l.take 2) (m.take 2)).take 2=(zAm r a l m).take 2:=by
 match m with
 |[]=>unfold zAm;rw[List.take_nil];simp only[List.map_nil];rw[zE9,zE9]
 |[y]=>match l with
  |[]=>rfl
  |[x]=>rfl
  |x::x'::l=>rfl
 |y::y'::m=>match l with
  |[]=>rfl
  |x::l=>simp[zAm]
theorem zYs (r a:Int)(l:List Rd):(zBe r a (l.take 2))=(zBe r a l).take 2:=by unfold zBe;rw[List.map_take]
theorem zJd {rs:List Rul}{l:List Rd}(h:∀x∈l,x.rule=r):zA5 rs l p=if p<=zBn rs r then l else[]:=by
 unfold zA5
 split
 ·rename_i hp
  exact List.filter_eq_self.2 fun x hx=>by rw[h x hx];exact decide_eq_true hp
 ·rename_i hp
  exact List.filter_eq_nil_iff.2 fun x hx=>by rw[h x hx];simpa using hp
theorem zCg {rs:List Rul}{l m:List Rd}:zA5 rs (l++m) p=zA5 rs l p++zA5 rs m p:=List.filter_append ..
theorem zF3 {α:Type}{rs:List Rul}{p:Int}{A:α->List Rd}:∀l:List α,zA5 rs (l.flatMap A) p=l.flatMap fun x=>zA5 rs (A x) p
 |[]=>rfl
 |a::l=>by rw[List.flatMap_cons,List.flatMap_cons,zCg,zF3 l]
def zGc (rs:List Rul)(ts:List ByteArray)(i j:Nat):List Rd:=zD0 ts i j++(List.range rs.length).flatMap fun n=>(zB7 rs ts (allR rs ts) i j n).take 2
theorem zRw {rs:List Rul}(h:i<j)(p:Int):(zA5 rs (zGc rs ts i j) p).take 2=(zA5 rs (allR rs ts i j) p).take 2:=by
 rw[zOf h];unfold zGc zMr;rw[zCg,zCg,zF3,zF3];have e:((List.range rs.length).flatMap fun n=>zA5 rs ((zB7 rs ts (allR rs ts) i j n).take 2) p)=(List.range rs.length).flatMap fun n=>(zA5 rs (zB7 rs ts (allR rs ts) i j n) p).take 2:=by
  refine zAw fun n _=>?_
  have hr:∀x∈zB7 rs ts (allR rs ts) i j n,x.rule=n:=fun x hx=>(zFb hx).1
  rw[zJd hr,zJd (r:=n) fun x hx=>hr x (List.mem_of_mem_take hx)]
  split
  ·rfl
  ·rfl
 rw[e,<-zGl,zCh 2 _ _,zGl]
def zCj (rs:List Rul)(ts:List ByteArray)(i j:Nat)(p:Int):List Rd:=(zA5 rs (allR rs ts i j) p).take 2
theorem zKi {rs:List Rul}:(zCj rs ts i j p).length<=2:=by
 unfold zCj;rw[List.length_take];omega
def zCa (rs:List Rul)(kind:Int)(s:List UInt8):Option Nat:=rs.findIdx? fun r=>decide (r.kind=kind)&&r.sym.toList==s
def zAf (rs:List Rul)(kind:Int)(s:List UInt8):Int:=match zCa rs kind s with
 |some n=>n
 |none=> -1
structure App where
 rule:Nat
 frm:Nat
 left:Nat
 right:Nat
 to:Nat
 kids:Nat
def tokL (ts:List ByteArray)(k:Nat):List UInt8:=(ts.getD k ⟨#[]⟩).toList
def preA (rs:List Rul)(ts:List ByteArray)(i j:Nat):List App:=match zCa rs 2 (tokL ts i) with
 |some r=>if i+1<j then[⟨r,i+1,j,0,0,1⟩] else[]
 |none=>[]
def zGd (rs:List Rul)(ts:List ByteArray)(i j:Nat):List App:=match zCa rs 3 (tokL ts (j -1)) with
 |some r=>if i+1<j then[⟨r,i,j -1,0,0,1⟩] else[]
 |none=>[]
def inA (rs:List Rul)(ts:List ByteArray)(i j k:Nat):List App:=match zCa rs 1 (tokL ts k) with
 |some r=>if k+1<j then[⟨r,i,k,k+1,j,2⟩] else[]
 |none=>[]
def juxA (rs:List Rul)(i j k:Nat):List App:=match zCa rs 4 [] with
 |some r=>[⟨r,i,k,k,j,2⟩]
 |none=>[]
def midA (rs:List Rul)(ts:List ByteArray)(i j k:Nat):List App:=inA rs ts i j k++juxA rs i j k
def zE1 (rs:List Rul)(ts:List ByteArray)(i j:Nat):List App:=preA rs ts i j++zGd rs ts i j++(List.range' (i+1) (j -(i+1))).flatMap (midA rs ts i j)
def lowR (rs:List Rul)(n:Nat):Int:=match rs[n]? with
 |some x=>if x.kind=2 then x.right else x.left
 |none=>0
def zFt (rs:List Rul)(n:Nat):Int:=match rs[n]? with
 |some x=>if x.kind=2 then 0 else x.right
 |none=>0
def zHb (rs:List Rul)(ts:List ByteArray)(i:Nat)(a:App):List Rd:=
 if a.kids=1 then zBe a.rule i (zCj rs ts a.frm a.left (lowR rs a.rule)) else zAm a.rule i (zCj rs ts a.frm a.left (lowR rs a.rule)) (zCj rs ts a.right a.to (zFt rs a.rule))
def Uniq (rs:List Rul):Prop:=∀(m n:Nat) (x y:Rul),rs[m]?=some x->rs[n]?=some y->x.kind=y.kind->x.sym.toList=y.sym.toList->m=n
theorem zHl {rs:List Rul}{x:Rul}(h:zCd rs k=true)(hn:n<k)(hx:rs[n]?=some x):ownB x=true/\zE7 (rs.take n) x=true:=by
 have h1:zCd rs (n+1)=true:=by
  cases hf:zCd rs (n+1)
  ·rw[zFu hf (by omega)] at h;cases h
  ·rfl
 rw[zGx hx,Bool.and_eq_true,Bool.and_eq_true] at h1;exact h1.2
theorem zW2 {rs:List Rul}(h:zAd rs=true){x y:Rul}(hm:rs[m]?=some x)(hn:rs[n]?=some y)(hk:x.kind=y.kind)(hs:x.sym.toList=y.sym.toList)(hl:m<n):False:=by
 unfold zAd at h;rw[Bool.and_eq_true] at h;have h1:=(zHl h.2 (List.getElem?_eq_some_iff.1 hn).1 hn).2;unfold zE7 at h1;rw[Bool.not_eq_true',List.any_eq_false] at h1;have hmem:x∈rs.take n:=List.mem_of_getElem? (i:=m) (by rw[List.getElem?_take,if_pos hl];exact hm);refine h1 x hmem ?_;unfold zBd;rw[decide_eq_true hk,hs];simp
theorem zTn {rs:List Rul}(h:zAd rs=true):Uniq rs:=by
 intro m n x y hm hn hk hs;rcases Nat.lt_trichotomy m n with hl|hl|hl
 ·exact(zW2 h hm hn hk hs hl).elim
 ·exact hl
 ·exact(zW2 h hn hm hk.symm hs.symm hl).elim
theorem zHj {rs:List Rul}(h:zAd rs=true){x:Rul}(hx:rs[n]?=some x):ownB x=true:=by
 unfold zAd at h;rw[Bool.and_eq_true] at h;exact(zHl h.2 (List.getElem?_eq_some_iff.1 hx).1 hx).1
theorem zCk {rs:List Rul}{kind:Int}{s:List UInt8}(h:zCa rs kind s=some n):∃x,rs[n]?=some x/\x.kind=kind/\x.sym.toList=s:=by
 unfold zCa at h;rw[List.findIdx?_eq_some_iff_getElem] at h;obtain⟨hl,hp,_⟩:=h;rw[Bool.and_eq_true] at hp;exact⟨rs[n],List.getElem?_eq_getElem hl,of_decide_eq_true hp.1,eq_of_beq hp.2⟩
theorem zH4 {rs:List Rul}(hu:Uniq rs){kind:Int}{s:List UInt8}{x:Rul}(hx:rs[n]?=some x)(hk:x.kind=kind)(hs:x.sym.toList=s):zCa rs kind s=some n:=by
 cases h:zCa rs kind s with
 |none=>
  unfold zCa at h;rw[List.findIdx?_eq_none_iff] at h;have:=h x (List.mem_of_getElem? hx);rw[hs,decide_eq_true hk] at this;simp at this
 |some m=>
  obtain⟨y,hy,hk2,hs2⟩:=zCk h;rw[hu m n y x hy hx (hk2.trans hk.symm) (hs2.trans hs.symm)]
def zD4 (n:Nat)(l:List App):List App:=l.filter fun a=>decide (a.rule=n)
theorem zD7 {l m:List App}:zD4 n (l++m)=zD4 n l++zD4 n m:=List.filter_append ..
theorem zHo {α:Type}{n:Nat}{A:α->List App}:∀l:List α,zD4 n (l.flatMap A)=l.flatMap fun x=>zD4 n (A x)
 |[]=>rfl
 |a::l=>by rw[List.flatMap_cons,List.flatMap_cons,zD7,zHo l]
theorem zWr {rs:List Rul}(hu:Uniq rs){x:Rul}(hx:rs[n]?=some x):zD4 n (preA rs ts i j)=if x.kind=2/\x.sym.toList=tokL ts i/\i+1<j then[⟨n,i+1,j,0,0,1⟩] else[]:=by
 unfold preA
 by_cases h:x.kind=2/\x.sym.toList=tokL ts i
 ·rw[zH4 hu hx h.1 h.2]
  by_cases hj:i+1<j
  ·simp[hj,h.1,h.2,zD4]
  ·simp[hj,zD4]
 ·rw[if_neg (fun hh=>h ⟨hh.1,hh.2.1⟩)];cases hf:zCa rs 2 (tokL ts i) with
  |none=>rfl
  |some m=>
   obtain⟨y,hy,hk,hs⟩:=zCk hf;have hne:m≠n:=by
    rintro rfl;rw[hx] at hy;obtain rfl:=Option.some.inj hy;exact h ⟨hk,hs⟩
   by_cases hj:i+1<j<;>simp[hj,zD4,hne]
theorem zT5 {rs:List Rul}(hu:Uniq rs){x:Rul}(hx:rs[n]?=some x):zD4 n (zGd rs ts i j)=if x.kind=3/\x.sym.toList=tokL ts (j -1)/\i+1<j then[⟨n,i,j -1,0,0,1⟩] else[]:=by
 unfold zGd
 by_cases h:x.kind=3/\x.sym.toList=tokL ts (j -1)
 ·rw[zH4 hu hx h.1 h.2]
  by_cases hj:i+1<j
  ·simp[hj,h.1,h.2,zD4]
  ·simp[hj,zD4]
 ·rw[if_neg (fun hh=>h ⟨hh.1,hh.2.1⟩)];cases hf:zCa rs 3 (tokL ts (j -1)) with
  |none=>rfl
  |some m=>
   obtain⟨y,hy,hk,hs⟩:=zCk hf;have hne:m≠n:=by
    rintro rfl;rw[hx] at hy;obtain rfl:=Option.some.inj hy;exact h ⟨hk,hs⟩
   by_cases hj:i+1<j<;>simp[hj,zD4,hne]
theorem yA2 {rs:List Rul}(hu:Uniq rs){x:Rul}(hx:rs[n]?=some x):zD4 n (inA rs ts i j k)=if x.kind=1/\x.sym.toList=tokL ts k/\k+1<j then[⟨n,i,k,k+1,j,2⟩] else[]:=by
 unfold inA
 by_cases h:x.kind=1/\x.sym.toList=tokL ts k
 ·rw[zH4 hu hx h.1 h.2]
  by_cases hj:k+1<j
  ·simp[hj,h.1,h.2,zD4]
  ·simp[hj,zD4]
 ·rw[if_neg (fun hh=>h ⟨hh.1,hh.2.1⟩)];cases hf:zCa rs 1 (tokL ts k) with
  |none=>rfl
  |some m=>
   obtain⟨y,hy,hk,hs⟩:=zCk hf;have hne:m≠n:=by
    rintro rfl;rw[hx] at hy;obtain rfl:=Option.some.inj hy;exact h ⟨hk,hs⟩
   by_cases hj:k+1<j<;>simp[hj,zD4,hne]
theorem zUy {rs:List Rul}(hu:Uniq rs){x:Rul}(hx:rs[n]?=some x):zD4 n (juxA rs i j k)=if x.kind=4/\x.sym.toList=[] then[⟨n,i,k,k,j,2⟩] else[]:=by
 unfold juxA
 by_cases h:x.kind=4/\x.sym.toList=[]
 ·rw[zH4 hu hx h.1 h.2,if_pos h];simp[zD4]
 ·rw[if_neg h];cases hf:zCa rs 4 [] with
  |none=>rfl
  |some m=>
   obtain⟨y,hy,hk,hs⟩:=zCk hf;have hne:m≠n:=by
    rintro rfl;rw[hx] at hy;obtain rfl:=Option.some.inj hy;exact h ⟨hk,hs⟩
   simp[zD4,hne]
theorem zM2 (hk:k<ts.length)(s:List UInt8):tokB ts k s=true↔s=tokL ts k:=by
 unfold tokB tokL;rw[List.getElem?_eq_getElem hk,List.getD_eq_getElem?_getD,List.getElem?_eq_getElem hk];show(ts[k].toList==s)=true↔s=ts[k].toList;rw[beq_iff_eq];exact eq_comm
theorem zJz {rs:List Rul}{x:Rul}(hx:rs[n]?=some x):lowR rs n=if x.kind=2 then x.right else x.left:=by unfold lowR;rw[hx]
theorem zMh {rs:List Rul}{x:Rul}(hx:rs[n]?=some x):zFt rs n=if x.kind=2 then 0 else x.right:=by unfold zFt;rw[hx]
theorem zRj {rs:List Rul}:zHb rs ts i ⟨n,a,b,0,0,1⟩=zBe n i (zCj rs ts a b (lowR rs n)):=rfl
theorem zRl {rs:List Rul}{c d:Nat}:zHb rs ts i ⟨n,a,b,c,d,2⟩=zAm n i (zCj rs ts a b (lowR rs n)) (zCj rs ts c d (zFt rs n)):=rfl
theorem zNv {rs:List Rul}:(zBe n i (zCj rs ts a b p)).take 2=(zBe n i (zA5 rs (allR rs ts a b) p)).take 2:=by
 unfold zCj;rw[zYs,List.take_take,Nat.min_self]
theorem zMb {r:Rul}(h:ownB r=true):(r.kind=1\/r.kind=2\/r.kind=3\/(r.kind=4/\r.sym.toList=[])):=by
 unfold ownB at h;simp only[Bool.and_eq_true] at h;obtain⟨_,_,_,_,h⟩:=h
 split at h
 ·exact .inl ‹_›
 ·split at h
  ·exact .inr (.inl ‹_›)
  ·split at h
   ·exact .inr (.inr (.inl ‹_›))
   ·rw[Bool.and_eq_true] at h;exact .inr (.inr (.inr ⟨of_decide_eq_true h.1,List.isEmpty_iff.1 h.2⟩))
theorem zXr {a:Int}:zBe r a []=[]:=rfl
theorem zUi {rs:List Rul}(hv:zAd rs=true)(hij:i<j)(hj:j<=ts.length)(hn:n<rs.length):((zD4 n (zE1 rs ts i j)).flatMap (zHb rs ts i)).take 2=(zB7 rs ts (allR rs ts) i j n).take 2:=by
 obtain⟨x,hx⟩:∃x,rs[n]?=some x:=⟨_,List.getElem?_eq_getElem hn⟩
 have hu:=zTn hv;unfold zE1;rw[zD7,zD7,zHo,zWr hu hx,zT5 hu hx];have hmid:((List.range' (i+1) (j -(i+1))).flatMap fun k=>zD4 n (midA rs ts i j k))=(List.range' (i+1) (j -(i+1))).flatMap fun k=>(if x.kind=1/\x.sym.toList=tokL ts k/\k+1<j then[(⟨n,i,k,k+1,j,2⟩:App)] else[])++(if x.kind=4/\x.sym.toList=[] then[(⟨n,i,k,k,j,2⟩:App)] else[]):=by
  refine zAw fun k _=>?_
  unfold midA;rw[zD7,yA2 hu hx,zUy hu hx]
 rw[hmid];clear hmid;unfold zB7;rw[hx];dsimp only;rcases zMb (zHj hv hx) with hk|hk|hk|⟨hk,hs⟩
 ·rw[if_neg (show ¬(x.kind=2/\x.sym.toList=tokL ts i/\i+1<j) from fun hh=>by have:=hh.1;have:=hh.2.2;omega),if_neg (show ¬(x.kind=3/\x.sym.toList=tokL ts (j -1)/\i+1<j) from fun hh=>by have:=hh.1;have:=hh.2.2;omega),if_pos hk,List.nil_append,List.nil_append];have hlow:lowR rs n=x.left:=by rw[zJz hx,if_neg (by omega)]
  have hhigh:zFt rs n=x.right:=by rw[zMh hx,if_neg (by omega)]
  rw[List.flatMap_assoc,<-zCh 2 (fun k=>if tokB ts k x.sym.toList=true then zAm n i (zA5 rs (allR rs ts i k) x.left) (zA5 rs (allR rs ts (k+1) j) x.right) else[])];have hr:List.range' (i+1) (j -(i+1))=List.range' (i+1) (j -1 -(i+1))++(if i+1<j then[j -1] else[]):=by
   by_cases h:i+1<j
   ·rw[if_pos h,show j -(i+1)=(j -1 -(i+1))+1 by omega,List.range'_concat]
    congr 2
    omega
   ·rw[if_neg h,show j -(i+1)=0 by omega,show j -1 -(i+1)=0 by omega];rfl
  rw[hr,List.flatMap_append];have h0:((if i+1<j then[j -1] else[]).flatMap fun k=>((if x.kind=1/\x.sym.toList=tokL ts k/\k+1<j then[(⟨n,i,k,k+1,j,2⟩:App)] else[])++(if x.kind=4/\x.sym.toList=[] then[(⟨n,i,k,k,j,2⟩:App)] else[])).flatMap (zHb rs ts i))=[]:=by
   by_cases h:i+1<j
   ·rw[if_pos h];simp only[List.flatMap_cons,List.flatMap_nil,List.append_nil];rw[if_neg (show ¬(x.kind=1/\x.sym.toList=tokL ts (j -1)/\j -1+1<j) from fun hh=>by have:=hh.1;have:=hh.2.2;omega),if_neg (show ¬(x.kind=4/\x.sym.toList=[]) by omega)];rfl
   ·rw[if_neg h];rfl
  rw[h0,List.append_nil,<-zCh 2]
  congr 1
  refine zAw fun k hkr=>?_
  have hkm:=zCi hkr;have hb:=zM2 (ts:=ts) (k:=k) (by omega) x.sym.toList;rw[if_neg (show ¬(x.kind=4/\x.sym.toList=[]) by omega),List.append_nil]
  by_cases ht:tokB ts k x.sym.toList=true
  ·rw[if_pos (show x.kind=1/\x.sym.toList=tokL ts k/\k+1<j from⟨hk,hb.1 ht,by omega⟩),if_pos ht,List.flatMap_cons,List.flatMap_nil,List.append_nil,zRl,hlow,hhigh];exact zOd _ _ _ _
  ·rw[if_neg (show ¬(x.kind=1/\x.sym.toList=tokL ts k/\k+1<j) from fun hh=>ht (hb.2 hh.2.1)),if_neg ht];rfl
 ·rw[if_neg (show ¬(x.kind=3/\x.sym.toList=tokL ts (j -1)/\i+1<j) from fun hh=>by have:=hh.1;have:=hh.2.2;omega),if_neg (show ¬x.kind=1 by omega),if_pos hk];have h0:((List.range' (i+1) (j -(i+1))).flatMap fun k=>(if x.kind=1/\x.sym.toList=tokL ts k/\k+1<j then[(⟨n,i,k,k+1,j,2⟩:App)] else[])++(if x.kind=4/\x.sym.toList=[] then[(⟨n,i,k,k,j,2⟩:App)] else[]))=[]:=by
   refine(zAw (g:=fun _=>[]) fun k _=>?_).trans (zE9 _);rw[if_neg (show ¬(x.kind=1/\x.sym.toList=tokL ts k/\k+1<j) from fun hh=>by have:=hh.1;have:=hh.2.2;omega),if_neg (show ¬(x.kind=4/\x.sym.toList=[]) by omega)];rfl
  rw[h0,List.append_nil,List.append_nil];have hb:=zM2 (ts:=ts) (k:=i) (by omega) x.sym.toList;have hlow:lowR rs n=x.right:=by rw[zJz hx,if_pos hk]
  by_cases ht:tokB ts i x.sym.toList=true
  ·rw[if_pos ht]
   by_cases h:i+1<j
   ·rw[if_pos (show x.kind=2/\x.sym.toList=tokL ts i/\i+1<j from⟨hk,hb.1 ht,h⟩),List.flatMap_cons,List.flatMap_nil,List.append_nil,zRj,hlow];exact zNv
   ·rw[if_neg (show ¬(x.kind=2/\x.sym.toList=tokL ts i/\i+1<j) from fun hh=>h hh.2.2),zEc (by omega)];rfl
  ·rw[if_neg (show ¬(x.kind=2/\x.sym.toList=tokL ts i/\i+1<j) from fun hh=>ht (hb.2 hh.2.1)),if_neg ht];rfl
 ·rw[if_neg (show ¬(x.kind=2/\x.sym.toList=tokL ts i/\i+1<j) from fun hh=>by have:=hh.1;have:=hh.2.2;omega),if_neg (show ¬x.kind=1 by omega),if_neg (show ¬x.kind=2 by omega),if_pos hk];have h0:((List.range' (i+1) (j -(i+1))).flatMap fun k=>(if x.kind=1/\x.sym.toList=tokL ts k/\k+1<j then[(⟨n,i,k,k+1,j,2⟩:App)] else[])++(if x.kind=4/\x.sym.toList=[] then[(⟨n,i,k,k,j,2⟩:App)] else[]))=[]:=by
   refine(zAw (g:=fun _=>[]) fun k _=>?_).trans (zE9 _);rw[if_neg (show ¬(x.kind=1/\x.sym.toList=tokL ts k/\k+1<j) from fun hh=>by have:=hh.1;have:=hh.2.2;omega),if_neg (show ¬(x.kind=4/\x.sym.toList=[]) by omega)];rfl
  rw[h0,List.append_nil,List.nil_append];have hb:=zM2 (ts:=ts) (k:=j -1) (by omega) x.sym.toList;have hlow:lowR rs n=x.left:=by rw[zJz hx,if_neg (by omega)]
  by_cases ht:tokB ts (j -1) x.sym.toList=true
  ·rw[if_pos ht]
   by_cases h:i+1<j
   ·rw[if_pos (show x.kind=3/\x.sym.toList=tokL ts (j -1)/\i+1<j from⟨hk,hb.1 ht,h⟩),List.flatMap_cons,List.flatMap_nil,List.append_nil,zRj,hlow];exact zNv
   ·rw[if_neg (show ¬(x.kind=3/\x.sym.toList=tokL ts (j -1)/\i+1<j) from fun hh=>h hh.2.2),zEc (by omega)];rfl
  ·rw[if_neg (show ¬(x.kind=3/\x.sym.toList=tokL ts (j -1)/\i+1<j) from fun hh=>ht (hb.2 hh.2.1)),if_neg ht];rfl
 ·rw[if_neg (show ¬(x.kind=2/\x.sym.toList=tokL ts i/\i+1<j) from fun hh=>by have:=hh.1;have:=hh.2.2;omega),if_neg (show ¬(x.kind=3/\x.sym.toList=tokL ts (j -1)/\i+1<j) from fun hh=>by have:=hh.1;have:=hh.2.2;omega),if_neg (show ¬x.kind=1 by omega),if_neg (show ¬x.kind=2 by omega),if_neg (show ¬x.kind=3 by omega),if_pos hk,List.nil_append,List.nil_append];have hlow:lowR rs n=x.left:=by rw[zJz hx,if_neg (by omega)]
  have hhigh:zFt rs n=x.right:=by rw[zMh hx,if_neg (by omega)]
  rw[List.flatMap_assoc,<-zCh 2 (fun k=>zAm n i (zA5 rs (allR rs ts i k) x.left) (zA5 rs (allR rs ts k j) x.right)),<-zCh 2]
  congr 1
  refine zAw fun k hkr=>?_
  rw[if_neg (show ¬(x.kind=1/\x.sym.toList=tokL ts k/\k+1<j) from fun hh=>by have:=hh.1;have:=hh.2.2;omega),if_pos ⟨hk,hs⟩,List.nil_append,List.flatMap_cons,List.flatMap_nil,List.append_nil,zRl,hlow,hhigh];exact zOd _ _ _ _
def gotR (rs:List Rul)(ts:List ByteArray)(i n:Nat)(l:List App):List Rd:=((zD4 n l).flatMap (zHb rs ts i)).take 2
theorem zMv {rs:List Rul}{l:List App}:(gotR rs ts i n l).length<=2:=by unfold gotR;rw[List.length_take];omega
theorem zQj {rs:List Rul}{l:List App}{a:App}:gotR rs ts i n (l++[a])=if a.rule=n then(gotR rs ts i n l++zHb rs ts i a).take 2 else gotR rs ts i n l:=by
 unfold gotR;rw[zD7]
 by_cases h:a.rule=n
 ·rw[if_pos h,List.flatMap_append,zYz,show zD4 n [a]=[a] by simp[zD4,h]];simp
 ·rw[if_neg h,show zD4 n [a]=[] by simp[zD4,h],List.append_nil]
theorem zZ4 {rs:List Rul}{l:List App}{m:List Rd}(h:¬(gotR rs ts i n l).length<2):(gotR rs ts i n l++m).take 2=gotR rs ts i n l:=by
 have:=zMv (rs:=rs) (ts:=ts) (i:=i) (n:=n) (l:=l);rw[List.take_append,show 2 -(gotR rs ts i n l).length=0 by omega,List.take_zero,List.append_nil,List.take_of_length_le this]
theorem zYr {rs:List Rul}(hv:zAd rs=true)(hij:i<j)(hj:j<=ts.length):zGc rs ts i j=zD0 ts i j++(List.range rs.length).flatMap fun n=>gotR rs ts i n (zE1 rs ts i j):=by
 unfold zGc gotR
 congr 1
 exact zAw fun n hn=>(zUi hv hij hj (List.mem_range.1 hn)).symm
theorem zAe {rs:List Rul}{l:List Rd}{x:Rd}:x∈zA5 rs l p↔x∈l/\p<=zBn rs x.rule:=by
 unfold zA5;rw[List.mem_filter,decide_eq_true_iff]
theorem zDm {a:Int}{l m:List Rd}{x:Rd}:x∈zAm r a l m↔∃y z,y∈l/\z∈m/\x= .mk r a [y,z]:=by
 unfold zAm;rw[List.mem_flatMap];constructor
 ·rintro⟨y,hy,h⟩;obtain⟨z,hz,rfl⟩:=List.mem_map.1 h;exact⟨y,z,hy,hz,rfl⟩
 ·rintro⟨y,z,hy,hz,rfl⟩;exact⟨y,hy,List.mem_map.2 ⟨z,hz,rfl⟩⟩
theorem zJ0 {a:Int}{l:List Rd}{x:Rd}:x∈zBe r a l↔∃y,y∈l/\x= .mk r a [y]:=by
 unfold zBe;rw[List.mem_map];exact⟨fun⟨y,h,e⟩=>⟨y,h,e.symm⟩,fun⟨y,h,e⟩=>⟨y,h,e.symm⟩⟩
def zY8 (rs:List Rul)(ts:List ByteArray)(i j n:Nat)(u:Rul)(x:Rd):Prop:=
 (u.kind=1/\∃k y z,i<k/\k+1<j/\tokB ts k u.sym.toList=true/\y∈zA5 rs (allR rs ts i k) u.left/\z∈zA5 rs (allR rs ts (k+1) j) u.right/\x= .mk n i [y,z])\/
 (u.kind=2/\∃y,tokB ts i u.sym.toList=true/\y∈zA5 rs (allR rs ts (i+1) j) u.right/\x= .mk n i [y])\/
 (u.kind=3/\∃y,tokB ts (j -1) u.sym.toList=true/\y∈zA5 rs (allR rs ts i (j -1)) u.left/\x= .mk n i [y])\/
 (u.kind=4/\∃k y z,i<k/\k<j/\y∈zA5 rs (allR rs ts i k) u.left/\z∈zA5 rs (allR rs ts k j) u.right/\x= .mk n i [y,z])
theorem zRm {rs:List Rul}{u:Rul}(hu:rs[n]?=some u){x:Rd}:x∈zB7 rs ts (allR rs ts) i j n↔zY8 rs ts i j n u x:=by
 unfold zB7 zY8;rw[hu];dsimp only
 by_cases h1:u.kind=1
 ·rw[if_pos h1,List.mem_flatMap];constructor
  ·rintro⟨k,hk,h⟩;have:=zCi hk
   split at h
   ·obtain⟨y,z,hy,hz,rfl⟩:=zDm.1 h;exact .inl ⟨h1,k,y,z,by omega,by omega,‹_›,hy,hz,rfl⟩
   ·cases h
  ·rintro(⟨_,k,y,z,h2,h3,h4,hy,hz,rfl⟩|⟨h2,_⟩|⟨h2,_⟩|⟨h2,_⟩)
   ·refine⟨k,List.mem_range'_1.2 ⟨by omega,by omega⟩,?_⟩;rw[if_pos h4];exact zDm.2 ⟨y,z,hy,hz,rfl⟩
   ·omega
   ·omega
   ·omega
 ·rw[if_neg h1]
  by_cases h2:u.kind=2
  ·rw[if_pos h2];constructor
   ·intro h
    split at h
    ·obtain⟨y,hy,rfl⟩:=zJ0.1 h;exact .inr (.inl ⟨h2,y,‹_›,hy,rfl⟩)
    ·cases h
   ·rintro(⟨h3,_⟩|⟨_,y,h3,hy,rfl⟩|⟨h3,_⟩|⟨h3,_⟩)
    ·omega
    ·rw[if_pos h3];exact zJ0.2 ⟨y,hy,rfl⟩
    ·omega
    ·omega
  ·rw[if_neg h2]
   by_cases h3:u.kind=3
   ·rw[if_pos h3];constructor
    ·intro h
     split at h
     ·obtain⟨y,hy,rfl⟩:=zJ0.1 h;exact .inr (.inr (.inl ⟨h3,y,‹_›,hy,rfl⟩))
     ·cases h
    ·rintro(⟨h4,_⟩|⟨h4,_⟩|⟨_,y,h4,hy,rfl⟩|⟨h4,_⟩)
     ·omega
     ·omega
     ·rw[if_pos h4];exact zJ0.2 ⟨y,hy,rfl⟩
     ·omega
   ·rw[if_neg h3]
    by_cases h4:u.kind=4
    ·rw[if_pos h4,List.mem_flatMap];constructor
     ·rintro⟨k,hk,h⟩;have:=zCi hk;obtain⟨y,z,hy,hz,rfl⟩:=zDm.1 h;exact .inr (.inr (.inr ⟨h4,k,y,z,by omega,by omega,hy,hz,rfl⟩))
     ·rintro(⟨h5,_⟩|⟨h5,_⟩|⟨h5,_⟩|⟨_,k,y,z,h5,h6,hy,hz,rfl⟩)
      ·omega
      ·omega
      ·omega
      ·exact⟨k,List.mem_range'_1.2 ⟨by omega,by omega⟩,zDm.2 ⟨y,z,hy,hz,rfl⟩⟩
    ·rw[if_neg h4];constructor
     ·intro h;cases h
     ·rintro(⟨h5,_⟩|⟨h5,_⟩|⟨h5,_⟩|⟨h5,_⟩)<;>omega
theorem zDp {rs:List Rul}(hij:i<j){x:Rd}:x∈allR rs ts i j↔(j=i+1/\tokB ts i zCb=true/\x= .mk (-1) i [])\/∃n u,rs[n]?=some u/\zY8 rs ts i j n u x:=by
 rw[zOf hij];unfold zMr zD0;rw[List.mem_append,List.mem_flatMap];constructor
 ·rintro(h|⟨n,hn,h⟩)
  ·split at h
   ·exact .inl ⟨(‹_/\_›).1,(‹_/\_›).2,by simpa using h⟩
   ·cases h
  ·obtain⟨u,hu⟩:∃u,rs[n]?=some u:=⟨_,List.getElem?_eq_getElem (List.mem_range.1 hn)⟩
   exact .inr ⟨n,u,hu,(zRm hu).1 h⟩
 ·rintro(⟨h1,h2,rfl⟩|⟨n,u,hu,h⟩)
  ·left
   rw[if_pos ⟨h1,h2⟩];simp
  ·right
   exact⟨n,List.mem_range.2 (List.getElem?_eq_some_iff.1 hu).1,(zRm hu).2 h⟩
theorem zD9 {rs:List Rul}{x:Rd}(h:x∈allR rs ts i j):i<j:=by
 rcases Nat.lt_or_ge i j with h'|h'
 ·exact h'
 ·rw[zEc h'] at h;cases h
theorem zPv {rs:List Rul}{u:Rul}{x:Rd}(h:zY8 rs ts i j n u x):x.at_=i/\x.rule=n:=by
 rcases h with⟨_,k,y,z,_,_,_,_,_,rfl⟩|⟨_,y,_,_,rfl⟩|⟨_,y,_,_,rfl⟩|⟨_,k,y,z,_,_,_,_,rfl⟩
 all_goals exact⟨rfl,rfl⟩
theorem zIr {rs:List Rul}{x:Rd}(h:x∈allR rs ts i j):x.at_=i:=by
 rcases(zDp (zD9 h)).1 h with⟨_,_,rfl⟩|⟨n,u,_,h⟩
 ·rfl
 ·exact(zPv h).1
theorem zAi {rs:List Rul}{x:Rd}(h:x∈zA5 rs (allR rs ts i j) p):x.at_=i/\i<j:=⟨zIr (zAe.1 h).1,zD9 (zAe.1 h).1⟩
def tokI (ts:List ByteArray)(k:Int)(s:List UInt8):Bool:=decide (0<=k)&&tokB ts k.toNat s
def zGh (rs:List Rul)(ts:List ByteArray)(u:Rul)(a:Int)(y:Rd)(e:Int):Int:=
 if u.kind=2/\tokI ts a u.sym.toList=true/\y.at_=a+1/\u.right<=zBn rs y.rule then e
 else if u.kind=3/\y.at_=a/\e<(ts.length:Int)/\tokI ts e u.sym.toList=true/\u.left<=zBn rs y.rule then e+1 else -1
def zFv (rs:List Rul)(ts:List ByteArray)(u:Rul)(a:Int)(y z:Rd)(e f:Int):Int:=
 if y.at_≠a\/zBn rs y.rule<u.left\/zBn rs z.rule<u.right then -1
 else if u.kind=1/\z.at_=e+1/\tokI ts e u.sym.toList=true then f
 else if u.kind=4/\z.at_=e then f else -1
def endR (rs:List Rul)(ts:List ByteArray)(x:Rd):Int:=match x with
 | .mk r a ks=>
  if a<0\/(ts.length:Int)<=a\/r< -1\/(rs.length:Int)<=r then -1
  else if r= -1 then(if tokI ts a zCb=true/\ks.isEmpty=true then a+1 else -1)
  else match rs[r.toNat]? with
   |none=> -1
   |some u=>match ks with
    |[]=> -1
    |[y]=>if endR rs ts y<0 then -1 else zGh rs ts u a y (endR rs ts y)
    |[y,z]=>if endR rs ts y<0 then -1 else if endR rs ts z<0 then -1 else zFv rs ts u a y z (endR rs ts y) (endR rs ts z)
    |_=> -1
 termination_by x
theorem zCn {s:List UInt8}:tokI ts k s=tokB ts k s:=by
 unfold tokI;rw[decide_eq_true (by omega),Bool.true_and,Int.toNat_natCast]
theorem zTm {rs:List Rul}:∀(m i j:Nat) (x:Rd),j -i<=m->j<=ts.length->x∈allR rs ts i j->endR rs ts x=j:=by
 intro m
 induction m with
 |zero=>intro i j x h _ hx;have:=zD9 hx;omega
 |succ m ih=>
  intro i j x hm hj hx;have hij:=zD9 hx;rcases(zDp hij).1 hx with⟨h1,h2,rfl⟩|⟨n,u,hu,h⟩
  ·rw[endR,if_neg (by omega),if_pos rfl,zCn,if_pos ⟨h2,rfl⟩];omega
  ·have hn:=(List.getElem?_eq_some_iff.1 hu).1;have step:∀ks,endR rs ts (.mk n i ks)=match ks with
    |[]=> -1
    |[y]=>if endR rs ts y<0 then -1 else zGh rs ts u i y (endR rs ts y)
    |[y,z]=>if endR rs ts y<0 then -1 else if endR rs ts z<0 then -1 else zFv rs ts u i y z (endR rs ts y) (endR rs ts z)
    |_=> -1:=by
    intro ks;rw[endR,if_neg (by omega),if_neg (by omega),Int.toNat_natCast,hu]
   rcases h with⟨hk,k,y,z,h3,h4,h5,hy,hz,rfl⟩|⟨hk,y,h5,hy,rfl⟩|⟨hk,y,h5,hy,rfl⟩|⟨hk,k,y,z,h3,h4,hy,hz,rfl⟩
   ·rw[zAe] at hy hz;have ey:=ih i k y (by omega) (by omega) hy.1;have ez:=ih (k+1) j z (by omega) (by omega) hz.1;have ay:=zIr hy.1;have az:=zIr hz.1;rw[step];dsimp only;rw[ey,ez,if_neg (by omega),if_neg (by omega)];unfold zFv;rw[if_neg (by rintro(h|h|h);exact h ay;omega;omega),if_pos ⟨hk,by omega,by rw[zCn];exact h5⟩]
   ·rw[zAe] at hy;have ey:=ih (i+1) j y (by omega) (by omega) hy.1;have ay:=zIr hy.1;rw[step];dsimp only;rw[ey,if_neg (by omega)];unfold zGh;rw[if_pos ⟨hk,by rw[zCn];exact h5,by omega,hy.2⟩]
   ·rw[zAe] at hy;have ey:=ih i (j -1) y (by omega) (by omega) hy.1;have ay:=zIr hy.1;rw[step];dsimp only;rw[ey,if_neg (by omega)];unfold zGh;rw[if_neg (by omega),if_pos ⟨hk,ay,by omega,by rw[zCn];exact h5,hy.2⟩];omega
   ·rw[zAe] at hy hz;have ey:=ih i k y (by omega) (by omega) hy.1;have ez:=ih k j z (by omega) (by omega) hz.1;have ay:=zIr hy.1;have az:=zIr hz.1;rw[step];dsimp only;rw[ey,ez,if_neg (by omega),if_neg (by omega)];unfold zFv;rw[if_neg (by rintro(h|h|h);exact h ay;omega;omega),if_neg (by omega),if_pos ⟨hk,by omega⟩]
theorem zLh {rs:List Rul}:∀(m:Nat) (x:Rd),zB4 x<=m->0<=endR rs ts x->∃i j:Nat,x.at_=i/\endR rs ts x=j/\j<=ts.length/\x∈allR rs ts i j:=by
 intro m
 induction m with
 |zero=>intro x h;obtain⟨r,a,ks⟩:=x;simp only[zB4] at h;omega
 |succ m ih=>
  intro x hm h0;obtain⟨r,a,ks⟩:=x;rw[endR] at h0⊢
  by_cases hb:a<0\/(ts.length:Int)<=a\/r< -1\/(rs.length:Int)<=r
  ·rw[if_pos hb] at h0;omega
  rw[if_neg hb] at h0⊢;obtain⟨i,rfl⟩:∃i:Nat,a=i:=⟨a.toNat,by omega⟩
  by_cases hr:r= -1
  ·subst hr;rw[if_pos rfl] at h0⊢
   by_cases ht:tokI ts i zCb=true/\ks.isEmpty=true
   ·rw[if_pos ht] at h0⊢;refine⟨i,i+1,rfl,by omega,by omega,(zDp (by omega)).2 (.inl ⟨rfl,by rw[<-zCn];exact ht.1,?_⟩)⟩;rw[List.isEmpty_iff.1 ht.2]
   ·rw[if_neg ht] at h0;omega
  rw[if_neg hr] at h0⊢;obtain⟨n,rfl⟩:∃n:Nat,r=n:=⟨r.toNat,by omega⟩
  rw[Int.toNat_natCast] at h0⊢;obtain⟨u,hu⟩:∃u,rs[n]?=some u:=⟨_,List.getElem?_eq_getElem (by omega)⟩
  rw[hu] at h0⊢;dsimp only at h0⊢
  match ks,hm with
  |[],_=>dsimp only at h0;omega
  |y::z::c::l,_=>dsimp only at h0;omega
  |[y],hm=>
   dsimp only at h0⊢
   by_cases hy:endR rs ts y<0
   ·rw[if_pos hy] at h0;omega
   rw[if_neg hy] at h0⊢;obtain⟨i',j',ay,ey,hj,my⟩:=ih y (by simp only[zB4,zIy] at hm;omega) (by omega);have hlt:=zD9 my;rw[ey] at h0⊢;unfold zGh at h0⊢
   by_cases h2:u.kind=2/\tokI ts i u.sym.toList=true/\y.at_=i+1/\u.right<=zBn rs y.rule
   ·rw[if_pos h2];obtain rfl:i'=i+1:=by omega
    refine⟨i,j',rfl,rfl,hj,(zDp (by omega)).2 (.inr ⟨n,u,hu,.inr (.inl ⟨h2.1,y,by rw[<-zCn];exact h2.2.1,zAe.2 ⟨my,h2.2.2.2⟩,rfl⟩)⟩)⟩
   ·rw[if_neg h2] at h0⊢
    by_cases h3:u.kind=3/\y.at_=i/\(j':Int)<(ts.length:Int)/\tokI ts j' u.sym.toList=true/\u.left<=zBn rs y.rule
    ·rw[if_pos h3];obtain rfl:i'=i:=by omega
     refine⟨i',j'+1,rfl,by omega,by omega,(zDp (by omega)).2 (.inr ⟨n,u,hu,.inr (.inr (.inl ⟨h3.1,y,by rw[<-zCn];exact h3.2.2.2.1,zAe.2 ⟨my,h3.2.2.2.2⟩,rfl⟩))⟩)⟩
    ·rw[if_neg h3] at h0;omega
  |[y,z],hm=>
   dsimp only at h0⊢
   by_cases hy:endR rs ts y<0
   ·rw[if_pos hy] at h0;omega
   rw[if_neg hy] at h0⊢
   by_cases hz:endR rs ts z<0
   ·rw[if_pos hz] at h0;omega
   rw[if_neg hz] at h0⊢;obtain⟨i',j',ay,ey,hj,my⟩:=ih y (by simp only[zB4,zIy] at hm;omega) (by omega);obtain⟨i2,j2,az,ez,hj2,mz⟩:=ih z (by simp only[zB4,zIy] at hm;omega) (by omega);have hlt:=zD9 my;have hlt2:=zD9 mz;rw[ey,ez] at h0⊢;unfold zFv at h0⊢
   by_cases h2:y.at_≠i\/zBn rs y.rule<u.left\/zBn rs z.rule<u.right
   ·rw[if_pos h2] at h0;omega
   rw[if_neg h2] at h0⊢;have hay:y.at_=i:=Classical.byContradiction fun h=>h2 (.inl h)
   have hly:u.left<=zBn rs y.rule:=by omega
   have hlz:u.right<=zBn rs z.rule:=by omega
   obtain rfl:i'=i:=by omega
   by_cases h3:u.kind=1/\z.at_=j'+1/\tokI ts j' u.sym.toList=true
   ·rw[if_pos h3];obtain rfl:i2=j'+1:=by omega
    exact⟨i',j2,rfl,rfl,hj2,(zDp (by omega)).2 (.inr ⟨n,u,hu,.inl ⟨h3.1,j',y,z,hlt,by omega,by rw[<-zCn];exact h3.2.2,zAe.2 ⟨my,hly⟩,zAe.2 ⟨mz,hlz⟩,rfl⟩⟩)⟩
   ·rw[if_neg h3] at h0⊢
    by_cases h4:u.kind=4/\z.at_=j'
    ·rw[if_pos h4];obtain rfl:i2=j':=by omega
     exact⟨i',j2,rfl,rfl,hj2,(zDp (by omega)).2 (.inr ⟨n,u,hu,.inr (.inr (.inr ⟨h4.1,i2,y,z,hlt,by omega,zAe.2 ⟨my,hly⟩,zAe.2 ⟨mz,hlz⟩,rfl⟩))⟩)⟩
    ·rw[if_neg h4] at h0;omega
theorem yBy {rs:List Rul}(x:Rd):(x.at_=0/\endR rs ts x=(ts.length:Int)/\0<ts.length)↔x∈allR rs ts 0 ts.length:=by
 constructor
 ·rintro⟨h1,h2,h3⟩;obtain⟨i,j,ha,he,_,hm⟩:=zLh (rs:=rs) (ts:=ts) (zB4 x) x (Nat.le_refl _) (by omega);obtain rfl:i=0:=by omega
  obtain rfl:j=ts.length:=by omega
  exact hm
 ·intro h;exact⟨zIr h,zTm _ 0 _ x (Nat.le_refl _) (Nat.le_refl _) h,zD9 h⟩
theorem zPf {rs:List Rul}(hv:zAd rs=true){x:Rd}(h:x∈allR rs ts i j):0<=zBn rs x.rule/\zBn rs x.rule<=101:=by
 rcases(zDp (zD9 h)).1 h with⟨_,_,rfl⟩|⟨n,u,hu,h⟩
 ·show 0<=zBn rs (-1)/\zBn rs (-1)<=101;unfold zBn;rw[if_pos (by omega)];omega
 ·rw[(zPv h).2,zHu hu];have ho:=zHj hv hu;unfold ownB at ho;simp only[Bool.and_eq_true,inR,decide_eq_true_eq] at ho;omega
end Ch
section
theorem index_one (c:UInt8):∀{a b:List UInt8},c∉a->Lib.index (a++c::b) [c]=(a.length:Int)
 |[],b,_=>by simp[Lib.index,List.isPrefixOf]
 |x::a,b,h=>by
  rw[List.mem_cons,not_or] at h;rw[List.cons_append,Lib.index,index_one c h.2];have hp:([c]:List UInt8).isPrefixOf (x::(a++c::b))=false:=by simp[List.isPrefixOf,h.1]
  rw[hp];have:((a.length:Int)== -1)=false:=by rw[beq_eq_false_iff_ne];omega
  simp[this]
theorem zLg (c:UInt8):∀{a:List UInt8},c∉a->Lib.index a [c]= -1
 |[],_=>by simp[Lib.index]
 |x::a,h=>by
  rw[List.mem_cons,not_or] at h;rw[Lib.index,zLg c h.2];have hp:([c]:List UInt8).isPrefixOf (x::a)=false:=by simp[List.isPrefixOf,h.1]
  rw[hp];simp
theorem zVy (c:UInt8){a b:List UInt8}(h:c∉a):Lib.cut (a++c::b) [c]=(a,b,true):=by
 unfold Lib.cut;rw[index_one c h,if_pos (by omega)];simp
theorem zR5 (c:UInt8){a:List UInt8}(h:c∉a):Lib.cut a [c]=(a,[],false):=by
 unfold Lib.cut;rw[zLg c h,if_neg (by omega)]
theorem zNa (c:UInt8)(l:List UInt8):c∉l\/∃a b,l=a++c::b/\c∉a:=by
 induction l with
 |nil=>exact .inl (by simp)
 |cons x r ih=>
  by_cases hx:x=c
  ·subst hx;exact .inr ⟨[],r,rfl,by simp⟩
  ·rcases ih with h|⟨a,b,rfl,h⟩
   ·exact .inl (by simp[h,Ne.symm hx])
   ·exact .inr ⟨x::a,b,rfl,by simp[h,Ne.symm hx]⟩
def bys (l:List UInt8):ByteArray:=⟨l.toArray⟩
theorem zQz (l:List UInt8):(bys l).data.toList=l:=by simp[bys]
theorem zZa (b:ByteArray):bys b.data.toList=b:=by simp[bys]
end
namespace At
inductive Tre where
 |mk (kind:Int) (text:ByteArray) (cols:Int) (kids:List Tre)
def Tre.kind:Tre->Int
 | .mk k _ _ _=>k
def Tre.text:Tre->ByteArray
 | .mk _ s _ _=>s
def Tre.cols:Tre->Int
 | .mk _ _ c _=>c
def Tre.kids:Tre->List Tre
 | .mk _ _ _ ks=>ks
mutual
def zA7:Tre->Nat
 | .mk _ _ _ ks=>zA4 ks+1
def zA4:List Tre->Nat
 |[]=>0
 |t::ts=>zA7 t+zA4 ts
end
mutual
def zCc:Tre->Nat
 | .mk _ _ _ ks=>zC9 ks+1
def zC9:List Tre->Nat
 |[]=>0
 |t::ts=>max (zCc t) (zC9 ts)
end
def zD8 (c:UInt8):Bool:=decide (48<=c.toNat)&&decide (c.toNat<=57)
def zIx (l:List UInt8):Bool:=l.all zD8&& !l.isEmpty
def numP (l:List UInt8):Bool:=decide (l.length<=20)&&(zIx (Lib.cut l [46]).1&&(!(Lib.cut l [46]).2.2||zIx (Lib.cut l [46]).2.1))
def numR (l:List UInt8):Bool:=l.all (fun c=>c==46||zD8 c)&&(decide (l.head?≠some 46)&&(decide (l.getLast?≠some 46)&&(decide (0<l.length)&&(decide (l.length<=20)&&decide (l.count 46<=1)))))
theorem zPc (c:UInt8)(h:zD8 c=true):c≠46:=by
 rintro rfl;revert h;decide
theorem zIc {l:List UInt8}(h:l.all zD8=true):l.count 46=0:=by
 rw[List.count_eq_zero];intro hm;exact zPc 46 (List.all_eq_true.1 h 46 hm) rfl
theorem zFo {l:List UInt8}(h:(46:UInt8)∉l):l.all (fun c=>c==46||zD8 c)=l.all zD8:=by
 induction l with
 |nil=>rfl
 |cons a r ih=>
  simp only[List.mem_cons,not_or] at h;rw[List.all_cons,List.all_cons,ih h.2]
  congr 1
  rw[beq_eq_false_iff_ne.2 (fun e=>h.1 e.symm),Bool.false_or]
theorem zRa (l:List UInt8):numR l=numP l:=by
 unfold numR numP;rcases zNa 46 l with h|⟨a,b,rfl,h⟩
 ·rw[zR5 46 h,zFo h];have h1:l.count 46=0:=List.count_eq_zero.2 h;have h2:l.head?≠some 46:=fun e=>h (List.mem_of_head? e)
  have h3:l.getLast?≠some 46:=fun e=>h (List.mem_of_getLast? e)
  rw[h1,decide_eq_true h2,decide_eq_true h3];unfold zIx;cases l with
  |nil=>simp
  |cons x r=>simp[Bool.and_comm]
 ·rw[zVy 46 h];simp only[Bool.not_true,Bool.false_or];rw[Bool.eq_iff_iff];simp only[Bool.and_eq_true,decide_eq_true_eq,zIx,Bool.not_eq_true',List.isEmpty_eq_false_iff];constructor
  ·rintro⟨h1,h2,h3,h4,h5,h6⟩;rw[List.all_append,List.all_cons,Bool.and_eq_true,zFo h] at h1;have hc:(b.count 46)=0:=by
    rw[List.count_append,List.count_cons_self] at h6;omega
   have hb:(46:UInt8)∉b:=List.count_eq_zero.1 hc;rw[zFo hb] at h1;simp only[Bool.and_eq_true] at h1;refine⟨h5,⟨h1.1,fun e=>?_⟩,h1.2.2,fun e=>?_⟩
   ·subst e;simp at h2
   ·subst e;simp at h3
  ·rintro⟨h1,⟨h2,h3⟩,h4,h5⟩;have hb:(46:UInt8)∉b:=List.count_eq_zero.1 (zIc h4);refine⟨?_,?_,?_,by simp;omega,h1,?_⟩
   ·rw[List.all_append,List.all_cons,zFo h,zFo hb,h2,h4];rfl
   ·intro e;cases a with
    |nil=>exact h3 rfl
    |cons x r=>
     simp at e;subst e;simp at h
   ·intro e;rw[List.getLast?_append] at e;cases b with
    |nil=>exact h5 rfl
    |cons x r=>
     rw[List.getLast?_cons_cons] at e;have hne:(x::r).getLast?=some 46:=by
      cases hl:(x::r).getLast? with
      |none=>simp at hl
      |some y=>rw[hl] at e;simpa using e
     exact hb (List.mem_of_getLast? hne)
   ·rw[List.count_append,List.count_cons_self,zIc h2,zIc h4];omega
def zKu (l:List UInt8):Bool:=l.all fun c=>decide (32<=c.toNat)&&decide (c.toNat<=126)
def zIo:List UInt8:=[40,41,91,93,123,125,124,60,62,47,46]
def zPl (l:List UInt8):Bool:=match l with
 |[a,b]=>hasB zIo a&&hasB zIo b
 |_=>false
def zE3 (k:Int)(l:List UInt8):Bool:=
 if k=2 then symB l else if k=3 then numP l else if k=4 then decide (l.length<=200)&&zKu l else if k=10 then inB zAx l else if k=11 then zPl l else l.isEmpty
def zBu (k c:Int)(n:Nat):Bool:=
 if k=12 then decide (1<=c/\c<=16)&&(decide (1<=n/\n<=256)&&decide ((n:Int)%c=0))
 else decide (c=0)&&(if k=1 then decide (n<=200) else if k=2\/k=3\/k=4 then decide (n=0) else if k=5\/k=6\/k=7\/k=8 then decide (n=2) else if k=9 then decide (n=3) else if k=10\/k=11 then decide (n=1) else false)
def ownT (k:Int)(s:List UInt8)(c:Int)(n:Nat):Bool:=zE3 k s&&zBu k c n
def zBk (k j:Int):Bool:=(decide (k=1))==(decide (j=1))
mutual
def zAt:Tre->Bool
 | .mk k s c ks=>ownT k s.data.toList c ks.length&&zC2 k ks
def zC2 (k:Int):List Tre->Bool
 |[]=>true
 |t::ts=> !zBk k t.kind&&(zAt t&&zC2 k ts)
end
def zBa (t:Tre):Bool:=decide (t.kind=1)&&(zAt t&&(decide (zA7 t<=1000)&&decide (zCc t<=24)))
mutual
def chkT:Tre->Nat->Nat->Bool×Nat
 | .mk k s c ks,d,n=>if 1000<n+1\/24<d\/ownT k s.data.toList c ks.length=false then(false,n+1) else chkL k ks (d+1) (n+1)
def chkL (k:Int):List Tre->Nat->Nat->Bool×Nat
 |[],_,n=>(true,n)
 |t::ts,d,n=>if zBk k t.kind then(false,n) else if(chkT t d n).1 then chkL k ts d (chkT t d n).2 else(false,(chkT t d n).2)
end
mutual
theorem zN5:∀(t:Tre) (d n:Nat),n<=1000->((chkT t d n).1=true↔zAt t=true/\d+zCc t<=25/\n+zA7 t<=1000)/\((chkT t d n).1=true->(chkT t d n).2=n+zA7 t)
 | .mk k s c ks,d,n,hn=>by
  unfold chkT zAt zCc zA7
  by_cases h:1000<n+1\/24<d\/ownT k s.data.toList c ks.length=false
  ·rw[if_pos h];refine⟨⟨fun e=>by simp at e,fun⟨h1,h2,h3⟩=>?_⟩,fun e=>by simp at e⟩;rw[Bool.and_eq_true] at h1;rcases h with h|h|h
   ·omega
   ·omega
   ·rw[h] at h1;simp at h1
  ·rw[if_neg h];simp only[not_or,Bool.not_eq_false] at h;obtain⟨g1,g2,g3⟩:=h;obtain⟨i1,i2⟩:=zRd k ks (d+1) (n+1) (by omega) (by omega);rw[g3,Bool.true_and];refine⟨i1.trans ⟨fun⟨a,b,c⟩=>⟨a,by omega,by omega⟩,fun⟨a,b,c⟩=>⟨a,by omega,by omega⟩⟩,fun e=>?_⟩;rw[i2 e];omega
theorem zRd:∀(k:Int) (ts:List Tre) (d n:Nat),n<=1000->d<=25->((chkL k ts d n).1=true↔zC2 k ts=true/\d+zC9 ts<=25/\n+zA4 ts<=1000)/\((chkL k ts d n).1=true->(chkL k ts d n).2=n+zA4 ts)
 |k,[],d,n,hn,hd=>by
  unfold chkL zC2 zC9 zA4;simp;omega
 |k,t::ts,d,n,hn,hd=>by
  unfold chkL zC2 zC9 zA4;cases hb:zBk k t.kind
  ·obtain⟨a1,a2⟩:=zN5 t d n hn;rw[if_neg (by simp)];cases hc:(chkT t d n).1
   ·rw[if_neg (by simp)];rw[hc] at a1;refine⟨⟨fun e=>by simp at e,fun⟨h1,h2,h3⟩=>?_⟩,fun e=>by simp at e⟩;simp only[Bool.not_false,Bool.true_and,Bool.and_eq_true] at h1;have:=a1.2 ⟨h1.1,by omega,by omega⟩;cases this
   ·rw[if_pos rfl];obtain⟨f1,f2,f3⟩:=a1.1 hc;have e2:=a2 hc;rw[e2];obtain⟨b1,b2⟩:=zRd k ts d (n+zA7 t) f3 hd;simp only[Bool.not_false,Bool.true_and,f1];refine⟨b1.trans ⟨fun⟨p,q,r⟩=>⟨p,by omega,by omega⟩,fun⟨p,q,r⟩=>⟨p,by omega,by omega⟩⟩,fun e=>?_⟩;rw[b2 e];omega
  ·rw[if_pos rfl];simp
end
theorem zVe (t:Tre):zBa t=(decide (t.kind=1)&&(chkT t 1 0).1):=by
 unfold zBa
 congr 1
 rw[Bool.eq_iff_iff];have:=(zN5 t 1 0 (by omega)).1;rw[this];simp only[Bool.and_eq_true,decide_eq_true_eq];constructor
 ·rintro⟨a,b,c⟩;exact⟨a,by omega,by omega⟩
 ·rintro⟨a,b,c⟩;exact⟨a,by omega,by omega⟩
abbrev _root_.Go.Proofs.YtapgncbegadbnaaGreatDoor.qC (x:Tre)(A:Option Addr)(c:Nat):Array Value:= #[qI x.kind,.string x.text,qI x.cols,.slice A x.kids.length c]
abbrev _root_.Go.Proofs.YtapgncbegadbnaaGreatDoor.qO (x:Tre)(A:Option Addr)(c:Nat):Obj:=.cells #[qI x.kind,.string x.text,qI x.cols,.slice A x.kids.length c] 25
end At
end Go.Proofs.YtapgncbegadbnaaGreatDoor
