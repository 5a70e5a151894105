/- Strings that are symbols or names: the leaf functions of the program and of the reference. -/
import Derived.Lib.Strings
import Derived.Lib.Hide
import Derived.Lib.SplitLaws
import Derived.Lib.CountLaws
import Derived.Lib.CutLaws
import Derived.Lib.Join
import Derived.Lib.AtoiTie
import Derived.Lib.AtoiAllCases
import Derived.Test.YtlefbenkhgbifaaGreatDoorProg
import Derived.WalkKit
import Derived.WalkSpells
import Derived.WalkLawsBesides
import Derived.Handy
import Derived.Below
import Derived.Laws.OwnMore
import Derived.Deep.Draws
import Derived.Laws.Rows
import Derived.Laws.BitsAllLaws
set_option linter.all false
set_option maxHeartbeats 400000
namespace Go.Proofs.YtlefbenkhgbifaaGreatDoor
open Tryz
section
open Go.RowKit
def Hy (p:Prop):Prop:=p
def Hy.o {p:Prop}(h:Hy p):p:=h
def zh {p:Prop}(h:p):Hy p:=h
def aa {p:Prop}(h:p:=by omega):p:=h
def aj {p:Prop}(h:p:=by kernel_rfl):p:=h
def aI {p:Prop}(h:p:=by decide):p:=h
def aS {p:Prop}(h:p:=by simp):p:=h
def bS {p:Prop}(h:p:=by as_aux_lemma=>kernel_rfl):p:=h
def dW {p:Prop}(h:p:=by decide+kernel):p:=h
def gy {p:Prop}(h:p:=by unfold maxLen;omega):p:=h
def jY {p:Prop}(h:p:=by simp[execOp,Act.eval,go_sem]):p:=h
def iw {p:Prop}(h:p:=by simp[go_sem,evAct]):p:=h
def jw {p:Prop}(h:p:=by simp[go_sem];try omega):p:=h
def yR {p:Prop}(h:p:=by unfold Addr.add;split<;>simp_all):p:=h
def wF {p:Prop}(h:p:=by rw[beq_eq_false_iff_ne];omega):p:=h
def bi {p:Prop}(h:p:=by go_num):p:=h
def ol {p:Prop}(h:p:=by simp[go_sem]):p:=h
def ug {p:Prop}(h:p:=by unfold wrap64;omega):p:=h
def sI {p:Prop}(h:p:=by simp[go_sem];omega):p:=h
def av {p q:Prop}(k:q)(h:q→p:=by intro _;omega):p:=h k
def aV {p q r:Prop}(k:q)(l:r)(h:q→r→p:=by intro _ _;omega):p:=h k l
def fD {p q r s:Prop}(k:q)(l:r)(m:s)(h:q→r→s→p:=by intro _ _ _;omega):p:=h k l m
def bT {p q:Prop}(k:q)(h:q→p:=by intro a;simp[go_sem,evAct,a]):p:=h k
def gY {p q:Prop}(k:q)(h:q→p:=by intro a;simp[go_sem,evAct,a];try omega):p:=h k
def yS {p q r:Prop}(k:q)(l:r)(h:q→r→p:=by intro a b;simp[go_sem,evAct,a,b]):p:=h k l
def yT {p q r:Prop}(k:q)(l:r)(h:q→r→p:=by intro a b;simp[go_sem,evAct,a,b];try omega):p:=h k l
def om {p q r s:Prop}(k:q)(l:r)(m:s)(h:q→r→s→p:=by intro a b c;simp[go_sem,evAct,a,b,c]):p:=h k l m
def jZ {p q r s u:Prop}(k:q)(l:r)(m:s)(n:u)(h:q→r→s→u→p:=by intro a b c d;simp[go_sem,evAct,a,b,c,d]):p:=h k l m n
def tq {p q r s u v:Prop}(k:q)(l:r)(m:s)(n:u)(o:v)(h:q→r→s→u→v→p:=by intro a b c d e;simp[go_sem,evAct,a,b,c,d,e]):p:=h k l m n o
def bE {p q:Prop}(k:q)(h:q→p:=by intro a;simp[go_sem,a]):p:=h k
def nL {p q:Prop}(k:q)(h:q→p:=by intro a;simp[go_sem,a];try omega):p:=h k
def ek {p q r:Prop}(k:q)(l:r)(h:q→r→p:=by intro a b;simp[go_sem,a,b]):p:=h k l
def yU {p q r:Prop}(k:q)(l:r)(h:q→r→p:=by intro a b;simp[go_sem,a,b];try omega):p:=h k l
def yV {p q r s:Prop}(k:q)(l:r)(m:s)(h:q→r→s→p:=by intro a b c;simp[go_sem,a,b,c]):p:=h k l m
def DK {p q r s u:Prop}(k:q)(l:r)(m:s)(n:u)(h:q→r→s→u→p:=by intro a b c d;simp[go_sem,a,b,c,d]):p:=h k l m n
def iy {p q:Prop}(k:q)(h:q→p:=by intro a;simp[execOp,Act.eval,go_sem,a]):p:=h k
def qW {p q:Prop}(k:q)(h:q→p:=by intro a;simp[execOp,Act.eval,go_sem,a];try omega):p:=h k
def AU {p q r s u:Prop}(k:q)(l:r)(m:s)(n:u)(h:q→r→s→u→p:=by intro a b c d;simp[execOp,Act.eval,go_sem,a,b,c,d]):p:=h k l m n
def ah (p:Prop)(h:p):Hy p:=h
abbrev az (a:Addr):Value:= .pointer (some a)
abbrev aR (g o:Nat):Value:= .pointer (some ⟨g,o,none⟩)
abbrev ay (a:Addr)(n c:Nat):Value:= .slice (some a) n c
abbrev af (s:ByteArray):Value:= .string s
abbrev ag (g o:Nat):Addr:=⟨g,o,none⟩
abbrev aF (p:Addr)(o:Nat):Addr:=⟨p.block,p.off+o,none⟩
def gT:=@List.flatMap_cons
def bZ:=@List.mem_cons_self
def dP:=@List.mem_cons_of_mem
def zX:=@List.mem_range'_1
def ak:=@if_pos
def ai:=@if_neg
def bP:=@List.getElem?_eq_some_iff
def oo:=@List.mem_flatMap
def nM:=@List.mem_map
def fU:=@Int.toNat_natCast
def nH:=@List.take_append
def qd:=@List.take_take
def xx:=@Nat.min_eq_left
def eU:=@List.length_take
def oq:=@Nat.sub_self
def qX:=@List.take_nil
def jl:=@List.map_nil
def aJ:=@decide_eq_true
def aM:=@Bool.and_eq_true
def nI:=@Bool.not_eq_true'
def xy:=@List.any_eq_false
def dQ:=@List.mem_of_getElem?
def gU:=@List.getElem?_take
def qY:=@List.findIdx?_eq_some_iff_getElem
def nJ:=@List.getElem?_eq_getElem
def bD:=@of_decide_eq_true
def qg:=@eq_of_beq
def yX:=@List.findIdx?_eq_none_iff
def tu:=@Option.some.inj
def rf:=@List.getD_eq_getElem?_getD
def aT:=@beq_iff_eq
def lG:=@List.isEmpty_iff
def iA:=@List.nil_append
def fH:=@List.flatMap_append
def tC:=@List.flatMap_nil
def bX:=@List.append_nil
def eZ:=@List.take_zero
def fA:=@List.take_of_length_le
def eu:=@List.mem_range
def rq:=@decide_eq_true_iff
def iZ:=@List.mem_append
def bu:=@Nat.lt_or_ge
def eF:=@decide_eq_true_eq
def dD:=@List.mem_cons
def iB:=@List.cons_append
def ou:=@Ne.symm
def xz:=@List.count_eq_zero
def cz:=@List.all_eq_true
def tF:=@List.all_cons
def aZ:=@beq_eq_false_iff_ne
def ow:=@Bool.false_or
def fI:=@Bool.eq_iff_iff
def uX:=@List.isEmpty_eq_false_iff
def aW:=@Bool.true_and
def ry:=@Bool.not_false
def bz:=@ByteArray.toList_eq
def uY:=@List.all_eq_false
def xA:=@Array.getElem_mem
def qh:=@Array.length_toList
def kg:=@List.contains_cons
def aK:=@decide_eq_false
def bF:=@Bool.and_false
def bL:=@Bool.false_and
def kT:=@Bool.or_eq_true
def tH:=@Bool.eq_false_iff
def tJ:=@Tryz.isAgg3
def tK:=@Tryz.sizeOf3
def tL:=@Tryz.zeroValue3
def uZ:=@Tryz.sizeOf5
def ve:=@Tryz.zeroValue5
def tN:=@Tryz.isAgg9
def tO:=@Tryz.sizeOf9
def tQ:=@Tryz.zeroValue9
def vg:=@Tryz.sizeOf4
def tT:=@Tryz.zeroValue4
def xB:=@Tryz.zeroValue197
def xC:=@Tryz.zeroValue234
def ig:=@Array.getElem?_eq_none
def xD:=@Below.heap_setCell
def aL:=@Below.refl
def aH:=@Nat.le_refl
def rz:=@List.contains_iff_mem
def gz:=@List.mem_iff_getElem?
def ko:=@List.getElem?_eq_none
def di:=@List.map_cons
def rA:=@Calls.mono
def tV:=@Array.getElem?_setIfInBounds
def gV:=@Option.some.injEq
def lH:=@Nat.le_of_not_lt
def tX:=@Array.ext_getElem?
def vo:=@Array.any_eq_true'
def kU:=@Array.all_eq_true'
def bR:=@Array.getD_eq_getD_getElem?
def oz:=@Option.bind_some
def oC:=@Classical.byContradiction
def kr:=@mem_ready
def cB:=@Array.getElem?_eq_getElem
def fB:=@Option.getD_some
def vv:=@List.eq_nil_iff_forall_not_mem
def gD:=@Array.getElem?_eq_some_iff
def rC:=@List.countP_pos_iff
def kv:=@getD_set_ne
def oM:=@Array.toList_setIfInBounds
def nN:=@execOp_congr
def nO:=@Region.noSelect_spec
def oN:=@wp_region_any
def ax:=@Nat.le_trans
def rD:=@List.countP_le_length
def iC:=@Array.getElem?_replicate
def gF:=@Array.getElem?_toList
def gL:=@List.getElem?_map
def kX:=@List.getElem?_range
def je:=@Option.map_some
def bf:=@Nat.lt_of_lt_of_le
def oO:=@Addr.add_add
def fE:=@decide_eq_decide
def kY:=@of_decide_eq_false
def fe:=@Nat.zero_add
def rE:=@List.map_congr_left
def rF:=@Nat.add_zero
def iR:=@World.ownsRow_nil
def eP:=@List.length_eq_zero_iff
def aO:=@List.length_append
def dX:=@List.map_append
def dz:=@List.getElem?_append_left
def cO:=@List.getElem?_append_right
def kZ:=@World.cell?_setCell_other
def oP:=@Nat.eq_zero_or_pos
def uh:=@Result.andThen_ok
def ui:=@List.map_toArray
def bA:=@World.ownsRow.lt
def gM:=@World.ownsRow.kept
def dA:=@List.take_add_one
def aB:=@bodyPost_ret
def aY:=@List.length_cons
def dI:=@List.length_map
def kw:=@List.take_append_drop
def uj:=@wpList_append_own_at
def bW:=@List.take_length
def uk:=@Option.isSome_iff_exists
def cu:=@List.append_assoc
def dY:=@World.size_alloc
def nP:=@Prod.mk.injEq
def ul:=@List.cons.injEq
def mE:=@Int.ofNat.inj
def um:=@Maps.atKey_put_other
def iT:=@List.mem_singleton
def uo:=@World.ownsMap_made
def oQ:=@List.range_succ
def wG:=@Array.getElem?_setIfInBounds_ne
def lc:=@IntWalk.i64_in
def dm:=@World.cell?_of_block
def oU:=@List.length_pos_iff
def rG:=@Classical.axiomOfChoice
def eD:=@List.getElem?_cons_succ
def fo:=@List.take_succ_cons
def oV:=@wpList_append_own
def rH:=@Go.WideMaps.keyOf_string_mk
def oW:=@Bool.false_eq_true
def uq:=@World.ownsMap.kept
def oZ:=@World.ownsMap.drew
def gZ:=@List.length_nil
def ib:=@List.drop_eq_getElem_cons
def rJ:=@Sum.inl.injEq
def rM:=@World.ownsRow.alloc
def dZ:=@Nat.zero_le
def iD:=@List.getElem?_cons_zero
def ut:=@List.nodup_cons
def uu:=@List.length_set
def uw:=@List.pairwise_cons
def nQ:=@List.drop_length
def pg:=@List.drop_succ_cons
def mF:=@List.drop_zero
def nR:=@Nat.le_of_lt
def gN:=@List.length_singleton
def rO:=@List.getElem?_drop
def wH:=@List.getElem?_set_self
def wI:=@List.getElem?_set_ne
def mG:=@List.length_replicate
def rP:=@Nat.succ_pos
def mH:=@List.mem_append_left
def mI:=@List.mem_append_right
def jf:=@Int.natCast_nonneg
def lg:=@List.length_drop
def pq:=@List.mem_of_mem_drop
def pu:=@Int.natCast_add
def pz:=@Array.toList_inj
def wJ:=@Option.map_eq_none_iff
def nS:=@List.not_mem_nil
def lh:=@beq_self_eq_true
def pE:=@bne_iff_ne
def uy:=@bne_eq_false_iff_eq
def uz:=@List.flatMap_def
def wK:=@Option.map_eq_some_iff
def wL:=@List.mem_of_find?_eq_some
def uA:=@List.sum_append
def fq:=@Nat.le_add_right
def lq:=@List.sum_cons
def lu:=@Nat.le_add_left
def wM:=@List.drop_eq_nil_of_le
def dJ:=@Nat.le_succ
def uB:=@ByteArray.size_append
def uC:=@List.length_reverse
def pF:=@List.drop_eq_nil_iff
def rQ:=@DataW.trod_int
def rR:=@DataW.trod_string
end
section
def bU (c:UInt8):Bool:=(decide (97<=c.toNat)&&decide (c.toNat<=122))||(decide (65<=c.toNat)&&decide (c.toNat<=90))
def tY (l:List UInt8):Bool:=l.all bU
def ky (l:List UInt8):Bool:=tY l&&(decide (1<=l.length)&&decide (l.length<=16))
def yA:List UInt8:=[43,45,42,47,61,60,62,44,59,58,33,124,39,63,126,64]
def vw:List (List UInt8):=[[102,114,97,99],[114,111,111,116],[109,97,116,114,105,120],[102,101,110,99,101]]
def rT:List (List UInt8):=[[104,97,116],[98,97,114],[118,101,99],[100,111,116],[116,105,108,100,101],[99,104,101,99,107]]
def lI (l:List UInt8)(c:UInt8):Bool:=l.contains c
def kV (ls:List (List UInt8))(l:List UInt8):Bool:=ls.contains l
def fV (l:List UInt8):Bool:=match l with
 |[c]=>bU c||lI yA c
 |_=>decide (2<=l.length)&&(decide (l.length<=16)&&(tY l&&(!kV vw l&& !kV rT l)))
structure aD where
 kind:Int
 sym:ByteArray
 nam:ByteArray
 prec:Int
 left:Int
 right:Int
def pG (n a b:Int):Bool:=decide (a<=n)&&decide (n<=b)
def ni (r:aD):Bool:=ky r.nam.toList&&(pG r.prec 1 100&&(pG r.left 0 101&&(pG r.right 0 101&&
 (if r.kind=1 then fV r.sym.toList else if r.kind=2 then fV r.sym.toList&&decide (r.left=0) else if r.kind=3 then fV r.sym.toList&&decide (r.right=0) else decide (r.kind=4)&&r.sym.toList.isEmpty))))
def nk (o r:aD):Bool:=decide (o.kind=r.kind)&&(o.sym.toList==r.sym.toList||o.nam.toList==r.nam.toList)
def wN (os:List aD)(r:aD):Bool:= !os.any λo=>nk o r
def vR (rs:List aD):Nat->Bool
 |0=>true
 |k+1=>vR rs k&&(match rs[k]? with
  |some r=>ni r&&wN (rs.take k) r
  |none=>true)
def fZ (rs:List aD):Bool:=decide (rs.length<=64)&&vR rs rs.length
def Ht {rs:List aD}{k j:Nat}(h:vR rs k=false)(b:k<=j):vR rs j=false:=by
 induction j with
 |zero=>
      obtain rfl:k=0:=aa
      exact h
 |succ j a=>
  by_cases e:k=j+1
  ·rw[<-e];exact h
  ·rw[vR,a aa];rfl
def Hu {rs:List aD}{k:Nat}{r:aD}(h:rs[k]?=some r):vR rs (k+1)=(vR rs k&&(ni r&&wN (rs.take k) r)):=by
 rw[vR,h]
abbrev qI (n:Int):Value:=.int .i64 n
abbrev qE:Value:=af ⟨#[]⟩
abbrev qN:Value:=.slice none 0 0
abbrev qP (g:Nat):Value:=aR g (0)
abbrev qZ:Array Value:= #[.int .i64 0,af ⟨#[]⟩,.int .i64 0,.slice none 0 0]
abbrev qT:Array Value:= #[.int .i64 0,af ⟨#[]⟩,af ⟨#[]⟩,.slice none 0 0,af ⟨#[]⟩]
end
namespace Ch
variable{a n k i j m b:Nat}{ts:List ByteArray}{p r:Int}
inductive Rd where
 |mk (rule at_:Int) (kids:List Rd)
def Rd.rule:Rd->Int
 | .mk r _ _=>r
def Rd.at_:Rd->Int
 | .mk _ a _=>a
def Rd.kids:Rd->List Rd
 | .mk _ _ ks=>ks
mutual
def og:Rd->Nat
 | .mk _ _ ks=>Cx ks+1
def Cx:List Rd->Nat
 |[]=>0
 |x::xs=>og x+Cx xs
end
def qA (rs:List aD)(r:Int):Int:=if r<0 then 101 else match rs[r.toNat]? with
 |some x=>x.prec
 |none=>0
def dx (rs:List aD)(l:List Rd)(p:Int):List Rd:=l.filter λx=>decide (p<=qA rs x.rule)
def kM (r a:Int)(l m:List Rd):List Rd:=l.flatMap λx=>m.map λy=>.mk r a [x,y]
def kI (r a:Int)(l:List Rd):List Rd:=l.map λx=>.mk r a [x]
def ed (ts:List ByteArray)(k:Nat)(s:List UInt8):Bool:=match ts[k]? with
 |some t=>t.toList==s
 |none=>false
def oD:List UInt8:=[35]
def nu (rs:List aD)(ts:List ByteArray)(f:Nat->Nat->List Rd)(i j n:Nat):List Rd:=match rs[n]? with
 |none=>[]
 |some x=>
  if x.kind=1 then(List.range' (i+1) (j -1 -(i+1))).flatMap λk=>if ed ts k x.sym.toList then kM n i (dx rs (f i k) x.left) (dx rs (f (k+1) j) x.right) else[]
  else if x.kind=2 then(if ed ts i x.sym.toList then kI n i (dx rs (f (i+1) j) x.right) else[])
  else if x.kind=3 then(if ed ts (j -1) x.sym.toList then kI n i (dx rs (f i (j -1)) x.left) else[])
  else if x.kind=4 then(List.range' (i+1) (j -(i+1))).flatMap λk=>kM n i (dx rs (f i k) x.left) (dx rs (f k j) x.right)
  else[]
def qB (ts:List ByteArray)(i j:Nat):List Rd:=if j=i+1/\ed ts i oD=true then[.mk (-1) i []] else[]
def AV (rs:List aD)(ts:List ByteArray)(f:Nat->Nat->List Rd)(i j:Nat):List Rd:=qB ts i j++(List.range rs.length).flatMap (nu rs ts f i j)
def mJ (rs:List aD)(ts:List ByteArray):Nat->Nat->Nat->List Rd
 |0,_,_=>[]
 |m+1,i,j=>if j<=i then[] else AV rs ts (mJ rs ts m) i j
def aX (rs:List aD)(ts:List ByteArray)(i j:Nat):List Rd:=mJ rs ts (j -i) i j
def zF {α β:Type}{l:List α}{f g:α->List β}(h:∀x∈l,f x=g x):l.flatMap f=l.flatMap g:=by
 induction l with
 |nil=>rfl
 |cons a l b=>rw[gT,gT,h a bZ,b λx c=>h x (dP _ c)]
def EZ {α β:Type}(l:List α):(l.flatMap λ_=>([]:List β))=[]:=by
 induction l with
 |nil=>rfl
 |cons a l b=>rw[gT,b];rfl
def Cy (h:k∈List.range' a n):a<=k/\k<a+n:=by
 rw[zX] at h;exact h
def QV {rs:List aD}{f g:Nat->Nat->List Rd}(d:i<j)(h:∀a b,i<=a->b<=j->b -a<j -i->f a b=g a b):nu rs ts f i j n=nu rs ts g i j n:=by
 unfold nu;cases rs[n]? with
 |none=>rfl
 |some x=>
  dsimp only
  split
  ·refine zF λk c=>?_
   have:=Cy c;rw[h i k aa aa aa,h (k+1) j aa aa aa]
  ·split
   ·rw[h (i+1) j aa aa aa]
   ·split
    ·rw[h i (j -1) aa aa aa]
    ·split
     ·refine zF λk c=>?_
      have:=Cy c;rw[h i k aa aa aa,h k j aa aa aa]
     ·rfl
def KW {rs:List aD}{f g:Nat->Nat->List Rd}(c:i<j)(h:∀a b,i<=a->b<=j->b -a<j -i->f a b=g a b):AV rs ts f i j=AV rs ts g i j:=by
 unfold AV
 congr 1
 exact zF λn _=>QV c h
def DL {rs:List aD}(h:j<=i):mJ rs ts m i j=[]:=by
 cases m with
 |zero=>rfl
 |succ m=>rw[mJ,ak h]
def KX {rs:List aD}{ts:List ByteArray}:∀(m c i j:Nat),j -i<=m->j -i<=c->mJ rs ts m i j=mJ rs ts c i j
 |0,c,i,j,h,_=>by rw[DL aa,DL aa]
 |m+1,0,i,j,_,h=>by rw[DL aa,DL aa]
 |m+1,c+1,i,j,h,d=>by
  rw[mJ,mJ]
  split
  ·rfl
  ·exact KW aa λa b _ _ e=>KX m c a b aa aa
def Cz {rs:List aD}(h:j<=i):aX rs ts i j=[]:=DL h
def Fa {rs:List aD}(h:i<j):aX rs ts i j=AV rs ts (aX rs ts) i j:=by
 unfold aX;obtain⟨m,c⟩:∃m,j -i=m+1:=⟨j -i -1,aa⟩
 rw[c,mJ,ai aa];exact KW h λa b _ _ d=>KX m (b -a) a b aa aa
def QW {rs:List aD}{f:Nat->Nat->List Rd}{x:Rd}(h:x∈nu rs ts f i j n):x.rule=n/\x.at_=i/\n<rs.length:=by
 unfold nu at h;cases e:rs[n]? with
 |none=>rw[e] at h;cases h
 |some y=>
  have g:=(bP.1 e).1;rw[e] at h;dsimp only at h;have o:∀l m,x∈kM n i l m->x.rule=n/\x.at_=i/\n<rs.length:=by
   intro l m c;unfold kM at c;obtain⟨a,_,q⟩:=oo.1 c;obtain⟨b,_,rfl⟩:=nM.1 q;exact⟨rfl,rfl,g⟩
  have p:∀l,x∈kI n i l->x.rule=n/\x.at_=i/\n<rs.length:=by
   intro l c;unfold kI at c;obtain⟨b,_,rfl⟩:=nM.1 c;exact⟨rfl,rfl,g⟩
  split at h
  ·obtain⟨k,_,d⟩:=oo.1 h
   split at d
   ·exact o _ _ d
   ·cases d
  ·split at h
   ·split at h
    ·exact p _ h
    ·cases h
   ·split at h
    ·split at h
     ·exact p _ h
     ·cases h
    ·split at h
     ·obtain⟨k,_,d⟩:=oo.1 h;exact o _ _ d
     ·cases h
def Fb {rs:List aD}{x:aD}(h:rs[n]?=some x):qA rs n=x.prec:=by
 unfold qA;rw[ai aa,fU,h]
def CB {α β:Type}(m:Nat)(A:α->List β):∀l:List α,(l.flatMap λx=>(A x).take m).take m=(l.flatMap A).take m
 |[]=>rfl
 |a::l=>by
  rw[gT,gT,nH,nH,qd,Nat.min_self]
  congr 1
  have b:=CB m A l;have e:∀(k:Nat) (u v:List β),k<=m->u.take m=v.take m->u.take k=v.take k:=by
   intro k u v c h;have:=congrArg (List.take k) h
   rwa [qd,qd,xx c] at this
  by_cases h:(A a).length<=m
  ·rw[eU,Nat.min_eq_right h];exact e _ _ _ aa b
  ·rw[eU,xx aa,oq,show m -(A a).length=0 from aa];rfl
def QX {α:Type}{a b:List α}:(a.take m++b).take m=(a++b).take m:=by
 rw[nH,nH,qd,Nat.min_self]
 congr 1
 by_cases h:a.length<=m
 ·rw[eU,Nat.min_eq_right h]
 ·rw[eU,xx aa,oq,show m -a.length=0 from aa]
def KY {α:Type}{a b:List α}:(a++b.take m).take m=(a++b).take m:=by
 rw[nH,nH,qd]
 congr 2
 omega
def KZ (r a:Int)(l m:List Rd):(kM r a (l.take 2) (m.take 2)).take 2=(kM r a l m).take 2:=by
 match m with
 |[]=>unfold kM;rw[qX];simp only[jl];rw[EZ,EZ]
 |[y]=>match l with
  |[]=>rfl
  |[x]=>rfl
  |x::b::l=>rfl
 |y::c::m=>match l with
  |[]=>rfl
  |x::l=>simp[kM]
def QY (r a:Int)(l:List Rd):(kI r a (l.take 2))=(kI r a l).take 2:=by unfold kI;rw[List.map_take]
def La {rs:List aD}{l:List Rd}(h:∀x∈l,x.rule=r):dx rs l p=if p<=qA rs r then l else[]:=by
 unfold dx
 split
 ·rename_i a
  exact List.filter_eq_self.2 λx b=>by rw[h x b];exact aJ a
 ·rename_i a
  exact List.filter_eq_nil_iff.2 λx b=>by rw[h x b];simpa using a
def CE {rs:List aD}{l m:List Rd}:dx rs (l++m) p=dx rs l p++dx rs m p:=List.filter_append ..
def Hw {α:Type}{rs:List aD}{p:Int}{A:α->List Rd}:∀l:List α,dx rs (l.flatMap A) p=l.flatMap λx=>dx rs (A x) p
 |[]=>rfl
 |a::l=>by rw[gT,gT,CE,Hw l]
def vS (rs:List aD)(ts:List ByteArray)(i j:Nat):List Rd:=qB ts i j++(List.range rs.length).flatMap λn=>(nu rs ts (aX rs ts) i j n).take 2
def Lb {rs:List aD}(h:i<j)(p:Int):(dx rs (vS rs ts i j) p).take 2=(dx rs (aX rs ts i j) p).take 2:=by
 rw[Fa h];unfold vS AV;rw[CE,CE,Hw,Hw];have e:((List.range rs.length).flatMap λn=>dx rs ((nu rs ts (aX rs ts) i j n).take 2) p)=(List.range rs.length).flatMap λn=>(dx rs (nu rs ts (aX rs ts) i j n) p).take 2:=by
  refine zF λn _=>?_
  have b:∀x∈nu rs ts (aX rs ts) i j n,x.rule=n:=λx a=>(QW a).1
  rw[La b,La (r:=n) λx a=>b x (List.mem_of_mem_take a)]
  split
  ·rfl
  ·rfl
 rw[e,<-KY,CB 2 _ _,KY]
def tZ (rs:List aD)(ts:List ByteArray)(i j:Nat)(p:Int):List Rd:=(dx rs (aX rs ts i j) p).take 2
def Hz {rs:List aD}:(tZ rs ts i j p).length<=2:=by
 unfold tZ;rw[eU];omega
def ny (rs:List aD)(kind:Int)(s:List UInt8):Option Nat:=rs.findIdx? λr=>decide (r.kind=kind)&&r.sym.toList==s
def eB (rs:List aD)(kind:Int)(s:List UInt8):Int:=match ny rs kind s with
 |some n=>n
 |none=> -1
structure ja where
 rule:Nat
 frm:Nat
 left:Nat
 right:Nat
 to:Nat
 kids:Nat
def cZ (ts:List ByteArray)(k:Nat):List UInt8:=(ts.getD k ⟨#[]⟩).toList
def mK (rs:List aD)(ts:List ByteArray)(i j:Nat):List ja:=match ny rs 2 (cZ ts i) with
 |some r=>if i+1<j then[⟨r,i+1,j,0,0,1⟩] else[]
 |none=>[]
def vT (rs:List aD)(ts:List ByteArray)(i j:Nat):List ja:=match ny rs 3 (cZ ts (j -1)) with
 |some r=>if i+1<j then[⟨r,i,j -1,0,0,1⟩] else[]
 |none=>[]
def xE (rs:List aD)(ts:List ByteArray)(i j k:Nat):List ja:=match ny rs 1 (cZ ts k) with
 |some r=>if k+1<j then[⟨r,i,k,k+1,j,2⟩] else[]
 |none=>[]
def pI (rs:List aD)(i j k:Nat):List ja:=match ny rs 4 [] with
 |some r=>[⟨r,i,k,k,j,2⟩]
 |none=>[]
def oF (rs:List aD)(ts:List ByteArray)(i j k:Nat):List ja:=xE rs ts i j k++pI rs i j k
def rU (rs:List aD)(ts:List ByteArray)(i j:Nat):List ja:=mK rs ts i j++vT rs ts i j++(List.range' (i+1) (j -(i+1))).flatMap (oF rs ts i j)
def lv (rs:List aD)(n:Nat):Int:=match rs[n]? with
 |some x=>if x.kind=2 then x.right else x.left
 |none=>0
def vz (rs:List aD)(n:Nat):Int:=match rs[n]? with
 |some x=>if x.kind=2 then 0 else x.right
 |none=>0
def xG (rs:List aD)(ts:List ByteArray)(i:Nat)(a:ja):List Rd:=
 if a.kids=1 then kI a.rule i (tZ rs ts a.frm a.left (lv rs a.rule)) else kM a.rule i (tZ rs ts a.frm a.left (lv rs a.rule)) (tZ rs ts a.right a.to (vz rs a.rule))
def xW (rs:List aD):Prop:=∀(m n:Nat) (x y:aD),rs[m]?=some x->rs[n]?=some y->x.kind=y.kind->x.sym.toList=y.sym.toList->m=n
def DN {rs:List aD}{x:aD}(h:vR rs k=true)(d:n<k)(b:rs[n]?=some x):ni x=true/\wN (rs.take n) x=true:=by
 have a:vR rs (n+1)=true:=by
  cases c:vR rs (n+1)
  ·rw[Ht c aa] at h;cases h
  ·rfl
 rw[Hu b,aM,aM] at a;exact a.2
def Lc {rs:List aD}(h:fZ rs=true){x y:aD}(c:rs[m]?=some x)(b:rs[n]?=some y)(d:x.kind=y.kind)(e:x.sym.toList=y.sym.toList)(f:m<n):False:=by
 unfold fZ at h;rw[aM] at h;have a:=(DN h.2 (bP.1 b).1 b).2;unfold wN at a;rw[nI,xy] at a;have g:x∈rs.take n:=dQ (i:=m) (by rw[gU,ak f];exact c);refine a x g ?_;unfold nk;rw[aJ d,e];simp
def QZ {rs:List aD}(h:fZ rs=true):xW rs:=by
 intro m n x y b c d e;rcases Nat.lt_trichotomy m n with a|a|a
 ·exact(Lc h b c d e a).elim
 ·exact a
 ·exact(Lc h c b d.symm e.symm a).elim
def Fe {rs:List aD}(h:fZ rs=true){x:aD}(a:rs[n]?=some x):ni x=true:=by
 unfold fZ at h;rw[aM] at h;exact(DN h.2 (bP.1 a).1 a).1
def zY {rs:List aD}{kind:Int}{s:List UInt8}(h:ny rs kind s=some n):∃x,rs[n]?=some x/\x.kind=kind/\x.sym.toList=s:=by
 unfold ny at h;rw[qY] at h;obtain⟨b,a,_⟩:=h;rw[aM] at a;exact⟨rs[n],nJ b,bD a.1,qg a.2⟩
def Ff {rs:List aD}(d:xW rs){kind:Int}{s:List UInt8}{x:aD}(a:rs[n]?=some x)(b:x.kind=kind)(c:x.sym.toList=s):ny rs kind s=some n:=by
 cases h:ny rs kind s with
 |none=>
  unfold ny at h;rw[yX] at h;have:=h x (dQ a);rw[c,aJ b] at this;simp at this
 |some m=>
  obtain⟨y,e,f,g⟩:=zY h;rw[d m n y x e a (f.trans b.symm) (g.trans c.symm)]
def pJ (n:Nat)(l:List ja):List ja:=l.filter λa=>decide (a.rule=n)
def DR {l m:List ja}:pJ n (l++m)=pJ n l++pJ n m:=List.filter_append ..
def Ld {α:Type}{n:Nat}{A:α->List ja}:∀l:List α,pJ n (l.flatMap A)=l.flatMap λx=>pJ n (A x)
 |[]=>rfl
 |a::l=>by rw[gT,gT,DR,Ld l]
def Ra {rs:List aD}(e:xW rs){x:aD}(b:rs[n]?=some x):pJ n (mK rs ts i j)=if x.kind=2/\x.sym.toList=cZ ts i/\i+1<j then[⟨n,i+1,j,0,0,1⟩] else[]:=by
 unfold mK
 by_cases h:x.kind=2/\x.sym.toList=cZ ts i
 ·rw[Ff e b h.1 h.2]
  by_cases a:i+1<j
  ·simp[a,h.1,h.2,pJ]
  ·simp[a,pJ]
 ·rw[ai (λc=>h ⟨c.1,c.2.1⟩)];cases f:ny rs 2 (cZ ts i) with
  |none=>rfl
  |some m=>
   obtain⟨y,d,g,k⟩:=zY f;have l:m≠n:=by
    rintro rfl;rw[b] at d;obtain rfl:=tu d;exact h ⟨g,k⟩
   by_cases a:i+1<j<;>simp[a,pJ,l]
def Rb {rs:List aD}(e:xW rs){x:aD}(b:rs[n]?=some x):pJ n (vT rs ts i j)=if x.kind=3/\x.sym.toList=cZ ts (j -1)/\i+1<j then[⟨n,i,j -1,0,0,1⟩] else[]:=by
 unfold vT
 by_cases h:x.kind=3/\x.sym.toList=cZ ts (j -1)
 ·rw[Ff e b h.1 h.2]
  by_cases a:i+1<j
  ·simp[a,h.1,h.2,pJ]
  ·simp[a,pJ]
 ·rw[ai (λc=>h ⟨c.1,c.2.1⟩)];cases f:ny rs 3 (cZ ts (j -1)) with
  |none=>rfl
  |some m=>
   obtain⟨y,d,g,k⟩:=zY f;have l:m≠n:=by
    rintro rfl;rw[b] at d;obtain rfl:=tu d;exact h ⟨g,k⟩
   by_cases a:i+1<j<;>simp[a,pJ,l]
def Rc {rs:List aD}(e:xW rs){x:aD}(b:rs[n]?=some x):pJ n (xE rs ts i j k)=if x.kind=1/\x.sym.toList=cZ ts k/\k+1<j then[⟨n,i,k,k+1,j,2⟩] else[]:=by
 unfold xE
 by_cases h:x.kind=1/\x.sym.toList=cZ ts k
 ·rw[Ff e b h.1 h.2]
  by_cases a:k+1<j
  ·simp[a,h.1,h.2,pJ]
  ·simp[a,pJ]
 ·rw[ai (λc=>h ⟨c.1,c.2.1⟩)];cases f:ny rs 1 (cZ ts k) with
  |none=>rfl
  |some m=>
   obtain⟨y,d,g,l⟩:=zY f;have o:m≠n:=by
    rintro rfl;rw[b] at d;obtain rfl:=tu d;exact h ⟨g,l⟩
   by_cases a:k+1<j<;>simp[a,pJ,o]
def Re {rs:List aD}(c:xW rs){x:aD}(a:rs[n]?=some x):pJ n (pI rs i j k)=if x.kind=4/\x.sym.toList=[] then[⟨n,i,k,k,j,2⟩] else[]:=by
 unfold pI
 by_cases h:x.kind=4/\x.sym.toList=[]
 ·rw[Ff c a h.1 h.2,ak h];simp[pJ]
 ·rw[ai h];cases d:ny rs 4 [] with
  |none=>rfl
  |some m=>
   obtain⟨y,b,e,f⟩:=zY d;have g:m≠n:=by
    rintro rfl;rw[a] at b;obtain rfl:=tu b;exact h ⟨e,f⟩
   simp[pJ,g]
def HV (a:k<ts.length)(s:List UInt8):ed ts k s=true↔s=cZ ts k:=by
 unfold ed cZ;rw[nJ a,rf,nJ a];show(ts[k].toList==s)=true↔s=ts[k].toList;rw[aT];exact eq_comm
def DT {rs:List aD}{x:aD}(a:rs[n]?=some x):lv rs n=if x.kind=2 then x.right else x.left:=by unfold lv;rw[a]
def HY {rs:List aD}{x:aD}(a:rs[n]?=some x):vz rs n=if x.kind=2 then 0 else x.right:=by unfold vz;rw[a]
def Le {rs:List aD}:xG rs ts i ⟨n,a,b,0,0,1⟩=kI n i (tZ rs ts a b (lv rs n)):=rfl
def Lf {rs:List aD}{c d:Nat}:xG rs ts i ⟨n,a,b,c,d,2⟩=kM n i (tZ rs ts a b (lv rs n)) (tZ rs ts c d (vz rs n)):=rfl
def Lg {rs:List aD}:(kI n i (tZ rs ts a b p)).take 2=(kI n i (dx rs (aX rs ts a b) p)).take 2:=by
 unfold tZ;rw[QY,qd,Nat.min_self]
def Ia {r:aD}(h:ni r=true):(r.kind=1\/r.kind=2\/r.kind=3\/(r.kind=4/\r.sym.toList=[])):=by
 unfold ni at h;simp only[aM] at h;obtain⟨_,_,_,_,h⟩:=h
 split at h
 ·exact .inl ‹_›
 ·split at h
  ·exact .inr (.inl ‹_›)
  ·split at h
   ·exact .inr (.inr (.inl ‹_›))
   ·rw[aM] at h;exact .inr (.inr (.inr ⟨bD h.1,lG.1 h.2⟩))
def Rf {a:Int}:kI r a []=[]:=rfl
def Rh {rs:List aD}(p:fZ rs=true)(v:i<j)(w:j<=ts.length)(s:n<rs.length):((pJ n (rU rs ts i j)).flatMap (xG rs ts i)).take 2=(nu rs ts (aX rs ts) i j n).take 2:=by
 obtain⟨x,c⟩:∃x,rs[n]?=some x:=⟨_,nJ s⟩
 have m:=QZ p;unfold rU;rw[DR,DR,Ld,Ra m c,Rb m c];have q:((List.range' (i+1) (j -(i+1))).flatMap λk=>pJ n (oF rs ts i j k))=(List.range' (i+1) (j -(i+1))).flatMap λk=>(if x.kind=1/\x.sym.toList=cZ ts k/\k+1<j then[(⟨n,i,k,k+1,j,2⟩:ja)] else[])++(if x.kind=4/\x.sym.toList=[] then[(⟨n,i,k,k,j,2⟩:ja)] else[]):=by
  refine zF λk _=>?_
  unfold oF;rw[DR,Rc m c,Re m c]
 rw[q];clear q;unfold nu;rw[c];dsimp only;rcases Ia (Fe p c) with d|d|d|⟨d,t⟩
 ·rw[ai (show ¬(x.kind=2/\x.sym.toList=cZ ts i/\i+1<j) from λa=>aV a.1 a.2.2),ai (show ¬(x.kind=3/\x.sym.toList=cZ ts (j -1)/\i+1<j) from λa=>aV a.1 a.2.2),ak d,iA,iA];have f:lv rs n=x.left:=by rw[DT c,ai aa]
  have o:vz rs n=x.right:=by rw[HY c,ai aa]
  rw[List.flatMap_assoc,<-CB 2 (λk=>if ed ts k x.sym.toList=true then kM n i (dx rs (aX rs ts i k) x.left) (dx rs (aX rs ts (k+1) j) x.right) else[])];have u:List.range' (i+1) (j -(i+1))=List.range' (i+1) (j -1 -(i+1))++(if i+1<j then[j -1] else[]):=by
   by_cases h:i+1<j
   ·rw[ak h,show j -(i+1)=(j -1 -(i+1))+1 from aa,List.range'_concat]
    congr 2
    omega
   ·rw[ai h,show j -(i+1)=0 from aa,show j -1 -(i+1)=0 from aa];rfl
  rw[u,fH];have l:((if i+1<j then[j -1] else[]).flatMap λk=>((if x.kind=1/\x.sym.toList=cZ ts k/\k+1<j then[(⟨n,i,k,k+1,j,2⟩:ja)] else[])++(if x.kind=4/\x.sym.toList=[] then[(⟨n,i,k,k,j,2⟩:ja)] else[])).flatMap (xG rs ts i))=[]:=by
   by_cases h:i+1<j
   ·rw[ak h];simp only[gT,tC,bX];rw[ai (show ¬(x.kind=1/\x.sym.toList=cZ ts (j -1)/\j -1+1<j) from λa=>aV a.1 a.2.2),ai (show ¬(x.kind=4/\x.sym.toList=[]) from aa)];rfl
   ·rw[ai h];rfl
  rw[l,bX,<-CB 2]
  congr 1
  refine zF λk r=>?_
  have y:=Cy r;have e:=HV (ts:=ts) (k:=k) aa x.sym.toList;rw[ai (show ¬(x.kind=4/\x.sym.toList=[]) from aa),bX]
  by_cases b:ed ts k x.sym.toList=true
  ·rw[ak (show x.kind=1/\x.sym.toList=cZ ts k/\k+1<j from⟨d,e.1 b,aa⟩),ak b,gT,tC,bX,Lf,f,o];exact KZ _ _ _ _
  ·rw[ai (show ¬(x.kind=1/\x.sym.toList=cZ ts k/\k+1<j) from λa=>b (e.2 a.2.1)),ai b];rfl
 ·rw[ai (show ¬(x.kind=3/\x.sym.toList=cZ ts (j -1)/\i+1<j) from λa=>aV a.1 a.2.2),ai (show ¬x.kind=1 from aa),ak d];have l:((List.range' (i+1) (j -(i+1))).flatMap λk=>(if x.kind=1/\x.sym.toList=cZ ts k/\k+1<j then[(⟨n,i,k,k+1,j,2⟩:ja)] else[])++(if x.kind=4/\x.sym.toList=[] then[(⟨n,i,k,k,j,2⟩:ja)] else[]))=[]:=by
   refine(zF (g:=λ_=>[]) λk _=>?_).trans (EZ _);rw[ai (show ¬(x.kind=1/\x.sym.toList=cZ ts k/\k+1<j) from λa=>aV a.1 a.2.2),ai (show ¬(x.kind=4/\x.sym.toList=[]) from aa)];rfl
  rw[l,bX,bX];have e:=HV (ts:=ts) (k:=i) aa x.sym.toList;have f:lv rs n=x.right:=by rw[DT c,ak d]
  by_cases b:ed ts i x.sym.toList=true
  ·rw[ak b]
   by_cases h:i+1<j
   ·rw[ak (show x.kind=2/\x.sym.toList=cZ ts i/\i+1<j from⟨d,e.1 b,h⟩),gT,tC,bX,Le,f];exact Lg
   ·rw[ai (show ¬(x.kind=2/\x.sym.toList=cZ ts i/\i+1<j) from λa=>h a.2.2),Cz aa];rfl
  ·rw[ai (show ¬(x.kind=2/\x.sym.toList=cZ ts i/\i+1<j) from λa=>b (e.2 a.2.1)),ai b];rfl
 ·rw[ai (show ¬(x.kind=2/\x.sym.toList=cZ ts i/\i+1<j) from λa=>aV a.1 a.2.2),ai (show ¬x.kind=1 from aa),ai (show ¬x.kind=2 from aa),ak d];have l:((List.range' (i+1) (j -(i+1))).flatMap λk=>(if x.kind=1/\x.sym.toList=cZ ts k/\k+1<j then[(⟨n,i,k,k+1,j,2⟩:ja)] else[])++(if x.kind=4/\x.sym.toList=[] then[(⟨n,i,k,k,j,2⟩:ja)] else[]))=[]:=by
   refine(zF (g:=λ_=>[]) λk _=>?_).trans (EZ _);rw[ai (show ¬(x.kind=1/\x.sym.toList=cZ ts k/\k+1<j) from λa=>aV a.1 a.2.2),ai (show ¬(x.kind=4/\x.sym.toList=[]) from aa)];rfl
  rw[l,bX,iA];have e:=HV (ts:=ts) (k:=j -1) aa x.sym.toList;have f:lv rs n=x.left:=by rw[DT c,ai aa]
  by_cases b:ed ts (j -1) x.sym.toList=true
  ·rw[ak b]
   by_cases h:i+1<j
   ·rw[ak (show x.kind=3/\x.sym.toList=cZ ts (j -1)/\i+1<j from⟨d,e.1 b,h⟩),gT,tC,bX,Le,f];exact Lg
   ·rw[ai (show ¬(x.kind=3/\x.sym.toList=cZ ts (j -1)/\i+1<j) from λa=>h a.2.2),Cz aa];rfl
  ·rw[ai (show ¬(x.kind=3/\x.sym.toList=cZ ts (j -1)/\i+1<j) from λa=>b (e.2 a.2.1)),ai b];rfl
 ·rw[ai (show ¬(x.kind=2/\x.sym.toList=cZ ts i/\i+1<j) from λa=>aV a.1 a.2.2),ai (show ¬(x.kind=3/\x.sym.toList=cZ ts (j -1)/\i+1<j) from λa=>aV a.1 a.2.2),ai (show ¬x.kind=1 from aa),ai (show ¬x.kind=2 from aa),ai (show ¬x.kind=3 from aa),ak d,iA,iA];have f:lv rs n=x.left:=by rw[DT c,ai aa]
  have o:vz rs n=x.right:=by rw[HY c,ai aa]
  rw[List.flatMap_assoc,<-CB 2 (λk=>kM n i (dx rs (aX rs ts i k) x.left) (dx rs (aX rs ts k j) x.right)),<-CB 2]
  congr 1
  refine zF λk r=>?_
  rw[ai (show ¬(x.kind=1/\x.sym.toList=cZ ts k/\k+1<j) from λa=>aV a.1 a.2.2),ak ⟨d,t⟩,iA,gT,tC,bX,Lf,f,o];exact KZ _ _ _ _
def kN (rs:List aD)(ts:List ByteArray)(i n:Nat)(l:List ja):List Rd:=((pJ n l).flatMap (xG rs ts i)).take 2
def Fg {rs:List aD}{l:List ja}:(kN rs ts i n l).length<=2:=by unfold kN;rw[eU];omega
def Lh {rs:List aD}{l:List ja}{a:ja}:kN rs ts i n (l++[a])=if a.rule=n then(kN rs ts i n l++xG rs ts i a).take 2 else kN rs ts i n l:=by
 unfold kN;rw[DR]
 by_cases h:a.rule=n
 ·rw[ak h,fH,QX,show pJ n [a]=[a] by simp[pJ,h]];simp
 ·rw[ai h,show pJ n [a]=[] by simp[pJ,h],bX]
def Ri {rs:List aD}{l:List ja}{m:List Rd}(h:¬(kN rs ts i n l).length<2):(kN rs ts i n l++m).take 2=kN rs ts i n l:=by
 have:=Fg (rs:=rs) (ts:=ts) (i:=i) (n:=n) (l:=l);rw[nH,show 2 -(kN rs ts i n l).length=0 from aa,eZ,bX,fA this]
def Rj {rs:List aD}(a:fZ rs=true)(b:i<j)(c:j<=ts.length):vS rs ts i j=qB ts i j++(List.range rs.length).flatMap λn=>kN rs ts i n (rU rs ts i j):=by
 unfold vS kN
 congr 1
 exact zF λn d=>(Rh a b c (eu.1 d)).symm
def lW {rs:List aD}{l:List Rd}{x:Rd}:x∈dx rs l p↔x∈l/\p<=qA rs x.rule:=by
 unfold dx;rw[List.mem_filter,rq]
def Fh {a:Int}{l m:List Rd}{x:Rd}:x∈kM r a l m↔∃y z,y∈l/\z∈m/\x= .mk r a [y,z]:=by
 unfold kM;rw[oo];constructor
 ·rintro⟨y,b,h⟩;obtain⟨z,c,rfl⟩:=nM.1 h;exact⟨y,z,b,c,rfl⟩
 ·rintro⟨y,z,b,c,rfl⟩;exact⟨y,b,nM.2 ⟨z,c,rfl⟩⟩
def Fj {a:Int}{l:List Rd}{x:Rd}:x∈kI r a l↔∃y,y∈l/\x= .mk r a [y]:=by
 unfold kI;rw[nM];exact⟨λ⟨y,h,e⟩=>⟨y,h,e.symm⟩,λ⟨y,h,e⟩=>⟨y,h,e.symm⟩⟩
def Fp (rs:List aD)(ts:List ByteArray)(i j n:Nat)(u:aD)(x:Rd):Prop:=
 (u.kind=1/\∃k y z,i<k/\k+1<j/\ed ts k u.sym.toList=true/\y∈dx rs (aX rs ts i k) u.left/\z∈dx rs (aX rs ts (k+1) j) u.right/\x= .mk n i [y,z])\/
 (u.kind=2/\∃y,ed ts i u.sym.toList=true/\y∈dx rs (aX rs ts (i+1) j) u.right/\x= .mk n i [y])\/
 (u.kind=3/\∃y,ed ts (j -1) u.sym.toList=true/\y∈dx rs (aX rs ts i (j -1)) u.left/\x= .mk n i [y])\/
 (u.kind=4/\∃k y z,i<k/\k<j/\y∈dx rs (aX rs ts i k) u.left/\z∈dx rs (aX rs ts k j) u.right/\x= .mk n i [y,z])
def Li {rs:List aD}{u:aD}(m:rs[n]?=some u){x:Rd}:x∈nu rs ts (aX rs ts) i j n↔Fp rs ts i j n u x:=by
 unfold nu Fp;rw[m];dsimp only
 by_cases g:u.kind=1
 ·rw[ak g,oo];constructor
  ·rintro⟨k,l,h⟩;have:=Cy l
   split at h
   ·obtain⟨y,z,a,d,rfl⟩:=Fh.1 h;exact .inl ⟨g,k,y,z,aa,aa,‹_›,a,d,rfl⟩
   ·cases h
  ·rintro(⟨_,k,y,z,e,c,b,a,d,rfl⟩|⟨e,_⟩|⟨e,_⟩|⟨e,_⟩)
   ·refine⟨k,zX.2 ⟨aa,aa⟩,?_⟩;rw[ak b];exact Fh.2 ⟨y,z,a,d,rfl⟩
   ·omega
   ·omega
   ·omega
 ·rw[ai g]
  by_cases e:u.kind=2
  ·rw[ak e];constructor
   ·intro h
    split at h
    ·obtain⟨y,a,rfl⟩:=Fj.1 h;exact .inr (.inl ⟨e,y,‹_›,a,rfl⟩)
    ·cases h
   ·rintro(⟨c,_⟩|⟨_,y,c,a,rfl⟩|⟨c,_⟩|⟨c,_⟩)
    ·omega
    ·rw[ak c];exact Fj.2 ⟨y,a,rfl⟩
    ·omega
    ·omega
  ·rw[ai e]
   by_cases c:u.kind=3
   ·rw[ak c];constructor
    ·intro h
     split at h
     ·obtain⟨y,a,rfl⟩:=Fj.1 h;exact .inr (.inr (.inl ⟨c,y,‹_›,a,rfl⟩))
     ·cases h
    ·rintro(⟨b,_⟩|⟨b,_⟩|⟨_,y,b,a,rfl⟩|⟨b,_⟩)
     ·omega
     ·omega
     ·rw[ak b];exact Fj.2 ⟨y,a,rfl⟩
     ·omega
   ·rw[ai c]
    by_cases b:u.kind=4
    ·rw[ak b,oo];constructor
     ·rintro⟨k,l,h⟩;have:=Cy l;obtain⟨y,z,a,d,rfl⟩:=Fh.1 h;exact .inr (.inr (.inr ⟨b,k,y,z,aa,aa,a,d,rfl⟩))
     ·rintro(⟨f,_⟩|⟨f,_⟩|⟨f,_⟩|⟨_,k,y,z,f,o,a,d,rfl⟩)
      ·omega
      ·omega
      ·omega
      ·exact⟨k,zX.2 ⟨aa,aa⟩,Fh.2 ⟨y,z,a,d,rfl⟩⟩
    ·rw[ai b];constructor
     ·intro h;cases h
     ·rintro(⟨f,_⟩|⟨f,_⟩|⟨f,_⟩|⟨f,_⟩)<;>omega
def AX {rs:List aD}(b:i<j){x:Rd}:x∈aX rs ts i j↔(j=i+1/\ed ts i oD=true/\x= .mk (-1) i [])\/∃n u,rs[n]?=some u/\Fp rs ts i j n u x:=by
 rw[Fa b];unfold AV qB;rw[iZ,oo];constructor
 ·rintro(h|⟨n,c,h⟩)
  ·split at h
   ·exact .inl ⟨(‹_/\_›).1,(‹_/\_›).2,by simpa using h⟩
   ·cases h
  ·obtain⟨u,a⟩:∃u,rs[n]?=some u:=⟨_,nJ (eu.1 c)⟩
   exact .inr ⟨n,u,a,(Li a).1 h⟩
 ·rintro(⟨d,e,rfl⟩|⟨n,u,a,h⟩)
  ·left
   rw[ak ⟨d,e⟩];simp
  ·right
   exact⟨n,eu.2 (bP.1 a).1,(Li a).2 h⟩
def sD {rs:List aD}{x:Rd}(h:x∈aX rs ts i j):i<j:=by
 rcases bu i j with a|a
 ·exact a
 ·rw[Cz a] at h;cases h
def Ib {rs:List aD}{u:aD}{x:Rd}(h:Fp rs ts i j n u x):x.at_=i/\x.rule=n:=by
 rcases h with⟨_,k,y,z,_,_,_,_,_,rfl⟩|⟨_,y,_,_,rfl⟩|⟨_,y,_,_,rfl⟩|⟨_,k,y,z,_,_,_,_,rfl⟩
 all_goals exact⟨rfl,rfl⟩
def Rk {rs:List aD}{x:Rd}(h:x∈aX rs ts i j):x.at_=i:=by
 rcases(AX (sD h)).1 h with⟨_,_,rfl⟩|⟨n,u,_,h⟩
 ·rfl
 ·exact(Ib h).1
def xH {rs:List aD}{x:Rd}(h:x∈dx rs (aX rs ts i j) p):x.at_=i/\i<j:=⟨Rk (lW.1 h).1,sD (lW.1 h).1⟩
def Rl {rs:List aD}(c:fZ rs=true){x:Rd}(h:x∈aX rs ts i j):0<=qA rs x.rule/\qA rs x.rule<=101:=by
 rcases(AX (sD h)).1 h with⟨_,_,rfl⟩|⟨n,u,a,h⟩
 ·show 0<=qA rs (-1)/\qA rs (-1)<=101;unfold qA;rw[ak aa];omega
 ·rw[(Ib h).2,Fb a];have b:=Fe c a;unfold ni at b;simp only[aM,pG,eF] at b;omega
end Ch
section
def index_one (c:UInt8):∀{a b:List UInt8},c∉a->Lib.index (a++c::b) [c]=(a.length:Int)
 |[],b,_=>by simp[Lib.index,List.isPrefixOf]
 |x::a,b,h=>by
  rw[dD,not_or] at h;rw[iB,Lib.index,index_one c h.2];have d:([c]:List UInt8).isPrefixOf (x::(a++c::b))=false:=by simp[List.isPrefixOf,h.1]
  rw[d];have:((a.length:Int)== -1)=false:=wF
  simp[this]
def Lj (c:UInt8):∀{a:List UInt8},c∉a->Lib.index a [c]= -1
 |[],_=>by simp[Lib.index]
 |x::a,h=>by
  rw[dD,not_or] at h;rw[Lib.index,Lj c h.2];have b:([c]:List UInt8).isPrefixOf (x::a)=false:=by simp[List.isPrefixOf,h.1]
  rw[b];simp
def Ll (c:UInt8){a b:List UInt8}(h:c∉a):Lib.cut (a++c::b) [c]=(a,b,true):=by
 unfold Lib.cut;rw[index_one c h,ak aa];simp
def Lm (c:UInt8){a:List UInt8}(h:c∉a):Lib.cut a [c]=(a,[],false):=by
 unfold Lib.cut;rw[Lj c h,ai aa]
def Lp (c:UInt8)(l:List UInt8):c∉l\/∃a b,l=a++c::b/\c∉a:=by
 induction l with
 |nil=>exact .inl aS
 |cons x r e=>
  by_cases d:x=c
  ·subst d;exact .inr ⟨[],r,rfl,aS⟩
  ·rcases e with h|⟨a,b,rfl,h⟩
   ·exact .inl (by simp[h,ou d])
   ·exact .inr ⟨x::a,b,rfl,by simp[h,ou d]⟩
def jy (l:List UInt8):ByteArray:=⟨l.toArray⟩
def Lr (l:List UInt8):(jy l).data.toList=l:=by simp[jy]
def Rm (b:ByteArray):jy b.data.toList=b:=by simp[jy]
end
namespace At
inductive aG where
 |mk (kind:Int) (text:ByteArray) (cols:Int) (kids:List aG)
def aG.kind:aG->Int
 | .mk k _ _ _=>k
def aG.text:aG->ByteArray
 | .mk _ s _ _=>s
def aG.cols:aG->Int
 | .mk _ _ c _=>c
def aG.kids:aG->List aG
 | .mk _ _ _ ks=>ks
mutual
def dK:aG->Nat
 | .mk _ _ _ ks=>bK ks+1
def bK:List aG->Nat
 |[]=>0
 |t::ts=>dK t+bK ts
end
mutual
def wO:aG->Nat
 | .mk _ _ _ ks=>vU ks+1
def vU:List aG->Nat
 |[]=>0
 |t::ts=>max (wO t) (vU ts)
end
def qi (c:UInt8):Bool:=decide (48<=c.toNat)&&decide (c.toNat<=57)
def yB (l:List UInt8):Bool:=l.all qi&& !l.isEmpty
def oG (l:List UInt8):Bool:=decide (l.length<=20)&&(yB (Lib.cut l [46]).1&&(!(Lib.cut l [46]).2.2||yB (Lib.cut l [46]).2.1))
def vB (l:List UInt8):Bool:=l.all (λc=>c==46||qi c)&&(decide (l.head?≠some 46)&&(decide (l.getLast?≠some 46)&&(decide (0<l.length)&&(decide (l.length<=20)&&decide (l.count 46<=1)))))
def Ic (c:UInt8)(h:qi c=true):c≠46:=by
 rintro rfl;revert h;decide
def Ie {l:List UInt8}(h:l.all qi=true):l.count 46=0:=by
 rw[xz];intro a;exact Ic 46 (cz.1 h 46 a) rfl
def DU {l:List UInt8}(h:(46:UInt8)∉l):l.all (λc=>c==46||qi c)=l.all qi:=by
 induction l with
 |nil=>rfl
 |cons a r b=>
  simp only[dD,not_or] at h;rw[tF,tF,b h.2]
  congr 1
  rw[aZ.2 (λe=>h.1 e.symm),ow]
def Ls (l:List UInt8):vB l=oG l:=by
 unfold vB oG;rcases Lp 46 l with h|⟨a,b,rfl,h⟩
 ·rw[Lm 46 h,DU h];have c:l.count 46=0:=xz.2 h;have d:l.head?≠some 46:=λe=>h (List.mem_of_head? e)
  have f:l.getLast?≠some 46:=λe=>h (List.mem_of_getLast? e)
  rw[c,aJ d,aJ f];unfold yB;cases l with
  |nil=>simp
  |cons x r=>simp[Bool.and_comm]
 ·rw[Ll 46 h];simp only[Bool.not_true,ow];rw[fI];simp only[aM,eF,yB,nI,uX];constructor
  ·rintro⟨c,d,f,g,j,m⟩;rw[List.all_append,tF,aM,DU h] at c;have n:(b.count 46)=0:=by
    rw[List.count_append,List.count_cons_self] at m;omega
   have i:(46:UInt8)∉b:=xz.1 n;rw[DU i] at c;simp only[aM] at c;refine⟨j,⟨c.1,λe=>?_⟩,c.2.2,λe=>?_⟩
   ·subst e;simp at d
   ·subst e;simp at f
  ·rintro⟨c,⟨d,f⟩,g,j⟩;have i:(46:UInt8)∉b:=xz.1 (Ie g);refine⟨?_,?_,?_,by simp;omega,c,?_⟩
   ·rw[List.all_append,tF,DU h,DU i,d,g];rfl
   ·intro e;cases a with
    |nil=>exact f rfl
    |cons x r=>
     simp at e;subst e;simp at h
   ·intro e;rw[List.getLast?_append] at e;cases b with
    |nil=>exact j rfl
    |cons x r=>
     rw[List.getLast?_cons_cons] at e;have o:(x::r).getLast?=some 46:=by
      cases k:(x::r).getLast? with
      |none=>simp at k
      |some y=>rw[k] at e;simpa using e
     exact i (List.mem_of_getLast? o)
   ·rw[List.count_append,List.count_cons_self,Ie d,Ie g];omega
def zG (l:List UInt8):Bool:=l.all λc=>decide (32<=c.toNat)&&decide (c.toNat<=126)
def AY:List UInt8:=[40,41,91,93,123,125,124,60,62,47,46]
def Bu (l:List UInt8):Bool:=match l with
 |[a,b]=>lI AY a&&lI AY b
 |_=>false
def qD (k:Int)(l:List UInt8):Bool:=
 if k=2 then fV l else if k=3 then oG l else if k=4 then decide (l.length<=200)&&zG l else if k=10 then kV rT l else if k=11 then Bu l else l.isEmpty
def lJ (k c:Int)(n:Nat):Bool:=
 if k=12 then decide (1<=c/\c<=16)&&(decide (1<=n/\n<=256)&&decide ((n:Int)%c=0))
 else decide (c=0)&&(if k=1 then decide (n<=200) else if k=2\/k=3\/k=4 then decide (n=0) else if k=5\/k=6\/k=7\/k=8 then decide (n=2) else if k=9 then decide (n=3) else if k=10\/k=11 then decide (n=1) else false)
def kz (k:Int)(s:List UInt8)(c:Int)(n:Nat):Bool:=qD k s&&lJ k c n
def sF (k j:Int):Bool:=(decide (k=1))==(decide (j=1))
mutual
def fJ:aG->Bool
 | .mk k s c ks=>kz k s.data.toList c ks.length&&nz k ks
def nz (k:Int):List aG->Bool
 |[]=>true
 |t::ts=> !sF k t.kind&&(fJ t&&nz k ts)
end
def yC (t:aG):Bool:=decide (t.kind=1)&&(fJ t&&(decide (dK t<=1000)&&decide (wO t<=24)))
mutual
def jJ:aG->Nat->Nat->Bool×Nat
 | .mk k s c ks,d,n=>if 1000<n+1\/24<d\/kz k s.data.toList c ks.length=false then(false,n+1) else iJ k ks (d+1) (n+1)
def iJ (k:Int):List aG->Nat->Nat->Bool×Nat
 |[],_,n=>(true,n)
 |t::ts,d,n=>if sF k t.kind then(false,n) else if(jJ t d n).1 then iJ k ts d (jJ t d n).2 else(false,(jJ t d n).2)
end
mutual
def Ig:∀(t:aG) (d n:Nat),n<=1000->((jJ t d n).1=true↔fJ t=true/\d+wO t<=25/\n+dK t<=1000)/\((jJ t d n).1=true->(jJ t d n).2=n+dK t)
 | .mk k s c ks,d,n,hn=>by
  unfold jJ fJ wO dK
  by_cases h:1000<n+1\/24<d\/kz k s.data.toList c ks.length=false
  ·rw[ak h];refine⟨⟨λe=>by simp at e,λ⟨h1,h2,h3⟩=>?_⟩,λe=>by simp at e⟩;rw[aM] at h1;rcases h with h|h|h
   ·omega
   ·omega
   ·rw[h] at h1;simp at h1
  ·rw[ai h];simp only[not_or,Bool.not_eq_false] at h;obtain⟨g1,g2,g3⟩:=h;obtain⟨i1,i2⟩:=Lt k ks (d+1) (n+1) aa aa;rw[g3,aW];refine⟨i1.trans ⟨λ⟨a,b,c⟩=>⟨a,aa,aa⟩,λ⟨a,b,c⟩=>⟨a,aa,aa⟩⟩,λe=>?_⟩;rw[i2 e];omega
def Lt:∀(k:Int) (ts:List aG) (d n:Nat),n<=1000->d<=25->((iJ k ts d n).1=true↔nz k ts=true/\d+vU ts<=25/\n+bK ts<=1000)/\((iJ k ts d n).1=true->(iJ k ts d n).2=n+bK ts)
 |k,[],d,n,hn,hd=>by
  unfold iJ nz vU bK;simp;omega
 |k,t::ts,d,n,hn,hd=>by
  unfold iJ nz vU bK;cases hb:sF k t.kind
  ·obtain⟨a1,a2⟩:=Ig t d n hn;rw[ai aS];cases hc:(jJ t d n).1
   ·rw[ai aS];rw[hc] at a1;refine⟨⟨λe=>by simp at e,λ⟨h1,h2,h3⟩=>?_⟩,λe=>by simp at e⟩;simp only[ry,aW,aM] at h1;have:=a1.2 ⟨h1.1,aa,aa⟩;cases this
   ·rw[ak rfl];obtain⟨f1,f2,f3⟩:=a1.1 hc;have e2:=a2 hc;rw[e2];obtain⟨b1,b2⟩:=Lt k ts d (n+dK t) f3 hd;simp only[ry,aW,f1];refine⟨b1.trans ⟨λ⟨p,q,r⟩=>⟨p,aa,aa⟩,λ⟨p,q,r⟩=>⟨p,aa,aa⟩⟩,λe=>?_⟩;rw[b2 e];omega
  ·rw[ak rfl];simp
end
def Ro (t:aG):yC t=(decide (t.kind=1)&&(jJ t 1 0).1):=by
 unfold yC
 congr 1
 rw[fI];have:=(Ig t 1 0 aa).1;rw[this];simp only[aM,eF];constructor
 ·rintro⟨a,b,c⟩;exact⟨a,aa,aa⟩
 ·rintro⟨a,b,c⟩;exact⟨a,aa,aa⟩
abbrev _root_.Go.Proofs.YtlefbenkhgbifaaGreatDoor.qC (x:aG)(A:Option Addr)(c:Nat):Array Value:= #[qI x.kind,af x.text,qI x.cols,.slice A x.kids.length c]
abbrev _root_.Go.Proofs.YtlefbenkhgbifaaGreatDoor.qO (x:aG)(A:Option Addr)(c:Nat):Obj:=.cells #[qI x.kind,af x.text,qI x.cols,.slice A x.kids.length c] 31
end At
section
open Go.RowKit
def sj {α:Type _}{a b:α}(h:some a=some b):a=b:=tu h
def gE {α:Type _}{l:List α}{i:Nat}(h:i<l.length):l[i]?=some l[i]:=nJ h
def jt {w x y:World}(h:Hy (Below w.heap.size w x))(a:Below x.heap.size x y):Hy (Below w.heap.size w y):=zh (h.o.trans (a.mono h.o.size))
def aU {a b:Bool}(h:a=b):Ending.returned (.bool a)= .returned (.bool b):=by rw[h]
def Lu (c:UInt8):bU c=(decide (97<=bits .or .u8 (c.toNat:Int) 32)&&decide (bits .or .u8 (c.toNat:Int) 32<=122)):=by
 have h:∀n:Nat,n<256->bU (UInt8.ofNat n)=(decide (97<=bits .or .u8 ((UInt8.ofNat n).toNat:Int) 32)&&decide (bits .or .u8 ((UInt8.ofNat n).toNat:Int) 32<=122)):=dW
 have:=h c.toNat c.toNat_lt
 rwa [UInt8.ofNat_toNat] at this
def yY {s:ByteArray}{p:UInt8->Bool}(h:∀(j:Nat) (a:j<s.size),p s[j]=true):s.toList.all p=true:=by
 rw[bz,cz];intro x b;obtain⟨j,a,rfl⟩:=List.mem_iff_getElem.1 b;exact h j (by simpa using a)
def vV {s:ByteArray}{p:UInt8->Bool}{k:Nat}(a:k<s.size)(h:p s[k]=false):s.toList.all p=false:=by
 rw[bz,uY];refine⟨s[k],?_,by simp[h]⟩;rw[Array.mem_toList_iff];exact xA (xs:=s.data) a
def Bv (s:ByteArray):s.toList.length=s.size:=by rw[bz,qh];rfl
def Ih (s:ByteArray)(w:World)(o:s.size<=9223372036854775807):Calls prog 83 #[af s] w λe w'=>e= .returned (.bool (tY s.toList))/\w=w':=by
 go_enter func83,ntmps83;go_wp2_with fail
 go_loop [3] (λi=>∃k:Nat,k<=s.size/\i=qI k/\Hy (∀(j:Nat) (c:j<s.size),j<k->bU s[j]=true)) (λi=>s.size -(intOf i).toNat)
 case atStart=>exact⟨0,aa,rfl,λj _ h=>aa⟩
 case round=>
  obtain⟨k,q,rfl,f⟩:=hrel
  by_cases l:k<s.size
  ·have a:=Lu s[k];cases b:bU s[k]
   ·have d:=zh (vV l b);rw[b] at a;have m:bits .or .u8 (s[k].toNat:Int) 32<97\/122<bits .or .u8 (s[k].toNat:Int) 32:=by simp at a;omega
    clear a b;rcases m with h|h
    ·go_wp2_with fail;go_ret;exact⟨aU d.o.symm,rfl⟩
    ·go_wp2_with fail;go_ret;exact⟨aU d.o.symm,rfl⟩
   ·rw[b] at a;have r:97<=bits .or .u8 (s[k].toNat:Int) 32:=by simp at a;omega
    have t:bits .or .u8 (s[k].toNat:Int) 32<=122:=by simp at a;omega
    have n:=zh b;clear a b;go_wp2_with fail;go_round
    case rel=>exact⟨k+1,aa,bi,λj c h=>by
     rcases bu j k with g|g
     ·exact f.o j c g
     ·obtain rfl:j=k:=by omega
      exact n.o⟩
    case measure=>simp[intOf];omega
  ·have d:=zh (yY (s:=s) (p:=bU) λj c=>f.o j c aa);go_wp2_with fail;go_ret;exact⟨aU d.o.symm,rfl⟩
def Rp (s:ByteArray)(w:World):Calls prog 85 #[af s] w λe w'=>e= .returned (.bool (kV vw s.toList))/\w=w':=by
 cases b:(s.toList==[102,114,97,99])
 ·cases c:(s.toList==[114,111,111,116])
  ·cases d:(s.toList==[109,97,116,114,105,120])
   ·cases f:(s.toList==[102,101,110,99,101])
    ·have a:Hy (kV vw s.toList=false):=by simp only[kV,vw,kg,b,c,d,f];rfl
     go_enter func85,ntmps85;go_wp2_with fail;go_ret;exact⟨aU a.o.symm,rfl⟩
    ·have a:Hy (kV vw s.toList=true):=by simp only[kV,vw,kg,b,c,d,f];rfl
     go_enter func85,ntmps85;go_wp2_with fail;go_ret;exact⟨aU a.o.symm,rfl⟩
   ·have a:Hy (kV vw s.toList=true):=by simp only[kV,vw,kg,b,c,d];rfl
    go_enter func85,ntmps85;go_wp2_with fail;go_ret;exact⟨aU a.o.symm,rfl⟩
  ·have a:Hy (kV vw s.toList=true):=by simp only[kV,vw,kg,b,c];rfl
   go_enter func85,ntmps85;go_wp2_with fail;go_ret;exact⟨aU a.o.symm,rfl⟩
 ·have a:Hy (kV vw s.toList=true):=by simp only[kV,vw,kg,b];rfl
  go_enter func85,ntmps85;go_wp2_with fail;go_ret;exact⟨aU a.o.symm,rfl⟩
def Lv (s:ByteArray)(w:World):Calls prog 86 #[af s] w λe w'=>e= .returned (.bool (kV rT s.toList))/\w=w':=by
 cases b:(s.toList==[104,97,116])
 ·cases c:(s.toList==[98,97,114])
  ·cases d:(s.toList==[118,101,99])
   ·cases f:(s.toList==[100,111,116])
    ·cases g:(s.toList==[116,105,108,100,101])
     ·cases h:(s.toList==[99,104,101,99,107])
      ·have a:Hy (kV rT s.toList=false):=by simp only[kV,rT,kg,b,c,d,f,g,h];rfl
       go_enter func86,ntmps86;go_wp2_with fail;go_ret;exact⟨aU a.o.symm,rfl⟩
      ·have a:Hy (kV rT s.toList=true):=by simp only[kV,rT,kg,b,c,d,f,g,h];rfl
       go_enter func86,ntmps86;go_wp2_with fail;go_ret;exact⟨aU a.o.symm,rfl⟩
     ·have a:Hy (kV rT s.toList=true):=by simp only[kV,rT,kg,b,c,d,f,g];rfl
      go_enter func86,ntmps86;go_wp2_with fail;go_ret;exact⟨aU a.o.symm,rfl⟩
    ·have a:Hy (kV rT s.toList=true):=by simp only[kV,rT,kg,b,c,d,f];rfl
     go_enter func86,ntmps86;go_wp2_with fail;go_ret;exact⟨aU a.o.symm,rfl⟩
   ·have a:Hy (kV rT s.toList=true):=by simp only[kV,rT,kg,b,c,d];rfl
    go_enter func86,ntmps86;go_wp2_with fail;go_ret;exact⟨aU a.o.symm,rfl⟩
  ·have a:Hy (kV rT s.toList=true):=by simp only[kV,rT,kg,b,c];rfl
   go_enter func86,ntmps86;go_wp2_with fail;go_ret;exact⟨aU a.o.symm,rfl⟩
 ·have a:Hy (kV rT s.toList=true):=by simp only[kV,rT,kg,b];rfl
  go_enter func86,ntmps86;go_wp2_with fail;go_ret;exact⟨aU a.o.symm,rfl⟩
def Ii (n a b:Int)(w:World):Calls prog 58 #[qI n,qI a,qI b] w λe w'=>e= .returned (.bool (pG n a b))/\w=w':=by
 by_cases d:a<=n
 ·by_cases f:n<=b
  ·have c:=ah (pG n a b=true) (by unfold pG;rw[aJ d,aJ f];rfl);go_enter func58,ntmps58;go_wp2_with fail;go_ret;exact⟨aU (by first|exact c.o.symm|(rw[c.o];simp;omega)),rfl⟩
  ·have c:=ah (pG n a b=false) (by unfold pG;rw[aK f,bF]);go_enter func58,ntmps58;go_wp2_with fail;go_ret;exact⟨aU (by first|exact c.o.symm|(rw[c.o];simp;omega)),rfl⟩
 ·have c:=ah (pG n a b=false) (by unfold pG;rw[aK d];rfl);go_enter func58,ntmps58;go_wp2_with fail;go_ret;exact⟨aU (by first|exact c.o.symm|(rw[c.o];simp;omega)),rfl⟩
def Ij (n a b:Int)(w:World):Calls prog 74 #[qI n,qI a,qI b] w λe w'=>e= .returned (.bool (pG n a b))/\w=w':=by
 by_cases d:a<=n
 ·by_cases f:n<=b
  ·have c:=ah (pG n a b=true) (by unfold pG;rw[aJ d,aJ f];rfl);go_enter func74,ntmps74;go_wp2_with fail;go_ret;exact⟨aU (by first|exact c.o.symm|(rw[c.o];simp;omega)),rfl⟩
  ·have c:=ah (pG n a b=false) (by unfold pG;rw[aK f,bF]);go_enter func74,ntmps74;go_wp2_with fail;go_ret;exact⟨aU (by first|exact c.o.symm|(rw[c.o];simp;omega)),rfl⟩
 ·have c:=ah (pG n a b=false) (by unfold pG;rw[aK d];rfl);go_enter func74,ntmps74;go_wp2_with fail;go_ret;exact⟨aU (by first|exact c.o.symm|(rw[c.o];simp;omega)),rfl⟩
def Rq (s:ByteArray)(w:World)(u:s.size<=9223372036854775807):Calls prog 57 #[af s] w λe w'=>e= .returned (.bool (ky s.toList))/\w=w':=by
 go_enter func57,ntmps57;go_wp2_with fail
 go_loop [3] (λi=>∃k:Nat,k<=s.size/\i=qI k/\Hy (∀(j:Nat) (d:j<s.size),j<k->bU s[j]=true)) (λi=>s.size -(intOf i).toNat)
 case atStart=>exact⟨0,aa,rfl,λj _ h=>aa⟩
 case round=>
  obtain⟨k,v,rfl,n⟩:=hrel
  by_cases q:k<s.size
  ·have b:=Lu s[k];cases c:bU s[k]
   ·have f:=zh (vV q c);rw[c] at b;have r:bits .or .u8 (s[k].toNat:Int) 32<97\/122<bits .or .u8 (s[k].toNat:Int) 32:=by simp at b;omega
    clear b c;rcases r with h|h
    ·go_wp2_with fail;go_ret;exact⟨aU (by unfold ky tY;rw[f.o];rfl),rfl⟩
    ·go_wp2_with fail;go_ret;exact⟨aU (by unfold ky tY;rw[f.o];rfl),rfl⟩
   ·rw[c] at b;have g:97<=bits .or .u8 (s[k].toNat:Int) 32:=by simp at b;omega
    have l:bits .or .u8 (s[k].toNat:Int) 32<=122:=by simp at b;omega
    have t:=zh c;clear b c;go_wp2_with fail;go_round
    case rel=>exact⟨k+1,aa,bi,λj d h=>by
     rcases bu j k with o|o
     ·exact n.o j d o
     ·obtain rfl:j=k:=by omega
      exact t.o⟩
    case measure=>simp[intOf];omega
  ·have f:=zh (yY (s:=s) (p:=bU) λj d=>n.o j d aa);have m:=zh (Bv s)
   by_cases g:1<=s.size
   ·by_cases l:s.size<=16
    ·have a:=ah (ky s.toList=true) (by unfold ky tY;rw[f.o,m.o,aJ g,aJ l];rfl);go_wp2_with fail;go_ret;exact⟨aU (by first|exact a.o.symm|(rw[a.o];simp;omega)),rfl⟩
    ·have a:=ah (ky s.toList=false) (by unfold ky;rw[m.o,aK l,bF,bF]);go_wp2_with fail;go_ret;exact⟨aU (by first|exact a.o.symm|(rw[a.o];simp;omega)),rfl⟩
   ·have a:=ah (ky s.toList=false) (by unfold ky;rw[m.o,aK g,bL,bF]);go_wp2_with fail;go_ret;exact⟨aU (by first|exact a.o.symm|(rw[a.o];simp;omega)),rfl⟩
def Ik (c:UInt8)(w:World):Calls prog 109 #[.int .u8 (c.toNat:Int)] w λe w'=>e= .returned (.bool (bU c))/\w=w':=by
 have h:=c.toNat_lt
 by_cases b:97<=c.toNat
 ·by_cases d:c.toNat<=122
  ·have a:=ah (bU c=true) (by unfold bU;rw[aJ b,aJ d];rfl);go_enter func109,ntmps109;go_wp2_with fail;go_ret;exact⟨aU (by first|exact a.o.symm|(rw[a.o];simp;omega)),rfl⟩
  ·have a:=ah (bU c=false) (by unfold bU;rw[aK d,bF,aK (show ¬c.toNat<=90 from aa),bF];rfl);go_enter func109,ntmps109;go_wp2_with fail;go_ret;exact⟨aU (by first|exact a.o.symm|(rw[a.o];simp;omega)),rfl⟩
 ·by_cases f:65<=c.toNat
  ·by_cases g:c.toNat<=90
   ·have a:=ah (bU c=true) (by unfold bU;rw[aJ f,aJ g,kT];exact .inr rfl);go_enter func109,ntmps109;go_wp2_with fail;go_ret;exact⟨aU (by first|exact a.o.symm|(rw[a.o];simp;omega)),rfl⟩
   ·have a:=ah (bU c=false) (by unfold bU;rw[aK b,aK g,bF];rfl);go_enter func109,ntmps109;go_wp2_with fail;go_ret;exact⟨aU (by first|exact a.o.symm|(rw[a.o];simp;omega)),rfl⟩
  ·have a:=ah (bU c=false) (by unfold bU;rw[aK b,aK f];rfl);go_enter func109,ntmps109;go_wp2_with fail;go_ret;exact⟨aU (by first|exact a.o.symm|(rw[a.o];simp;omega)),rfl⟩
def Rs (c:UInt8)(w:World)(e:Ending)(w':World):Prop:=∃n:Int,e= .returned (qI n)/\(bU c=true->0<=n)/\(bU c=false->n<0)/\w=w'
def Rt (c:UInt8)(w:World):Calls prog 107 #[.int .u8 (c.toNat:Int)] w (Rs c w):=by
 have g:=c.toNat_lt
 by_cases b:97<=c.toNat
 ·by_cases d:c.toNat<=122
  ·have a:=ah (bU c=true) (by unfold bU;rw[aJ b,aJ d];rfl);go_enter func107,ntmps107;go_wp2_with fail;go_ret;exact⟨_,rfl,(λ_=>aa),(λh=>absurd (h.symm.trans a.o) aI),rfl⟩
  ·have a:=ah (bU c=false) (by unfold bU;rw[aK d,bF,aK (show ¬c.toNat<=90 from aa),bF];rfl);go_enter func107,ntmps107;go_wp2_with fail;go_ret;exact⟨_,rfl,(λh=>absurd (h.symm.trans a.o) aI),(λ_=>aa),rfl⟩
 ·by_cases e:65<=c.toNat
  ·by_cases f:c.toNat<=90
   ·have a:=ah (bU c=true) (by unfold bU;rw[aJ e,aJ f,kT];exact .inr rfl);go_enter func107,ntmps107;go_wp2_with fail;go_ret;exact⟨_,rfl,(λ_=>aa),(λh=>absurd (h.symm.trans a.o) aI),rfl⟩
   ·have a:=ah (bU c=false) (by unfold bU;rw[aK b,aK f,bF];rfl);go_enter func107,ntmps107;go_wp2_with fail;go_ret;exact⟨_,rfl,(λh=>absurd (h.symm.trans a.o) aI),(λ_=>aa),rfl⟩
  ·have a:=ah (bU c=false) (by unfold bU;rw[aK b,aK e];rfl);go_enter func107,ntmps107;go_wp2_with fail;go_ret;exact⟨_,rfl,(λh=>absurd (h.symm.trans a.o) aI),(λ_=>aa),rfl⟩
def DV (s:ByteArray)(w:World)(x:s.size<=9223372036854775807):Calls prog 73 #[af s] w λe w'=>e= .returned (.bool (ky s.toList))/\w=w':=by
 go_enter func73,ntmps73;go_wp2_with fail
 go_loop [3] (λi=>∃k:Nat,k<=s.size/\i=qI k/\Hy (∀(j:Nat) (c:j<s.size),j<k->bU s[j]=true)) (λi=>s.size -(intOf i).toNat)
 case atStart=>exact⟨0,aa,rfl,λj _ h=>aa⟩
 case round=>
  obtain⟨k,y,rfl,m⟩:=hrel
  by_cases t:k<s.size
  ·go_wp2_with fail;refine(Rt s[k] _).mono ?_;rintro e w' ⟨n,rfl,d,f,rfl⟩;cases b:bU s[k]
   ·have g:=zh (vV t b);have u:=f b;clear d f b;go_wp2_with fail;go_ret;exact⟨aU (by unfold ky tY;rw[g.o];rfl),rfl⟩
   ·have u:=d b;have v:=zh b;clear d f b;go_wp2_with fail;go_round
    case rel=>exact⟨k+1,aa,bi,λj c h=>by
     rcases bu j k with o|o
     ·exact m.o j c o
     ·obtain rfl:j=k:=by omega
      exact v.o⟩
    case measure=>simp[intOf];omega
  ·have g:=zh (yY (s:=s) (p:=bU) λj c=>m.o j c aa);have l:=zh (Bv s)
   by_cases q:1<=s.size
   ·by_cases r:s.size<=16
    ·have a:=ah (ky s.toList=true) (by unfold ky tY;rw[g.o,l.o,aJ q,aJ r];rfl);go_wp2_with fail;go_ret;exact⟨aU (by first|exact a.o.symm|(rw[a.o];simp;omega)),rfl⟩
    ·have a:=ah (ky s.toList=false) (by unfold ky;rw[l.o,aK r,bF,bF]);go_wp2_with fail;go_ret;exact⟨aU (by first|exact a.o.symm|(rw[a.o];simp;omega)),rfl⟩
   ·have a:=ah (ky s.toList=false) (by unfold ky;rw[l.o,aK q,bL,bF]);go_wp2_with fail;go_ret;exact⟨aU (by first|exact a.o.symm|(rw[a.o];simp;omega)),rfl⟩
def Il (s:ByteArray)(c:UInt8)(w:World)(u:s.size<=9223372036854775807):Calls prog 142 #[af s,.int .u8 (c.toNat:Int)] w λe w'=>e= .returned (.bool (lI s.toList c))/\w=w':=by
 go_enter func142,ntmps142;go_wp2_with fail
 go_loop [5] (λi=>∃k:Nat,k<=s.size/\i=qI k/\Hy (∀(j:Nat) (b:j<s.size),j<k->(!(s[j]==c))=true)) (λi=>s.size -(intOf i).toNat)
 case atStart=>exact⟨0,aa,rfl,λj _ h=>aa⟩
 case round=>
  obtain⟨k,v,rfl,f⟩:=hrel
  by_cases l:k<s.size
  ·cases a:(s[k]==c)
   ·have m:((s[k].toNat:Int)==(c.toNat:Int))=false:=by
     rw[aZ] at a⊢;intro e;apply a;exact UInt8.toNat_inj.1 aa
    have n:=zh a;clear a;go_wp2_with fail;go_round
    case rel=>exact⟨k+1,aa,bi,λj b h=>by
     rcases bu j k with g|g
     ·exact f.o j b g
     ·obtain rfl:j=k:=by omega
      rw[n.o];rfl⟩
    case measure=>simp[intOf];omega
   ·have m:((s[k].toNat:Int)==(c.toNat:Int))=true:=by rw[aT] at a⊢;rw[a]
    have d:=zh (show lI s.toList c=true by
     unfold lI;have:=vV (p:=λx=> !(x==c)) l (by rw[a];rfl);rw[uY] at this;obtain⟨x,o,q⟩:=this;have e:x=c:=by simpa using q
     rw[<-e];simpa using o)
    clear a;go_wp2_with fail;go_ret;exact⟨aU d.o.symm,rfl⟩
  ·have d:=zh (show lI s.toList c=false by
    unfold lI;have:=yY (s:=s) (p:=λx=> !(x==c)) λj b=>f.o j b aa
    rw[cz] at this;rw[tH];intro r;have t:c∈s.toList:=by simpa using r
    have:=this c t;simp at this)
   go_wp2_with fail;go_ret;exact⟨aU d.o.symm,rfl⟩
def Ru:(⟨#[43,45,42,47,61,60,62,44,59,58,33,124,39,63,126,64]⟩:ByteArray).toList=yA:=by rw[bz];rfl
def Rv (c:UInt8)(w:World):Calls prog 108 #[.int .u8 (c.toNat:Int)] w λe w'=>e= .returned (.bool (bU c||lI yA c))/\w=w':=by
 have d:=zh (Il ⟨#[43,45,42,47,61,60,62,44,59,58,33,124,39,63,126,64]⟩ c);rw[Ru] at d;cases a:bU c
 ·have b:=zh a;clear a;go_enter func108,ntmps108;go_wp2_with fail;refine(Ik c _).mono ?_;rintro e w' ⟨rfl,rfl⟩;rw[b.o];go_wp2_with fail;refine(d.o _ aI).mono ?_;rintro e w' ⟨rfl,rfl⟩;go_wp2_with fail;go_ret;exact⟨aU (ow _).symm,rfl⟩
 ·have b:=zh a;clear a;go_enter func108,ntmps108;go_wp2_with fail;refine(Ik c _).mono ?_;rintro e w' ⟨rfl,rfl⟩;rw[b.o];go_wp2_with fail;go_ret;exact⟨aU (Bool.true_or _).symm,rfl⟩
end
end Go.Proofs.YtlefbenkhgbifaaGreatDoor
