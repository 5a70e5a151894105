/- Nodes in new memory: their cells lie in named blocks. -/
import Derived.Test.YtadcldfbmkfkaaaGreatDoorHd79c9701
import Derived.Lib.AtoiAll
namespace Go.Proofs.YtadcldfbmkfkaaaGreatDoor.Rn
open At Ch Sp Sy El
def rowT (l:List Tre):Tre:=.mk 1 ⟨#[]⟩ 0 l
def symT (s:ByteArray):Tre:=.mk 2 s 0 []
inductive FK where
 |frac|root|sub|sup|both|accent|jux
 |inf (e:Nat)|pre (e:Nat)|pos (e:Nat)|bind (e:Nat)
deriving DecidableEq
def zIr:List (List UInt8×FK):=
 [(zCy.data.toList,.frac),(zC8.data.toList,.root),(subS.data.toList,.sub),(supS.data.toList,.sup),(zCg.data.toList,.both),(accS.data.toList,.accent),(juxS.data.toList,.jux),
  (infS.data.toList,.inf 0),(preS.data.toList,.pre 0),(posS.data.toList,.pos 0),
  (infS.data.toList++subS.data.toList,.inf 7),(preS.data.toList++subS.data.toList,.pre 7),(posS.data.toList++subS.data.toList,.pos 7),
  (infS.data.toList++supS.data.toList,.inf 8),(preS.data.toList++supS.data.toList,.pre 8),(posS.data.toList++supS.data.toList,.pos 8),
  (infS.data.toList++zCg.data.toList,.inf 9),(preS.data.toList++zCg.data.toList,.pre 9),(posS.data.toList++zCg.data.toList,.pos 9),
  (zE8.data.toList++subS.data.toList,.bind 7),(zE8.data.toList++zCg.data.toList,.bind 9)]
def frmW (f:List UInt8):Option FK:=(zIr.find? fun p=>decide (p.1=f)).map (·.2)
def namW (rs:List Rul)(kind:Int)(nam:List UInt8):Option Nat:=rs.findIdx? fun r=>decide (r.kind=kind)&&decide (r.nam.data.toList=nam)
def scrN (e:Nat):Nat:=if e=0 then 0 else if e=9 then 2 else 1
def opW (rs:List Rul)(kind:Int)(nam:ByteArray)(e:Nat)(rows:List (List Tre))(n:Nat):Option (Tre×List (List Tre)):=
 match namW rs kind nam.data.toList with
 |none=>none
 |some i=>match rs[i]? with
  |none=>none
  |some u=>if rows.length=scrN e+n then some (if e=0 then symT u.sym else .mk e ⟨#[]⟩ 0 (rowT [symT u.sym]::(rows.take (scrN e)).map rowT),rows.drop (scrN e)) else none
def zBr (kind:Int)(text:ByteArray)(rows:List (List Tre))(n:Nat):Option (List Tre):=if rows.length=n then some [.mk kind text 0 (rows.map rowT)] else none
def eqlS:ByteArray:=⟨#[61]⟩
def zGc (v:ByteArray):Tre→Tre
 | .mk k t c (b::s::r)=>.mk k t c (b:: .mk s.kind s.text s.cols (symT v::symT eqlS::s.kids)::r)
 |n=>n
def fixW (rs:List Rul)(nam vr:ByteArray)(rows:List (List Tre)):FK→Option (List Tre)
 | .frac=>zBr 5 ⟨#[]⟩ rows 2
 | .root=>match rows with
  |[a]=>some [.mk 6 ⟨#[]⟩ 0 [rowT [],rowT a]]
  |[a,b]=>some [.mk 6 ⟨#[]⟩ 0 [rowT a,rowT b]]
  |_=>none
 | .sub=>zBr 7 ⟨#[]⟩ rows 2
 | .sup=>zBr 8 ⟨#[]⟩ rows 2
 | .both=>zBr 9 ⟨#[]⟩ rows 3
 | .accent=>zBr 10 nam rows 1
 | .jux=>match rows with
  |[a,b]=>some (a++b)
  |_=>none
 | .inf e=>match opW rs 1 nam e rows 2 with
  |some (o,[a,b])=>some (a++[o]++b)
  |_=>none
 | .pre e=>match opW rs 2 nam e rows 1 with
  |some (o,[a])=>some (o::a)
  |_=>none
 | .pos e=>match opW rs 3 nam e rows 1 with
  |some (o,[a])=>some (a++[o])
  |_=>none
 | .bind e=>match opW rs 2 nam e rows 1 with
  |some (o,[a])=>some (zGc vr o::a)
  |_=>none
def opnW (f:List UInt8)(rows:List (List Tre)):Option (List Tre):=
 if fenS.data.toList<+:f then zBr 11 ⟨(f.drop 5).toArray⟩ rows 1
 else if matS.data.toList<+:f then(match Lib.atoiAll (f.drop 6) with
  | .ok c=>some [.mk 12 ⟨#[]⟩ c (rows.map rowT)]
  |_=>none)
 else none
def zDj (rs:List Rul)(nam vr frm:ByteArray)(rows:Option (List (List Tre))):Option (List Tre):=rows.bind fun rows=>match frmW frm.data.toList with
 |some k=>fixW rs nam vr rows k
 |none=>opnW frm.data.toList rows
mutual
def zAk (rs:List Rul):Trm→Option (List Tre)
 | .mk k nam vr frm args=>if k=1 then some [.mk 3 nam 0 []] else if k=2 then some [symT nam] else if k=3 then some [.mk 4 nam 0 []] else zDj rs nam vr frm (zA4 rs args)
def zA4 (rs:List Rul):List Trm→Option (List (List Tre))
 |[]=>some []
 |m::ms=>(zAk rs m).bind fun l=>(zA4 rs ms).bind fun ls=>some (l::ls)
end
end Go.Proofs.YtadcldfbmkfkaaaGreatDoor.Rn
namespace Go.Proofs.YtadcldfbmkfkaaaGreatDoor.Rn
open At Ch Sp Sy El Go.RowKit
def zRg:Value→Nat
 | .pointer (some a)=>a.block
 |_=>0
def isP:Value→Bool
 | .pointer (some ⟨_,0,none⟩)=>true
 |_=>false
theorem zZh {u v:Value}(hu:isP u=true)(hv:isP v=true)(h:zRg u=zRg v):u=v:=by
 unfold isP at hu hv
 split at hu
 ·split at hv
  ·simp only[zRg] at h;rw[h]
  ·cases hv
 ·cases hu
def blkD (v:Value):DataW Unit:=.lit (.int .i64 (zRg v))
theorem zM0:∀{a b:List Value},a.all isP=true→b.all isP=true→a.map blkD=b.map blkD→a=b
 |[],[],_,_,_=>rfl
 |[],_::_,_,_,h=>by simp at h
 |_::_,[],_,_,h=>by simp at h
 |x::a,y::b,ha,hb,h=>by
  rw[List.all_cons,Bool.and_eq_true] at ha hb;rw[List.map_cons,List.map_cons,List.cons.injEq] at h;have h1:(zRg x:Int)=(zRg y:Int):=by
   have:=h.1;simp only[blkD,DataW.lit.injEq,Lit.int.injEq,true_and] at this;exact this
  rw[zZh ha.1 hb.1 (Int.ofNat.inj h1),zM0 ha.2 hb.2 h.2]
def fnD:Value→DataW Unit
 | .func (.func f) a b=>.agg [.lit (.int .i64 f),.agg (a.toList.map blkD),.agg (b.toList.map blkD)]
 |_=>.lit (.int .i64 0)
def fnOk:Value→Bool
 | .func (.func _) a b=>a.toList.all isP&&b.toList.all isP
 | .nilFunc=>true
 |_=>false
def fnE (v:Value):Option (DataW Unit×List MemPlace):=if fnOk v then some (fnD v,[]) else none
theorem zYf {u v:Value}{ps:List MemPlace}(hu:fnOk u=true)(h:fnE v=some (fnD u,ps)):v=u:=by
 unfold fnE at h
 split at h
 ·rename_i hv
  simp only[Option.some.injEq,Prod.mk.injEq] at h;have h:=h.1;unfold fnOk at hu hv
  split at hu
  ·split at hv
   ·simp only[fnD,DataW.agg.injEq,List.cons.injEq,DataW.lit.injEq,Lit.int.injEq,true_and,and_true] at h;rw[Bool.and_eq_true] at hu hv;obtain⟨h1,h2,h3⟩:=h;have e1:=Int.ofNat.inj h1;have e2:=Array.toList_inj.1 (zM0 hv.1 hu.1 h2);have e3:=Array.toList_inj.1 (zM0 hv.2 hu.2 h3);subst e1 e2 e3;rfl
   ·simp[fnD] at h
   ·cases hv
  ·split at hv
   ·simp[fnD] at h
   ·rfl
   ·cases hv
  ·cases hu
 ·cases h
theorem yBb (w:World):(zeroValue 150).run Tryz.prog w= .ok .nilFunc w:=by simp[Tryz.zeroValue150]
def endW:Nat→ByteArray
 |0=>⟨#[]⟩
 |1=>subS
 |2=>supS
 |_=>zCg
def endV:Nat→ByteArray
 |0=>subS
 |_=>zCg
def eJ:Nat→Nat
 |0=>0
 |7=>1
 |8=>2
 |_=>3
def bJ:Nat→Nat
 |7=>0
 |_=>1
structure WrB where
 gw:Nat
 bm:Nat
 gb:Nat
 ge:Nat→Nat
 gf:Nat→Nat
def fn1 (f g:Nat):Value:=.func (.func f) #[] #[.pointer (some ⟨g,0,none⟩)]
def fn2 (f g h:Nat):Value:=.func (.func f) #[] #[.pointer (some ⟨g,0,none⟩),.pointer (some ⟨h,0,none⟩)]
def fn3 (f g:Nat):Value:=.func (.func f) #[.pointer (some ⟨g,0,none⟩)] #[]
def fnV (W:WrB):FK→Value
 | .frac=>fn1 95 W.gb
 | .root=>fn3 97 W.gw
 | .sub=>fn1 98 W.gb
 | .sup=>fn1 99 W.gb
 | .both=>fn1 100 W.gb
 | .accent=>fn1 101 W.gb
 | .jux=>fn3 102 W.gw
 | .inf e=>fn2 103 W.gb (W.ge (eJ e))
 | .pre e=>fn2 105 W.gb (W.ge (eJ e))
 | .pos e=>fn2 107 W.gb (W.ge (eJ e))
 | .bind e=>fn2 109 W.gb (W.gf (bJ e))
theorem yAy (W:WrB)(k:FK):fnOk (fnV W k)=true:=by cases k<;>rfl
structure FmIs (D:DataW Unit)(L:List (List UInt8×Value)):Prop where
 has:∀x:List UInt8,Maps.has D (.string x)=decide (x∈L.map (·.1))
 at_:∀p∈L,D.atKey (.string p.1) (.lit (.int .i64 0))=fnD p.2
 none:∀x:List UInt8,x∉L.map (·.1)→D.atKey (.string x) (.lit (.int .i64 0))= .lit (.int .i64 0)
theorem FmIs.nil:FmIs (.map []) []:=⟨fun x=>by simp[Maps.has],(fun p h=>by cases h),fun x _=>by simp[DataW.atKey]⟩
theorem FmIs.put {D:DataW Unit}{L:List (List UInt8×Value)}(h:FmIs D L)(hD:Maps.IsMap D)(s:List UInt8)(v:Value)(hs:s∉L.map (·.1)):FmIs (D.put (.string s) (fnD v)) (L++[(s,v)]):=by
 have hne:∀x,x≠s→(Lit.string x)≠(Lit.string s):=fun x hx e=>hx (by simpa using e)
 refine⟨fun x=>?_,fun p hp=>?_,fun x hx=>?_⟩
 ·by_cases e:x=s
  ·subst e;rw[Maps.has_put_same hD (by trivial)];simp
  ·rw[Maps.has_put_other (hne x e),h.has x];simp[e]
 ·rcases List.mem_append.1 hp with hp|hp
  ·have e:p.1≠s:=fun e=>hs (by rw[←e];exact List.mem_map_of_mem hp)
   rw[Maps.atKey_put_other (hne _ e)];exact h.at_ p hp
  ·rw[List.mem_singleton.1 hp];exact Maps.atKey_put_same hD (by trivial) _ _
 ·rw[List.map_append,List.mem_append,not_or] at hx;rw[Maps.atKey_put_other (hne x (by simpa using hx.2))];exact h.none x hx.1
def MapF (w:World)(bm:Nat)(L:List (List UInt8×Value)):Prop:=∃(n:Nat) (D:DataW Unit),n≤L.length∧w.ownsMap Tryz.prog 9 fnE bm n D∧Maps.IsMap D∧FmIs D L
theorem MapF.kept {w w':World}{bm:Nat}{L:List (List UInt8×Value)}{row:Option Nat}(h:MapF w bm L)(hg:w.grownBy w' row)(hne:some bm≠row):MapF w' bm L:=by
 obtain⟨n,D,h1,h2,h3,h4⟩:=h;exact⟨n,D,h1,h2.kept hg hne,h3,h4⟩
theorem MapF.keep {w w':World}{bm:Nat}{L:List (List UInt8×Value)}(h:MapF w bm L)(hb:Below w.heap.size w w'):MapF w' bm L:=
 h.kept (row:=none) ⟨hb.os,hb.tape,hb.output,hb.size,fun i hi _=>hb.block i hi⟩ (by simp)
theorem MapF.zH2 {w:World}{bm:Nat}{L:List (List UInt8×Value)}(h:MapF w bm L){t:TypeId}{cs:Array Value}:¬Blk w bm t cs:=by
 obtain⟨n,D,_,⟨es,clock,hb,_⟩,_⟩:=h;unfold Blk;rw[hb];simp
theorem MapF.made (w:World):MapF (w.alloc (.map #[] 0)) w.heap.size []:=⟨0,.map [],Nat.le_refl _,World.ownsMap_made w _ _ _,⟨_,rfl⟩,FmIs.nil⟩
theorem zSh (s:ByteArray)(hs:s.size≤9223372036854775807):keyOf Tryz.prog 9 (.string s)=some (.string s.data.toList):=Go.WideMaps.keyOf_string_mk (P:=Tryz.prog) (k:=9) Tryz.underlying9 (s:=s) (by unfold maxLen;omega)
def fix7 (W:WrB):List (List UInt8×Value):=
 [(zCy.data.toList,fnV W .frac),(zC8.data.toList,fnV W .root),(subS.data.toList,fnV W .sub),(supS.data.toList,fnV W .sup),(zCg.data.toList,fnV W .both),(accS.data.toList,fnV W .accent),(juxS.data.toList,fnV W .jux)]
def ops3 (gb:Nat)(ge:Nat→Nat)(j:Nat):List (List UInt8×Value):=
 [((infS++endW j).data.toList,fn2 103 gb (ge j)),((preS++endW j).data.toList,fn2 105 gb (ge j)),((posS++endW j).data.toList,fn2 107 gb (ge j))]
def bnd1 (gb:Nat)(gf:Nat→Nat)(j:Nat):List (List UInt8×Value):=[((zE8++endV j).data.toList,fn2 109 gb (gf j))]
def opsL (gb:Nat)(ge:Nat→Nat)(k:Nat):List (List UInt8×Value):=(List.range k).flatMap (ops3 gb ge)
def bndL (gb:Nat)(gf:Nat→Nat)(k:Nat):List (List UInt8×Value):=(List.range k).flatMap (bnd1 gb gf)
def allF (W:WrB):List (List UInt8×Value):=fix7 W++opsL W.gb W.ge 4++bndL W.gb W.gf 2
theorem zT6 (gb:Nat)(ge:Nat→Nat)(k:Nat):opsL gb ge (k+1)=opsL gb ge k++ops3 gb ge k:=by unfold opsL;rw[List.range_succ,List.flatMap_append];simp
theorem zUx (gb:Nat)(gf:Nat→Nat)(k:Nat):bndL gb gf (k+1)=bndL gb gf k++bnd1 gb gf k:=by unfold bndL;rw[List.range_succ,List.flatMap_append];simp
theorem zWe (gb:Nat)(ge:Nat→Nat)(k v:Nat):opsL gb (fun j=>if j=k then v else ge j) k=opsL gb ge k:=by
 unfold opsL;rw[List.flatMap_def,List.flatMap_def];refine congrArg List.flatten (List.map_congr_left fun j hj=>?_);have:=List.mem_range.1 hj;unfold ops3;dsimp only;rw[if_neg (by omega)]
theorem zXn (gb:Nat)(gf:Nat→Nat)(k v:Nat):bndL gb (fun j=>if j=k then v else gf j) k=bndL gb gf k:=by
 unfold bndL;rw[List.flatMap_def,List.flatMap_def];refine congrArg List.flatten (List.map_congr_left fun j hj=>?_);have:=List.mem_range.1 hj;unfold bnd1;dsimp only;rw[if_neg (by omega)]
theorem zUq (W:WrB)(x:List UInt8):(∀k,frmW x=some k→(x,fnV W k)∈allF W)∧(frmW x=none→x∉(allF W).map (·.1)):=by
 have e:(allF W).map (·.1)=[zCy.data.toList,zC8.data.toList,subS.data.toList,supS.data.toList,zCg.data.toList,accS.data.toList,juxS.data.toList]++((List.range 4).flatMap fun j=>[(infS++endW j).data.toList,(preS++endW j).data.toList,(posS++endW j).data.toList])++((List.range 2).flatMap fun j=>[(zE8++endV j).data.toList]):=rfl;refine⟨fun k hk=>?_,fun h hx=>?_⟩
 ·unfold frmW at hk;obtain⟨p,hp,rfl⟩:=Option.map_eq_some_iff.1 hk;obtain rfl:p.1=x:=by simpa using List.find?_some hp
  have hm:=List.mem_of_find?_eq_some hp;clear hp hk e;revert p;show ∀p∈zIr,(p.1,fnV W p.2)∈allF W;intro p hp;simp only[zIr,List.mem_cons,List.not_mem_nil,or_false] at hp;rcases hp with rfl|rfl|rfl|rfl|rfl|rfl|rfl|rfl|rfl|rfl|rfl|rfl|rfl|rfl|rfl|rfl|rfl|rfl|rfl|rfl|rfl
  all_goals
   unfold allF fix7 opsL bndL;simp only[List.range,List.range.loop,List.flatMap_cons,List.flatMap_nil,List.append_nil,ops3,bnd1,List.mem_cons,List.not_mem_nil,or_false,List.cons_append,List.nil_append]
   first|exact .inl rfl|simp[fnV,eJ,bJ,endW,endV]|decide
 ·rw[e] at hx;unfold frmW at h;rw[Option.map_eq_none_iff,List.find?_eq_none] at h;have hk:∀y∈[zCy.data.toList,zC8.data.toList,subS.data.toList,supS.data.toList,zCg.data.toList,accS.data.toList,juxS.data.toList]++((List.range 4).flatMap fun j=>[(infS++endW j).data.toList,(preS++endW j).data.toList,(posS++endW j).data.toList])++((List.range 2).flatMap fun j=>[(zE8++endV j).data.toList]),y∈zIr.map (·.1):=by decide+kernel
  obtain⟨p,hp,rfl⟩:=List.mem_map.1 (hk x hx);exact h p hp (by simp)
def VarE (w:World)(g:Nat):Prop:=g<w.heap.size∧∃ev,w.cell? ⟨g,0,none⟩=some ev∧(ev= .nilIface∨∃te pe,ev= .iface te pe)
theorem VarE.keep {w w':World}{g:Nat}(h:VarE w g)(hb:Below w.heap.size w w'):VarE w' g:=by
 obtain⟨h1,ev,h2,h3⟩:=h;exact⟨ll h1 hb.size,ev,(hb.cell (p:=⟨g,0,none⟩) h1).trans h2,h3⟩
structure zCn (w:World)(W:WrB)(A:Option Addr)(cap:Nat)(rs:List Rul):Prop where
 rules:zAi w A rs
 box:Blk w W.gw 147 #[.slice A rs.length cap,.map (some W.bm)]
 var:Blk w W.gb 89 #[.pointer (some ⟨W.gw,0,none⟩)]
 ends:∀j,j<4→Blk w (W.ge j) 9 #[.string (endW j)]
 bnds:∀j,j<2→Blk w (W.gf j) 9 #[.string (endV j)]
 map:MapF w W.bm (allF W)
 syn:VarE w 0
 rng:VarE w 1
theorem zCn.keep {w w':World}{W:WrB}{A:Option Addr}{cap:Nat}{rs:List Rul}(h:zCn w W A cap rs)(hb:Below w.heap.size w w'):zCn w' W A cap rs:=
 ⟨h.rules.keep hb,jL hb h.box,jL hb h.var,fun j hj=>jL hb (h.ends j hj),fun j hj=>jL hb (h.bnds j hj),h.map.keep hb,h.syn.keep hb,h.rng.keep hb⟩
def fnO (W:WrB)(s:List UInt8):Value:=match frmW s with
 |some k=>fnV W k
 |none=>.nilFunc
theorem zV2 {w:World}{W:WrB}(h:MapF w W.bm (allF W)){s:ByteArray}(hs:s.size≤9223372036854775807):(Instr.lookup 145 (.map (some W.bm)) (.string s) true).run Tryz.prog w= .ok (.tuple #[fnO W s.data.toList,.bool (frmW s.data.toList).isSome]) w:=by
 obtain⟨n,D,-,hown,-,hh⟩:=h;obtain⟨v,ps,hrun,hv⟩:=hown.look_ok law9 Tryz.underlying145 (yBb w) (show fnE .nilFunc=some (.lit (.int .i64 0),[]) from rfl) (zSh s hs);have ha:=zUq W s.data.toList;cases hf:frmW s.data.toList with
 |some k=>
  have hm:=ha.1 k hf;rw[hh.has,decide_eq_true (List.mem_map_of_mem hm)] at hrun;rw[hh.at_ _ hm] at hv;rw[zYf (yAy W k) hv] at hrun;unfold fnO;rw[hf];exact hrun
 |none=>
  have hm:=ha.2 hf;rw[hh.has,decide_eq_false hm] at hrun;rw[hh.none _ hm] at hv;rw[zYf (u:=.nilFunc) rfl hv] at hrun;unfold fnO;rw[hf];exact hrun
end Go.Proofs.YtadcldfbmkfkaaaGreatDoor.Rn
namespace Go.Proofs.YtadcldfbmkfkaaaGreatDoor.El
open At Ch Sp Sy Go.RowKit
def zEg (r:Rul):Bool:=decide (r.sym.size≤50)&&decide (r.nam.size≤50)
def zF5 (rs:List Rul):Bool:=rs.all zEg&&decide (rs.length≤40)
theorem zI1 {rs:List Rul}{k:Nat}{x:Rul}(hx:rs[k]?=some x)(h:zEg x=false):zF5 rs=false:=by
 unfold zF5;rw[show rs.all zEg=false from List.all_eq_false.2 ⟨x,List.mem_of_getElem? hx,by rw[h];simp⟩];rfl
theorem zO3 {rs:List Rul}(h1:∀(j:Nat) x,rs[j]?=some x→j<rs.length→zEg x=true):zF5 rs=decide (rs.length≤40):=by
 unfold zF5;rw[show rs.all zEg=true from List.all_eq_true.2 fun x hx=>by
  obtain⟨j,hj⟩:=List.mem_iff_getElem?.1 hx;exact h1 j x hj (List.getElem?_eq_some_iff.1 hj).1,Bool.true_and]
theorem zS6 {rs:List Rul}(h:zF5 rs=true):rs.length≤40:=by
 unfold zF5 at h;rw[Bool.and_eq_true] at h;exact of_decide_eq_true h.2
theorem zBb.at_ {w:World}{A:Option Addr}{p:List Int}(h:zBb w A p){k:Nat}{x:Int}(hk:p[k]?=some x):∃ad,A=some ad∧ad.block<w.heap.size∧w.cell? (ad.add k)=some (.int .i64 x):=by
 have hkl:=(List.getElem?_eq_some_iff.1 hk).1;obtain⟨_,h2⟩:=h;obtain⟨ad,h3,h4,h5⟩:=h2 (by omega);refine⟨ad,h3,h4,?_⟩;have:=h5 k (.int .i64 x) (by rw[ints,List.getElem?_map,hk];rfl);exact this
def zP1:Rul:=⟨1,⟨#[43]⟩,⟨#[112,108,117,115]⟩,40,40,41⟩
abbrev zX3:Array Value:= #[.int .i64 1,.string ⟨#[43]⟩,.string ⟨#[112,108,117,115]⟩,.int .i64 40,.int .i64 40,.int .i64 41]
theorem _root_.Go.Proofs.YtadcldfbmkfkaaaGreatDoor.At.zBc.size {w:World}{t:Tre}{c:Array Value}(h:zBc w t c):c.size=4:=by
 obtain⟨A,cap,rfl,_⟩:=h.form;rfl
theorem zXw:∀(l:List (Array Value)) (k j:Nat) (c:Array Value),(∀c∈l,c.size=4)→l[k]?=some c→j<4→(l.flatMap (·.toList))[k*4+j]?=c[j]?
 |[],k,j,c,_,h,_=>by simp at h
 |x::r,0,j,c,hs,h,hj=>by
  obtain rfl:x=c:=by simpa using h
  have:=hs x List.mem_cons_self;rw[List.flatMap_cons,List.getElem?_append_left (by simp;omega)];simp
 |x::r,k+1,j,c,hs,h,hj=>by
  have ih:=zXw r k j c (fun c hc=>hs c (List.mem_cons_of_mem _ hc)) (by simpa using h) hj;have:=hs x List.mem_cons_self;rw[List.flatMap_cons,List.getElem?_append_right (by simp;omega),←ih]
  congr 1
  simp;omega
theorem zIu:∀l:List (Array Value),(∀c∈l,c.size=4)→(l.flatMap (·.toList)).length=l.length*4
 |[],_=>rfl
 |c::l,h=>by
  rw[List.flatMap_cons,List.length_append,zIu l fun c hc=>h c (List.mem_cons_of_mem _ hc),List.length_cons,Array.length_toList,h c List.mem_cons_self];omega
structure NodC (w:World)(css:List (Array Value))(ks:List Tre):Prop where
 len:css.length=ks.length
 at_:∀(j:Nat) c x,css[j]?=some c→ks[j]?=some x→zBc w x c
theorem NodC.size {w:World}{css:List (Array Value)}{ks:List Tre}(h:NodC w css ks):∀c∈css,c.size=4:=fun c hc=>by
 obtain⟨j,hj⟩:=List.mem_iff_getElem?.1 hc;have hj2:=(List.getElem?_eq_some_iff.1 hj).1;exact(h.at_ j c (ks[j]'(by have:=h.len;omega)) hj (gE (by have:=h.len;omega))).size
structure NRow (w0 w:World)(g:Nat)(ts:List Tre):Prop where
 bel:Below w0.heap.size w0 w
 lo:w0.heap.size≤g
 cells:∃cur,Blk w g 25 cur∧ts.length*4≤cur.size∧∀(i:Nat) t,ts[i]?=some t→∃c,zBc w0 t c∧∀j,j<4→cur[i*4+j]?=c[j]?
theorem NRow.keep {w0 w w':World}{g:Nat}{ts:List Tre}(h:NRow w0 w g ts)(hb:Below w.heap.size w w'):NRow w0 w' g ts:=by
 obtain⟨cur,h1,h2,h3⟩:=h.cells;exact⟨h.bel.trans (hb.mono h.bel.size),h.lo,cur,jL hb h1,h2,h3⟩
theorem addg (g m:Nat):(⟨g,0,none⟩:Addr).add m=⟨g,m,none⟩:=by unfold Addr.add;split<;>simp_all
theorem NRow.kids {w0 w:World}{g:Nat}{ts:List Tre}(h:NRow w0 w g ts):zB7 w (some ⟨g,0,none⟩) ts:=fun i t hi=>by
 obtain⟨cur,h1,h2,h3⟩:=h.cells;obtain⟨c,h4,h5⟩:=h3 i t hi;exact⟨_,rfl,h1.lt,c,h4.keep h.bel,fun j hj=>by rw[addg,h1.cell,h5 j hj]⟩
theorem NRow.put {w0 w:World}{g k:Nat}{ts:List Tre}(h:NRow w0 w g ts)(hk:k<ts.length){y:Tre}{y0 y1 y2 y3:Value}(hy:zBc (zE9 w g (k*4) [y0,y1,y2,y3]) y #[y0,y1,y2,y3]):zB7 (zE9 w g (k*4) [y0,y1,y2,y3]) (some ⟨g,0,none⟩) (ts.set k y):=fun i t hi=>by
 obtain⟨cur,h1,h2,h3⟩:=h.cells;have hlo:=h.lo;have hg:=zBn [y0,y1,y2,y3] w g (k*4);have hb:Below w0.heap.size w0 (zE9 w g (k*4) [y0,y1,y2,y3]):=h.bel.grown hg h.bel.size fun r e=>by have:=sj e;omega
 have hbk:=zH3 [y0,y1,y2,y3] w g (k*4) cur h1;have hsz:k*4+[y0,y1,y2,y3].length≤cur.size:=by simp;omega
 by_cases hik:i=k
 ·subst hik;rw[List.getElem?_set_self hk] at hi;obtain rfl:=sj hi;refine⟨_,rfl,hbk.lt,_,hy,fun j hj=>?_⟩;rw[addg,hbk.cell,zE6 _ _ _ _ hsz,if_pos (by simp;omega),show i*4+j -i*4=j by omega]
  match j,hj with
  |0,_|1,_|2,_|3,_=>rfl
  |j+4,hj=>omega
 ·rw[List.getElem?_set_ne (fun e=>hik e.symm)] at hi;obtain⟨c,h4,h5⟩:=h3 i t hi;refine⟨_,rfl,hbk.lt,c,h4.keep hb,fun j hj=>?_⟩;rw[addg,hbk.cell,zE6 _ _ _ _ hsz,if_neg (by simp;omega),h5 j hj]
theorem zX5:(Tryz.prog.info? 25).map (fun i=>(i.zero,i.size,i.bytes))=some (some (.agg #[.int .i64 0,.string ⟨#[]⟩,.int .i64 0,.slice none 0 0]),4,56):=by kernel_rfl
theorem zGl:∃i,Tryz.prog.info? 25=some i∧i.zero=some (.agg #[.int .i64 0,.string ⟨#[]⟩,.int .i64 0,.slice none 0 0])∧i.size=4∧i.bytes=56:=by
 have h:=zX5;cases e:Tryz.prog.info? 25 with
 |none=>rw[e] at h;cases h
 |some i=>
  rw[e] at h;simp only[Option.map_some,Option.some.injEq,Prod.mk.injEq] at h;exact⟨i,rfl,h.1,h.2.1,h.2.2⟩
end Go.Proofs.YtadcldfbmkfkaaaGreatDoor.El
namespace Go.Proofs.YtadcldfbmkfkaaaGreatDoor.Rn
open At Ch Sp Sy El Go.RowKit
inductive NdAt (ok:Nat→Prop) (w:World):Tre→Array Value→Prop
 |mk (k:Int) (s:ByteArray) (c:Int) (ks:List Tre) (A:Option Addr) (cap:Nat) (ad:Addr) (cs:Nat→Array Value) (hst:s.size≤9223372036854775807) (hn:ks.length≤cap) (hc:cap≤9223372036854775807)
   (hA:ks=[]∨(A=some ad∧ad.block<w.heap.size∧ok ad.block)) (hcell:∀i,i<ks.length→∀j,j<4→w.cell? (ad.add (i*4+j))=(cs i)[j]?)
   (hk:∀(i:Nat) (h:i<ks.length),NdAt ok w ks[i] (cs i)):NdAt ok w (.mk k s c ks) #[.int .i64 k,.string s,.int .i64 c,.slice A ks.length cap]
def zAn (ok:Nat→Prop)(w:World)(A:Option Addr)(ks:List Tre):Prop:=∀(i:Nat) (x:Tre),ks[i]?=some x→∃ad:Addr,A=some ad∧ad.block<w.heap.size∧ok ad.block∧∃c,NdAt ok w x c∧∀j,j<4→w.cell? (ad.add (i*4+j))=c[j]?
theorem NdAt.map {ok ok':Nat→Prop}{w w':World}(hs:w.heap.size≤w'.heap.size)(hok:∀b,b<w.heap.size→ok b→ok' b)(hc:∀p:Addr,p.block<w.heap.size→ok p.block→w'.cell? p=w.cell? p){x:Tre}{c:Array Value}(h:NdAt ok w x c):NdAt ok' w' x c:=by
 induction h with
 |mk k s c ks A cap ad cs hst hn hcap hA hcell hk ih=>
  refine .mk k s c ks A cap ad cs hst hn hcap (hA.imp id fun⟨h1,h2,h3⟩=>⟨h1,ll h2 hs,hok _ h2 h3⟩) (fun i hi j hj=>?_) ih;rcases hA with h|⟨h1,h2,h3⟩
  ·subst h;simp at hi
  ·rw[hc _ (by rw[zA6];exact h2) (by rw[zA6];exact h3)];exact hcell i hi j hj
theorem NdAt.keep {ok:Nat→Prop}{w w':World}{x:Tre}{c:Array Value}(h:NdAt ok w x c)(hb:Below w.heap.size w w'):NdAt ok w' x c:=h.map hb.size (fun _ _ h=>h) fun _ hp _=>hb.cell hp
theorem NdAt.any {ok ok':Nat→Prop}{w:World}{x:Tre}{c:Array Value}(h:NdAt ok w x c)(hok:∀b,b<w.heap.size→ok b→ok' b):NdAt ok' w x c:=h.map (Nat.le_refl _) hok fun _ _ _=>rfl
theorem NdAt.grown {ok ok':Nat→Prop}{w w':World}{row:Option Nat}{x:Tre}{c:Array Value}(h:NdAt ok w x c)(hg:w.grownBy w' row)(hr:∀b,b<w.heap.size→ok b→some b≠row)(hok:∀b,b<w.heap.size→ok b→ok' b):NdAt ok' w' x c:=
 h.map hg.size hok fun _ hp ho=>World.cell?_of_block (hg.block _ hp (hr _ hp ho))
theorem zAn.map {ok ok':Nat→Prop}{w w':World}(hs:w.heap.size≤w'.heap.size)(hok:∀b,b<w.heap.size→ok b→ok' b)(hc:∀p:Addr,p.block<w.heap.size→ok p.block→w'.cell? p=w.cell? p){A:Option Addr}{ks:List Tre}(h:zAn ok w A ks):zAn ok' w' A ks:=fun i x hi=>by
 obtain⟨ad,h1,h2,h3,c,h4,h5⟩:=h i x hi;exact⟨ad,h1,ll h2 hs,hok _ h2 h3,c,h4.map hs hok hc,fun j hj=>by rw[hc _ (by rw[zA6];exact h2) (by rw[zA6];exact h3)];exact h5 j hj⟩
theorem zAn.keep {ok:Nat→Prop}{w w':World}{A:Option Addr}{ks:List Tre}(h:zAn ok w A ks)(hb:Below w.heap.size w w'):zAn ok w' A ks:=h.map hb.size (fun _ _ h=>h) fun _ hp _=>hb.cell hp
theorem zAn.any {ok ok':Nat→Prop}{w:World}{A:Option Addr}{ks:List Tre}(h:zAn ok w A ks)(hok:∀b,b<w.heap.size→ok b→ok' b):zAn ok' w A ks:=h.map (Nat.le_refl _) hok fun _ _ _=>rfl
theorem NdAt.size {ok:Nat→Prop}{w:World}{x:Tre}{c:Array Value}(h:NdAt ok w x c):c.size=4:=by cases h;rfl
theorem NdAt.form {ok:Nat→Prop}{w:World}{x:Tre}{c:Array Value}(h:NdAt ok w x c):∃A cap,c= #[.int .i64 x.kind,.string x.text,.int .i64 x.cols,.slice A x.kids.length cap]∧x.text.size≤9223372036854775807∧x.kids.length≤cap∧cap≤9223372036854775807∧zAn ok w A x.kids:=by
 cases h with
 |mk k s c ks A cap ad cs hst hn hcap hA hcell hk=>
  refine⟨A,cap,rfl,hst,hn,hcap,fun i x hi=>?_⟩;obtain⟨hl,rfl⟩:=List.getElem?_eq_some_iff.1 hi;have hl:i<ks.length:=hl;rcases hA with h|⟨h1,h2,h3⟩
  ·subst h;simp at hl
  ·exact⟨ad,h1,h2,h3,cs i,hk i hl,hcell i hl⟩
theorem NdAt.of {ok:Nat→Prop}{w:World}{k:Int}{s:ByteArray}{c:Int}{ks:List Tre}{A:Option Addr}{cap:Nat}(hst:s.size≤9223372036854775807)(hn:ks.length≤cap)(hc:cap≤9223372036854775807)(hk:zAn ok w A ks):NdAt ok w (.mk k s c ks) #[.int .i64 k,.string s,.int .i64 c,.slice A ks.length cap]:=by
 by_cases h0:ks=[]
 ·subst h0;exact .mk k s c [] A cap ⟨0,0,none⟩ (fun _=> #[]) hst hn hc (.inl rfl) (fun i hi=>by simp at hi) (fun i hi=>by simp at hi)
 ·have h1:0<ks.length:=List.length_pos_iff.2 h0;obtain⟨ad,hA,hlt,hok,_⟩:=hk 0 ks[0] (gE h1);have ex:∀i,∃c,∀h:i<ks.length,NdAt ok w ks[i] c∧∀j,j<4→w.cell? (ad.add (i*4+j))=c[j]?:=fun i=>by
   by_cases h:i<ks.length
   ·obtain⟨ad',hA',_,_,c,h2,h3⟩:=hk i ks[i] (gE h);obtain rfl:ad=ad':=by rw[hA] at hA';exact sj hA'
    exact⟨c,fun _=>⟨h2,h3⟩⟩
   ·exact⟨#[],fun h'=>absurd h' h⟩
  obtain⟨cs,hcs⟩:=Classical.axiomOfChoice ex;exact .mk k s c ks A cap ad cs hst hn hc (.inr ⟨hA,hlt,hok⟩) (fun i hi=>(hcs i hi).2) (fun i hi=>(hcs i hi).1)
theorem NdAt.nod {ok:Nat→Prop}{w:World}{x:Tre}{c:Array Value}(h:NdAt ok w x c):zBc w x c:=by
 induction h with
 |mk k s c ks A cap ad cs hst hn hc hA hcell hk ih=>
  exact .mk k s c ks A cap ad cs hst hn hc (hA.imp id fun⟨h1,h2,_⟩=>⟨h1,h2⟩) hcell ih
theorem NdAt.zero (ok:Nat→Prop)(w:World)(k:Int)(s:ByteArray)(c:Int)(hst:s.size≤9223372036854775807):NdAt ok w (.mk k s c []) #[.int .i64 k,.string s,.int .i64 c,.slice none 0 0]:=
 NdAt.of (ks:=[]) (A:=none) (cap:=0) hst (Nat.le_refl _) (by omega) fun i x h=>by simp at h
def OwnN (ok:Nat→Prop)(w:World)(B:Nat)(v:Value)(xs:List Tre):Prop:=∃css:List (Array Value),w.ownsRow B 25 4 v xs.length (css.flatMap (·.toList))∧css.length=xs.length∧(∀(j:Nat) c x,css[j]?=some c→xs[j]?=some x→NdAt ok w x c)
theorem OwnN.nil (ok:Nat→Prop)(w:World)(B:Nat):OwnN ok w B (.slice none 0 0) []:=⟨[],World.ownsRow_nil _ _ _ _,rfl,fun j c x h=>by simp at h⟩
theorem OwnN.size {ok:Nat→Prop}{w:World}{xs:List Tre}{css:List (Array Value)}(hl:css.length=xs.length)(h:∀(j:Nat) c x,css[j]?=some c→xs[j]?=some x→NdAt ok w x c):∀c∈css,c.size=4:=fun c hc=>by
 obtain⟨j,hj⟩:=List.mem_iff_getElem?.1 hc;have hj2:=(List.getElem?_eq_some_iff.1 hj).1;exact(h j c xs[j] hj (gE (by omega))).size
theorem OwnN.keep {ok:Nat→Prop}{w w':World}{B:Nat}{v:Value}{xs:List Tre}(h:OwnN ok w B v xs)(hb:Below w.heap.size w w'):OwnN ok w' B v xs:=by
 obtain⟨css,h1,h2,h3⟩:=h;exact⟨css,Sp.own_below h1 hb,h2,fun j c x hj hx=>(h3 j c x hj hx).keep hb⟩
theorem OwnN.more {ok:Nat→Prop}{w:World}{B B':Nat}{v:Value}{xs:List Tre}(h:OwnN ok w B v xs)(hB:B'≤B):OwnN ok w B' v xs:=by
 obtain⟨css,h1,h2⟩:=h;exact⟨css,Sp.zFi h1 hB,h2⟩
theorem OwnN.any {ok ok':Nat→Prop}{w:World}{B:Nat}{v:Value}{xs:List Tre}(h:OwnN ok w B v xs)(hok:∀b,b<w.heap.size→ok b→ok' b):OwnN ok' w B v xs:=by
 obtain⟨css,h1,h2,h3⟩:=h;exact⟨css,h1,h2,fun j c x hj hx=>(h3 j c x hj hx).any hok⟩
theorem OwnN.zLc {ok P:Nat→Prop}{w:World}{B:Nat}{v:Value}{xs:List Tre}(h:OwnN ok w B v xs)(hB:∀b,B≤b→P b)(hok:∀b,ok b→P b):∃A cap,v= .slice A xs.length cap∧xs.length≤cap∧cap≤9223372036854775807∧zAn P w A xs:=by
 obtain⟨css,ho,hl,hr⟩:=h;have hsz:=OwnN.size hl hr;rcases ho.2 with⟨rfl,h0⟩|⟨g,cap,cur,rfl,hg,hb,hn,hc,hs,ht⟩
 ·obtain rfl:xs=[]:=List.length_eq_zero_iff.1 h0;exact⟨none,0,rfl,by simp,by omega,fun j p hj=>by simp at hj⟩
 ·have hb':Blk w g 25 cur:=hb;refine⟨_,cap,rfl,hn,by unfold maxLen at hc;omega,fun i x hi=>⟨⟨g,0,none⟩,rfl,hb'.lt,hB g hg,?_⟩⟩;have hil:=(List.getElem?_eq_some_iff.1 hi).1;obtain⟨c,hci⟩:∃c,css[i]?=some c:=⟨_,gE (by omega)⟩
  refine⟨c,(hr i c x hci hi).any fun b _ h=>hok b h,fun j hj=>?_⟩;have h3:=zXw css i j c hsz hci hj;have hjc:j<c.size:=by rw[hsz c (List.mem_of_getElem? hci)];exact hj
  have h4:c[j]?=some c[j]:=Array.getElem?_eq_getElem hjc;rw[show(⟨g,0,none⟩:Addr).add (i*4+j)=⟨g,i*4+j,none⟩ by unfold Addr.add;split<;>simp_all,hb'.cell];rw[h4] at h3⊢;rw[←ht,List.getElem?_take] at h3
  split at h3
  ·rw[←Array.getElem?_toList];exact h3
  ·cases h3
theorem OwnN.form {ok:Nat→Prop}{w:World}{B:Nat}{v:Value}{xs:List Tre}(h:OwnN ok w B v xs):∃A cap,v= .slice A xs.length cap∧xs.length≤cap∧cap≤9223372036854775807∧zAn (fun _=>True) w A xs:=h.zLc (fun _ _=>trivial) fun _ _=>trivial
theorem OwnN.lt {ok:Nat→Prop}{w:World}{B:Nat}{v:Value}{xs:List Tre}(h:OwnN ok w B v xs):∀r,v.ownBlock=some r→B≤r∧r<w.heap.size:=by
 obtain⟨css,ho,_⟩:=h;exact World.ownsRow.lt ho
theorem OwnN.snoc {ok ok':Nat→Prop}{w w':World}{B:Nat}{v v':Value}{xs:List Tre}{css:List (Array Value)}{x:Tre}{c:Array Value}(hl:css.length=xs.length)(h:∀(j:Nat) c x,css[j]?=some c→xs[j]?=some x→NdAt ok w x c)(hx:NdAt ok w x c)(ho:w'.ownsRow B 25 4 v' (xs.length+1) (css.flatMap (·.toList)++c.toList))(hg:w.grownBy w' v.ownBlock)(hr:∀b,b<w.heap.size→ok b→some b≠v.ownBlock)(hok:∀b,b<w.heap.size→ok b→ok' b):OwnN ok' w' B v' (xs++[x]):=by
 refine⟨css++[c],?_,by simp[hl],fun j d y hj hy=>?_⟩
 ·rw[List.length_append,List.flatMap_append]
  simpa using ho
 ·rcases Nat.lt_or_ge j css.length with hlt|hge
  ·rw[List.getElem?_append_left hlt] at hj;rw[List.getElem?_append_left (by omega)] at hy;exact(h j d y hj hy).grown hg hr hok
  ·rw[List.getElem?_append_right hge] at hj;rw[List.getElem?_append_right (by omega),←hl] at hy
   by_cases e:j -css.length=0
   ·rw[e] at hj hy;obtain rfl:c=d:=by simpa using hj
    obtain rfl:x=y:=by simpa using hy
    exact hx.grown hg hr hok
   ·rw[List.getElem?_eq_none (by simp;omega)] at hj;cases hj
def AppN (P:Nat→Prop)(w:World)(B:Nat)(v:Value)(xs:List Tre):Prop:=OwnN (fun b=>v.ownBlock≠some b∧P b) w B v xs
theorem AppN.nil (P:Nat→Prop)(w:World)(B:Nat):AppN P w B (.slice none 0 0) []:=OwnN.nil _ _ _
theorem AppN.keep {P:Nat→Prop}{w w':World}{B:Nat}{v:Value}{xs:List Tre}(h:AppN P w B v xs)(hb:Below w.heap.size w w'):AppN P w' B v xs:=OwnN.keep h hb
theorem AppN.push {P:Nat→Prop}{w w':World}{B:Nat}{v v':Value}{xs:List Tre}{css:List (Array Value)}{x:Tre}{c:Array Value}(hl:css.length=xs.length)(h:∀(j:Nat) c x,css[j]?=some c→xs[j]?=some x→NdAt (fun b=>v.ownBlock≠some b∧P b) w x c)(hx:NdAt (fun b=>v.ownBlock≠some b∧P b) w x c)(ho:w'.ownsRow B 25 4 v' (xs.length+1) (css.flatMap (·.toList)++c.toList))(hg:w.grownBy w' v.ownBlock)(hv:v'.ownBlock=v.ownBlock∨v'.ownBlock=some w.heap.size):AppN P w' B v' (xs++[x]):=
 OwnN.snoc hl h hx ho hg (fun b _ hb e=>hb.1 e.symm) (fun b hb hok=>⟨by
  rcases hv with e|e
  ·rw[e];exact hok.1
  ·rw[e];intro h2;have:=sj h2;omega,hok.2⟩)
theorem AppN.set_ {P:Nat→Prop}{w:World}{B:Nat}{v:Value}{xs:List Tre}(h:AppN P w B v xs){p:Addr}(hp:¬P p.block)(hpB:p.block<B)(u:Value):AppN P (w.setCell p u) B v xs:=by
 obtain⟨css,h1,h2,h3⟩:=h;refine⟨css,World.ownsRow.kept h1 (Sp.zBj w p u) ?_,h2,fun j c x hj hx=>(h3 j c x hj hx).map (Sp.zBj w p u).size (fun _ _ h=>h) fun q _ ho=>World.cell?_setCell_other w p q u (fun e=>hp (by rw[e];exact ho.2))⟩;cases hv:v.ownBlock with
 |none=>exact .inl rfl
 |some b=>
  refine .inr fun e=>?_
  have:=(World.ownsRow.lt h1 b hv).1;have:=sj e;omega
theorem AppN.form {P:Nat→Prop}{w:World}{B:Nat}{v:Value}{xs:List Tre}(h:AppN P w B v xs)(hB:∀b,B≤b→P b):∃A cap,v= .slice A xs.length cap∧xs.length≤cap∧cap≤9223372036854775807∧zAn P w A xs:=OwnN.zLc h hB fun _ hb=>hb.2
theorem zUs {ok:Nat→Prop}{w:World}{x:Tre}{c:Array Value}(h:NdAt ok w x c):∀u∈c.toList,u.oneCell'=true:=by
 obtain⟨A,cap,rfl,_⟩:=h.form;intro u hu;simp at hu;rcases hu with rfl|rfl|rfl|rfl<;>rfl
theorem zAn.kids {ok:Nat→Prop}{w:World}{A:Option Addr}{ks:List Tre}(h:zAn ok w A ks):zB7 w A ks:=fun i x hi=>by
 obtain⟨ad,h1,h2,_,c,h4,h5⟩:=h i x hi;exact⟨ad,h1,h2,c,h4.nod,h5⟩
abbrev zerD:Array Value:= #[.int .i64 0,.string ⟨#[]⟩,.int .i64 0,.slice none 0 0]
theorem zKl (n:Nat):(Builtin.zeroCells zerD n).size=4*n:=by
 simp[Builtin.zeroCells,zerD];omega
set_option maxRecDepth 100000 in
set_option maxHeartbeats 1600000 in
theorem zSv (n:Nat)(w:World)(h2:n≤1000000):Calls Tryz.prog 188 #[.slice none 0 0,.int .i64 n] w fun e w'=>∃v,e= .returned v∧w'.ownsRow w.heap.size 25 4 v 0 []∧Below w.heap.size w w':=by
 rcases Nat.eq_zero_or_pos n with rfl|h1
 ·go_enter Tryz.func188,Tryz.ntmps188;go_wp2_with fail;go_ret;exact⟨_,rfl,World.ownsRow_nil _ _ _ _,Below.refl _ _⟩
 obtain⟨i0,hi,hz0,hz1,hz2⟩:=zGl;have hrz:=Go.Lib.run_append_grow_zeros (P:=Tryz.prog) w 23 3 23 25 i0 (.agg zerD) .i64 .i64 Tryz.underlying23 Tryz.underlying3 hi hz0 none 0 0 [] (run_firstCells_none w.drew i0.size 0 0 0) n h1 (by omega) (by omega) (by omega) (by rw[hz2];omega) (growslice_fits (by omega) (by rw[hz2];omega));have hGn:0+n≤grownCap w (0+n) 0 25:=grownCap_ge w _ _ _;have hG63:grownCap w (0+n) 0 25≤maxLen:=grownCap_le_maxLen w (0+n) 0 25 (by unfold maxLen;omega);generalize grownCap w (0+n) 0 25=G at*;rw[Nat.zero_add] at hrz hGn;have hG:G≤9223372036854775807:=by unfold maxLen at hG63;omega
 have q1:¬((n:Int)<0):=by omega
 have q2:(n:Int)>0:=by omega
 have q3:(0:Int)<(n:Int):=by omega
 have W1:wrap64 (n:Int)=(n:Int):=by unfold wrap64;omega
 go_enter Tryz.func188,Tryz.ntmps188;go_wp2_with (at_builtin;refine Lib.wpList_append_run _ rfl _ _ _ _ rfl _ _ rfl rfl _ _ hrz ?_)
 go_ret;refine⟨_,rfl,⟨rfl,.inr ⟨w.heap.size,G,Builtin.zeroCells zerD n++Builtin.zeroCells zerD (G -n),rfl,Nat.le_refl _,?_,Nat.zero_le _,hG63,?_,by simp⟩⟩,?_⟩
 ·exact Blk.new w 25 _
 ·rw[Array.size_append,zKl,zKl];omega
 ·exact zA2 (zA0 w _)
structure NSrc where
 A:Option Addr
 n:Nat
 c:Nat
 xs:List Value
def nsum (L:List NSrc):Nat:=(L.map (·.n)).sum
def ncat (L:List NSrc):List Value:=L.flatMap (·.xs)
theorem zIz (L:List NSrc)(s:NSrc):nsum (L++[s])=nsum L+s.n:=by simp[nsum]
theorem zSi (L:List NSrc)(s:NSrc):ncat (L++[s])=ncat L++s.xs:=by simp[ncat]
theorem zNs (L:List NSrc):∀k,nsum (L.take k)≤nsum L:=by
 intro k;have:nsum (L.take k++L.drop k)=nsum (L.take k)+nsum (L.drop k):=by unfold nsum;rw[List.map_append,List.sum_append]
 rw[List.take_append_drop] at this;omega
theorem zF1 {α:Type}{L:List α}{k:Nat}{s:α}(h:L[k]?=some s):L.take (k+1)=L.take k++[s]:=by
 rw[List.take_add_one,h];rfl
set_option maxRecDepth 100000 in
set_option maxHeartbeats 4000000 in
theorem zWz (g:Nat)(L:List NSrc)(w:World)(hb:∀k s,L[k]?=some s→w.cell? ⟨g,k,none⟩=some (.slice s.A s.n s.c))(hg:g<w.heap.size)(hr:∀s∈L,Reads w w.heap.size 4 s.A s.n s.xs∧∀u∈s.xs,u.oneCell'=true)(hL:L.length≤1000000)(hn:nsum L≤1000000):
  Calls Tryz.prog 150 #[.slice (some ⟨g,0,none⟩) L.length L.length] w fun e w'=>∃v,e= .returned v∧w'.ownsRow w.heap.size 25 4 v (nsum L) (ncat L)∧Below w.heap.size w w':=by
 obtain⟨i0,hi,hz0,hz1,hz2⟩:=zGl;have K0:=zh hb;have H1:=zh hr;have HG:=zh hg;have HN:=zh hn;clear hb hr hg;go_enter Tryz.func150,Tryz.ntmps150;go_wp2_with fail
 go_loopw [3,11] (fun s i wr=>∃k:Nat,k≤L.length∧i= .int .i64 k∧s= .int .i64 (nsum (L.take k):Nat)∧wr=w) (fun _ i _=>L.length -(intOf i).toNat)
 case atStart=>exact⟨0,by omega,rfl,rfl,rfl⟩
 case round=>
  obtain⟨k,hk,rfl,rfl,rfl⟩:=hrel;rcases Nat.lt_or_ge k L.length with hlt|hge
  ·obtain⟨s,hs⟩:∃s,L[k]?=some s:=⟨_,gE hlt⟩
   have k0:=K0.out k s hs;have e1:nsum (L.take (k+1))=nsum (L.take k)+s.n:=by rw[zF1 hs,zIz]
   have HE:=zh e1;have hle:=zNs L (k+1);rw[e1] at hle;clear e1;generalize nsum (L.take k)=q at*;have q0:¬((q:Int)+(s.n:Int)<0):=by omega
   have W1:wrap64 ((q:Int)+(s.n:Int))=(q:Int)+(s.n:Int):=by unfold wrap64;omega
   have hlt2:(k:Int)<(L.length:Int):=by omega
   go_wp2_with fail;go_roundw
   case rel=>exact⟨k+1,by omega,by go_num,by rw[HE.out];simp,trivial⟩
   case measure=>simp[intOf];omega
  ·obtain rfl:k=L.length:=by omega
   rw[List.take_length];obtain⟨wo,hwo⟩:∃wo,wo=wr:=⟨_,rfl⟩
   subst hwo;go_wp2_with fail;refine(zSv (nsum L) wo hn).mono ?_;rintro e w1 ⟨v,rfl,ho,hb⟩;have HO:=zh ho;have HB:=zh hb;clear ho hb hn;go_wp2_with fail
   go_loopw [6,27] (fun v i wr=>∃k:Nat,k≤L.length∧i= .int .i64 k∧Hid (wr.ownsRow wo.heap.size 25 4 v (nsum (L.take k)) (ncat (L.take k)))∧Hid (Below wo.heap.size wo wr)) (fun _ i _=>L.length -(intOf i).toNat)
   case atStart=>exact⟨0,by omega,rfl,HO,HB⟩
   case round=>
    clear HO HB;obtain⟨k,hk,rfl,HO,HB⟩:=hrel;rcases Nat.lt_or_ge k L.length with hlt|hge
    ·obtain⟨s,hs⟩:∃s,L[k]?=some s:=⟨_,gE hlt⟩
     have HS:=zh hs;have hle:=zNs L (k+1);rw[zF1 hs,zIz] at hle;have hn1:=HN.out;have HBL:=zh (World.ownsRow.lt HO.out);have HR:=zh ((H1.out s (List.mem_of_getElem? hs)).1.below HB.out);have HC:=zh ((H1.out s (List.mem_of_getElem? hs)).2);have hsz:=HB.out.size;have kk:wr.cell? ⟨g,k,none⟩=some (.slice s.A s.n s.c):=(HB.out.cell (p:=⟨g,k,none⟩) HG.out).trans (K0.out k s hs);have hlt2:(k:Int)<(L.length:Int):=by omega
     clear hs;go_wp2_with (at_builtin;refine zAo _ rfl (.tmp 31) (.tmp 32) 23 rfl wo.heap.size 25 i0 (.agg zerD) 4 56 Tryz.underlying23 hi hz0 hz1 hz2 rfl (by decide) _ _ _ rfl HO.out wo.heap.size s.A s.n s.c s.xs rfl HR.out HC.out ?c63 ?cby hsz ?_)
     case c63=>unfold maxLen;omega
     case cby=>omega
     intro v' w' ho' hgr _;have NO:=zh (show w'.ownsRow wo.heap.size 25 4 v' (nsum (L.take (k+1))) (ncat (L.take (k+1))) by rw[zF1 HS.out,zIz,zSi];exact ho');have NB:=zh (HB.out.grown hgr hsz (fun j hj=>(HBL.out j hj).1));clear ho' hgr HO HB kk;go_wp2_with fail;go_roundw
     case rel=>exact⟨k+1,by omega,by go_num,NO,NB⟩
     case measure=>simp[intOf];omega
    ·obtain rfl:k=L.length:=by omega
     rw[List.take_length] at HO;go_wp2_with fail;go_ret;exact⟨_,rfl,HO.out,HB.out⟩
end Go.Proofs.YtadcldfbmkfkaaaGreatDoor.Rn
namespace Go.Proofs.YtadcldfbmkfkaaaGreatDoor.El
open At Ch Sp Sy Go.RowKit
theorem zJs {rs:List Rul}{M:List Tre→List Int→Nat→Mea Trm}{path:List Int}{pb:Nat→Bool}{k:Nat}:∀(ns:List Tre) (ts:List ByteArray) (i:Nat) (xs:List (List Trm)),ns.length=ts.length→zD5 rs M path pb k ns ts i= .ok xs→xs.length=ns.length∧∀q n t,ns[q]?=some n→ts[q]?=some t→∃x,xs[q]?=some x∧sltF rs M n (path++[((k+(i+q):Nat):Int)]) (!decide (t.data.toList=[35])) (pb (i+q))= .ok x
 |[],ts,i,xs,_,h=>by
  rw[zD5] at h
  ·injection h with h;subst h;exact⟨rfl,fun q n t hn=>by simp at hn⟩
  ·intro n ns t ts h1;cases h1
 |n::ns,[],i,xs,hl,_=>by simp at hl
 |n::ns,t::ts,i,xs,hl,h=>by
  rw[zD5] at h;cases h1:sltF rs M n (path++[((k+i:Nat):Int)]) (!decide (t.data.toList=[35])) (pb i) with
  |bad e p=>rw[h1] at h;cases h
  |ok x=>
   rw[h1] at h;simp only[Mea.then_] at h;cases h2:zD5 rs M path pb k ns ts (i+1) with
   |bad e p=>rw[h2] at h;cases h
   |ok us=>
    rw[h2] at h;simp only at h;injection h with h;subst h;obtain⟨h3,h4⟩:=zJs ns ts (i+1) us (by simpa using hl) h2;refine⟨by rw[List.length_cons,List.length_cons,h3],fun q m u hm hu=>?_⟩;cases q with
    |zero=>
     rw[List.getElem?_cons_zero] at hm hu;injection hm with hm;injection hu with hu;subst hm;subst hu;exact⟨x,rfl,h1⟩
    |succ q=>
     rw[List.getElem?_cons_succ] at hm hu;obtain⟨y,h5,h6⟩:=h4 q m u hm hu;exact⟨y,by rw[List.getElem?_cons_succ];exact h5,by rw[show i+(q+1)=i+1+q by omega];exact h6⟩
theorem zVz {rs:List Rul}{M:List Tre→List Int→Nat→Mea Trm}{path:List Int}{k:Nat}{items:List Tre}{ts:List ByteArray}{x:Rd}(hv:zAg rs=true)(ht:zBm rs items= .inl ts)(hx:x∈allR rs ts 0 ts.length)(hk:∀n∈items,kindOk n):
  ((zAy rs M path (fun i=>kndR rs ((zGd (asgR rs x ts.length) ts.length).getD i 0)) k items ts 0).then_ fun ps=>.ok (trmR rs ps x ts.length))=(zD5 rs M path (fun i=>decide ((i:Int)∈pfxR rs x)) k items ts 0).then_ fun xs=>.ok (bldR rs items xs x ts.length):=by
 have hl:=zF4 ht;have hok:=zBv _ 0 ts.length x (Nat.le_refl _) hx;rw[zKq (pb:=fun i=>decide ((i:Int)∈pfxR rs x)) items ts 0 hk (fun q t hq hne=>by
  rw[Nat.zero_add];exact zXo hx (List.getElem?_eq_some_iff.1 hq).1 (by rw[zKs hq];exact decide_eq_false hne))]
 cases hr:zD5 rs M path (fun i=>decide ((i:Int)∈pfxR rs x)) k items ts 0 with
 |bad e p=>rfl
 |ok xs=>
  simp only[Mea.then_]
  congr 1
  obtain⟨h1,h2⟩:=zJs items ts 0 xs hl.symm hr;refine zEh hv (kd:=fun i=>kndR rs ((zGd (asgR rs x ts.length) ts.length).getD i 0)) _ 0 ts.length x (Nat.le_refl _) (fun q hq=>?_) hx (fun p hp=>?_)
  ·obtain⟨n,hn⟩:∃n,items[q]?=some n:=⟨_,gE (by omega)⟩
   have h3:=zM1 ht q n hn;obtain⟨y,h4,h5⟩:=h2 q n _ hn h3.1;refine⟨n,_,y,hn,h3.1,h4,by have:=zSr rs (fun i=>kndR rs ((zGd (asgR rs x ts.length) ts.length).getD i 0)) items ts xs 0 q n _ y hn h3.1 h4;rwa [Nat.zero_add] at this,fun hne=>⟨zUo (zTc hne),fun h6=>?_⟩⟩;rw[decide_eq_false hne,Bool.not_false] at h5;unfold sltF at h5;rw[if_pos rfl,(hk n (List.mem_of_getElem? hn)).1 (.inl h6),List.tail_nil,zAp] at h5;injection h5 with h5;exact h5.symm
  ·obtain⟨a,b,rfl,_,h3,_⟩:=zEe hok p hp;have:=zEp hok hp;show kndR rs ((zGd (asgR rs x ts.length) ts.length).getD (Int.toNat (a:Int)) 0)=_;rw[Int.toNat_natCast,this]
def Mea.shift {α:Type}(p:List Int):Mea α→Mea α
 | .ok a=>.ok a
 | .bad e q=>.bad e (p++q)
theorem Mea.zCl {α β:Type}{p:List Int}{m:Mea α}{f g:α→Mea β}(h:∀a,f a=(g a).shift p):(m.shift p).then_ f=(m.then_ g).shift p:=by
 cases m with
 |ok a=>exact h a
 |bad e q=>rfl
theorem zEq {M:List Tre→List Int→Nat→Mea Trm}{p:List Int}(hM:∀items path k,M items (p++path) k=(M items path k).shift p){path:List Int}:∀(ks:List Tre) (s b:Nat),zAp M (p++path) ks s b=(zAp M path ks s b).shift p
 |[],_,_=>by rw[zAp,zAp];rfl
 |n::ns,s,b=>by
  rw[zAp,zAp,List.append_assoc,hM];refine Mea.zCl fun t=>?_
  rw[zEq hM ns];exact Mea.zCl fun ts=>rfl
theorem zSa {M:List Tre→List Int→Nat→Mea Trm}{p:List Int}(hM:∀items path k,M items (p++path) k=(M items path k).shift p)(n:Tre)(path:List Int):zBu M n (p++path)=(zBu M n path).shift p:=by
 unfold zBu
 split
 ·rfl
 split
 ·rfl
 split
 ·rfl
 ·have key:∀(m m':Mea (List Trm)) (f:List Trm→Mea Prt),(∀a,f a=(f a).shift p)→m=m'.shift p→m.then_ f=(m'.then_ f).shift p:=fun m m' f hf e=>by rw[e];exact Mea.zCl hf
  refine key _ _ _ (fun ts=>rfl) ?_;cases n.kids with
  |nil=>rfl
  |cons d ks=>
   dsimp only
   split
   ·exact zEq hM ks 1 0
   ·exact zEq hM (d::ks) 0 0
theorem zVc {rs:List Rul}{M:List Tre→List Int→Nat→Mea Trm}{p:List Int}(hM:∀items path k,M items (p++path) k=(M items path k).shift p)(n:Tre)(path:List Int)(pre:Bool):scrF rs M n (p++path) pre=(scrF rs M n path pre).shift p:=by
 unfold scrF
 split
 ·rfl
 ·rw[zEq hM];exact Mea.zCl fun ts=>rfl
theorem zHz {rs:List Rul}{M:List Tre→List Int→Nat→Mea Trm}{p:List Int}(hM:∀items path k,M items (p++path) k=(M items path k).shift p){path:List Int}{kd:Nat→Int}{k:Nat}:∀(ns:List Tre) (ts:List ByteArray) (i:Nat),zAy rs M (p++path) kd k ns ts i=(zAy rs M path kd k ns ts i).shift p
 |[],ts,i=>by cases ts<;>simp[zAy,Mea.shift]
 |_::_,[],i=>by simp[zAy,Mea.shift]
 |n::ns,t::ts,i=>by
  rw[zAy,zAy];have h:(if t.data.toList=[35] then zBu M n (p++path++[((k+i:Nat):Int)]) else scrF rs M n (p++path++[((k+i:Nat):Int)]) (decide (kd i=2)))=(if t.data.toList=[35] then zBu M n (path++[((k+i:Nat):Int)]) else scrF rs M n (path++[((k+i:Nat):Int)]) (decide (kd i=2))).shift p:=by
   rw[List.append_assoc]
   split
   ·exact zSa hM n _
   ·exact zVc hM n _ _
  rw[h];refine Mea.zCl fun x=>?_
  rw[zHz hM ns ts (i+1)];exact Mea.zCl fun xs=>rfl
theorem zPa {rs:List Rul}{M:List Tre→List Int→Nat→Mea Trm}{p:List Int}(hM:∀items path k,M items (p++path) k=(M items path k).shift p)(items:List Tre)(path:List Int)(k:Nat):zI6 rs M items (p++path) k=(zI6 rs M items path k).shift p:=by
 unfold zI6
 split
 ·rw[List.append_assoc];rfl
 ·split
  ·rw[List.append_assoc];rfl
  ·split
   ·rw[List.append_assoc];rfl
   ·rw[zHz hM];exact Mea.zCl fun ps=>rfl
   ·rw[List.append_assoc];rfl
theorem zQu (rs:List Rul)(p:List Int):∀(f:Nat) (items:List Tre) (path:List Int) (k:Nat),zAf rs f items (p++path) k=(zAf rs f items path k).shift p
 |0,items,path,k=>by rw[zAf,zAf];rfl
 |f+1,items,path,k=>by
  rw[zAf,zAf];exact zPa (zQu rs p f) items path k
end Go.Proofs.YtadcldfbmkfkaaaGreatDoor.El
namespace Go.Proofs.YtadcldfbmkfkaaaGreatDoor.Rn
open At Ch Sp Sy El Go.RowKit
theorem zGi {a b:ByteArray}(h:a.data.toList=b.data.toList):a=b:=by
 cases a with
 |mk a=>cases b with
  |mk b=>
   have:a=b:=Array.toList_inj.1 h;rw[this]
theorem zKf {a:ByteArray}(h:a.data.toList=[]):a=⟨#[]⟩:=zGi h
theorem zHf {n:Tre}(h:zAt n=true)(hk:n.kind≠2∧n.kind≠3∧n.kind≠4∧n.kind≠10∧n.kind≠11)(hm:n.kind≠12):n= .mk n.kind ⟨#[]⟩ 0 n.kids:=by
 obtain⟨h1,h2⟩:=zBz h;unfold zDe at h1;unfold zBl at h2;rw[if_neg hk.1,if_neg hk.2.1,if_neg hk.2.2.1,if_neg hk.2.2.2.1,if_neg hk.2.2.2.2] at h1;rw[if_neg hm,Bool.and_eq_true,decide_eq_true_eq] at h2;cases n with
 |mk k t c ks=>
  have e1:t=⟨#[]⟩:=zKf (List.isEmpty_iff.1 h1);have e2:c=0:=h2.1;rw[e1,e2];rfl
theorem zFg {n:Tre}(h:zAt n=true)(hm:n.kind≠12):n.cols=0:=by
 have h2:=(zBz h).2;unfold zBl at h2;rw[if_neg hm,Bool.and_eq_true,decide_eq_true_eq] at h2;exact h2.1
theorem zJ2 {n:Tre}(h:zAt n=true)(hk:n.kind=1):n=rowT n.kids:=by
 have:=zHf h (by omega) (by omega);rw[hk] at this;exact this
theorem zL9 {n:Tre}(h:zAt n=true)(hk:n.kind=2∨n.kind=3∨n.kind=4):n= .mk n.kind n.text 0 []:=by
 have h1:=zFg h (by omega);have h2:=(zBz h).2;unfold zBl at h2;rw[if_neg (by omega),Bool.and_eq_true,if_neg (by omega),if_pos hk,decide_eq_true_eq] at h2;replace h2:=List.length_eq_zero_iff.1 (of_decide_eq_true h2.2);cases n with
 |mk k t c ks=>
  have e1:c=0:=h1;have e2:ks=[]:=h2;rw[e1,e2];rfl
theorem zNo {n:Tre}(h:zAt n=true)(hk:n.kind=2):n=symT n.text:=by
 have:=zL9 h (.inl hk);rw[hk] at this;exact this
theorem kids_rows {n:Tre}(h:zAt n=true)(hk:n.kind≠1):∀d∈n.kids,zAt d=true∧d.kind=1:=by
 intro d hd;obtain⟨s,hs⟩:=List.mem_iff_getElem?.1 hd;obtain⟨h1,h2⟩:=zEc h hs;refine⟨h1,?_⟩;unfold zBi at h2;rw[decide_eq_false hk] at h2
 by_cases h3:d.kind=1
 ·exact h3
 ·rw[decide_eq_false h3] at h2;cases h2
theorem zLe {d:Tre}(h:zAt d=true)(hk:d.kind=1):zC0 1 d.kids=true:=by
 cases d with
 |mk k t c ks=>
  rw[zAt,Bool.and_eq_true] at h;have:k=1:=hk;rw[←this];exact h.2
theorem zIp {ks:List Tre}(h:∀d∈ks,zAt d=true∧d.kind=1):(ks.map Tre.kids).map rowT=ks:=by
 induction ks with
 |nil=>rfl
 |cons d r ih=>
  rw[List.map_cons,List.map_cons,←zJ2 (h d List.mem_cons_self).1 (h d List.mem_cons_self).2,ih fun e he=>h e (List.mem_cons_of_mem _ he)]
theorem zQ4 (rs:List Rul):∀(a b:List Trm),zA4 rs (a++b)=(zA4 rs a).bind fun x=>(zA4 rs b).bind fun y=>some (x++y)
 |[],b=>by
  rw[List.nil_append,show zA4 rs []=some [] by rw[zA4]];cases zA4 rs b<;>rfl
 |m::a,b=>by
  rw[List.cons_append,zA4,zA4,zQ4 rs a b];cases zAk rs m with
  |none=>rfl
  |some l=>
   cases zA4 rs a with
   |none=>rfl
   |some x=>cases zA4 rs b<;>rfl
def InvM (rs:List Rul)(M:List Tre→List Int→Nat→Mea Trm):Prop:=∀items path k t,zC0 1 items=true→M items path k= .ok t→zAk rs t=some (items.drop k)
theorem then_ok {α β:Type}{m:Mea α}{f:α→Mea β}{b:β}(h:m.then_ f= .ok b):∃a,m= .ok a∧f a= .ok b:=by
 cases m with
 |ok a=>exact⟨a,rfl,h⟩
 |bad e p=>cases h
def scrR (k:Nat):List Tre→List (List Tre)
 |[]=>[]
 |d::r=>d.kids.drop k::r.map Tre.kids
theorem zGn {rs:List Rul}{M:List Tre→List Int→Nat→Mea Trm}(hM:InvM rs M){path:List Int}:∀(ks:List Tre) (s b:Nat) (ts:List Trm),(∀d∈ks,zAt d=true∧d.kind=1)→zAp M path ks s b= .ok ts→
  zA4 rs ts=some (scrR b ks)
 |[],s,b,ts,_,h=>by
  rw[zAp] at h;injection h with h;rw[←h,zA4,scrR]
 |d::r,s,b,ts,hk,h=>by
  rw[zAp] at h;obtain⟨t,h1,h⟩:=then_ok h;obtain⟨us,h2,h⟩:=then_ok h;injection h with h;obtain⟨h3,h4⟩:=hk d List.mem_cons_self;have e1:=hM _ _ _ _ (zLe h3 h4) h1;have e2:=zGn hM r (s+1) 0 us (fun e he=>hk e (List.mem_cons_of_mem _ he)) h2;rw[←h,zA4,e1,e2];cases r with
  |nil=>rfl
  |cons e q=>rfl
def sltR (rs:List Rul)(n:Tre)(op p:Bool):List (List Tre):=
 if op=true then scrR (if(varN rs n p).isSome then 2 else 0) n.kids.tail
 else match n.kids with
  |d::ks=>if n.kind=6∧d.kids.isEmpty=true then ks.map Tre.kids else(d::ks).map Tre.kids
  |[]=>[]
theorem yAb {rs:List Rul}{M:List Tre→List Int→Nat→Mea Trm}(hM:InvM rs M){n:Tre}{path:List Int}{op p:Bool}{y:List Trm}(hf:zAt n=true)(hk:n.kind≠1)(h:sltF rs M n path op p= .ok y):zA4 rs y=some (sltR rs n op p):=by
 have hr:=kids_rows hf hk;unfold sltF at h;unfold sltR;cases op with
 |true=>
  rw[if_pos rfl] at h⊢;exact zGn hM _ _ _ _ (fun d hd=>hr d (List.mem_of_mem_tail hd)) h
 |false=>
  rw[if_neg (by decide)] at h⊢;cases hks:n.kids with
  |nil=>
   rw[hks] at h;injection h with h;rw[←h,zA4]
  |cons d ks=>
   rw[hks] at h hr;dsimp only at h⊢
   by_cases h6:n.kind=6∧d.kids.isEmpty=true
   ·rw[if_pos h6] at h⊢;rw[zGn hM _ _ _ _ (fun e he=>hr e (List.mem_cons_of_mem _ he)) h];cases ks<;>rfl
   ·rw[if_neg h6] at h⊢;rw[zGn hM _ _ _ _ hr h];rfl
theorem zV9 (rs:List Rul)(nam vr frm:ByteArray)(args:List Trm)(k:Int)(hk:k=4∨k=5):zAk rs (.mk k nam vr frm args)=zDj rs nam vr frm (zA4 rs args):=by
 rw[zAk,if_neg (by omega),if_neg (by omega),if_neg (by omega)]
theorem zDl {rs:List Rul}{nam vr frm:ByteArray}{rows:List (List Tre)}{k:FK}(h:frmW frm.data.toList=some k):zDj rs nam vr frm (some rows)=fixW rs nam vr rows k:=by
 unfold zDj;rw[Option.bind_some,h]
theorem zNx {rs:List Rul}{nam vr frm:ByteArray}{rows:List (List Tre)}(h:frmW frm.data.toList=none):zDj rs nam vr frm (some rows)=opnW frm.data.toList rows:=by
 unfold zDj;rw[Option.bind_some,h]
theorem zP8 {n:Tre}{k:Nat}(h:zAt n=true)(hk:n.kind≠1)(hc:n.kind≠12)(hl:n.kids.length=k):zBr n.kind n.text (n.kids.map Tre.kids) k=some [n]:=by
 unfold zBr;rw[if_pos (by rw[List.length_map,hl]),zIp (kids_rows h hk)];have h1:=zFg h hc;cases n with
 |mk k t c ks=>
  have e1:c=0:=h1;rw[e1];rfl
theorem yAa (l:List UInt8):frmW (fenS.data.toList++l)=none:=by
 unfold frmW;rw[Option.map_eq_none_iff,List.find?_eq_none];intro p hp;simp only[zIr,List.mem_cons,List.not_mem_nil,or_false] at hp;rcases hp with rfl|rfl|rfl|rfl|rfl|rfl|rfl|rfl|rfl|rfl|rfl|rfl|rfl|rfl|rfl|rfl|rfl|rfl|rfl|rfl|rfl<;>
  simp[zCy,zC8,subS,supS,zCg,accS,juxS,infS,preS,posS,zE8,fenS]
theorem zYx (l:List UInt8):frmW (matS.data.toList++l)=none:=by
 unfold frmW;rw[Option.map_eq_none_iff,List.find?_eq_none];intro p hp;simp only[zIr,List.mem_cons,List.not_mem_nil,or_false] at hp;rcases hp with rfl|rfl|rfl|rfl|rfl|rfl|rfl|rfl|rfl|rfl|rfl|rfl|rfl|rfl|rfl|rfl|rfl|rfl|rfl|rfl|rfl<;>
  simp[zCy,zC8,subS,supS,zCg,accS,juxS,infS,preS,posS,zE8,matS]
theorem zTu {c:Nat}(h:c<10):Lib.decDigits c=[UInt8.ofNat (48+c)]:=by rw[Lib.decDigits,dif_pos h]
theorem yA5 {c:Nat}(h:¬c<10)(h2:c<100):Lib.decDigits c=[UInt8.ofNat (48+c/10),UInt8.ofNat (48+c%10)]:=by
 rw[Lib.decDigits,dif_neg h,zTu (by omega)];rfl
theorem zY5:∀c:Nat,c<10→Lib.atoiAll [UInt8.ofNat (48+c)]= .ok (c:Int):=by decide
theorem zXa:∀c:Nat,c<17→¬c<10→Lib.atoiAll [UInt8.ofNat (48+c/10),UInt8.ofNat (48+c%10)]= .ok (c:Int):=by decide
theorem zWs {c:Nat}(h:c<17):Lib.atoiAll (Lib.decDigits c)= .ok (c:Int):=by
 by_cases h2:c<10
 ·rw[zTu h2,zY5 c h2]
 ·rw[yA5 h2 (by omega),zXa c h h2]
end Go.Proofs.YtadcldfbmkfkaaaGreatDoor.Rn
