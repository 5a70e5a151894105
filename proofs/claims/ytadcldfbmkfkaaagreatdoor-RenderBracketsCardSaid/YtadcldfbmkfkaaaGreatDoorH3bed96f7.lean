/- newFinder: the rules that may apply to tokens. -/
import Derived.Test.YtadcldfbmkfkaaaGreatDoorH76e118a6
namespace Go.Proofs.YtadcldfbmkfkaaaGreatDoor.Ch
open Go.RowKit
def fitB (kind:Int)(s:List UInt8)(r:Rul):Bool:=decide (r.kind=kind)&&r.sym.toList==s
theorem zLb {rs:List Rul}{kind:Int}{s:List UInt8}{k:Nat}{x:Rul}(hx:rs[k]?=some x)(hq:fitB kind s x=true)(h:∀(j:Nat) y,rs[j]?=some y→j<k→fitB kind s y=false):zAc rs kind s=k:=by
 have hk:=(List.getElem?_eq_some_iff.1 hx).1;have:zBs rs kind s=some k:=by
  unfold zBs;rw[List.findIdx?_eq_some_iff_getElem];refine⟨hk,?_,fun j hj=>?_⟩
  ·have e:rs[k]=x:=by rw[gE hk] at hx;exact sj hx
   rw[e];exact hq
  ·have:=h j rs[j] (gE (by omega)) hj;unfold fitB at this;rw[this];simp
 unfold zAc;rw[this]
theorem zJb {rs:List Rul}{kind:Int}{s:List UInt8}(h:∀(j:Nat) y,rs[j]?=some y→fitB kind s y=false):zAc rs kind s= -1:=by
 have:zBs rs kind s=none:=by
  unfold zBs;rw[List.findIdx?_eq_none_iff];intro y hy;obtain⟨j,hj⟩:=List.mem_iff_getElem?.1 hy;exact h j y hj
 unfold zAc;rw[this]
set_option maxRecDepth 100000 in
set_option maxHeartbeats 800000 in
theorem zIf (g:Nat)(A:Option Addr)(cap:Nat)(rs:List Rul)(kind:Int)(s:ByteArray)(w:World)(hB:Blk w g 22 #[.slice A rs.length cap])(hR:zAi w A rs)(hn:rs.length≤1000000):Calls Tryz.prog 179 #[.int .i64 kind,.string s,.pointer (some ⟨g,0,none⟩)] w fun e w'=>e= .returned (.int .i64 (zAc rs kind s.toList))∧Below w.heap.size w w':=by
 have HR:=zh hR;have HB:=zh hB;have c0:=hB.cell 0;clear hB hR;go_enter Tryz.func179,Tryz.ntmps179;go_wp2_with fail;clear c0
 go_loopw [10] (fun i wr=>∃k:Nat,k≤rs.length∧i= .int .i64 k∧Hid (∀(j:Nat) x,rs[j]?=some x→j<k→fitB kind s.toList x=false)∧Hid (zAi wr A rs)∧Hid (Below w.heap.size w wr)) (fun i _=>rs.length -(intOf i).toNat)
 case atStart=>exact⟨0,by omega,rfl,(fun j _ _ h=>by omega),HR,Below.refl _ _⟩
 case round=>
  clear HR;obtain⟨k,hk,rfl,HJ,HR,H0⟩:=hrel
  by_cases hlt:k<rs.length
  ·obtain⟨x,hx⟩:∃x,rs[k]?=some x:=⟨_,gE hlt⟩
   obtain⟨hf,ad,rfl,hadl,c0,c1,c2,c3,c4,c5⟩:=HR.out.at_ hx;have HX:=zh hx;clear hx hf;have NR:=zh (HR.out.alloc (.cells x.c 64));have NB:=zh (H0.out.alloc H0.out.size (.cells x.c 64));clear HR;have step:Hid (fitB kind s.toList x=false→∀(j:Nat) y,rs[j]?=some y→j<k+1→fitB kind s.toList y=false):=fun hq j y hj h=>by
    rcases Nat.lt_or_ge j k with h'|h'
    ·exact HJ.out j y hj h'
    ·obtain rfl:j=k:=by omega
     rw[HX.out] at hj;obtain rfl:=sj hj;exact hq
   cases q1:(x.kind==kind)
   ·have HQ:=zh (show fitB kind s.toList x=false by unfold fitB;rw[show decide (x.kind=kind)=(x.kind==kind) from rfl,q1];rfl);go_wp2_with fail;go_roundw
    case rel=>exact⟨k+1,by omega,by go_num,zh (step.out HQ.out),NR,NB⟩
    case measure=>simp[intOf];omega
   ·cases q2:(x.sym.toList==s.toList)
    ·have HQ:=zh (show fitB kind s.toList x=false by unfold fitB;rw[q2,Bool.and_false]);go_wp2_with fail;go_roundw
     case rel=>exact⟨k+1,by omega,by go_num,zh (step.out HQ.out),NR,NB⟩
     case measure=>simp[intOf];omega
    ·have HQ:=zh (zLb (kind:=kind) (s:=s.toList) HX.out (by unfold fitB;rw[show decide (x.kind=kind)=(x.kind==kind) from rfl,q1,q2];rfl) HJ.out);go_wp2_with fail;go_ret;exact⟨zC1 HQ.out.symm,NB.out⟩
  ·have HQ:=zh (zJb (rs:=rs) (kind:=kind) (s:=s.toList) fun j y hj=>HJ.out j y hj (by have:=(List.getElem?_eq_some_iff.1 hj).1;omega));go_wp2_with fail;go_ret;exact⟨zC1 HQ.out.symm,H0.out⟩
def updV {α:Type}(v:Nat→α)(c:Nat)(u:α):Nat→α:=fun i=>if i=c then u else v i
def OwnF (w:World)(B:Nat)(v:Nat→Value)(xs:Nat→List Int):Prop:=(∀i,i<3→OwnI w B (v i) (xs i))∧∀i j,i<3→j<3→i≠j→∀b,(v i).ownBlock=some b→(v j).ownBlock≠some b
theorem OwnF.keep {w w':World}{B:Nat}{v:Nat→Value}{xs:Nat→List Int}(h:OwnF w B v xs)(hb:Below w.heap.size w w'):OwnF w' B v xs:=⟨fun i hi=>(h.1 i hi).keep hb,h.2⟩
theorem OwnF.grow {w w':World}{B c:Nat}{v:Nat→Value}{xs:Nat→List Int}{u:Value}{ys:List Int}(h:OwnF w B v xs)(hc:c<3)(hg:w.grownBy w' (v c).ownBlock)(hu:OwnI w' B u ys)(hl:u.ownBlock=(v c).ownBlock∨u.ownBlock=some w.heap.size):OwnF w' B (updV v c u) (updV xs c ys):=by
 have hlt:∀i,i<3→∀b,(v i).ownBlock=some b→b<w.heap.size:=fun i hi b hb=>(World.ownsRow.lt (h.1 i hi) b hb).2
 refine⟨fun i hi=>?_,fun i j hi hj hij b hb=>?_⟩
 ·unfold updV
  by_cases e:i=c
  ·rw[if_pos e,if_pos e];exact hu
  ·rw[if_neg e,if_neg e];refine World.ownsRow.kept (h.1 i hi) hg ?_;cases hv:(v i).ownBlock with
   |none=>exact .inl rfl
   |some b=>exact .inr fun e2=>h.2 i c hi hc e b hv e2.symm
 ·unfold updV at hb⊢
  by_cases ei:i=c
  ·rw[if_pos ei] at hb;rw[if_neg (fun ej=>hij (ei.trans ej.symm))];rcases hl with hl|hl
   ·rw[hb] at hl;exact h.2 c j hc hj (fun e=>hij (ei.trans e)) b hl.symm
   ·rw[hb] at hl;obtain rfl:=sj hl;intro e;have:=hlt j hj _ e;omega
  ·rw[if_neg ei] at hb
   by_cases ej:j=c
   ·rw[if_pos ej];rcases hl with hl|hl
    ·rw[hl];exact h.2 i c hi hc ei b hb
    ·rw[hl];intro e;have:=hlt i hi b hb;obtain rfl:=sj e;omega
   ·rw[if_neg ej];exact h.2 i j hi hj hij b hb
theorem zBj (w:World)(p:Addr)(u:Value):w.grownBy (w.setCell p u) (some p.block):=by
 have hs:(w.setCell p u).heap.size=w.heap.size:=by simp[World.setCell]
 refine⟨?_,?_,?_,Nat.le_of_eq hs.symm,fun i hi hne=>Below.heap_setCell w p u i (fun e=>hne (by rw[e]))⟩<;>rfl
theorem OwnF.set_ {w:World}{B:Nat}{v:Nat→Value}{xs:Nat→List Int}(h:OwnF w B v xs){p:Addr}(hp:p.block<B)(u:Value):OwnF (w.setCell p u) B v xs:=by
 refine⟨fun i hi=>World.ownsRow.kept (h.1 i hi) (zBj w p u) ?_,h.2⟩;cases hv:(v i).ownBlock with
 |none=>exact .inl rfl
 |some b=>
  refine .inr fun e=>?_
  have:=(World.ownsRow.lt (h.1 i hi) b hv).1;have:=sj e;omega
abbrev finV (A:Option Addr)(n cap:Nat)(T:Option Addr)(m cT:Nat)(v:Nat→Value)(jx:Int):Array Value:= #[.slice A n cap,.slice T m cT,v 0,v 1,v 2,.int .i64 jx]
abbrev finZ:Array Value:= #[.slice none 0 0,.slice none 0 0,.slice none 0 0,.slice none 0 0,.slice none 0 0,.int .i64 0]
def InvN (w:World)(A:Option Addr)(n cap:Nat)(T:Option Addr)(m cT:Nat)(v:Nat→Value)(xs:Nat→List Int)(c:Nat)(x:Int):List Bool→Nat×Value→World→Prop
 |[bb,ba,bs],gx,wq=>Blk wq w.heap.size 22 #[.slice A n cap]∧Blk wq (w.heap.size+1) 176 finZ∧Blk wq (w.heap.size+2) 176 (finV A n cap T m cT (if bs then updV v c gx.2 else v) (-1))∧
   OwnF wq (w.heap.size+3) (if ba then updV v c gx.2 else v) (if ba then updV xs c (xs c++[x]) else xs)∧(bb=true→ba=false→Blk wq gx.1 3 #[.int .i64 x])∧Below w.heap.size w wq
 |_,_,_=>False
section
variable {w : World} {A : Option Addr} {n cap : Nat} {T : Option Addr} {m cT : Nat} {v : Nat → Value} {xs : Nat → List Int} {c : Nat} {x : Int} {gx : Nat × Value} {wq w' : World} {bb ba bs : Bool}
theorem InvN.keep (h:InvN w A n cap T m cT v xs c x [bb,ba,bs] gx wq)(hb:Below wq.heap.size wq w'):InvN w A n cap T m cT v xs c x [bb,ba,bs] gx w':=by
 obtain⟨i0,i1,i2,i3,i4,i5⟩:=h;exact⟨_root_.Go.Proofs.YtadcldfbmkfkaaaGreatDoor.keep hb i0,_root_.Go.Proofs.YtadcldfbmkfkaaaGreatDoor.keep hb i1,_root_.Go.Proofs.YtadcldfbmkfkaaaGreatDoor.keep hb i2,i3.keep hb,fun h1 h2=>_root_.Go.Proofs.YtadcldfbmkfkaaaGreatDoor.keep hb (i4 h1 h2),i5.trans (hb.mono i5.size)⟩
theorem InvN.build (h:InvN w A n cap T m cT v xs c x [bb,false,false] gx wq):InvN w A n cap T m cT v xs c x [true,false,false] (wq.heap.size,gx.2) (wq.alloc (.cells #[.int .i64 x] 3)):=by
 obtain⟨i0,i1,i2,i3,_,i5⟩:=h;have hb:=zA0 wq (.cells #[.int .i64 x] 3);exact⟨_root_.Go.Proofs.YtadcldfbmkfkaaaGreatDoor.keep hb i0,_root_.Go.Proofs.YtadcldfbmkfkaaaGreatDoor.keep hb i1,_root_.Go.Proofs.YtadcldfbmkfkaaaGreatDoor.keep hb i2,i3.keep hb,fun _ _=>Blk.new _ _ _,i5.trans (hb.mono i5.size)⟩
theorem InvN.append (h:InvN w A n cap T m cT v xs c x [true,false,false] gx wq)(hc:c<3){u:Value}(hu:OwnI w' (w.heap.size+3) u (xs c++[x]))(hg:wq.grownBy w' (v c).ownBlock)(hl:u.ownBlock=(v c).ownBlock∨u.ownBlock=some wq.heap.size):InvN w A n cap T m cT v xs c x [true,true,false] (gx.1,u) w':=by
 obtain⟨i0,i1,i2,i3,_,i5⟩:=h;have hlo:∀b,(v c).ownBlock=some b→w.heap.size+3≤b:=fun b hb=>(World.ownsRow.lt (i3.1 c hc) b hb).1
 have far:∀k,k<w.heap.size+3→some k≠(v c).ownBlock:=fun k hk e=>by have:=hlo k e.symm;omega
 exact⟨i0.grown hg (far _ (by omega)),i1.grown hg (far _ (by omega)),i2.grown hg (far _ (by omega)),i3.grow hc hg hu hl,(fun _ h=>by cases h),i5.grown hg i5.size (fun k hk=>by have:=hlo k hk;omega)⟩
theorem InvN.store (h:InvN w A n cap T m cT v xs c x [true,true,false] gx wq)(hc:c<3):InvN w A n cap T m cT v xs c x [true,true,true] gx (wq.setCell ⟨w.heap.size+2,2+c,none⟩ gx.2):=by
 obtain⟨i0,i1,i2,i3,_,i5⟩:=h;refine⟨i0.far (by show _≠w.heap.size+2;omega) _,i1.far (by show _≠w.heap.size+2;omega) _,?_,i3.set_ (by show w.heap.size+2<_;omega) _,(fun _ h=>by cases h),i5.setCell (p:=⟨w.heap.size+2,2+c,none⟩) (by show w.heap.size≤w.heap.size+2;omega) _⟩;have:=i2.set_ (2+c) gx.2
 match c,hc with
 |0,_=>exact this
 |1,_=>exact this
 |2,_=>exact this
theorem InvN.done (h:InvN w A n cap T m cT v xs c x [true,true,true] gx wq):InvN w A n cap T m cT (updV v c gx.2) (updV xs c (xs c++[x])) 0 0 [false,false,false] (0,.nilFunc) wq:=by
 obtain⟨i0,i1,i2,i3,_,i5⟩:=h;exact⟨i0,i1,i2,i3,(fun h=>by cases h),i5⟩
theorem InvN.again (h:InvN w A n cap T m cT v xs c x [false,false,false] gx wq)(c':Nat)(x':Int)(gx':Nat×Value):InvN w A n cap T m cT v xs c' x' [false,false,false] gx' wq:=by
 obtain⟨i0,i1,i2,i3,_,i5⟩:=h;exact⟨i0,i1,i2,i3,(fun h=>by cases h),i5⟩
end
theorem zVn {w:World}{B:Nat}{v:Value}{xs:List Int}{m:Nat}(h:OwnI w B v xs)(hm:xs.length=m):∃I cI,v= .slice I m cI∧zF9 w I xs:=by
 obtain⟨I,cI,h1,_,_,h2⟩:=h.form;exact⟨I,cI,by rw[h1,hm],h2⟩
theorem zOk {w:World}{B:Nat}{v:Value}{xs:List Int}{I:Option Addr}{m cI:Nat}(h:OwnI w B v xs)(hv:v= .slice I m cI):zF9 w I xs:=by
 obtain⟨I',cI',h1,_,_,h2⟩:=h.form;rw[hv] at h1;injection h1 with h3;rw[h3];exact h2
def FinP (A T:Option Addr)(rs:List Rul)(ts:List ByteArray)(w:World)(e:Ending)(w':World):Prop:=∃F:Fin,e= .returned (.agg (F.c rs.length ts.length (zAc rs 4 [])))∧zI5 w' F rs ts∧(F.R=A∧F.T=T)∧Below w.heap.size w w'
theorem zHh {rs:List Rul}{ts:List ByteArray}{kind:Int}{k:Nat}{t:ByteArray}(ht:ts[k]?=some t):(zD1 rs ts kind).take (k+1)=(zD1 rs ts kind).take k++[zAc rs kind t.toList]:=by
 unfold zD1;rw[List.take_add_one,List.getElem?_map,ht];rfl
def xsN (rs:List Rul)(ts:List ByteArray)(k:Nat):Nat→List Int:=fun i=>(zD1 rs ts (i+1:Nat)).take k
theorem zH7 {rs:List Rul}{ts:List ByteArray}{k i:Nat}(hk:k≤ts.length):(xsN rs ts k i).length=k:=by unfold xsN;rw[List.length_take,zGo];omega
theorem zXq {rs:List Rul}{ts:List ByteArray}{k:Nat}{t:ByteArray}(ht:ts[k]?=some t):∀i,i<3→(updV (updV (updV (xsN rs ts k) 0 (xsN rs ts k 0++[zAc rs 1 t.toList])) 1 (updV (xsN rs ts k) 0 (xsN rs ts k 0++[zAc rs 1 t.toList]) 1++[zAc rs 2 t.toList])) 2 (updV (updV (xsN rs ts k) 0 (xsN rs ts k 0++[zAc rs 1 t.toList])) 1 (updV (xsN rs ts k) 0 (xsN rs ts k 0++[zAc rs 1 t.toList]) 1++[zAc rs 2 t.toList]) 2++[zAc rs 3 t.toList])) i=xsN rs ts (k+1) i:=by
 intro i hi
 match i,hi with
 |0,_=>exact(zHh (kind:=1) ht).symm
 |1,_=>exact(zHh (kind:=2) ht).symm
 |2,_=>exact(zHh (kind:=3) ht).symm
theorem OwnF.same {w:World}{B:Nat}{v:Nat→Value}{xs ys:Nat→List Int}(h:OwnF w B v xs)(he:∀i,i<3→xs i=ys i):OwnF w B v ys:=⟨fun i hi=>by rw[←he i hi];exact h.1 i hi,h.2⟩
theorem InvN.drew {w:World}{A:Option Addr}{n cap:Nat}{T:Option Addr}{m cT:Nat}{v:Nat→Value}{xs:Nat→List Int}{c:Nat}{x:Int}{gx:Nat×Value}{wq:World}{bb ba bs:Bool}(h:InvN w A n cap T m cT v xs c x [bb,ba,bs] gx wq):InvN w A n cap T m cT v xs c x [bb,ba,bs] gx wq.drew:=by
 obtain⟨i0,i1,i2,i3,i4,i5⟩:=h;exact⟨i0,i1,i2,i3,i4,zA2 i5⟩
set_option maxRecDepth 100000 in
set_option maxHeartbeats 4000000 in
theorem zLs (A T:Option Addr)(cap cT:Nat)(rs:List Rul)(ts:List ByteArray)(w:World)(hR:zAi w A rs)(hT:zCj w T ts)(hn:rs.length≤1000000)(hm:ts.length≤1000000):Calls Tryz.prog 141 #[.slice A rs.length cap,.slice T ts.length cT] w (FinP A T rs ts w):=by
 obtain⟨i0,hi,hz0,hz1,hz2⟩:=info_parts zGp;have HR:=zh hR;have HT:=zh hT;have hmf:∀(fn:Fn) (first cap:Array Value) (w:World),(Instr.makeFunc fn first cap).run Tryz.prog w= .ok (.func fn first cap) w:=fun _ _ _ _=>rfl
 clear hR hT;go_enter Tryz.func141,Tryz.ntmps141;go_wp2_with fail;have HI:Hid (InvN w A rs.length cap T ts.length cT (fun _=>.slice none 0 0) (xsN rs ts 0) 0 0 [false,false,false] (0,.nilFunc) (((w.alloc (.cells #[.slice A rs.length cap] 22)).alloc (.cells finZ 176)).alloc (.cells (finV A rs.length cap T ts.length cT (fun _=>.slice none 0 0) (-1)) 176))):=by
  have hb:=zA0 w (.cells #[.slice A rs.length cap] 22);refine⟨((Blk.new w _ _).alloc _).alloc _,?_,?_,⟨fun i _=>?_,fun i j _ _ _ b hb=>by cases hb⟩,(fun h=>by cases h),(hb.alloc hb.size _).alloc (by simp;omega) _⟩
  ·have:=(Blk.new (w.alloc (.cells #[.slice A rs.length cap] 22)) 176 finZ).alloc (.cells (finV A rs.length cap T ts.length cT (fun _=>.slice none 0 0) (-1)) 176)
   simpa using this
  ·have:=Blk.new ((w.alloc (.cells #[.slice A rs.length cap] 22)).alloc (.cells finZ 176)) 176 (finV A rs.length cap T ts.length cT (fun _=>.slice none 0 0) (-1))
   simpa using this
  ·show OwnI _ _ (.slice none 0 0) (xsN rs ts 0 i);rw[show xsN rs ts 0 i=[] from List.take_zero ..];exact OwnI.nil _ _
 generalize ((w.alloc (.cells _ 22)).alloc (.cells _ 176)).alloc (.cells _ 176)=w1 at*;clear hmf
 go_loopw [15] (fun i wr=>∃(k:Nat) (v:Nat→Value),k≤ts.length∧i= .int .i64 k∧Hid (InvN w A rs.length cap T ts.length cT v (xsN rs ts k) 0 0 [false,false,false] (0,.nilFunc) wr)) (fun i _=>ts.length -(intOf i).toNat)
 case atStart=>exact⟨0,_,by omega,rfl,HI⟩
 case round=>
  clear HI;obtain⟨k,v,hk,rfl,HI⟩:=hrel
  by_cases hlt:k<ts.length
  ·obtain⟨s,hs⟩:∃s,ts[k]?=some s:=⟨_,gE hlt⟩
   obtain⟨hf,ad,rfl,hadl,c0⟩:=(HT.out.keep HI.out.2.2.2.2.2) k s hs;have HSN:=zh (zXq (rs:=rs) hs);have HX0:=zh (zH7 (rs:=rs) (ts:=ts) (k:=k) (i:=0) hk);have HX1:=zh (show(updV (xsN rs ts k) 0 (xsN rs ts k 0++[zAc rs 1 s.toList]) 1).length=k from zH7 (rs:=rs) (i:=1) hk);have HX2:=zh (show(updV (updV (xsN rs ts k) 0 (xsN rs ts k 0++[zAc rs 1 s.toList])) 1 (updV (xsN rs ts k) 0 (xsN rs ts k 0++[zAc rs 1 s.toList]) 1++[zAc rs 2 s.toList]) 2).length=k from zH7 (rs:=rs) (i:=2) hk);clear hs hf;go_upto_region 6 with(fail)
   clear c0;refine zB1 (X:=Nat×Value) (by kernel_rfl) _ (fun gx0=>[.pointer (some ⟨w.heap.size+2,2,none⟩),(v 0),.func (.func 179) #[] #[.pointer (some ⟨w.heap.size,0,none⟩)],.string s,.int .i64 (zAc rs 1 s.toList),.slice (some ⟨gx0.1,0,none⟩) 1 1,gx0.2,.pointer (some ⟨w.heap.size+2,2,none⟩),undef]) [true,true,true,true,true,true,true,true,true] [5,6,8] (InvN w A rs.length cap (some ad) ts.length cT v (xsN rs ts k) 0 (zAc rs 1 s.toList)) (0,.nilFunc) (by kernel_rfl) (fun gx0=>by simp[fin,zAm,zAb,List.range,List.range.loop,Act.put];rfl) (fun _=>by kernel_rfl) (by kernel_rfl) (InvN.drew (HI.out.again _ _ _)) ?_ ?_
   ·refine⟨fun L gx0 wq0 hL hb ha hI=>?_,fun L gx0 wq0 hL hb ha hI=>?_,fun L gx0 wq0 hL hb ha hI=>?_,fun L gx0 wq0 hL hb ha hI=>?_,fun L gx0 wq0 hL hb ha hI=>?_,fun L gx0 wq0 hL hb ha hI=>?_,fun L gx0 wq0 hL hb ha hI=>?_,fun L gx0 wq0 hL hb ha hI=>?_,fun L gx0 wq0 hL hb ha hI=>?_,trivial⟩
    ·exact jq (.pointer (some ⟨w.heap.size+2,2,none⟩)) wq0 (by simp[go_sem]) rfl hI
    ·have e8:L 8=false:=ha 8 (by kernel_rfl);have cJ:wq0.cell? ⟨w.heap.size+2,2,none⟩=some (v 0):=by
      have h:=hI.2.2.1.cell 2;simp only[e8] at h;exact h
     exact jq (v 0) wq0 (by simp[go_sem,cJ]) rfl hI
    ·exact jq (.func (.func 179) #[] #[.pointer (some ⟨w.heap.size,0,none⟩)]) wq0 (by kernel_rfl) rfl hI
    ·exact jq (.string s) wq0 (by kernel_rfl) rfl hI
    ·refine jc 179 (#[.int .i64 1,.string s,.pointer (some ⟨w.heap.size,0,none⟩)]) wq0 (by kernel_rfl) ((zIf w.heap.size A cap rs 1 s wq0 hI.1 (HR.out.keep hI.2.2.2.2.2) hn).mono ?_);rintro e wa ⟨rfl,hb5⟩;exact⟨_,rfl,gx0,rfl,zA5.same,InvN.keep hI hb5⟩
    ·have e5:L 5=false:=hL;have e6:L 6=false:=ha 6 (by kernel_rfl);have e8:L 8=false:=ha 8 (by kernel_rfl);simp only[List.map,e5,e6,e8] at hI⊢;exact jv (.slice (some ⟨wq0.heap.size,0,none⟩) 1 1) (wq0.alloc (.cells #[.int .i64 (zAc rs 1 s.toList)] 3)) (by simp[go_sem]) ⟨(wq0.heap.size,gx0.2),rfl,(zA5.of_same ⟨jK,jK,jK,jK,jK,.inl rfl,(by first|exact jK|exact .inr (.inl (by kernel_rfl))),jK,jK,trivial⟩),InvN.build hI⟩
    ·have e5:L 5=true:=hb 5 (by kernel_rfl);have e6:L 6=false:=hL;have e8:L 8=false:=ha 8 (by kernel_rfl);simp only[List.map,e5,e6,e8] at hI⊢;have hO:OwnI wq0 (w.heap.size+3) (v 0) ((xsN rs ts k) 0):=hI.2.2.2.1.1 0 (by omega);have hB:=hI.2.2.2.2.1 rfl rfl;have hS:=hI.2.2.2.2.2.size;have hX:=HX0.out;have hZ:w.heap.size+3≤wq0.heap.size:=hI.2.2.1.lt;exact zBg (.tmp 20) (.tmp 24) 32 rfl (w.heap.size+3) 3 i0 (.int .i64 0) 1 8 Tryz.underlying32 hi hz0 hz1 hz2 rfl (by decide) (v 0) _ _ rfl hO wq0.heap.size (some ⟨gx0.1,0,none⟩) 1 1 [.int .i64 (zAc rs 1 s.toList)] rfl (zH4 hB) (by intro u hu;simp at hu;subst hu;rfl) (by rw[hX];unfold maxLen;omega) (by rw[hX];omega) hZ (fun v' w' h2 h3 h4=>⟨(gx0.1,v'),rfl,(zA5.of_same ⟨jK,jK,jK,jK,jK,(by first|exact jK|exact .inr (.inl (by kernel_rfl))),.inl rfl,jK,jK,trivial⟩),InvN.append hI (by omega) (zJh rfl h2) h3 h4⟩)
    ·exact jq (.pointer (some ⟨w.heap.size+2,2,none⟩)) wq0 (by simp[go_sem]) rfl hI
    ·have e5:L 5=true:=hb 5 (by kernel_rfl);have e6:L 6=true:=hb 6 (by kernel_rfl);have e8:L 8=false:=hL;simp only[List.map,e5,e6,e8] at hI⊢;have cJ:wq0.cell? ⟨w.heap.size+2,2,none⟩=some (v 0):=hI.2.2.1.cell 2;have fJ:=hI.2.2.1.frozen 2;obtain⟨gb,gu⟩:=gx0;obtain⟨A5,c5,e9,_⟩:=(show OwnI wq0 (w.heap.size+3) gu ((xsN rs ts k) 0++[(zAc rs 1 s.toList)]) from hI.2.2.2.1.1 0 (by omega)).form;subst e9;exact Gives.skip (w':=wq0.setCell ⟨w.heap.size+2,2,none⟩ (.slice A5 ((xsN rs ts k) 0++[(zAc rs 1 s.toList)]).length c5)) (by simp[go_sem,cJ,fJ]) ⟨_,rfl,zA5.same,InvN.store hI (by omega)⟩
   ·intro gx0 wq0 hI;have HI:=zh (InvN.done hI);clear hI;go_upto_region 7 with(fail)
    refine zB1 (X:=Nat×Value) (by kernel_rfl) _ (fun gx1=>[.pointer (some ⟨w.heap.size+2,3,none⟩),((updV v 0 gx0.2) 1),.func (.func 179) #[] #[.pointer (some ⟨w.heap.size,0,none⟩)],.string s,.int .i64 (zAc rs 2 s.toList),.slice (some ⟨gx1.1,0,none⟩) 1 1,gx1.2,.pointer (some ⟨w.heap.size+2,3,none⟩),undef]) [true,true,true,true,true,true,true,true,true] [5,6,8] (InvN w A rs.length cap (some ad) ts.length cT (updV v 0 gx0.2) (updV (xsN rs ts k) 0 (xsN rs ts k 0++[zAc rs 1 s.toList])) 1 (zAc rs 2 s.toList)) (0,.nilFunc) (by kernel_rfl) (fun gx1=>by simp[fin,zAm,zAb,List.range,List.range.loop,Act.put];rfl) (fun _=>by kernel_rfl) (by kernel_rfl) (InvN.drew (HI.out.again _ _ _)) ?_ ?_
    ·refine⟨fun L gx1 wq1 hL hb ha hI=>?_,fun L gx1 wq1 hL hb ha hI=>?_,fun L gx1 wq1 hL hb ha hI=>?_,fun L gx1 wq1 hL hb ha hI=>?_,fun L gx1 wq1 hL hb ha hI=>?_,fun L gx1 wq1 hL hb ha hI=>?_,fun L gx1 wq1 hL hb ha hI=>?_,fun L gx1 wq1 hL hb ha hI=>?_,fun L gx1 wq1 hL hb ha hI=>?_,trivial⟩
     ·exact jq (.pointer (some ⟨w.heap.size+2,3,none⟩)) wq1 (by simp[go_sem]) rfl hI
     ·have e8:L 8=false:=ha 8 (by kernel_rfl);have cJ:wq1.cell? ⟨w.heap.size+2,3,none⟩=some ((updV v 0 gx0.2) 1):=by
       have h:=hI.2.2.1.cell 3;simp only[e8] at h;exact h
      exact jq ((updV v 0 gx0.2) 1) wq1 (by simp[go_sem,cJ]) rfl hI
     ·exact jq (.func (.func 179) #[] #[.pointer (some ⟨w.heap.size,0,none⟩)]) wq1 (by kernel_rfl) rfl hI
     ·exact jq (.string s) wq1 (by kernel_rfl) rfl hI
     ·refine jc 179 (#[.int .i64 2,.string s,.pointer (some ⟨w.heap.size,0,none⟩)]) wq1 (by kernel_rfl) ((zIf w.heap.size A cap rs 2 s wq1 hI.1 (HR.out.keep hI.2.2.2.2.2) hn).mono ?_);rintro e wa ⟨rfl,hb5⟩;exact⟨_,rfl,gx1,rfl,zA5.same,InvN.keep hI hb5⟩
     ·have e5:L 5=false:=hL;have e6:L 6=false:=ha 6 (by kernel_rfl);have e8:L 8=false:=ha 8 (by kernel_rfl);simp only[List.map,e5,e6,e8] at hI⊢;exact jv (.slice (some ⟨wq1.heap.size,0,none⟩) 1 1) (wq1.alloc (.cells #[.int .i64 (zAc rs 2 s.toList)] 3)) (by simp[go_sem]) ⟨(wq1.heap.size,gx1.2),rfl,(zA5.of_same ⟨jK,jK,jK,jK,jK,.inl rfl,(by first|exact jK|exact .inr (.inl (by kernel_rfl))),jK,jK,trivial⟩),InvN.build hI⟩
     ·have e5:L 5=true:=hb 5 (by kernel_rfl);have e6:L 6=false:=hL;have e8:L 8=false:=ha 8 (by kernel_rfl);simp only[List.map,e5,e6,e8] at hI⊢;have hO:OwnI wq1 (w.heap.size+3) ((updV v 0 gx0.2) 1) ((updV (xsN rs ts k) 0 (xsN rs ts k 0++[zAc rs 1 s.toList])) 1):=hI.2.2.2.1.1 1 (by omega);have hB:=hI.2.2.2.2.1 rfl rfl;have hS:=hI.2.2.2.2.2.size;have hX:=HX1.out;have hZ:w.heap.size+3≤wq1.heap.size:=hI.2.2.1.lt;exact zBg (.tmp 28) (.tmp 32) 32 rfl (w.heap.size+3) 3 i0 (.int .i64 0) 1 8 Tryz.underlying32 hi hz0 hz1 hz2 rfl (by decide) ((updV v 0 gx0.2) 1) _ _ rfl hO wq1.heap.size (some ⟨gx1.1,0,none⟩) 1 1 [.int .i64 (zAc rs 2 s.toList)] rfl (zH4 hB) (by intro u hu;simp at hu;subst hu;rfl) (by rw[hX];unfold maxLen;omega) (by rw[hX];omega) hZ (fun v' w' h2 h3 h4=>⟨(gx1.1,v'),rfl,(zA5.of_same ⟨jK,jK,jK,jK,jK,(by first|exact jK|exact .inr (.inl (by kernel_rfl))),.inl rfl,jK,jK,trivial⟩),InvN.append hI (by omega) (zJh rfl h2) h3 h4⟩)
     ·exact jq (.pointer (some ⟨w.heap.size+2,3,none⟩)) wq1 (by simp[go_sem]) rfl hI
     ·have e5:L 5=true:=hb 5 (by kernel_rfl);have e6:L 6=true:=hb 6 (by kernel_rfl);have e8:L 8=false:=hL;simp only[List.map,e5,e6,e8] at hI⊢;have cJ:wq1.cell? ⟨w.heap.size+2,3,none⟩=some ((updV v 0 gx0.2) 1):=hI.2.2.1.cell 3;have fJ:=hI.2.2.1.frozen 3;obtain⟨gb,gu⟩:=gx1;obtain⟨A5,c5,e9,_⟩:=(show OwnI wq1 (w.heap.size+3) gu ((updV (xsN rs ts k) 0 (xsN rs ts k 0++[zAc rs 1 s.toList])) 1++[(zAc rs 2 s.toList)]) from hI.2.2.2.1.1 1 (by omega)).form;subst e9;exact Gives.skip (w':=wq1.setCell ⟨w.heap.size+2,3,none⟩ (.slice A5 ((updV (xsN rs ts k) 0 (xsN rs ts k 0++[zAc rs 1 s.toList])) 1++[(zAc rs 2 s.toList)]).length c5)) (by simp[go_sem,cJ,fJ]) ⟨_,rfl,zA5.same,InvN.store hI (by omega)⟩
    ·intro gx1 wq1 hI;have HI:=zh (InvN.done hI);clear hI;go_upto_region 8 with(fail)
     refine zB1 (X:=Nat×Value) (by kernel_rfl) _ (fun gx2=>[.pointer (some ⟨w.heap.size+2,4,none⟩),((updV (updV v 0 gx0.2) 1 gx1.2) 2),.func (.func 179) #[] #[.pointer (some ⟨w.heap.size,0,none⟩)],.string s,.int .i64 (zAc rs 3 s.toList),.slice (some ⟨gx2.1,0,none⟩) 1 1,gx2.2,.pointer (some ⟨w.heap.size+2,4,none⟩),undef]) [true,true,true,true,true,true,true,true,true] [5,6,8] (InvN w A rs.length cap (some ad) ts.length cT (updV (updV v 0 gx0.2) 1 gx1.2) (updV (updV (xsN rs ts k) 0 (xsN rs ts k 0++[zAc rs 1 s.toList])) 1 ((updV (xsN rs ts k) 0 (xsN rs ts k 0++[zAc rs 1 s.toList])) 1++[zAc rs 2 s.toList])) 2 (zAc rs 3 s.toList)) (0,.nilFunc) (by kernel_rfl) (fun gx2=>by simp[fin,zAm,zAb,List.range,List.range.loop,Act.put];rfl) (fun _=>by kernel_rfl) (by kernel_rfl) (InvN.drew (HI.out.again _ _ _)) ?_ ?_
     ·refine⟨fun L gx2 wq2 hL hb ha hI=>?_,fun L gx2 wq2 hL hb ha hI=>?_,fun L gx2 wq2 hL hb ha hI=>?_,fun L gx2 wq2 hL hb ha hI=>?_,fun L gx2 wq2 hL hb ha hI=>?_,fun L gx2 wq2 hL hb ha hI=>?_,fun L gx2 wq2 hL hb ha hI=>?_,fun L gx2 wq2 hL hb ha hI=>?_,fun L gx2 wq2 hL hb ha hI=>?_,trivial⟩
      ·exact jq (.pointer (some ⟨w.heap.size+2,4,none⟩)) wq2 (by simp[go_sem]) rfl hI
      ·have e8:L 8=false:=ha 8 (by kernel_rfl);have cJ:wq2.cell? ⟨w.heap.size+2,4,none⟩=some ((updV (updV v 0 gx0.2) 1 gx1.2) 2):=by
        have h:=hI.2.2.1.cell 4;simp only[e8] at h;exact h
       exact jq ((updV (updV v 0 gx0.2) 1 gx1.2) 2) wq2 (by simp[go_sem,cJ]) rfl hI
      ·exact jq (.func (.func 179) #[] #[.pointer (some ⟨w.heap.size,0,none⟩)]) wq2 (by kernel_rfl) rfl hI
      ·exact jq (.string s) wq2 (by kernel_rfl) rfl hI
      ·refine jc 179 (#[.int .i64 3,.string s,.pointer (some ⟨w.heap.size,0,none⟩)]) wq2 (by kernel_rfl) ((zIf w.heap.size A cap rs 3 s wq2 hI.1 (HR.out.keep hI.2.2.2.2.2) hn).mono ?_);rintro e wa ⟨rfl,hb5⟩;exact⟨_,rfl,gx2,rfl,zA5.same,InvN.keep hI hb5⟩
      ·have e5:L 5=false:=hL;have e6:L 6=false:=ha 6 (by kernel_rfl);have e8:L 8=false:=ha 8 (by kernel_rfl);simp only[List.map,e5,e6,e8] at hI⊢;exact jv (.slice (some ⟨wq2.heap.size,0,none⟩) 1 1) (wq2.alloc (.cells #[.int .i64 (zAc rs 3 s.toList)] 3)) (by simp[go_sem]) ⟨(wq2.heap.size,gx2.2),rfl,(zA5.of_same ⟨jK,jK,jK,jK,jK,.inl rfl,(by first|exact jK|exact .inr (.inl (by kernel_rfl))),jK,jK,trivial⟩),InvN.build hI⟩
      ·have e5:L 5=true:=hb 5 (by kernel_rfl);have e6:L 6=false:=hL;have e8:L 8=false:=ha 8 (by kernel_rfl);simp only[List.map,e5,e6,e8] at hI⊢;have hO:OwnI wq2 (w.heap.size+3) ((updV (updV v 0 gx0.2) 1 gx1.2) 2) ((updV (updV (xsN rs ts k) 0 (xsN rs ts k 0++[zAc rs 1 s.toList])) 1 ((updV (xsN rs ts k) 0 (xsN rs ts k 0++[zAc rs 1 s.toList])) 1++[zAc rs 2 s.toList])) 2):=hI.2.2.2.1.1 2 (by omega);have hB:=hI.2.2.2.2.1 rfl rfl;have hS:=hI.2.2.2.2.2.size;have hX:=HX2.out;have hZ:w.heap.size+3≤wq2.heap.size:=hI.2.2.1.lt;exact zBg (.tmp 36) (.tmp 40) 32 rfl (w.heap.size+3) 3 i0 (.int .i64 0) 1 8 Tryz.underlying32 hi hz0 hz1 hz2 rfl (by decide) ((updV (updV v 0 gx0.2) 1 gx1.2) 2) _ _ rfl hO wq2.heap.size (some ⟨gx2.1,0,none⟩) 1 1 [.int .i64 (zAc rs 3 s.toList)] rfl (zH4 hB) (by intro u hu;simp at hu;subst hu;rfl) (by rw[hX];unfold maxLen;omega) (by rw[hX];omega) hZ (fun v' w' h2 h3 h4=>⟨(gx2.1,v'),rfl,(zA5.of_same ⟨jK,jK,jK,jK,jK,(by first|exact jK|exact .inr (.inl (by kernel_rfl))),.inl rfl,jK,jK,trivial⟩),InvN.append hI (by omega) (zJh rfl h2) h3 h4⟩)
      ·exact jq (.pointer (some ⟨w.heap.size+2,4,none⟩)) wq2 (by simp[go_sem]) rfl hI
      ·have e5:L 5=true:=hb 5 (by kernel_rfl);have e6:L 6=true:=hb 6 (by kernel_rfl);have e8:L 8=false:=hL;simp only[List.map,e5,e6,e8] at hI⊢;have cJ:wq2.cell? ⟨w.heap.size+2,4,none⟩=some ((updV (updV v 0 gx0.2) 1 gx1.2) 2):=hI.2.2.1.cell 4;have fJ:=hI.2.2.1.frozen 4;obtain⟨gb,gu⟩:=gx2;obtain⟨A5,c5,e9,_⟩:=(show OwnI wq2 (w.heap.size+3) gu ((updV (updV (xsN rs ts k) 0 (xsN rs ts k 0++[zAc rs 1 s.toList])) 1 ((updV (xsN rs ts k) 0 (xsN rs ts k 0++[zAc rs 1 s.toList])) 1++[zAc rs 2 s.toList])) 2++[(zAc rs 3 s.toList)]) from hI.2.2.2.1.1 2 (by omega)).form;subst e9;exact Gives.skip (w':=wq2.setCell ⟨w.heap.size+2,4,none⟩ (.slice A5 ((updV (updV (xsN rs ts k) 0 (xsN rs ts k 0++[zAc rs 1 s.toList])) 1 ((updV (xsN rs ts k) 0 (xsN rs ts k 0++[zAc rs 1 s.toList])) 1++[zAc rs 2 s.toList])) 2++[(zAc rs 3 s.toList)]).length c5)) (by simp[go_sem,cJ,fJ]) ⟨_,rfl,zA5.same,InvN.store hI (by omega)⟩
     ·intro gx2 wq2 hI;have HI:=zh (InvN.done hI);clear hI;go_wp2_with fail;go_roundw
      case rel=>exact⟨k+1,_,by omega,by go_num,zh ⟨HI.out.1,HI.out.2.1,HI.out.2.2.1,HI.out.2.2.2.1.same HSN.out,(fun h=>by cases h),HI.out.2.2.2.2.2⟩⟩
      case measure=>simp[intOf];omega
  ·obtain rfl:k=ts.length:=by omega
   have K2:Hid (Blk wr (w.heap.size+1+1) 176 #[.slice A rs.length cap,.slice T ts.length cT,v 0,v 1,v 2,.int .i64 (-1)]):=zh HI.out.2.2.1;have K1:=zh HI.out.2.1;have K0:=zh HI.out.1;have H0:=zh HI.out.2.2.2.2.2;have HO:Hid (OwnF wr (w.heap.size+3) v (xsN rs ts ts.length)):=zh HI.out.2.2.2.1;clear HI;obtain⟨I,cI,e0,hI0⟩:=zVn (show OwnI wr (w.heap.size+3) (v 0) (xsN rs ts ts.length 0) from HO.out.1 0 (by omega)) (zH7 (Nat.le_refl _));obtain⟨J,cJ,e1,hI1⟩:=zVn (show OwnI wr (w.heap.size+3) (v 1) (xsN rs ts ts.length 1) from HO.out.1 1 (by omega)) (zH7 (Nat.le_refl _));obtain⟨M,cM,e2,hI2⟩:=zVn (show OwnI wr (w.heap.size+3) (v 2) (xsN rs ts ts.length 2) from HO.out.1 2 (by omega)) (zH7 (Nat.le_refl _));have HKEY:Hid (∀W,OwnF W (w.heap.size+3) v (xsN rs ts ts.length)→Below w.heap.size w W→zI5 W ⟨A,cap,T,cT,I,cI,J,cJ,M,cM⟩ rs ts):=fun W hO hB=>by
    refine⟨HR.out.keep hB,HT.out.keep hB,?_,?_,?_⟩
    ·have:=zOk (hO.1 0 (by omega)) e0
     rwa [show xsN rs ts ts.length 0=zD1 rs ts 1 from List.take_of_length_le (by rw[zGo];omega)] at this
    ·have:=zOk (hO.1 1 (by omega)) e1
     rwa [show xsN rs ts ts.length 1=zD1 rs ts 2 from List.take_of_length_le (by rw[zGo];omega)] at this
    ·have:=zOk (hO.1 2 (by omega)) e2
     rwa [show xsN rs ts ts.length 2=zD1 rs ts 3 from List.take_of_length_le (by rw[zGo];omega)] at this
   rw[e0,e1,e2] at K2;clear e0 e1 e2 hI0 hI1 hI2;go_wp2_with fail;refine(zIf w.heap.size A cap rs 4 ⟨#[]⟩ wr K0.out (HR.out.keep H0.out) hn).mono ?_;rintro e w2 ⟨rfl,hb⟩;have K2:=kp hb K2;have K1:=kp hb K1;have HO:=zh (HO.out.keep hb);have H0:=jt H0 hb;clear hb K0;rw[show(⟨#[]⟩:ByteArray).toList=[] from by rw[ByteArray.toList_eq]];have f2:=K2.out.frozen;have c2:=K2.out.cell;have f1:=K1.out.frozen;have c1:=K1.out.cell;go_wp2_with fail;refine bodyPost_ret (v:=.agg #[.slice A rs.length cap,.slice T ts.length cT,.slice I ts.length cI,.slice J ts.length cJ,.slice M ts.length cM,.int .i64 (zAc rs 4 [])]) (by simp[results,Tryz.results141,go_sem,c1]) rfl ⟨⟨A,cap,T,cT,I,cI,J,cJ,M,cM⟩,rfl,?_,⟨rfl,rfl⟩,?_⟩
   ·refine HKEY.out _ ?_ ?_
    ·repeat' (first|(with_reducible exact HO.out)|(with_reducible refine OwnF.set_ ?_ ?_ _)|(show _<_;dsimp only;omega))
    ·repeat' (first|(with_reducible exact H0.out)|(with_reducible refine Below.setCell ?_ ?_ _)|(show _≤_;dsimp only;omega))
   ·repeat' (first|(with_reducible exact H0.out)|(with_reducible refine Below.setCell ?_ ?_ _)|(show _≤_;dsimp only;omega))
end Go.Proofs.YtadcldfbmkfkaaaGreatDoor.Ch
namespace Go.Proofs.YtadcldfbmkfkaaaGreatDoor.Ch
theorem zLm {α β:Type}{f:α→List β}{b:Nat}:∀{l:List α},(∀x∈l,(f x).length≤b)→(l.flatMap f).length≤l.length*b
 |[],_=>by simp
 |a::l,h=>by
  rw[List.flatMap_cons,List.length_append,List.length_cons,Nat.add_mul,Nat.one_mul];have:=h a List.mem_cons_self;have:=zLm (l:=l) fun x hx=>h x (List.mem_cons_of_mem _ hx)
  omega
end Go.Proofs.YtadcldfbmkfkaaaGreatDoor.Ch
namespace Go.Proofs.YtadcldfbmkfkaaaGreatDoor.Ch
open Go.RowKit
abbrev App.c (a:App):Array Value:= #[.int .i64 a.rule,.int .i64 a.frm,.int .i64 a.left,.int .i64 a.right,.int .i64 a.to,.int .i64 a.kids]
set_option maxRecDepth 100000 in
set_option maxHeartbeats 800000 in
theorem zMy (F:Fin)(rs:List Rul)(ts:List ByteArray)(jx:Int)(a:App)(w:World)(hF:zI5 w F rs ts)(ha:a.rule<rs.length):Calls Tryz.prog 205 #[.agg (F.c rs.length ts.length jx),.agg a.c] w fun e w'=>e= .returned (.tuple #[.int .i64 (lowR rs a.rule),.int .i64 (zDh rs a.rule)])∧Below w.heap.size w w':=by
 obtain⟨x,hx⟩:∃x,rs[a.rule]?=some x:=⟨_,gE ha⟩
 have HL:=zh (zJv hx);have HH:=zh (zLq hx);obtain⟨R,cR,T,cT,I,cI,P,cP,Q,cQ⟩:=F;obtain⟨r,frm,left,right,t2,kids⟩:=a;dsimp only at ha hx HL HH⊢;have hR:=hF.rules;dsimp only at hR;clear hF;have hb1:=zA0 w (.cells #[.slice R rs.length cR,.slice T ts.length cT,.slice I ts.length cI,.slice P ts.length cP,.slice Q ts.length cQ,.int .i64 jx] 176);have hb2:=hb1.alloc hb1.size (.cells #[.int .i64 r,.int .i64 frm,.int .i64 left,.int .i64 right,.int .i64 t2,.int .i64 kids] 223);obtain⟨_,ad,rfl,hadl,c0,c1,c2,c3,c4,c5⟩:=(hR.keep hb2).at_ hx;have HB:=zh hb2;clear hb1 hb2 hx hR;cases hk:(x.kind==2)
 ·rw[if_neg (by rw[beq_eq_false_iff_ne] at hk;exact hk)] at HL HH;go_enter Tryz.func205,Tryz.ntmps205;go_wp2_with fail
  go_quiet (fail)
  go_wp2_with fail
  go_ret2
  exact⟨by rw[HL.out,HH.out];rfl,below_drewN (HB.out.alloc HB.out.size _) _⟩
 ·rw[if_pos (by simpa using hk)] at HL HH;go_enter Tryz.func205,Tryz.ntmps205;go_wp2_with fail
  go_ret2
  exact⟨by rw[HL.out,HH.out];rfl,HB.out.alloc HB.out.size _⟩
structure TabAt (w:World)(g:Nat)(F:Fin)(rs:List Rul)(ts:List ByteArray)(gc:Nat)(rows:Nat→Nat)(fill:Nat→Nat→Bool):Prop where
 blk:Blk w g 180 #[.slice F.R rs.length F.cR,.slice F.T ts.length F.cT,.slice F.I ts.length F.cI,.slice F.P ts.length F.cP,.slice F.Q ts.length F.cQ,.int .i64 (zAc rs 4 []),.slice (some ⟨gc,0,none⟩) ts.length ts.length]
 fin:zI5 w F rs ts
 outer:∃cs,Blk w gc 181 cs∧∀i,i<ts.length→cs[i]?=some (.slice (some ⟨rows i,0,none⟩) (ts.length+1) (ts.length+1))
 row:∀i,i<ts.length→∃cs,Blk w (rows i) 138 cs∧cs.size=ts.length+1∧∀j,fill i j=true→∃A cap bs,cs[j]?=some (.slice A bs.length cap)∧bs.length≤cap∧cap≤9223372036854775807∧zEr w A bs∧Shs rs w bs (zFu rs ts i j)
theorem TabAt.keep {w w':World}{g:Nat}{F:Fin}{rs:List Rul}{ts:List ByteArray}{gc:Nat}{rows:Nat→Nat}{fill:Nat→Nat→Bool}(h:TabAt w g F rs ts gc rows fill)(hb:Below w.heap.size w w'):TabAt w' g F rs ts gc rows fill:=by
 obtain⟨h1,h2,⟨cs,h3,h4⟩,h5⟩:=h;refine⟨_root_.Go.Proofs.YtadcldfbmkfkaaaGreatDoor.keep hb h1,h2.keep hb,⟨cs,_root_.Go.Proofs.YtadcldfbmkfkaaaGreatDoor.keep hb h3,h4⟩,fun i hi=>?_⟩;obtain⟨cs,h6,h7,h8⟩:=h5 i hi;refine⟨cs,_root_.Go.Proofs.YtadcldfbmkfkaaaGreatDoor.keep hb h6,h7,fun j hj=>?_⟩;obtain⟨A,cap,bs,h9,ha,hb',hc,hd⟩:=h8 j hj;exact⟨A,cap,bs,h9,ha,hb',hc.keep hb,hd.keep hb⟩
theorem TabAt.drew {w:World}{g:Nat}{F:Fin}{rs:List Rul}{ts:List ByteArray}{gc:Nat}{rows:Nat→Nat}{fill:Nat→Nat→Bool}(h:TabAt w g F rs ts gc rows fill):TabAt w.drew g F rs ts gc rows fill:=h.keep (zA2 (Below.refl _ _))
theorem TabAt.at_ {w:World}{g:Nat}{F:Fin}{rs:List Rul}{ts:List ByteArray}{gc:Nat}{rows:Nat→Nat}{fill:Nat→Nat→Bool}(h:TabAt w g F rs ts gc rows fill){i j:Nat}(hi:i<ts.length)(hf:fill i j=true):
  w.cell? ⟨g,6,none⟩=some (.slice (some ⟨gc,0,none⟩) ts.length ts.length)∧w.cell? ⟨gc,i,none⟩=some (.slice (some ⟨rows i,0,none⟩) (ts.length+1) (ts.length+1))∧∃A cap bs,w.cell? ⟨rows i,j,none⟩=some (.slice A bs.length cap)∧bs.length≤cap∧cap≤9223372036854775807∧zEr w A bs∧Shs rs w bs (zFu rs ts i j):=by
 obtain⟨h1,_,⟨cs,h3,h4⟩,h5⟩:=h;obtain⟨cs',h6,_,h8⟩:=h5 i hi;obtain⟨A,cap,bs,h9,ha,hb,hc,hd⟩:=h8 j hf;exact⟨(h1.cell 6).trans rfl,(h3.cell i).trans (h4 i hi),A,cap,bs,(h6.cell j).trans h9,ha,hb,hc,hd⟩
def zYk (rs:List Rul)(xs:List Rd)(w:World)(e:Ending)(w':World):Prop:=∃v bs,e= .returned v∧OwnP w' w.heap.size v bs∧Shs rs w' bs xs∧Below w.heap.size w w'
theorem zOq {rs:List Rul}{xs:List Rd}{k:Nat}{p:Int}:zAj rs xs p=zAj rs (xs.take k) p++zAj rs (xs.drop k) p:=by rw[←zCv,List.take_append_drop]
theorem zQv {rs:List Rul}{ts:List ByteArray}{i j k:Nat}{p:Int}(hij:i<j)(h:(zAj rs ((zFu rs ts i j).take k) p).length=2):zC5 rs ts i j p=zAj rs ((zFu rs ts i j).take k) p:=by
 unfold zC5;rw[←zQ7 hij,zOq (k:=k),List.take_append,h,List.take_of_length_le (by omega)];simp
theorem zUt {rs:List Rul}{ts:List ByteArray}{i j:Nat}{p:Int}(hij:i<j)(h:(zAj rs (zFu rs ts i j) p).length<2):zC5 rs ts i j p=zAj rs (zFu rs ts i j) p:=by
 unfold zC5;rw[←zQ7 hij,List.take_of_length_le (by omega)]
theorem zRx {rs:List Rul}{xs:List Rd}{k:Nat}{x:Rd}{p:Int}(hx:xs[k]?=some x):zAj rs (xs.take (k+1)) p=zAj rs (xs.take k) p++(if p≤zEz rs x.rule then[x] else[]):=by
 rw[List.take_add_one,hx,zCv]
 congr 1
 show zAj rs [x] p=_;unfold zAj
 by_cases h:p≤zEz rs x.rule
 ·rw[if_pos h,List.filter_cons,if_pos (decide_eq_true h)];rfl
 ·rw[if_neg h,List.filter_cons,if_neg (by simpa using h)];rfl
set_option maxRecDepth 100000 in
set_option maxHeartbeats 1600000 in
theorem zGq (g:Nat)(F:Fin)(rs:List Rul)(ts:List ByteArray)(gc:Nat)(rows:Nat→Nat)(fill:Nat→Nat→Bool)(i j:Nat)(p:Int)(w:World)(hT:TabAt w g F rs ts gc rows fill)(hij:i<j)(hj:j≤ts.length)(hf:fill i j=true)(hn:rs.length≤1000000):Calls Tryz.prog 86 #[ptrV g,.int .i64 i,.int .i64 j,.int .i64 p] w (zYk rs (zC5 rs ts i j p) w):=by
 obtain⟨i0,hi,hz0,hz1,hz2⟩:=info_parts zIi;obtain⟨c6,ci,A,cap,bs,cj,hbc,hcc,hP,hS⟩:=hT.at_ (show i<ts.length by omega) hf;have HP:=zh hP;have HS:=zh hS;have HLN:=zh hS.1;have HST:=zh (fun k=>zQv (rs:=rs) (ts:=ts) (k:=k) (p:=p) hij);have HEN:=zh (zUt (rs:=rs) (ts:=ts) (p:=p) hij);have hci:(i:Int)<(ts.length:Int):=by omega
 have hcj:(j:Int)<(ts.length:Int)+1:=by omega
 have hbl:bs.length≤3000000:=by
  rw[hS.1];unfold zFu;have h1:(zEk ts i j).length≤1:=by unfold zEk;split<;>simp
  have h2:=zLm (f:=fun n=>(zCx rs ts (allR rs ts) i j n).take 2) (b:=2) (l:=List.range rs.length) fun n _=>by simp;omega
  rw[List.length_range] at h2;rw[List.length_append];omega
 clear hP hS hT hf;generalize zFu rs ts i j=xs at*;go_enter Tryz.func86,Tryz.ntmps86;go_wp2_with fail;clear c6 ci cj hci hcj
 go_loopw [9,23] (fun v n wr=>∃(k:Nat) (cs:List Nat),k≤bs.length∧n= .int .i64 k∧Hid (OwnP wr w.heap.size v cs)∧Hid (Shs rs wr cs (zAj rs (xs.take k) p))∧(cs.length=0∨cs.length=1)∧Hid (Below w.heap.size w wr)) (fun _ n _=>bs.length -(intOf n).toNat)
 case atStart=>exact⟨0,[],by omega,rfl,OwnP.nil _ _,Shs.nil,.inl rfl,Below.refl _ _⟩
 case round=>
  obtain⟨k,cs,hk,rfl,HO,HC,hcl,HB⟩:=hrel
  by_cases hlt:k<bs.length
  ·obtain⟨b,hb⟩:∃b,bs[k]?=some b:=⟨_,gE hlt⟩
   obtain⟨x,hx⟩:∃x,xs[k]?=some x:=⟨_,gE (by rw[←HLN.out];exact hlt)⟩
   obtain⟨ga,rfl,_,c0⟩:=(HP.out.keep HB.out) k b hb;have HX:=zh (((HS.out.keep HB.out).2 k b x hb hx));obtain⟨k0,k1,hK⟩:=HX.out.blk;have c2:wr.cell? ⟨b,2,none⟩=some (.int .i64 (zEz rs x.rule)):=hK.cell 2;have HSN:=zh (zRx (rs:=rs) (p:=p) hx);clear hb hx hK
   by_cases hp:p≤zEz rs x.rule
   ·have HS2:=zh (show zAj rs (xs.take (k+1)) p=zAj rs (xs.take k) p++[x] by rw[HSN.out,if_pos hp]);obtain⟨A5,cap5,rfl,hcl5,hcap5,_⟩:=HO.out.form;have hown:=(show wr.ownsRow w.heap.size 140 1 (.slice A5 cs.length cap5) cs.length (cs.map ptrV) from HO.out).alloc (.cells #[ptrV b] 140);have HBL:=zh (World.ownsRow.lt (show wr.ownsRow w.heap.size 140 1 (.slice A5 cs.length cap5) cs.length (cs.map ptrV) from HO.out));have HSZ:=zh HB.out.size;generalize zEz rs x.rule=q at*;go_wp2_with (at_builtin;refine wpList_append_own_at _ rfl (.tmp 33) (.tmp 35) 138 rfl w.heap.size 140 i0 (.pointer none) 1 8 Tryz.underlying138 hi hz0 hz1 hz2 rfl (by decide) _ _ _ rfl hown ⟨wr.heap.size,0,none⟩ 1 1 [ptrV b] rfl rfl (zF8 _ _ _) ?c2a ?c3a ?c4a ?c5a ?_)
    case c2a=>intro u hu;simp at hu;subst hu;rfl
    case c3a=>unfold maxLen;omega
    case c4a=>omega
    case c5a=>have:=HSZ.out;simp;omega
    intro v' w4 hown' hgrow _ hloc;have NB:=zh ((HB.out.alloc HB.out.size (.cells #[ptrV b] 140)).grown hgrow (by have:=HSZ.out;simp;omega) (fun k hk=>(HBL.out k hk).1));have NO:=zh (zGu rfl hown');have hrow:∀r,(Value.slice A5 cs.length cap5).ownBlock=some r→∃t cs',Blk (wr.alloc (.cells #[ptrV b] 140)) r t cs'∧t≠185:=by
     intro r hr;rcases hown.2 with⟨h1,_⟩|⟨g',cap',cur,h1,_,h2,_⟩
     ·rw[h1] at hr;cases hr
     ·rw[h1] at hr;obtain rfl:g'=r:=sj hr;exact⟨_,_,h2,by decide⟩
    have NC:=zh ((Shs.snoc (HC.out.keep (zA0 _ (.cells #[ptrV b] 140))) (HX.out.keep (zA0 _ (.cells #[ptrV b] 140)))).map fun g cs' hb=>hb.grown hgrow fun e=>by
     obtain⟨t,cs2,h1,h2⟩:=hrow g e.symm;exact h2 (zCr h1 hb))
    rw[←HS2.out] at NC;clear hown hown' hgrow hloc hrow HO HB HC HBL c0 c2;have hle:(cs++[b]).length=cs.length+1:=by simp
    obtain⟨A6,cap6,rfl,_,_,_⟩:=NO.out.form;have HL2:=zh NC.out.1;rcases hcl with h0|h1
    ·have hL1:(cs++[b]).length=1:=by rw[hle,h0]
     rw[hL1] at NO⊢;clear hle;go_wp2_with fail;go_roundw
     case rel=>exact⟨k+1,cs++[b],by omega,by go_num,NO,NC,.inr hL1,NB⟩
     case measure=>simp[intOf];omega
    ·have hL1:(cs++[b]).length=2:=by rw[hle,h1]
     have HF2:=zh (HST.out (k+1) (by rw[←NC.out.1,hL1]));rw[hL1] at NO⊢;clear hle hL1;go_wp2_with fail;go_ret;exact⟨_,_,rfl,NO.out,by rw[HF2.out];exact NC.out,NB.out⟩
   ·have HS2:=zh (show zAj rs (xs.take (k+1)) p=zAj rs (xs.take k) p by rw[HSN.out,if_neg hp,List.append_nil]);have q0:¬p≤zEz rs x.rule:=hp;rw[←HS2.out] at HC;generalize zEz rs x.rule=q at*;go_wp2_with fail;go_roundw
    case rel=>exact⟨k+1,cs,by omega,by go_num,HO,HC,hcl,HB⟩
    case measure=>simp[intOf];omega
  ·obtain rfl:k=bs.length:=by omega
   rw[HLN.out,List.take_length] at HC;have HF2:=zh (HEN.out (by rw[←HC.out.1];omega));go_wp2_with fail;go_ret;exact⟨_,_,rfl,HO.out,by rw[HF2.out];exact HC.out,HB.out⟩
def zYn (fid:FuncId)(caps:Array Value)(rs:List Rul)(ts:List ByteArray)(i j:Nat)(Inv:List App→World→Prop):Prop:=
 ∀(l:List App) (a:App) (m:List App) (w:World),zDt rs ts i j=l++a::m→Inv l w→Calls Tryz.prog fid (#[.agg a.c]++caps) w fun e w'=>e= .returned undef∧Inv (l++[a]) w'∧∀g cs,Blk w g 176 cs→Blk w' g 176 cs
def preB (rs:List Rul)(ts:List ByteArray)(i j:Nat):Bool:=(zBs rs 2 (tokL ts i)).isSome&&decide (i+1<j)
def zK1 (rs:List Rul)(ts:List ByteArray)(i j:Nat):Bool:=(zBs rs 3 (tokL ts (j -1))).isSome&&decide (i+1<j)
def inB_ (rs:List Rul)(ts:List ByteArray)(j k:Nat):Bool:=(zBs rs 1 (tokL ts k)).isSome&&decide (k+1<j)
theorem zE1 {rs:List Rul}{kind:Int}{s:List UInt8}{r:Nat}(h:zBs rs kind s=some r):zAc rs kind s=r:=by unfold zAc;rw[h]
theorem zL0 {rs:List Rul}{kind:Int}{s:List UInt8}(h:zBs rs kind s=none):zAc rs kind s= -1:=by unfold zAc;rw[h]
theorem zZd {rs:List Rul}{ts:List ByteArray}{i j:Nat}(h:preB rs ts i j=true):∃r:Nat,zAc rs 2 (tokL ts i)=r∧preA rs ts i j=[⟨r,i+1,j,0,0,1⟩]∧r<rs.length:=by
 unfold preB at h;rw[Bool.and_eq_true] at h;obtain⟨r,hr⟩:=Option.isSome_iff_exists.1 h.1;refine⟨r,zE1 hr,?_,?_⟩
 ·unfold preA;rw[hr];exact if_pos (of_decide_eq_true h.2)
 ·obtain⟨x,hx,_⟩:=zCd hr;exact(List.getElem?_eq_some_iff.1 hx).1
theorem yAq {rs:List Rul}{ts:List ByteArray}{i j:Nat}(h:preB rs ts i j=false):preA rs ts i j=[]:=by
 unfold preB at h;unfold preA;cases hr:zBs rs 2 (tokL ts i) with
 |none=>rfl
 |some r=>
  rw[hr] at h;exact if_neg (of_decide_eq_false (by simpa using h))
theorem zW0 {rs:List Rul}{ts:List ByteArray}{i j:Nat}(h:zK1 rs ts i j=true):∃r:Nat,zAc rs 3 (tokL ts (j -1))=r∧zFr rs ts i j=[⟨r,i,j -1,0,0,1⟩]∧r<rs.length:=by
 unfold zK1 at h;rw[Bool.and_eq_true] at h;obtain⟨r,hr⟩:=Option.isSome_iff_exists.1 h.1;refine⟨r,zE1 hr,?_,?_⟩
 ·unfold zFr;rw[hr];exact if_pos (of_decide_eq_true h.2)
 ·obtain⟨x,hx,_⟩:=zCd hr;exact(List.getElem?_eq_some_iff.1 hx).1
theorem zYw {rs:List Rul}{ts:List ByteArray}{i j:Nat}(h:zK1 rs ts i j=false):zFr rs ts i j=[]:=by
 unfold zK1 at h;unfold zFr;cases hr:zBs rs 3 (tokL ts (j -1)) with
 |none=>rfl
 |some r=>
  rw[hr] at h;exact if_neg (of_decide_eq_false (by simpa using h))
theorem yAj {rs:List Rul}{ts:List ByteArray}{i j k:Nat}(h:inB_ rs ts j k=true):∃r:Nat,zAc rs 1 (tokL ts k)=r∧inA rs ts i j k=[⟨r,i,k,k+1,j,2⟩]∧r<rs.length:=by
 unfold inB_ at h;rw[Bool.and_eq_true] at h;obtain⟨r,hr⟩:=Option.isSome_iff_exists.1 h.1;refine⟨r,zE1 hr,?_,?_⟩
 ·unfold inA;rw[hr];exact if_pos (of_decide_eq_true h.2)
 ·obtain⟨x,hx,_⟩:=zCd hr;exact(List.getElem?_eq_some_iff.1 hx).1
theorem yBn {rs:List Rul}{ts:List ByteArray}{i j k:Nat}(h:inB_ rs ts j k=false):inA rs ts i j k=[]:=by
 unfold inB_ at h;unfold inA;cases hr:zBs rs 1 (tokL ts k) with
 |none=>rfl
 |some r=>
  rw[hr] at h;exact if_neg (of_decide_eq_false (by simpa using h))
theorem zJu {rs:List Rul}{kind:Int}{s:List UInt8}:decide (0≤zAc rs kind s)=(zBs rs kind s).isSome:=by
 cases h:zBs rs kind s with
 |none=>rw[zL0 h];rfl
 |some r=>rw[zE1 h];exact decide_eq_true (by omega)
def midL (rs:List Rul)(ts:List ByteArray)(i j k:Nat):List App:=preA rs ts i j++zFr rs ts i j++(List.range' (i+1) (k -(i+1))).flatMap (midA rs ts i j)
theorem zNk {rs:List Rul}{ts:List ByteArray}{i j k:Nat}(h:i<k):midL rs ts i j (k+1)=midL rs ts i j k++(inA rs ts i j k++juxA rs i j k):=by
 unfold midL;rw[show k+1 -(i+1)=(k -(i+1))+1 by omega,List.range'_concat,List.flatMap_append,List.append_assoc (preA rs ts i j++zFr rs ts i j)]
 congr 1
 rw[show i+1+1*(k -(i+1))=k by omega];simp[midA]
theorem zVr {rs:List Rul}{ts:List ByteArray}{i j k:Nat}(h:i<k)(hk:k<j):zDt rs ts i j=midL rs ts i j k++(inA rs ts i j k++juxA rs i j k)++(List.range' (k+1) (j -(k+1))).flatMap (midA rs ts i j):=by
 rw[←zNk h];unfold zDt midL;rw[List.append_assoc (preA rs ts i j++zFr rs ts i j),←List.flatMap_append,show k+1 -(i+1)=k -i by omega]
 congr 2
 rw[show List.range' (k+1) (j -(k+1))=List.range' (i+1+1*(k -i)) (j -(k+1)) by rw[show i+1+1*(k -i)=k+1 by omega],List.range'_append]
 congr 1
 omega
set_option maxRecDepth 100000 in
set_option maxHeartbeats 1600000 in
theorem zY7 (fid:FuncId)(caps:Array Value)(F:Fin)(rs:List Rul)(ts:List ByteArray)(i j:Nat)(Inv:List App→World→Prop)(w:World)(hij:i<j)(hj:j≤ts.length)(hm:ts.length≤1000000)
  (hF:∀l w,Inv l w→zI5 w F rs ts) (hK:∀l w w',Inv l w→Below w.heap.size w w'→Inv l w') (hV:zYn fid caps rs ts i j Inv) (h0:Inv [] w) (hcf:∀args w,Sem.run Tryz.prog (callFunc fid args) w= .ok (.enter fid args) w):
  Calls Tryz.prog 180 #[.agg (F.c rs.length ts.length (zAc rs 4 [])),.int .i64 i,.int .i64 j,.func (.func fid) #[] caps] w fun e w'=>e= .returned undef∧Inv (zDt rs ts i j) w':=by
 obtain⟨R,cR,T,cT,I,cI,P,cP,Q,cQ⟩:=F;have HV:=zh hV;have HK:=zh hK;have HF:=zh hF;have HI:=zh (hK _ _ _ h0 (zA0 w (.cells #[.slice R rs.length cR,.slice T ts.length cT,.slice I ts.length cI,.slice P ts.length cP,.slice Q ts.length cQ,.int .i64 (zAc rs 4 [])] 176)));have K0:=zh (Blk.new w 176 #[.slice R rs.length cR,.slice T ts.length cT,.slice I ts.length cI,.slice P ts.length cP,.slice Q ts.length cQ,.int .i64 (zAc rs 4 [])]);clear hV hK hF h0;have hF0:=HF.out _ _ HI.out;obtain⟨gp,hp,cp⟩:=hF0.pre.num (zGy (rs:=rs) (kind:=2) (show i<ts.length by omega));obtain⟨gq,hq,cq⟩:=hF0.post.num (zGy (rs:=rs) (kind:=3) (show j -1<ts.length by omega));obtain⟨gi,hi,_⟩:=hF0.inf.num (zGy (rs:=rs) (kind:=1) (show i<ts.length by omega));dsimp only at hp hq hi;subst hp hq hi;clear hF0 cq;have HP:=zh (zJu (rs:=rs) (kind:=2) (s:=tokL ts i));have hil:(i:Int)<(ts.length:Int):=by omega
 go_enter Tryz.func180,Tryz.ntmps180;go_upto_region 2 with(fail)
 generalize w.alloc (.cells _ 176)=w1 at*
 go_cut [24] (fun b wc=>b= .bool (preB rs ts i j)∧wc=w1)
 case first=>
  cases hs:(zBs rs 2 (tokL ts i)).isSome
  ·have q0:=HP.out.trans hs;have HB:=zh (show preB rs ts i j=false by unfold preB;rw[hs];rfl);clear hs cp;generalize zAc rs 2 (tokL ts i)=x at*;go_wp2_with fail;go_meet;exact⟨by rw[HB.out],rfl⟩
  ·have q0:=HP.out.trans hs;have HB:=zh (show preB rs ts i j=decide (i+1<j) by unfold preB;rw[hs];rfl);clear hs cp;generalize zAc rs 2 (tokL ts i)=x at*;have HD:=zh (show decide ((i:Int)+1<(j:Int))=decide (i+1<j) from decide_eq_decide.2 (by omega));go_wp2_with fail;go_meet;exact⟨by rw[HB.out,←HD.out],rfl⟩
 case rest=>
  obtain⟨rfl,hw⟩:=hcut;subst hw;go_upto_if 24 with(fail)
  go_cut [8] (fun _ wc=>Hid (Inv (preA rs ts i j) wc)∧Hid (Blk wc w.heap.size 176 #[.slice R rs.length cR,.slice T ts.length cT,.slice (some ⟨gi,0,none⟩) ts.length cI,.slice (some ⟨gp,0,none⟩) ts.length cP,.slice (some ⟨gq,0,none⟩) ts.length cQ,.int .i64 (zAc rs 4 [])]))
  case first=>
   cases hb:preB rs ts i j
   ·have HN:=zh (yAq hb);clear hb;go_wp2_with fail;go_meet;exact⟨by rw[HN.out];exact HI,K0⟩
   ·obtain⟨r,hr,hA,hrl⟩:=zZd hb;have HN:=zh hA;clear hb hA;rw[hr];clear hr cp;go_wp2_with fail;have h:=HV.out [] ⟨r,i+1,j,0,0,1⟩ (zFr rs ts i j++(List.range' (i+1) (j -(i+1))).flatMap (midA rs ts i j)) wc (by unfold zDt;rw[HN.out,List.append_assoc];rfl) HI.out;refine h.mono ?_;clear h;rintro e w2 ⟨rfl,hi2,hk2⟩;have HI:=zh hi2;have K0:=zh (hk2 _ _ K0.out);clear hi2 hk2;go_wp2_with fail;go_meet;exact⟨by rw[HN.out];exact HI,K0⟩
  case rest=>
   clear HI K0 cp HP;obtain⟨HI,K0⟩:=hcut;have hF0:=HF.out _ _ HI.out;obtain⟨gq',hq,cq⟩:=hF0.post.num (zGy (rs:=rs) (kind:=3) (show j -1<ts.length by omega));obtain rfl:gq=gq':=by simpa using hq
   clear hF0 hq;have HP:=zh (zJu (rs:=rs) (kind:=3) (s:=tokL ts (j -1)));have hj1:((j -1:Nat):Int)=(j:Int) -1:=by omega
   have hj2:(0:Int)≤(j:Int) -1:=by omega
   have hj3:(j:Int) -1<(ts.length:Int):=by omega
   have hj4:((j:Int) -1).toNat=j -1:=by omega
   have c4:=K0.out.cell 4;go_upto_region 5 with(fail)
   clear c4;generalize hw2:wc=w2 at*;clear hw2 hj1 hj2 hj3 hj4
   go_cut [45] (fun b wc=>b= .bool (zK1 rs ts i j)∧wc=w2)
   case first=>
    cases hs:(zBs rs 3 (tokL ts (j -1))).isSome
    ·have q0:=HP.out.trans hs;have HB:=zh (show zK1 rs ts i j=false by unfold zK1;rw[hs];rfl);clear hs cq;generalize zAc rs 3 (tokL ts (j -1))=x at*;go_wp2_with fail;go_meet;exact⟨by rw[HB.out],rfl⟩
    ·have q0:=HP.out.trans hs;have HB:=zh (show zK1 rs ts i j=decide (i+1<j) by unfold zK1;rw[hs];rfl);clear hs cq;generalize zAc rs 3 (tokL ts (j -1))=x at*;have HD:=zh (show decide ((i:Int)<(j:Int) -1)=decide (i+1<j) from decide_eq_decide.2 (by omega));go_wp2_with fail;go_meet;exact⟨by rw[HB.out,←HD.out],rfl⟩
   case rest=>
    obtain⟨rfl,hw⟩:=hcut;subst hw;go_upto_if 45 with(fail)
    go_cut [9] (fun _ wc=>Hid (Inv (preA rs ts i j++zFr rs ts i j) wc)∧Hid (Blk wc w.heap.size 176 #[.slice R rs.length cR,.slice T ts.length cT,.slice (some ⟨gi,0,none⟩) ts.length cI,.slice (some ⟨gp,0,none⟩) ts.length cP,.slice (some ⟨gq,0,none⟩) ts.length cQ,.int .i64 (zAc rs 4 [])]))
    case first=>
     cases hb:zK1 rs ts i j
     ·have HN:=zh (zYw hb);clear hb;go_wp2_with fail;go_meet;exact⟨by rw[HN.out,List.append_nil];exact HI,K0⟩
     ·obtain⟨r,hr,hA,hrl⟩:=zW0 hb;have HN:=zh hA;clear hb hA;rw[hr];clear hr cq;go_wp2_with fail;have h:=HV.out (preA rs ts i j) ⟨r,i,j -1,0,0,1⟩ ((List.range' (i+1) (j -(i+1))).flatMap (midA rs ts i j)) wc (by unfold zDt;rw[HN.out,List.append_assoc];rfl) HI.out;rw[show App.c ⟨r,i,j -1,0,0,1⟩= #[.int .i64 r,.int .i64 i,.int .i64 ((j:Int) -1),.int .i64 0,.int .i64 0,.int .i64 1] by show #[_,_,Value.int .i64 ((j -1:Nat):Int),_,_,_]=_;rw[show((j -1:Nat):Int)=(j:Int) -1 by omega];rfl] at h;refine h.mono ?_;clear h;rintro e w3 ⟨rfl,hi2,hk2⟩;have HI:=zh hi2;have K0:=zh (hk2 _ _ K0.out);clear hi2 hk2;go_wp2_with fail;go_meet;exact⟨by rw[HN.out];exact HI,K0⟩
    case rest=>
     clear HI K0 cq HP;obtain⟨HI,K0⟩:=hcut;have HI:Hid (Inv (midL rs ts i j (i+1)) wc):=by
      rw[show midL rs ts i j (i+1)=preA rs ts i j++zFr rs ts i j by unfold midL;rw[Nat.sub_self];exact List.append_nil _];exact HI
     go_wp2_with fail
     go_loopw [10] (fun k wr=>∃n:Nat,i<n∧n≤j∧k= .int .i64 n∧Hid (Inv (midL rs ts i j n) wr)∧Hid (Blk wr w.heap.size 176 #[.slice R rs.length cR,.slice T ts.length cT,.slice (some ⟨gi,0,none⟩) ts.length cI,.slice (some ⟨gp,0,none⟩) ts.length cP,.slice (some ⟨gq,0,none⟩) ts.length cQ,.int .i64 (zAc rs 4 [])])) (fun k _=>j -(intOf k).toNat)
     case atStart=>exact⟨i+1,by omega,by omega,by go_num,HI,K0⟩
     case round=>
      clear HI K0;obtain⟨k,hik,hkj,rfl,HI,K0⟩:=hrel
      by_cases hlt:k<j
      ·have HR:=zh (zVr (rs:=rs) (ts:=ts) hik hlt);have HSC:=zh (zNk (rs:=rs) (ts:=ts) (j:=j) hik);have hF0:=HF.out _ _ HI.out;obtain⟨gi',hi,ci⟩:=hF0.inf.num (zGy (rs:=rs) (kind:=1) (show k<ts.length by omega));obtain rfl:gi=gi':=by simpa using hi
       clear hF0 hi;have HP:=zh (zJu (rs:=rs) (kind:=1) (s:=tokL ts k));have c2:=K0.out.cell 2;have hkn:(k:Int)<(ts.length:Int):=by omega
       go_upto_region 11 with(fail)
       clear c2 hkn
       go_cut [72] (fun b wc=>b= .bool (inB_ rs ts j k)∧wc=wr)
       case first=>
        cases hs:(zBs rs 1 (tokL ts k)).isSome
        ·have q0:=HP.out.trans hs;have HB:=zh (show inB_ rs ts j k=false by unfold inB_;rw[hs];rfl);clear hs ci;generalize zAc rs 1 (tokL ts k)=x at*;go_wp2_with fail;go_meet;exact⟨by rw[HB.out],rfl⟩
        ·have q0:=HP.out.trans hs;have HB:=zh (show inB_ rs ts j k=decide (k+1<j) by unfold inB_;rw[hs];rfl);clear hs ci;generalize zAc rs 1 (tokL ts k)=x at*;have HD:=zh (show decide ((k:Int)<(j:Int) -1)=decide (k+1<j) from decide_eq_decide.2 (by omega));go_wp2_with fail;go_meet;exact⟨by rw[HB.out,←HD.out],rfl⟩
       case rest=>
        obtain⟨rfl,hw⟩:=hcut;subst hw;go_upto_if 72 with(fail)
        go_cut [11] (fun _ wc=>Hid (Inv (midL rs ts i j k++inA rs ts i j k) wc)∧Hid (Blk wc w.heap.size 176 #[.slice R rs.length cR,.slice T ts.length cT,.slice (some ⟨gi,0,none⟩) ts.length cI,.slice (some ⟨gp,0,none⟩) ts.length cP,.slice (some ⟨gq,0,none⟩) ts.length cQ,.int .i64 (zAc rs 4 [])]))
        case first=>
         cases hb:inB_ rs ts j k
         ·have HN:=zh (yBn (i:=i) hb);clear hb;go_wp2_with fail;go_meet;exact⟨by rw[HN.out,List.append_nil];exact HI,K0⟩
         ·obtain⟨r,hr,hA,hrl⟩:=yAj (i:=i) hb;have HN:=zh hA;clear hb hA;rw[hr];clear hr ci;go_wp2_with fail;have h:=HV.out (midL rs ts i j k) ⟨r,i,k,k+1,j,2⟩ (juxA rs i j k++(List.range' (k+1) (j -(k+1))).flatMap (midA rs ts i j)) wc (by rw[HR.out,HN.out];simp) HI.out;refine h.mono ?_;clear h;rintro e w3 ⟨rfl,hi2,hk2⟩;have HI:=zh hi2;have K0:=zh (hk2 _ _ K0.out);clear hi2 hk2;go_wp2_with fail;go_meet;exact⟨by rw[HN.out];exact HI,K0⟩
        case rest=>
         clear HI K0 ci HP;obtain⟨HI,K0⟩:=hcut;have c5:=K0.out.cell 5;cases hj4:zBs rs 4 [] with
         |none=>
          have HN:=zh (show juxA rs i j k=[] by unfold juxA;rw[hj4]);have hx:=zL0 hj4;clear hj4;rw[hx] at c5;clear hx;have NI:=zh (show Inv (midL rs ts i j (k+1)) wc by rw[HSC.out,HN.out,List.append_nil];exact HI.out);clear HI;go_wp2_with fail;go_roundw
          case rel=>exact⟨k+1,by omega,by omega,by go_num,NI,K0⟩
          case measure=>simp[intOf];omega
         |some r=>
          have HN:=zh (show juxA rs i j k=[⟨r,i,k,k,j,2⟩] by unfold juxA;rw[hj4]);have hx:=zE1 hj4;clear hj4;rw[hx] at c5;clear hx;go_wp2_with fail;have h:=HV.out (midL rs ts i j k++inA rs ts i j k) ⟨r,i,k,k,j,2⟩ ((List.range' (k+1) (j -(k+1))).flatMap (midA rs ts i j)) wc (by rw[HR.out,HN.out];simp) HI.out;refine h.mono ?_;clear h c5;rintro e w3 ⟨rfl,hi2,hk2⟩;have NI:=zh (show Inv (midL rs ts i j (k+1)) w3 by rw[HSC.out,HN.out,←List.append_assoc];exact hi2);have K0:=zh (hk2 _ _ K0.out);clear hi2 hk2 HI;go_wp2_with fail;go_roundw
          case rel=>exact⟨k+1,by omega,by omega,by go_num,NI,K0⟩
          case measure=>simp[intOf];omega
      ·obtain rfl:k=j:=by omega
       go_wp2_with fail
       go_end0
       exact⟨rfl,by rw[show zDt rs ts i k=midL rs ts i k k from rfl];exact HI.out⟩
theorem _root_.Go.Proofs.YtadcldfbmkfkaaaGreatDoor.jL {w x:World}(hb:Below w.heap.size w x){g:Nat}{t:TypeId}{cs:Array Value}(h:Blk w g t cs):Blk x g t cs:=h.below hb h.lt
end Go.Proofs.YtadcldfbmkfkaaaGreatDoor.Ch
