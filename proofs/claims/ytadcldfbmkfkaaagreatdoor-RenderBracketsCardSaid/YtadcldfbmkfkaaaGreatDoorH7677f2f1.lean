/- The table is filled by increasing length. -/
import Derived.Test.YtadcldfbmkfkaaaGreatDoorHc073818d
namespace Go.Proofs.YtadcldfbmkfkaaaGreatDoor.Ch
open Go.RowKit
theorem yA3:(Tryz.prog.info? 138).map (fun i=>(i.zero,i.size,i.bytes))=some (some (.slice none 0 0),1,24):=by kernel_rfl
theorem zZo:(Tryz.prog.info? 181).map (fun i=>(i.zero,i.size,i.bytes))=some (some (.slice none 0 0),1,24):=by kernel_rfl
abbrev zO9 (n:Nat):Array Value:=madeCells #[.slice none 0 0] n
structure TabW (w0 w:World)(g:Nat)(F:Fin)(rs:List Rul)(ts:List ByteArray)(gc:Nat)(rows:Nat→Nat)(k:Nat)(fill:Nat→Nat→Bool):Prop where
 blk:Blk w g 180 #[.slice F.R rs.length F.cR,.slice F.T ts.length F.cT,.slice F.I ts.length F.cI,.slice F.P ts.length F.cP,.slice F.Q ts.length F.cQ,.int .i64 (zAc rs 4 []),.slice (some ⟨gc,0,none⟩) ts.length ts.length]
 i1:zF9 w F.I (zD1 rs ts 1)
 i2:zF9 w F.P (zD1 rs ts 2)
 i3:zF9 w F.Q (zD1 rs ts 3)
 outer:∃cs,Blk w gc 181 cs∧cs.size=ts.length∧∀i,i<k→cs[i]?=some (.slice (some ⟨rows i,0,none⟩) (ts.length+1) (ts.length+1))
 row:∀i,i<k→∃cs,Blk w (rows i) 138 cs∧cs.size=ts.length+1∧∀j,fill i j=true→∃A cap bs,cs[j]?=some (.slice A bs.length cap)∧bs.length≤cap∧cap≤9223372036854775807∧zEr w A bs∧Shs rs w bs (zFu rs ts i j)
 inj:∀i i',i<k→i'<k→rows i=rows i'→i=i'
 below:Below w0.heap.size w0 w
 low:w0.heap.size≤gc∧∀i,i<k→w0.heap.size≤rows i
section
variable {w0 w : World} {g : Nat} {F : Fin} {rs : List Rul} {ts : List ByteArray} {gc : Nat} {rows : Nat → Nat} {k : Nat} {fill : Nat → Nat → Bool}
theorem TabW.keep {w':World}(h:TabW w0 w g F rs ts gc rows k fill)(hb:Below w.heap.size w w'):TabW w0 w' g F rs ts gc rows k fill:=by
 obtain⟨h1,i1,i2,i3,⟨cs,h3,h4,h5⟩,h6,h7,h8,h9⟩:=h;refine⟨jL hb h1,i1.keep hb,i2.keep hb,i3.keep hb,⟨cs,jL hb h3,h4,h5⟩,fun i hi=>?_,h7,h8.trans (hb.mono h8.size),h9⟩;obtain⟨cs,h6,h7,h8⟩:=h6 i hi;refine⟨cs,jL hb h6,h7,fun j hj=>?_⟩;obtain⟨A,cap,bs,h9,ha,hb',hc,hd⟩:=h8 j hj;exact⟨A,cap,bs,h9,ha,hb',hc.keep hb,hd.keep hb⟩
theorem TabW.tab (h:TabW w0 w g F rs ts gc rows ts.length fill)(hR:zAi w0 F.R rs)(hT:zCj w0 F.T ts):TabAt w g F rs ts gc rows fill:=by
 obtain⟨h1,i1,i2,i3,⟨cs,h3,h4,h5⟩,h6,h7,h8,h9⟩:=h;exact⟨h1,⟨hR.keep h8,hT.keep h8,i1,i2,i3⟩,⟨cs,h3,h5⟩,h6⟩
theorem TabW.grow (h:TabW w0 w g F rs ts gc rows k fun _ _=>false)(hk:k<ts.length){gr:Nat}(hr:Blk w gr 138 (zO9 (ts.length+1)))(hn:∀i,i<k→rows i≠gr)(hlo:w0.heap.size≤gr):
  TabW w0 (w.setCell ⟨gc,k,none⟩ (.slice (some ⟨gr,0,none⟩) (ts.length+1) (ts.length+1))) g F rs ts gc (fun i=>if i=k then gr else rows i) (k+1) fun _ _=>false:=by
 obtain⟨h1,i1,i2,i3,⟨cs,h3,h4,h5⟩,h6,h7,h8,h9⟩:=h;have far:∀b t cs',Blk w b t cs'→t≠181→Blk (w.setCell ⟨gc,k,none⟩ (.slice (some ⟨gr,0,none⟩) (ts.length+1) (ts.length+1))) b t cs':=fun b t cs' hb ht=>hb.far (fun e=>by
  have e:b=gc:=e;rw[e] at hb;exact ht (zCr hb h3)) _
 refine⟨far _ _ _ h1 (by decide),i1.set_ h3 (by decide) _,i2.set_ h3 (by decide) _,i3.set_ h3 (by decide) _,⟨_,h3.set_ k _,by simpa using h4,fun i hi=>?_⟩,fun i hi=>?_,fun i i' hi hi' e=>?_,h8.setCell (p:=⟨gc,k,none⟩) h9.1 _,h9.1,fun i hi=>?_⟩
 ·by_cases e:i=k
  ·rw[if_pos e,e];simp[h4,hk]
  ·rw[if_neg e,Array.getElem?_setIfInBounds_ne (fun h=>e h.symm)];exact h5 i (by omega)
 ·show ∃cs,Blk _ (if i=k then gr else rows i) _ cs∧_
  by_cases e:i=k
  ·rw[if_pos e];exact⟨_,far _ _ _ hr (by decide),by simp[size_madeCells],fun j hj=>by cases hj⟩
  ·rw[if_neg e];obtain⟨cs',ha,hb,hc⟩:=h6 i (by omega);exact⟨cs',far _ _ _ ha (by decide),hb,fun j hj=>by cases hj⟩
 ·have e:(if i=k then gr else rows i)=(if i'=k then gr else rows i'):=e
  by_cases e1:i=k
  ·by_cases e2:i'=k
   ·omega
   ·rw[if_pos e1,if_neg e2] at e;exact(hn i' (by omega) e.symm).elim
  ·by_cases e2:i'=k
   ·rw[if_neg e1,if_pos e2] at e;exact(hn i (by omega) e).elim
   ·rw[if_neg e1,if_neg e2] at e;exact h7 i i' (by omega) (by omega) e
 ·show _≤(if i=k then gr else rows i)
  by_cases e:i=k
  ·rw[if_pos e];exact hlo
  ·rw[if_neg e];exact h9.2 i (by omega)
theorem TabW.store (h:TabW w0 w g F rs ts gc rows ts.length fill){i j:Nat}(hi:i<ts.length)(hj:j≤ts.length){A:Option Addr}{cap:Nat}{bs:List Nat}(h1:bs.length≤cap)(h2:cap≤9223372036854775807)(hP:zEr w A bs)(hS:Shs rs w bs (zFu rs ts i j)){fill':Nat→Nat→Bool}(hf:∀p q,fill' p q=true→fill p q=true∨(p=i∧q=j)):
  TabW w0 (w.setCell ⟨rows i,j,none⟩ (.slice A bs.length cap)) g F rs ts gc rows ts.length fill':=by
 obtain⟨t1,i1,i2,i3,⟨cs,t3,t4,t5⟩,t6,t7,t8,t9⟩:=h;obtain⟨ci,ci1,ci2,ci3⟩:=t6 i hi;have far:∀b t cs',Blk w b t cs'→t≠138→Blk (w.setCell ⟨rows i,j,none⟩ (.slice A bs.length cap)) b t cs':=fun b t cs' hb ht=>hb.far (fun e=>by
  have e:b=rows i:=e;rw[e] at hb;exact ht (zCr hb ci1)) _
 have pk:∀A' bs',zEr w A' bs'→zEr (w.setCell ⟨rows i,j,none⟩ (.slice A bs.length cap)) A' bs':=fun A' bs' hp=>hp.set_ (p:=⟨rows i,j,none⟩) ci1 (by decide) _
 have sk:∀bs' xs,Shs rs w bs' xs→Shs rs (w.setCell ⟨rows i,j,none⟩ (.slice A bs.length cap)) bs' xs:=fun bs' xs hp=>hp.set_ (p:=⟨rows i,j,none⟩) ci1 (by decide) _
 refine⟨far _ _ _ t1 (by decide),i1.set_ (p:=⟨rows i,j,none⟩) ci1 (by decide) _,i2.set_ (p:=⟨rows i,j,none⟩) ci1 (by decide) _,i3.set_ (p:=⟨rows i,j,none⟩) ci1 (by decide) _,⟨cs,far _ _ _ t3 (by decide),t4,t5⟩,fun p hp=>?_,t7,t8.setCell (p:=⟨rows i,j,none⟩) (t9.2 i hi) _,t9⟩
 by_cases e:p=i
 ·subst e;refine⟨_,ci1.set_ j _,by simpa using ci2,fun q hq=>?_⟩
  by_cases eq:q=j
  ·subst eq;exact⟨A,cap,bs,(show(ci.setIfInBounds q (.slice A bs.length cap))[q]?=some (.slice A bs.length cap) by rw[Array.getElem?_setIfInBounds];simp;omega),h1,h2,pk _ _ hP,sk _ _ hS⟩
  ·have hq':fill p q=true:=by
    rcases hf p q hq with h|h
    ·exact h
    ·exact(eq h.2).elim
   obtain⟨A',cap',bs',ha,hb,hc,hd,he⟩:=ci3 q hq';exact⟨A',cap',bs',by rw[Array.getElem?_setIfInBounds_ne (fun h=>eq h.symm)];exact ha,hb,hc,pk _ _ hd,sk _ _ he⟩
 ·obtain⟨cp,c1,c2,c3⟩:=t6 p hp;refine⟨cp,c1.far (fun e2=>e (t7 p i hp hi e2)) _,c2,fun q hq=>?_⟩;have hq':fill p q=true:=by
   rcases hf p q hq with h|h
   ·exact h
   ·exact(e h.1).elim
  obtain⟨A',cap',bs',ha,hb,hc,hd,he⟩:=c3 q hq';exact⟨A',cap',bs',ha,hb,hc,pk _ _ hd,sk _ _ he⟩
end
def InvF (w:World)(rs:List Rul)(ts:List ByteArray):List Bool→Fin×Nat×Nat→World→Prop
 |[b2,b4,b6],gx,wq=>Below w.heap.size w wq∧(b2=true→zI5 wq gx.1 rs ts∧zAi w gx.1.R rs∧zCj w gx.1.T ts)∧(b4=true→Blk wq gx.2.1 181 (zO9 ts.length)∧w.heap.size≤gx.2.1)∧(b6=true→Blk wq gx.2.2 180 #[.slice gx.1.R rs.length gx.1.cR,.slice gx.1.T ts.length gx.1.cT,.slice gx.1.I ts.length gx.1.cI,.slice gx.1.P ts.length gx.1.cP,.slice gx.1.Q ts.length gx.1.cQ,.int .i64 (zAc rs 4 []),.slice (some ⟨gx.2.1,0,none⟩) ts.length ts.length])
 |_,_,_=>False
theorem InvF.keep {w:World}{rs:List Rul}{ts:List ByteArray}{b2 b4 b6:Bool}{gx:Fin×Nat×Nat}{wq w':World}(h:InvF w rs ts [b2,b4,b6] gx wq)(hb:Below wq.heap.size wq w'):InvF w rs ts [b2,b4,b6] gx w':=
 ⟨h.1.trans (hb.mono h.1.size),fun e=>⟨(h.2.1 e).1.keep hb,(h.2.1 e).2⟩,fun e=>⟨jL hb (h.2.2.1 e).1,(h.2.2.1 e).2⟩,fun e=>jL hb (h.2.2.2 e)⟩
def NewP (rs:List Rul)(ts:List ByteArray)(w:World)(e:Ending)(w':World):Prop:=∃g F gc rows,e= .returned (ptrV g)∧TabAt w' g F rs ts gc rows (fun p q=>decide (p<q)&&decide (q≤ts.length))∧Below w.heap.size w w'
def zLp (n s i:Nat)(p q:Nat):Bool:=decide (p<q)&&(decide (q≤n)&&(decide (q -p<s)||(decide (q -p=s)&&decide (p<i))))
theorem zF7 {n s i p q:Nat}:zLp n s i p q=true↔p<q∧q≤n∧(q -p<s∨(q -p=s∧p<i)):=by
 unfold zLp;simp
def InvG (w0 wr:World)(g:Nat)(F:Fin)(rs:List Rul)(ts:List ByteArray)(gc:Nat)(rows:Nat→Nat)(k:Nat):List Bool→Nat→World→Prop
 |[false,_],_,wq=>Below wr.heap.size wr wq
 |[true,false],gr,wq=>Below wr.heap.size wr wq∧Blk wq gr 138 (zO9 (ts.length+1))∧wr.heap.size≤gr
 |[true,true],gr,wq=>TabW w0 wq g F rs ts gc (fun i=>if i=k then gr else rows i) (k+1) fun _ _=>false
 |_,_,_=>False
theorem InvG.bel {w0 wr:World}{g:Nat}{F:Fin}{rs:List Rul}{ts:List ByteArray}{gc:Nat}{rows:Nat→Nat}{k:Nat}{b7 b9:Bool}{gr:Nat}{wq:World}(h:InvG w0 wr g F rs ts gc rows k [b7,b9] gr wq)(h9:b9=false):Below wr.heap.size wr wq:=by
 subst h9;cases b7
 ·exact h
 ·exact h.1
theorem TabW.sub {w0 w:World}{g:Nat}{F:Fin}{rs:List Rul}{ts:List ByteArray}{gc:Nat}{rows:Nat→Nat}{k:Nat}{fill fill':Nat→Nat→Bool}(h:TabW w0 w g F rs ts gc rows k fill)(hf:∀p q,fill' p q=true→fill p q=true):TabW w0 w g F rs ts gc rows k fill':=by
 obtain⟨h1,i1,i2,i3,h3,h6,h7,h8,h9⟩:=h;refine⟨h1,i1,i2,i3,h3,fun i hi=>?_,h7,h8,h9⟩;obtain⟨cs,ha,hb,hc⟩:=h6 i hi;exact⟨cs,ha,hb,fun j hj=>hc j (hf i j hj)⟩
def InvH (w0 wr:World)(g:Nat)(F:Fin)(rs:List Rul)(ts:List ByteArray)(gc:Nat)(rows:Nat→Nat)(s i:Nat):List Bool→Value×List Nat→World→Prop
 |[false,_],_,wq=>Below wr.heap.size wr wq
 |[true,false],gx,wq=>Below wr.heap.size wr wq∧OwnP wq wr.heap.size gx.1 gx.2∧Shs rs wq gx.2 (zFu rs ts i (i+s))
 |[true,true],_,wq=>TabW w0 wq g F rs ts gc rows ts.length (zLp ts.length s (i+1))
 |_,_,_=>False
theorem InvH.bel {w0 wr:World}{g:Nat}{F:Fin}{rs:List Rul}{ts:List ByteArray}{gc:Nat}{rows:Nat→Nat}{s i:Nat}{b7 b9:Bool}{gr:Value×List Nat}{wq:World}(h:InvH w0 wr g F rs ts gc rows s i [b7,b9] gr wq)(h9:b9=false):Below wr.heap.size wr wq:=by
 subst h9;cases b7
 ·exact h
 ·exact h.1
set_option maxRecDepth 100000 in
set_option maxHeartbeats 4000000 in
theorem zMo (A T:Option Addr)(cap cT:Nat)(rs:List Rul)(ts:List ByteArray)(w:World)(hv:zAg rs=true)(hR:zAi w A rs)(hT:zCj w T ts)(hn:rs.length≤1000000)(hm:ts.length≤1000000):Calls Tryz.prog 85 #[.slice A rs.length cap,.slice T ts.length cT] w (NewP rs ts w):=by
 obtain⟨i0,hi,hz0,hz1,hz2⟩:=info_parts yA3;obtain⟨i1,hi1,hy0,hy1,hy2⟩:=info_parts zZo;have HV:=zh hv;have HR:=zh hR;have HT:=zh hT;clear hv hR hT;go_enter Tryz.func85,Tryz.ntmps85;go_upto_region 2 with(fail)
 refine zB1 (X:=Fin×Nat×Nat) (by kernel_rfl) _ (fun gx=>[.slice A rs.length cap,.slice T ts.length cT,.agg #[.slice gx.1.R rs.length gx.1.cR,.slice gx.1.T ts.length gx.1.cT,.slice gx.1.I ts.length gx.1.cI,.slice gx.1.P ts.length gx.1.cP,.slice gx.1.Q ts.length gx.1.cQ,.int .i64 (zAc rs 4 [])],.int .i64 ts.length,.slice (some ⟨gx.2.1,0,none⟩) ts.length ts.length,.agg #[.slice gx.1.R rs.length gx.1.cR,.slice gx.1.T ts.length gx.1.cT,.slice gx.1.I ts.length gx.1.cI,.slice gx.1.P ts.length gx.1.cP,.slice gx.1.Q ts.length gx.1.cQ,.int .i64 (zAc rs 4 []),.slice (some ⟨gx.2.1,0,none⟩) ts.length ts.length],.pointer (some ⟨gx.2.2,0,none⟩),.pointer (some ⟨gx.2.2,0,none⟩)]) [true,true,true,true,true,true,true,true] [2,4,6] (InvF w rs ts) (⟨none,0,none,0,none,0,none,0,none,0⟩,0,0) (by kernel_rfl) (fun gx=>by simp[fin,zAm,zAb,List.range,List.range.loop,Act.put];rfl) (fun _=>by kernel_rfl) (by kernel_rfl) ⟨zA2 (Below.refl _ _),(fun h=>by cases h),(fun h=>by cases h),fun h=>by cases h⟩ ?_ ?_
 ·refine⟨fun L gx wq hL hb ha hI=>?_,fun L gx wq hL hb ha hI=>?_,fun L gx wq hL hb ha hI=>?_,fun L gx wq hL hb ha hI=>?_,fun L gx wq hL hb ha hI=>?_,fun L gx wq hL hb ha hI=>?_,fun L gx wq hL hb ha hI=>?_,fun L gx wq hL hb ha hI=>?_,trivial⟩
  ·exact jq (.slice A rs.length cap) wq (by kernel_rfl) rfl hI
  ·exact jq (.slice T ts.length cT) wq (by kernel_rfl) rfl hI
  ·have e2:L 2=false:=hL;have e6:L 6=false:=ha 6 (by kernel_rfl);simp only[List.map,e2,e6] at hI⊢;refine jc 141 (#[.slice A rs.length cap,.slice T ts.length cT]) wq (by kernel_rfl) ((zLs A T cap cT rs ts wq (HR.out.keep hI.1) (HT.out.keep hI.1) hn hm).mono ?_);rintro e wa ⟨F,rfl,hF,hRT,hb5⟩;have hK:=hI.keep hb5;obtain⟨rfl,rfl⟩:=hRT;exact⟨_,rfl,(F,gx.2),rfl,(by refine zA5.of_same ⟨?_,?_,?_,?_,?_,?_,?_,?_,trivial⟩<;>first|exact jK|exact .inl rfl|exact .inr (.inl (by kernel_rfl))),hK.1,(fun _=>⟨hF,HR.out,HT.out⟩),hK.2.2.1,fun h=>by cases h⟩
  ·exact jq (.int .i64 ts.length) wq (by kernel_rfl) rfl hI
  ·have e4:L 4=false:=hL;have e6:L 6=false:=ha 6 (by kernel_rfl);simp only[List.map,e4,e6] at hI⊢;have hrun:=run_make (P:=Tryz.prog) wq 178 181 i1 (.slice none 0 0) Tryz.underlying178 hi1 hy0 .i64 .i64 ts.length ts.length (by omega) (by omega) (by rw[hy2];omega) (by omega);rw[hy1,Nat.mul_one,Int.toNat_natCast] at hrun;have hK:=hI.keep (zA0 wq (.cells (zO9 ts.length) 181));exact jv (.slice (some ⟨wq.heap.size,0,none⟩) ts.length ts.length) (wq.alloc (.cells (zO9 ts.length) 181)) (by simp[go_sem,hrun]) ⟨(gx.1,wq.heap.size,gx.2.2),rfl,(by refine zA5.of_same ⟨?_,?_,?_,?_,?_,?_,?_,?_,trivial⟩<;>first|exact jK|exact .inl rfl|exact .inr (.inl (by kernel_rfl))),hK.1,hK.2.1,(fun _=>⟨Blk.new _ _ _,hI.1.size⟩),fun h=>by cases h⟩
  ·exact jq (.agg #[.slice gx.1.R rs.length gx.1.cR,.slice gx.1.T ts.length gx.1.cT,.slice gx.1.I ts.length gx.1.cI,.slice gx.1.P ts.length gx.1.cP,.slice gx.1.Q ts.length gx.1.cQ,.int .i64 (zAc rs 4 []),.slice (some ⟨gx.2.1,0,none⟩) ts.length ts.length]) wq (by simp[go_sem]) rfl hI
  ·have e2:L 2=true:=hb 2 (by kernel_rfl);have e4:L 4=true:=hb 4 (by kernel_rfl);have e6:L 6=false:=hL;simp only[List.map,e2,e4,e6] at hI⊢;have hK:=hI.keep (zA0 wq (.cells #[.slice gx.1.R rs.length gx.1.cR,.slice gx.1.T ts.length gx.1.cT,.slice gx.1.I ts.length gx.1.cI,.slice gx.1.P ts.length gx.1.cP,.slice gx.1.Q ts.length gx.1.cQ,.int .i64 (zAc rs 4 []),.slice (some ⟨gx.2.1,0,none⟩) ts.length ts.length] 180));exact jv (.pointer (some ⟨wq.heap.size,0,none⟩)) (wq.alloc (.cells #[.slice gx.1.R rs.length gx.1.cR,.slice gx.1.T ts.length gx.1.cT,.slice gx.1.I ts.length gx.1.cI,.slice gx.1.P ts.length gx.1.cP,.slice gx.1.Q ts.length gx.1.cQ,.int .i64 (zAc rs 4 []),.slice (some ⟨gx.2.1,0,none⟩) ts.length ts.length] 180)) (by simp[go_sem]) ⟨(gx.1,gx.2.1,wq.heap.size),rfl,(by refine zA5.of_same ⟨?_,?_,?_,?_,?_,?_,?_,?_,trivial⟩<;>first|exact jK|exact .inl rfl|exact .inr (.inl (by kernel_rfl))),hK.1,hK.2.1,hK.2.2.1,fun _=>Blk.new _ _ _⟩
  ·exact jq (.pointer (some ⟨gx.2.2,0,none⟩)) wq (by kernel_rfl) rfl hI
 ·intro gx wq hI;obtain⟨F,gc,g⟩:=gx;obtain⟨hb,hF,hgc,hg⟩:=hI;obtain⟨hF,hR2,hT2⟩:=hF rfl;have HR2:=zh hR2;have HT2:=zh hT2;have HW:Hid (TabW w wq g F rs ts gc (fun _=>0) 0 fun _ _=>false):=⟨hg rfl,hF.inf,hF.pre,hF.post,⟨_,(hgc rfl).1,by simp[size_madeCells],(fun i hi=>by omega)⟩,(fun i hi=>by omega),(fun i i' hi=>by omega),hb,(hgc rfl).2,fun i hi=>by omega⟩
  clear hb hF hgc hg hR2 hT2;obtain⟨R,cR,T',cT',I,cI,P,cP,Q,cQ⟩:=F;dsimp only at HR2 HT2;have ct6:=HW.out.blk.cell 6;go_wp2_with fail;clear ct6
  go_loopw [24] (fun i wr=>∃(k:Nat) (rows:Nat→Nat),k≤ts.length∧i= .int .i64 k∧Hid (TabW w wr g ⟨R,cR,T',cT',I,cI,P,cP,Q,cQ⟩ rs ts gc rows k fun _ _=>false)) (fun i _=>ts.length -(intOf i).toNat)
  case atStart=>exact⟨0,_,by omega,rfl,HW⟩
  case round=>
   clear HW;obtain⟨k,rows,hk,rfl,HW⟩:=hrel
   by_cases hlt:k<ts.length
   ·go_upto_region 6 with(fail)
    refine zB1 (X:=Nat) (by kernel_rfl) _ (fun gr=>[.pointer (some ⟨g,0,none⟩),.pointer (some ⟨g,0,none⟩),.pointer (some ⟨g,6,none⟩),.slice (some ⟨gc,0,none⟩) ts.length ts.length,.int .i64 k,.int .i64 ts.length,.int .i64 ((ts.length:Int)+1),.slice (some ⟨gr,0,none⟩) (ts.length+1) (ts.length+1),.pointer (some ⟨gc,k,none⟩),undef]) [true,true,true,true,true,true,true,true,true,true] [7,9] (InvG w wr g ⟨R,cR,T',cT',I,cI,P,cP,Q,cQ⟩ rs ts gc rows k) 0 (by kernel_rfl) (fun gr=>by simp[fin,zAm,zAb,List.range,List.range.loop,Act.put];rfl) (fun _=>by kernel_rfl) (by kernel_rfl) (zA2 (Below.refl _ _)) ?_ ?_
    ·refine⟨fun L gr wq1 hL hb ha hI=>?_,fun L gr wq1 hL hb ha hI=>?_,fun L gr wq1 hL hb ha hI=>?_,fun L gr wq1 hL hb ha hI=>?_,fun L gr wq1 hL hb ha hI=>?_,fun L gr wq1 hL hb ha hI=>?_,fun L gr wq1 hL hb ha hI=>?_,fun L gr wq1 hL hb ha hI=>?_,fun L gr wq1 hL hb ha hI=>?_,fun L gr wq1 hL hb ha hI=>?_,trivial⟩
     ·exact jq (.pointer (some ⟨g,0,none⟩)) wq1 (by kernel_rfl) rfl hI
     ·exact jq (.pointer (some ⟨g,0,none⟩)) wq1 (by simp[go_sem]) rfl hI
     ·exact jq (.pointer (some ⟨g,6,none⟩)) wq1 (by simp[go_sem]) rfl hI
     ·have cJ:=(HW.out.keep (hI.bel (ha 9 (by kernel_rfl)))).blk.cell 6;exact jq (.slice (some ⟨gc,0,none⟩) ts.length ts.length) wq1 (by simp[go_sem,cJ]) rfl hI
     ·exact jq (.int .i64 k) wq1 (by kernel_rfl) rfl hI
     ·exact jq (.int .i64 ts.length) wq1 (by kernel_rfl) rfl hI
     ·have hw1:IntKind.i64.wrap ((ts.length:Int)+1)=(ts.length:Int)+1:=IntWalk.i64_in _ (by omega);exact jq (.int .i64 ((ts.length:Int)+1)) wq1 (by simp[go_sem,hw1]) rfl hI
     ·have e7:L 7=false:=hL;have e9:L 9=false:=ha 9 (by kernel_rfl);simp only[List.map,e7,e9] at hI⊢;have hrun:=run_make (P:=Tryz.prog) wq1 181 138 i0 (.slice none 0 0) Tryz.underlying181 hi hz0 .i64 .i64 ((ts.length:Int)+1) ((ts.length:Int)+1) (by omega) (by omega) (by rw[hz2];omega) (by omega);rw[hz1,Nat.mul_one,show((ts.length:Int)+1).toNat=ts.length+1 by omega] at hrun;have hbe:Below wr.heap.size wr wq1:=hI;have hba:=zA0 wq1 (.cells (zO9 (ts.length+1)) 138);exact jv (.slice (some ⟨wq1.heap.size,0,none⟩) (ts.length+1) (ts.length+1)) (wq1.alloc (.cells (zO9 (ts.length+1)) 138)) (by simp[go_sem,hrun]) ⟨wq1.heap.size,rfl,(zA5.of_same ⟨jK,jK,jK,jK,jK,jK,jK,.inl rfl,jK,jK,trivial⟩),hbe.trans (hba.mono hbe.size),Blk.new _ _ _,hbe.size⟩
     ·have hkt:=hlt;exact jq (.pointer (some ⟨gc,k,none⟩)) wq1 (by simp[go_sem];omega) rfl hI
     ·have e7:L 7=true:=hb 7 (by kernel_rfl);have e9:L 9=false:=hL;simp only[List.map,e7,e9] at hI⊢;obtain⟨hbe,hgr,hlo⟩:=hI;have hW:=HW.out.keep hbe;obtain⟨cs,hcs,hsz,_⟩:=hW.outer;have hlt9:k<cs.size:=by omega
      have cJ:wq1.cell? ⟨gc,k,none⟩=some cs[k]:=by rw[hcs.cell];exact Array.getElem?_eq_getElem hlt9
      have fJ:=hcs.frozen k;exact Gives.skip (w':=wq1.setCell ⟨gc,k,none⟩ (.slice (some ⟨gr,0,none⟩) (ts.length+1) (ts.length+1))) (by simp[go_sem,cJ,fJ]) ⟨gr,rfl,zA5.same,hW.grow hlt hgr (fun i hi e=>by
       obtain⟨cs',h1,_⟩:=HW.out.row i hi;have:=h1.lt;omega) (Nat.le_trans HW.out.below.size hlo)⟩
    ·intro gr wq1 hI;have HW:=zh (show TabW w wq1 g ⟨R,cR,T',cT',I,cI,P,cP,Q,cQ⟩ rs ts gc (fun i=>if i=k then gr else rows i) (k+1) fun _ _=>false from hI);clear hI;go_wp2_with fail;go_roundw
     case rel=>exact⟨k+1,_,by omega,by go_num,HW⟩
     case measure=>simp[intOf];omega
   ·obtain rfl:k=ts.length:=by omega
    have HW:Hid (TabW w wr g ⟨R,cR,T',cT',I,cI,P,cP,Q,cQ⟩ rs ts gc rows ts.length (zLp ts.length 1 0)):=zh (HW.out.sub fun p q h=>by rw[zF7] at h;omega);go_wp2_with fail
    go_loopw [8] (fun z wr=>∃s:Nat,1≤s∧s≤ts.length+1∧z= .int .i64 s∧Hid (TabW w wr g ⟨R,cR,T',cT',I,cI,P,cP,Q,cQ⟩ rs ts gc rows ts.length (zLp ts.length s 0))) (fun z _=>ts.length+1 -(intOf z).toNat)
    case atStart=>exact⟨1,by omega,by omega,rfl,HW⟩
    case round=>
     clear HW;obtain⟨s,hs1,hs2,rfl,HW⟩:=hrel
     by_cases hls:s≤ts.length
     ·go_wp2_with fail
      go_loopw [9] (fun z wr=>∃i:Nat,i+s≤ts.length+1∧z= .int .i64 i∧Hid (TabW w wr g ⟨R,cR,T',cT',I,cI,P,cP,Q,cQ⟩ rs ts gc rows ts.length (zLp ts.length s i))) (fun z _=>ts.length+1 -(intOf z).toNat)
      case atStart=>exact⟨0,by omega,rfl,HW⟩
      case round=>
       clear HW;obtain⟨i,hi2,rfl,HW⟩:=hrel
       by_cases hli:i+s≤ts.length
       ·go_upto_region 14 with(fail)
        refine zB1 (X:=Value×List Nat) (by kernel_rfl) _ (fun gr=>[.pointer (some ⟨g,0,none⟩),.pointer (some ⟨g,0,none⟩),.pointer (some ⟨g,6,none⟩),.slice (some ⟨gc,0,none⟩) ts.length ts.length,.int .i64 i,.pointer (some ⟨gc,i,none⟩),.slice (some ⟨rows i,0,none⟩) (ts.length+1) (ts.length+1),.int .i64 i,.int .i64 s,.int .i64 ((i:Int)+(s:Int)),.pointer (some ⟨g,0,none⟩),.int .i64 i,.int .i64 i,.int .i64 s,.int .i64 ((i:Int)+(s:Int)),gr.1,.pointer (some ⟨rows i,i+s,none⟩),undef]) [true,true,true,true,true,true,true,true,true,true,true,true,true,true,true,true,true,true] [15,17] (InvH w wr g ⟨R,cR,T',cT',I,cI,P,cP,Q,cQ⟩ rs ts gc rows s i) (.nilFunc,[]) (by kernel_rfl) (fun gr=>by simp[fin,zAm,zAb,List.range,List.range.loop,Act.put];rfl) (fun _=>by kernel_rfl) (by kernel_rfl) (zA2 (Below.refl _ _)) ?_ ?_
        ·refine⟨fun L gr wq2 hL hb ha hI=>?_,fun L gr wq2 hL hb ha hI=>?_,fun L gr wq2 hL hb ha hI=>?_,fun L gr wq2 hL hb ha hI=>?_,fun L gr wq2 hL hb ha hI=>?_,fun L gr wq2 hL hb ha hI=>?_,fun L gr wq2 hL hb ha hI=>?_,fun L gr wq2 hL hb ha hI=>?_,fun L gr wq2 hL hb ha hI=>?_,fun L gr wq2 hL hb ha hI=>?_,fun L gr wq2 hL hb ha hI=>?_,fun L gr wq2 hL hb ha hI=>?_,fun L gr wq2 hL hb ha hI=>?_,fun L gr wq2 hL hb ha hI=>?_,fun L gr wq2 hL hb ha hI=>?_,fun L gr wq2 hL hb ha hI=>?_,fun L gr wq2 hL hb ha hI=>?_,fun L gr wq2 hL hb ha hI=>?_,trivial⟩
         ·exact jq (.pointer (some ⟨g,0,none⟩)) wq2 (by kernel_rfl) rfl hI
         ·exact jq (.pointer (some ⟨g,0,none⟩)) wq2 (by simp[go_sem]) rfl hI
         ·exact jq (.pointer (some ⟨g,6,none⟩)) wq2 (by simp[go_sem]) rfl hI
         ·have cJ:=(HW.out.keep (hI.bel (ha 17 (by kernel_rfl)))).blk.cell 6;exact jq (.slice (some ⟨gc,0,none⟩) ts.length ts.length) wq2 (by simp[go_sem,cJ]) rfl hI
         ·exact jq (.int .i64 i) wq2 (by kernel_rfl) rfl hI
         ·have hkt:i<ts.length:=by omega
          exact jq (.pointer (some ⟨gc,i,none⟩)) wq2 (by simp[go_sem,hkt]) rfl hI
         ·obtain⟨cs,hcs,_,hci⟩:=(HW.out.keep (hI.bel (ha 17 (by kernel_rfl)))).outer;have cJ:=(hcs.cell i).trans (hci i (by omega));exact jq (.slice (some ⟨rows i,0,none⟩) (ts.length+1) (ts.length+1)) wq2 (by simp[go_sem,cJ]) rfl hI
         ·exact jq (.int .i64 i) wq2 (by kernel_rfl) rfl hI
         ·exact jq (.int .i64 s) wq2 (by kernel_rfl) rfl hI
         ·have hw1:IntKind.i64.wrap ((i:Int)+(s:Int))=(i:Int)+(s:Int):=IntWalk.i64_in _ (by omega);exact jq (.int .i64 ((i:Int)+(s:Int))) wq2 (by simp[go_sem,hw1]) rfl hI
         ·exact jq (.pointer (some ⟨g,0,none⟩)) wq2 (by kernel_rfl) rfl hI
         ·exact jq (.int .i64 i) wq2 (by kernel_rfl) rfl hI
         ·exact jq (.int .i64 i) wq2 (by kernel_rfl) rfl hI
         ·exact jq (.int .i64 s) wq2 (by kernel_rfl) rfl hI
         ·have hw1:IntKind.i64.wrap ((i:Int)+(s:Int))=(i:Int)+(s:Int):=IntWalk.i64_in _ (by omega);exact jq (.int .i64 ((i:Int)+(s:Int))) wq2 (by simp[go_sem,hw1]) rfl hI
         ·have e15:L 15=false:=hL;have e17:L 17=false:=ha 17 (by kernel_rfl);simp only[List.map,e15,e17] at hI⊢;have hbe:Below wr.heap.size wr wq2:=hI;have h:=zY4 g ⟨R,cR,T',cT',I,cI,P,cP,Q,cQ⟩ rs ts gc rows (zLp ts.length s i) i (i+s) wq2 HV.out ((HW.out.keep hbe).tab HR2.out HT2.out) (by omega) (by omega) (fun p q h1 h2 h3 h4=>by rw[zF7];omega) hn hm;rw[show((i+s:Nat):Int)=(i:Int)+(s:Int) by omega] at h;refine jc 142 (#[ptrV g,.int .i64 i,.int .i64 ((i:Int)+(s:Int))]) wq2 (by kernel_rfl) (h.mono ?_);clear h;rintro e wa ⟨v,bs,rfl,ho,hsh,hb5⟩;exact⟨_,rfl,(v,bs),rfl,(zA5.of_same ⟨jK,jK,jK,jK,jK,jK,jK,jK,jK,jK,jK,jK,jK,jK,jK,.inl rfl,jK,jK,trivial⟩),hbe.trans (hb5.mono hbe.size),ho.more hbe.size,hsh⟩
         ·have hkt:(i:Int)+(s:Int)<(ts.length:Int)+1:=by omega
          have hk0:(0:Int)≤(i:Int)+(s:Int):=by omega
          have hkn:((i:Int)+(s:Int)).toNat=i+s:=by omega
          exact jq (.pointer (some ⟨rows i,i+s,none⟩)) wq2 (by simp[go_sem,hkt,hk0,hkn]) rfl hI
         ·have e15:L 15=true:=hb 15 (by kernel_rfl);have e17:L 17=false:=hL;simp only[List.map,e15,e17] at hI⊢;obtain⟨hbe,ho,hsh⟩:=hI;obtain⟨gv,gbs⟩:=gr;obtain⟨A9,c9,e9,hl9,hc9,hP9⟩:=OwnP.form ho;dsimp only at e9;subst e9;have hW:=HW.out.keep hbe;obtain⟨cs,hcs,hsz,_⟩:=hW.row i (by omega);have hlt9:i+s<cs.size:=by omega
          have cJ:wq2.cell? ⟨rows i,i+s,none⟩=some cs[i+s]:=by rw[hcs.cell];exact Array.getElem?_eq_getElem hlt9
          have fJ:=hcs.frozen (i+s);exact Gives.skip (w':=wq2.setCell ⟨rows i,i+s,none⟩ (.slice A9 gbs.length c9)) (by simp[go_sem,cJ,fJ]) ⟨_,rfl,zA5.same,hW.store (by omega) (by omega) hl9 hc9 hP9 hsh (fun p q h=>by rw[zF7] at h⊢;omega)⟩
        ·intro gr wq2 hI;have HW:=zh (show TabW w wq2 g ⟨R,cR,T',cT',I,cI,P,cP,Q,cQ⟩ rs ts gc rows ts.length (zLp ts.length s (i+1)) from hI);clear hI;go_wp2_with fail;go_roundw
         case rel=>exact⟨i+1,by omega,by go_num,HW⟩
         case measure=>simp[intOf];omega
       ·have HW:=zh (HW.out.sub (fill':=zLp ts.length (s+1) 0) fun p q h=>by rw[zF7] at h⊢;omega);go_wp2_with fail;go_roundw
        case rel=>exact⟨s+1,by omega,by omega,by go_num,HW⟩
        case measure=>simp[intOf];omega
     ·have HW:=zh (HW.out.sub (fill':=fun p q=>decide (p<q)&&decide (q≤ts.length)) fun p q h=>by simp at h;rw[zF7];omega);go_wp2_with fail;go_ret;exact⟨_,_,_,_,rfl,HW.out.tab HR2.out HT2.out,HW.out.below⟩
abbrev rdC (r a:Int)(A:Option Addr)(n cap:Nat):Array Value:= #[.int .i64 r,.int .i64 a,.slice A n cap]
inductive RdAt (ok:Nat→Prop) (w:World):Rd→Array Value→Prop
 |mk (r a:Int) (ks:List Rd) (A:Option Addr) (cap:Nat) (ad:Addr) (cs:Nat→Array Value) (hn:ks.length≤cap) (hc:cap≤9223372036854775807)
   (hA:ks=[]∨(A=some ad∧ad.block<w.heap.size∧ok ad.block)) (hcell:∀i,i<ks.length→∀j,j<3→w.cell? (ad.add (i*3+j))=(cs i)[j]?)
   (hk:∀(i:Nat) (h:i<ks.length),RdAt ok w ks[i] (cs i)):RdAt ok w (.mk r a ks) (rdC r a A ks.length cap)
def zCa (ok:Nat→Prop)(w:World)(A:Option Addr)(ks:List Rd):Prop:=∀(i:Nat) (x:Rd),ks[i]?=some x→∃ad:Addr,A=some ad∧ad.block<w.heap.size∧ok ad.block∧∃c,RdAt ok w x c∧∀j,j<3→w.cell? (ad.add (i*3+j))=c[j]?
theorem RdAt.map {ok ok':Nat→Prop}{w w':World}(hs:w.heap.size≤w'.heap.size)(hok:∀b,b<w.heap.size→ok b→ok' b)(hc:∀p:Addr,p.block<w.heap.size→ok p.block→w'.cell? p=w.cell? p){x:Rd}{c:Array Value}(h:RdAt ok w x c):RdAt ok' w' x c:=by
 induction h with
 |mk r a ks A cap ad cs hn hcap hA hcell hk ih=>
  refine .mk r a ks A cap ad cs hn hcap (hA.imp id fun⟨h1,h2,h3⟩=>⟨h1,ll h2 hs,hok _ h2 h3⟩) (fun i hi j hj=>?_) ih;rcases hA with h|⟨h1,h2,h3⟩
  ·subst h;simp at hi
  ·rw[hc _ (by rw[add_block];exact h2) (by rw[add_block];exact h3)];exact hcell i hi j hj
theorem RdAt.keep {ok:Nat→Prop}{w w':World}{x:Rd}{c:Array Value}(h:RdAt ok w x c)(hb:Below w.heap.size w w'):RdAt ok w' x c:=h.map hb.size (fun _ _ h=>h) fun _ hp _=>hb.cell hp
theorem RdAt.any {ok ok':Nat→Prop}{w:World}{x:Rd}{c:Array Value}(h:RdAt ok w x c)(hok:∀b,b<w.heap.size→ok b→ok' b):RdAt ok' w x c:=h.map (Nat.le_refl _) hok fun _ _ _=>rfl
theorem RdAt.grown {ok ok':Nat→Prop}{w w':World}{row:Option Nat}{x:Rd}{c:Array Value}(h:RdAt ok w x c)(hg:w.grownBy w' row)(hr:∀b,b<w.heap.size→ok b→some b≠row)(hok:∀b,b<w.heap.size→ok b→ok' b):RdAt ok' w' x c:=
 h.map hg.size hok fun _ hp ho=>World.cell?_of_block (hg.block _ hp (hr _ hp ho))
theorem zCa.map {ok ok':Nat→Prop}{w w':World}(hs:w.heap.size≤w'.heap.size)(hok:∀b,b<w.heap.size→ok b→ok' b)(hc:∀p:Addr,p.block<w.heap.size→ok p.block→w'.cell? p=w.cell? p){A:Option Addr}{ks:List Rd}(h:zCa ok w A ks):zCa ok' w' A ks:=fun i x hi=>by
 obtain⟨ad,h1,h2,h3,c,h4,h5⟩:=h i x hi;exact⟨ad,h1,ll h2 hs,hok _ h2 h3,c,h4.map hs hok hc,fun j hj=>by rw[hc _ (by rw[add_block];exact h2) (by rw[add_block];exact h3)];exact h5 j hj⟩
theorem zCa.keep {ok:Nat→Prop}{w w':World}{A:Option Addr}{ks:List Rd}(h:zCa ok w A ks)(hb:Below w.heap.size w w'):zCa ok w' A ks:=h.map hb.size (fun _ _ h=>h) fun _ hp _=>hb.cell hp
theorem zCa.any {ok ok':Nat→Prop}{w:World}{A:Option Addr}{ks:List Rd}(h:zCa ok w A ks)(hok:∀b,b<w.heap.size→ok b→ok' b):zCa ok' w A ks:=h.map (Nat.le_refl _) hok fun _ _ _=>rfl
theorem RdAt.size {ok:Nat→Prop}{w:World}{x:Rd}{c:Array Value}(h:RdAt ok w x c):c.size=3:=by cases h;rfl
theorem RdAt.form {ok:Nat→Prop}{w:World}{x:Rd}{c:Array Value}(h:RdAt ok w x c):∃A cap,c=rdC x.rule x.at_ A x.kids.length cap∧x.kids.length≤cap∧cap≤9223372036854775807∧zCa ok w A x.kids:=by
 cases h with
 |mk r a ks A cap ad cs hn hcap hA hcell hk=>
  refine⟨A,cap,rfl,hn,hcap,fun i x hi=>?_⟩;obtain⟨hl,rfl⟩:=List.getElem?_eq_some_iff.1 hi;have hl:i<ks.length:=hl;rcases hA with h|⟨h1,h2,h3⟩
  ·subst h;simp at hl
  ·exact⟨ad,h1,h2,h3,cs i,hk i hl,hcell i hl⟩
theorem RdAt.of {ok:Nat→Prop}{w:World}{r a:Int}{ks:List Rd}{A:Option Addr}{cap:Nat}(hn:ks.length≤cap)(hc:cap≤9223372036854775807)(hk:zCa ok w A ks):RdAt ok w (.mk r a ks) (rdC r a A ks.length cap):=by
 by_cases h0:ks=[]
 ·subst h0;exact .mk r a [] A cap ⟨0,0,none⟩ (fun _=> #[]) hn hc (.inl rfl) (fun i hi=>by simp at hi) (fun i hi=>by simp at hi)
 ·have h1:0<ks.length:=List.length_pos_iff.2 h0;obtain⟨ad,hA,hlt,hok,_⟩:=hk 0 ks[0] (gE h1);have ex:∀i,∃c,∀h:i<ks.length,RdAt ok w ks[i] c∧∀j,j<3→w.cell? (ad.add (i*3+j))=c[j]?:=fun i=>by
   by_cases h:i<ks.length
   ·obtain⟨ad',hA',_,_,c,h2,h3⟩:=hk i ks[i] (gE h);obtain rfl:ad=ad':=by rw[hA] at hA';exact sj hA'
    exact⟨c,fun _=>⟨h2,h3⟩⟩
   ·exact⟨#[],fun h'=>absurd h' h⟩
  obtain⟨cs,hcs⟩:=Classical.axiomOfChoice ex;exact .mk r a ks A cap ad cs hn hc (.inr ⟨hA,hlt,hok⟩) (fun i hi=>(hcs i hi).2) (fun i hi=>(hcs i hi).1)
def OwnR (ok:Nat→Prop)(w:World)(B:Nat)(v:Value)(xs:List Rd):Prop:=∃css:List (Array Value),w.ownsRow B 49 3 v xs.length (css.flatMap (·.toList))∧css.length=xs.length∧(∀(j:Nat) c x,css[j]?=some c→xs[j]?=some x→RdAt ok w x c)
theorem flat3:∀(l:List (Array Value)) (k j:Nat) (c:Array Value),(∀c∈l,c.size=3)→l[k]?=some c→j<3→(l.flatMap (·.toList))[k*3+j]?=c[j]?
 |[],k,j,c,_,h,_=>by simp at h
 |x::r,0,j,c,hs,h,hj=>by
  obtain rfl:x=c:=by simpa using h
  have:=hs x List.mem_cons_self;rw[List.flatMap_cons,List.getElem?_append_left (by simp;omega)];simp
 |x::r,k+1,j,c,hs,h,hj=>by
  have ih:=flat3 r k j c (fun c hc=>hs c (List.mem_cons_of_mem _ hc)) (by simpa using h) hj;have:=hs x List.mem_cons_self;rw[List.flatMap_cons,List.getElem?_append_right (by simp;omega),←ih]
  congr 1
  simp;omega
theorem OwnR.nil (ok:Nat→Prop)(w:World)(B:Nat):OwnR ok w B (.slice none 0 0) []:=⟨[],World.ownsRow_nil _ _ _ _,rfl,fun j c x h=>by simp at h⟩
theorem OwnR.size {ok:Nat→Prop}{w:World}{xs:List Rd}{css:List (Array Value)}(hl:css.length=xs.length)(h:∀(j:Nat) c x,css[j]?=some c→xs[j]?=some x→RdAt ok w x c):∀c∈css,c.size=3:=fun c hc=>by
 obtain⟨j,hj⟩:=List.mem_iff_getElem?.1 hc;have hj2:=(List.getElem?_eq_some_iff.1 hj).1;exact(h j c xs[j] hj (gE (by omega))).size
theorem OwnR.keep {ok:Nat→Prop}{w w':World}{B:Nat}{v:Value}{xs:List Rd}(h:OwnR ok w B v xs)(hb:Below w.heap.size w w'):OwnR ok w' B v xs:=by
 obtain⟨css,h1,h2,h3⟩:=h;exact⟨css,own_below h1 hb,h2,fun j c x hj hx=>(h3 j c x hj hx).keep hb⟩
theorem OwnR.more {ok:Nat→Prop}{w:World}{B B':Nat}{v:Value}{xs:List Rd}(h:OwnR ok w B v xs)(hB:B'≤B):OwnR ok w B' v xs:=by
 obtain⟨css,h1,h2⟩:=h;exact⟨css,zFi h1 hB,h2⟩
theorem OwnR.any {ok ok':Nat→Prop}{w:World}{B:Nat}{v:Value}{xs:List Rd}(h:OwnR ok w B v xs)(hok:∀b,b<w.heap.size→ok b→ok' b):OwnR ok' w B v xs:=by
 obtain⟨css,h1,h2,h3⟩:=h;exact⟨css,h1,h2,fun j c x hj hx=>(h3 j c x hj hx).any hok⟩
theorem OwnR.zLc {ok P:Nat→Prop}{w:World}{B:Nat}{v:Value}{xs:List Rd}(h:OwnR ok w B v xs)(hB:∀b,B≤b→P b)(hok:∀b,ok b→P b):∃A cap,v= .slice A xs.length cap∧xs.length≤cap∧cap≤9223372036854775807∧zCa P w A xs:=by
 obtain⟨css,ho,hl,hr⟩:=h;have hsz:=OwnR.size hl hr;rcases ho.2 with⟨rfl,h0⟩|⟨g,cap,cur,rfl,hg,hb,hn,hc,hs,ht⟩
 ·obtain rfl:xs=[]:=List.length_eq_zero_iff.1 h0;exact⟨none,0,rfl,by simp,by omega,fun j p hj=>by simp at hj⟩
 ·have hb':Blk w g 49 cur:=hb;refine⟨_,cap,rfl,hn,by unfold maxLen at hc;omega,fun i x hi=>⟨⟨g,0,none⟩,rfl,hb'.lt,hB g hg,?_⟩⟩;have hil:=(List.getElem?_eq_some_iff.1 hi).1;obtain⟨c,hci⟩:∃c,css[i]?=some c:=⟨_,gE (by omega)⟩
  refine⟨c,(hr i c x hci hi).any fun b _ h=>hok b h,fun j hj=>?_⟩;have h3:=flat3 css i j c hsz hci hj;have hjc:j<c.size:=by rw[hsz c (List.mem_of_getElem? hci)];exact hj
  have h4:c[j]?=some c[j]:=Array.getElem?_eq_getElem hjc;rw[show(⟨g,0,none⟩:Addr).add (i*3+j)=⟨g,i*3+j,none⟩ by unfold Addr.add;split<;>simp_all,hb'.cell];rw[h4] at h3⊢;rw[←ht,List.getElem?_take] at h3
  split at h3
  ·rw[←Array.getElem?_toList];exact h3
  ·cases h3
theorem OwnR.form {ok:Nat→Prop}{w:World}{B:Nat}{v:Value}{xs:List Rd}(h:OwnR ok w B v xs):∃A cap,v= .slice A xs.length cap∧xs.length≤cap∧cap≤9223372036854775807∧zCa (fun _=>True) w A xs:=h.zLc (fun _ _=>trivial) fun _ _=>trivial
theorem OwnR.lt {ok:Nat→Prop}{w:World}{B:Nat}{v:Value}{xs:List Rd}(h:OwnR ok w B v xs):∀r,v.ownBlock=some r→B≤r∧r<w.heap.size:=by
 obtain⟨css,ho,_⟩:=h;exact World.ownsRow.lt ho
theorem OwnR.snoc {ok ok':Nat→Prop}{w w':World}{B:Nat}{v v':Value}{xs:List Rd}{css:List (Array Value)}{x:Rd}{c:Array Value}(hl:css.length=xs.length)(h:∀(j:Nat) c x,css[j]?=some c→xs[j]?=some x→RdAt ok w x c)(hx:RdAt ok w x c)(ho:w'.ownsRow B 49 3 v' (xs.length+1) (css.flatMap (·.toList)++c.toList))(hg:w.grownBy w' v.ownBlock)(hr:∀b,b<w.heap.size→ok b→some b≠v.ownBlock)(hok:∀b,b<w.heap.size→ok b→ok' b):OwnR ok' w' B v' (xs++[x]):=by
 refine⟨css++[c],?_,by simp[hl],fun j d y hj hy=>?_⟩
 ·rw[List.length_append,List.flatMap_append]
  simpa using ho
 ·rcases Nat.lt_or_ge j css.length with hlt|hge
  ·rw[List.getElem?_append_left hlt] at hj;rw[List.getElem?_append_left (by omega)] at hy;exact(h j d y hj hy).grown hg hr hok
  ·rw[List.getElem?_append_right hge] at hj;rw[List.getElem?_append_right (by omega),←hl] at hy
   by_cases e:j -css.length=0
   ·rw[e] at hj hy;obtain rfl:c=d:=by simpa using hj
    obtain rfl:x=y:=by simpa using hy
    exact hx.grown hg hr hok
   ·rw[List.getElem?_eq_none (by simp;omega)] at hj;cases hj
def AppR (P:Nat→Prop)(w:World)(B:Nat)(v:Value)(xs:List Rd):Prop:=OwnR (fun b=>v.ownBlock≠some b∧P b) w B v xs
theorem AppR.nil (P:Nat→Prop)(w:World)(B:Nat):AppR P w B (.slice none 0 0) []:=OwnR.nil _ _ _
theorem AppR.keep {P:Nat→Prop}{w w':World}{B:Nat}{v:Value}{xs:List Rd}(h:AppR P w B v xs)(hb:Below w.heap.size w w'):AppR P w' B v xs:=OwnR.keep h hb
theorem AppR.push {P:Nat→Prop}{w w':World}{B:Nat}{v v':Value}{xs:List Rd}{css:List (Array Value)}{x:Rd}{c:Array Value}(hl:css.length=xs.length)(h:∀(j:Nat) c x,css[j]?=some c→xs[j]?=some x→RdAt (fun b=>v.ownBlock≠some b∧P b) w x c)(hx:RdAt (fun b=>v.ownBlock≠some b∧P b) w x c)(ho:w'.ownsRow B 49 3 v' (xs.length+1) (css.flatMap (·.toList)++c.toList))(hg:w.grownBy w' v.ownBlock)(hv:v'.ownBlock=v.ownBlock∨v'.ownBlock=some w.heap.size):AppR P w' B v' (xs++[x]):=
 OwnR.snoc hl h hx ho hg (fun b _ hb e=>hb.1 e.symm) (fun b hb hok=>⟨by
  rcases hv with e|e
  ·rw[e];exact hok.1
  ·rw[e];intro h2;have:=sj h2;omega,hok.2⟩)
theorem AppR.set_ {P:Nat→Prop}{w:World}{B:Nat}{v:Value}{xs:List Rd}(h:AppR P w B v xs){p:Addr}(hp:¬P p.block)(hpB:p.block<B)(u:Value):AppR P (w.setCell p u) B v xs:=by
 obtain⟨css,h1,h2,h3⟩:=h;refine⟨css,World.ownsRow.kept h1 (zBj w p u) ?_,h2,fun j c x hj hx=>(h3 j c x hj hx).map (zBj w p u).size (fun _ _ h=>h) fun q _ ho=>World.cell?_setCell_other w p q u (fun e=>hp (by rw[e];exact ho.2))⟩;cases hv:v.ownBlock with
 |none=>exact .inl rfl
 |some b=>
  refine .inr fun e=>?_
  have:=(World.ownsRow.lt h1 b hv).1;have:=sj e;omega
theorem AppR.form {P:Nat→Prop}{w:World}{B:Nat}{v:Value}{xs:List Rd}(h:AppR P w B v xs)(hB:∀b,B≤b→P b):∃A cap,v= .slice A xs.length cap∧xs.length≤cap∧cap≤9223372036854775807∧zCa P w A xs:=OwnR.zLc h hB fun _ hb=>hb.2
theorem zCf {w:World}{g:Nat}{t:TypeId}{c:Array Value}{n:Nat}(h:Blk w g t c)(hn:c.size=n):Reads w w.heap.size n (some ⟨g,0,none⟩) 1 c.toList:=
 ⟨by simp[hn],fun _=>⟨⟨g,0,none⟩,rfl,h.lt,fun j v hj=>by
  have e:(⟨g,0,none⟩:Addr).add j=⟨g,j,none⟩:=by unfold Addr.add;split<;>simp_all
  rw[e,h.cell]
  simpa using hj⟩⟩
theorem zSz {ok:Nat→Prop}{w:World}{x:Rd}{c:Array Value}(h:RdAt ok w x c):∀u∈c.toList,u.oneCell'=true:=by
 obtain⟨A,cap,rfl,_⟩:=h.form;intro u hu;simp at hu;rcases hu with rfl|rfl|rfl<;>rfl
theorem zTd:(Tryz.prog.info? 49).map (fun i=>(i.zero,i.size,i.bytes))=some (some (.agg #[.int .i64 0,.int .i64 0,.slice none 0 0]),3,40):=by kernel_rfl
theorem ShAt.kids {rs:List Rul}{w:World}{g:Nat}{x:Rd}(h:ShAt rs w g x):∃kv:Nat→Value,Blk w g 185 (shC rs x.rule x.at_ (kv 0) (kv 1))∧x.kids.length≤2∧∀k,k<2→(x.kids.length≤k∧kv k= .pointer none)∨∃b y,x.kids[k]?=some y∧kv k=ptrV b∧ShAt rs w b y:=by
 cases h with
 |leaf _ r a hb=>
  refine⟨fun _=>.pointer none,hb,by simp[Rd.kids],fun k _=>.inl ⟨by simp[Rd.kids],rfl⟩⟩
 |one _ r a g0 x hb hx=>
  refine⟨fun k=>if k=0 then ptrV g0 else .pointer none,hb,by simp[Rd.kids],fun k hk=>?_⟩
  by_cases e:k=0
  ·subst e;exact .inr ⟨g0,x,rfl,rfl,hx⟩
  ·exact .inl ⟨by simp[Rd.kids];omega,if_neg e⟩
 |two _ r a g0 g1 x y hb hx hy=>
  refine⟨fun k=>if k=0 then ptrV g0 else ptrV g1,hb,by simp[Rd.kids],fun k hk=>?_⟩
  by_cases e:k=0
  ·subst e;exact .inr ⟨g0,x,rfl,rfl,hx⟩
  ·obtain rfl:k=1:=by omega
   exact .inr ⟨g1,y,rfl,rfl,hy⟩
theorem zIn {ks:List Rd}{k:Nat}{y:Rd}(h:ks[k]?=some y):zEs y≤zRy ks:=by
 induction ks generalizing k with
 |nil=>simp at h
 |cons a ks ih=>
  rw[zRy];cases k with
  |zero=>simp at h;subst h;omega
  |succ k=>have:=ih (k:=k) (by simpa using h);omega
def zZn (x:Rd)(w:World)(e:Ending)(w':World):Prop:=∃c,e= .returned (.agg c)∧RdAt (fun b=>w.heap.size≤b) w' x c∧Below w.heap.size w w'
abbrev rdZ:Array Value:= #[.int .i64 0,.int .i64 0,.slice none 0 0]
def InvX (w1:World)(r a:Int):List Bool→Unit→World→Prop
 |[ba,bs],_,wq=>Below w1.heap.size w1 wq∧(ba=false→wq.heap.size=w1.heap.size)∧(ba=true→Blk wq w1.heap.size 49 (if bs then #[.int .i64 r,.int .i64 a,.slice none 0 0] else rdZ))
 |_,_,_=>False
def InvY (wr:World)(B gB:Nat)(r a:Int)(v:Value)(xs:List Rd)(y:Rd):List Bool→Array Value×Nat×Value→World→Prop
 |[be,bb,ba,bs],gx,wq=>Below B wr wq∧Blk wq B 49 rdZ∧Blk wq gB 49 #[.int .i64 r,.int .i64 a,if bs then gx.2.2 else v]∧(ba=false→AppR (fun b=>B<b∧b≠gB) wq (gB+1) v xs)∧(be=true→ba=false→RdAt (fun b=>v.ownBlock≠some b∧B<b∧b≠gB) wq y gx.1)∧(bb=true→ba=false→Blk wq gx.2.1 49 gx.1)∧
   (ba=true→AppR (fun b=>B<b∧b≠gB) wq (gB+1) gx.2.2 (xs++[y]))
 |_,_,_=>False
theorem zKr (a b:Value)(w:World):(Instr.index 183 (.agg #[a,b]) (.int .i64 0)).run Tryz.prog w= .ok a w:=by kernel_rfl
theorem zKa (a b:Value)(w:World):(Instr.index 183 (.agg #[a,b]) (.int .i64 1)).run Tryz.prog w= .ok b w:=by kernel_rfl
theorem InvY.keep {wr:World}{B gB:Nat}{r a:Int}{v:Value}{xs:List Rd}{y:Rd}{be bb ba bs:Bool}{gx:Array Value×Nat×Value}{wq w':World}(h:InvY wr B gB r a v xs y [be,bb,ba,bs] gx wq)(hs:B≤wq.heap.size)(hb:Below wq.heap.size wq w'):InvY wr B gB r a v xs y [be,bb,ba,bs] gx w':=by
 obtain⟨h1,h2,h3,h4,h5,h6,h7⟩:=h;exact⟨h1.trans (hb.mono hs),jL hb h2,jL hb h3,fun e=>(h4 e).keep hb,fun e e'=>(h5 e e').keep hb,fun e e'=>jL hb (h6 e e'),fun e=>(h7 e).keep hb⟩
set_option maxRecDepth 100000 in
set_option maxHeartbeats 4000000 in
theorem zSf (rs:List Rul):∀(m:Nat) (b:Nat) (x:Rd) (w:World),zEs x≤m→ShAt rs w b x→Calls Tryz.prog 87 #[ptrV b] w (zZn x w):=by
 intro m
 induction m with
 |zero=>intro b x w h;obtain⟨r,a,ks⟩:=x;simp only[zEs] at h;omega
 |succ m ih=>
  intro b x w hm hS;have IH:=zh ih;clear ih;obtain⟨i0,hi,hz0,hz1,hz2⟩:=info_parts zTd;have hba:=zA0 w (.cells rdZ 49);obtain⟨kv,hK,hkl,hkd⟩:=hS.kids;have HK0:=zh hK;have HK:=zh (keep hba hK);have HKD:=zh hkd;have HKL:=zh hkl;have HM:=zh hm;have HB:=zh hba;have K0:=zh (Blk.new w 49 rdZ);have HS1:=zh (World.size_alloc w (.cells rdZ 49));clear hba hK hkd hkl hm hS;go_enter Tryz.func87,Tryz.ntmps87;go_upto_region 1 with(fail)
  generalize w.alloc (.cells rdZ 49)=w1 at*;refine zB1 (X:=Unit) (by kernel_rfl) _ (fun gx=>[.pointer (some ⟨b,0,none⟩),.pointer (some ⟨b,0,none⟩),.pointer (some ⟨b,0,none⟩),.int .i64 x.rule,.pointer (some ⟨b,0,none⟩),.pointer (some ⟨b,0,none⟩),.pointer (some ⟨b,1,none⟩),.int .i64 x.at_,.agg #[.int .i64 x.rule,.int .i64 x.at_,.slice none 0 0],.pointer (some ⟨w.heap.size+1,0,none⟩),undef]) [true,true,true,true,true,true,true,true,true,true,true] [9,10] (InvX w1 x.rule x.at_) () (by kernel_rfl) (fun gx=>by simp[fin,zAm,zAb,List.range,List.range.loop,Act.put];rfl) (fun _=>by kernel_rfl) (by kernel_rfl) ⟨zA2 (Below.refl _ _),(fun _=>rfl),fun h=>by cases h⟩ ?_ ?_
  ·refine⟨fun L gx wq hL hb ha hI=>?_,fun L gx wq hL hb ha hI=>?_,fun L gx wq hL hb ha hI=>?_,fun L gx wq hL hb ha hI=>?_,fun L gx wq hL hb ha hI=>?_,fun L gx wq hL hb ha hI=>?_,fun L gx wq hL hb ha hI=>?_,fun L gx wq hL hb ha hI=>?_,fun L gx wq hL hb ha hI=>?_,fun L gx wq hL hb ha hI=>?_,fun L gx wq hL hb ha hI=>?_,trivial⟩
   ·exact jq (.pointer (some ⟨b,0,none⟩)) wq (by kernel_rfl) rfl hI
   ·exact jq (.pointer (some ⟨b,0,none⟩)) wq (by simp[go_sem]) rfl hI
   ·exact jq (.pointer (some ⟨b,0,none⟩)) wq (by simp[go_sem]) rfl hI
   ·have cJ:=(keep hI.1 HK.out).cell 0;exact jq (.int .i64 x.rule) wq (by simp[go_sem,cJ]) rfl hI
   ·exact jq (.pointer (some ⟨b,0,none⟩)) wq (by kernel_rfl) rfl hI
   ·exact jq (.pointer (some ⟨b,0,none⟩)) wq (by simp[go_sem]) rfl hI
   ·exact jq (.pointer (some ⟨b,1,none⟩)) wq (by simp[go_sem]) rfl hI
   ·have cJ:=(keep hI.1 HK.out).cell 1;exact jq (.int .i64 x.at_) wq (by simp[go_sem,cJ]) rfl hI
   ·exact jq (.agg #[.int .i64 x.rule,.int .i64 x.at_,.slice none 0 0]) wq (by simp[go_sem]) rfl hI
   ·have e9:L 9=false:=hL;have e10:L 10=false:=ha 10 (by kernel_rfl);simp only[List.map,e9,e10] at hI⊢;obtain⟨hb1,hsz,_⟩:=hI;have hsz:=hsz rfl;have hba:=zA0 wq (.cells rdZ 49);exact jv (.pointer (some ⟨wq.heap.size,0,none⟩)) (wq.alloc (.cells rdZ 49)) (by simp[go_sem]) ⟨(),by rw[hsz,HS1.out];rfl,zA5.same,hb1.trans (hba.mono hb1.size),(fun h=>by cases h),fun _=>by rw[←hsz];exact Blk.new _ _ _⟩
   ·have e9:L 9=true:=hb 9 (by kernel_rfl);have e10:L 10=false:=hL;simp only[List.map,e9,e10] at hI⊢;obtain⟨hb1,_,hk⟩:=hI;have hk:Blk wq (w.heap.size+1) 49 rdZ:=by rw[←HS1.out];exact hk rfl
    have c0:=hk.cell 0;have c1:=hk.cell 1;have c2:=hk.cell 2;have fK:=fun i=>hk.frozen i
    exact Gives.skip (w':=((wq.setCell ⟨w.heap.size+1,0,none⟩ (.int .i64 x.rule)).setCell ⟨w.heap.size+1,1,none⟩ (.int .i64 x.at_)).setCell ⟨w.heap.size+1,2,none⟩ (.slice none 0 0)) (by simp[go_sem,c0,c1,c2,fK]) ⟨(),rfl,zA5.same,((hb1.setCell (p:=⟨w.heap.size+1,0,none⟩) (by rw[HS1.out];exact Nat.le_refl _) _).setCell (p:=⟨w.heap.size+1,1,none⟩) (by rw[HS1.out];exact Nat.le_refl _) _).setCell (p:=⟨w.heap.size+1,2,none⟩) (by rw[HS1.out];exact Nat.le_refl _) _,(fun h=>by cases h),fun _=>by rw[HS1.out];exact((hk.set_ 0 _).set_ 1 _).set_ 2 _⟩
  ·intro gx wq hI;obtain⟨hb1,_,hk⟩:=hI;have K1:Hid (Blk wq (w.heap.size+1) 49 #[.int .i64 x.rule,.int .i64 x.at_,.slice none 0 0]):=zh (by rw[←HS1.out];exact hk rfl);have HKQ:=kp hb1 HK;have K0:=kp hb1 K0;have HB:=jt HB hb1;clear hb1 hk HK HS1;have c3:=HKQ.out.cell 3;have c4:=HKQ.out.cell 4;go_wp2_with fail;clear c3 c4
   go_loopw [19] (fun i wr=>∃(k:Nat) (v:Value),k≤2∧i= .int .i64 k∧Hid (AppR (fun b=>w.heap.size<b∧b≠w.heap.size+1) wr (w.heap.size+1+1) v (x.kids.take k))∧Hid (Blk wr (w.heap.size+1) 49 #[.int .i64 x.rule,.int .i64 x.at_,v])∧Hid (Blk wr w.heap.size 49 rdZ)∧Hid (Below w.heap.size w wr)) (fun i _=>2 -(intOf i).toNat)
   case atStart=>exact⟨0,_,by omega,rfl,by rw[List.take_zero];exact AppR.nil _ _ _,K1,K0,HB⟩
   case round=>
    clear K1 K0 HB;obtain⟨k,v,hk2,rfl,HO,K1,K0,HB⟩:=hrel
    by_cases hlt:k<2
    ·rcases HKD.out k hlt with⟨hkn,hkv⟩|⟨b',y,hy,hkv,hsy⟩
     ·have HTK:=zh (show x.kids.take (k+1)=x.kids.take k by rw[List.take_of_length_le (by omega),List.take_of_length_le hkn]);rw[←HTK.out] at HO;have hk01:k=0∨k=1:=by omega
      clear hkn;rcases hk01 with rfl|rfl
      ·rw[hkv,show((0:Nat):Int)=0 from rfl];have hix:=zKr (.pointer none) (kv 1);clear hkv;go_wp2_with fail;go_roundw
       case rel=>exact⟨1,_,by omega,rfl,HO,K1,K0,HB⟩
       case measure=>simp[intOf]
      ·rw[hkv,show((1:Nat):Int)=1 from rfl];have hix:=zKa (kv 0) (.pointer none);clear hkv;go_wp2_with fail;go_roundw
       case rel=>exact⟨2,_,by omega,rfl,HO,K1,K0,HB⟩
       case measure=>simp[intOf]
     ·have HTK:=zh (show x.kids.take (k+1)=x.kids.take k++[y] by rw[List.take_add_one,hy];rfl);have HS0Y:=zh hsy;have HSZ:=zh (show zEs y≤m by
       have h1:=HM.out;obtain⟨r9,a9,ks9⟩:=x;rw[zEs] at h1;have h2:=zIn (show ks9[k]?=some y from hy);omega)
      have HXL:=zh (show(x.kids.take k).length≤2 by rw[List.length_take];omega);have hk01:k=0∨k=1:=by omega
      clear hy hsy;rcases hk01 with rfl|rfl
      ·rw[hkv,show((0:Nat):Int)=0 from rfl];have hix:=zKr (ptrV b') (kv 1);clear hkv;go_upto_region 6 with(fail)
       clear hix;refine zB1 (X:=Array Value×Nat×Value) (by kernel_rfl) _ (fun gx=>[.pointer (some ⟨w.heap.size+1,2,none⟩),v,ptrV b',.agg gx.1,.slice (some ⟨gx.2.1,0,none⟩) 1 1,gx.2.2,.pointer (some ⟨w.heap.size+1,2,none⟩),undef]) [true,true,true,true,true,true,true,true] [3,4,5,7] (InvY w w.heap.size (w.heap.size+1) x.rule x.at_ v (x.kids.take 0) y) (#[],0,.nilFunc) (by kernel_rfl) (fun gx=>by simp[fin,zAm,zAb,List.range,List.range.loop,Act.put];rfl) (fun _=>by kernel_rfl) (by kernel_rfl) ⟨zA2 HB.out,K0.out.drew,K1.out.drew,(fun _=>HO.out.keep (zA2 (Below.refl _ _))),(fun h=>by cases h),(fun h=>by cases h),fun h=>by cases h⟩ ?_ ?_
       ·refine⟨fun L gx wq hL hb ha hI=>?_,fun L gx wq hL hb ha hI=>?_,fun L gx wq hL hb ha hI=>?_,fun L gx wq hL hb ha hI=>?_,fun L gx wq hL hb ha hI=>?_,fun L gx wq hL hb ha hI=>?_,fun L gx wq hL hb ha hI=>?_,fun L gx wq hL hb ha hI=>?_,trivial⟩
        ·exact jq (.pointer (some ⟨w.heap.size+1,2,none⟩)) wq (by simp[go_sem]) rfl hI
        ·have e7:L 7=false:=ha 7 (by kernel_rfl);have cJ:=hI.2.2.1.cell 2;simp only[e7] at cJ;exact jq v wq (by simp[go_sem,cJ]) rfl hI
        ·exact jq (ptrV b') wq (by kernel_rfl) rfl hI
        ·have e3:L 3=false:=hL;have e4:L 4=false:=ha 4 (by kernel_rfl);have e5:L 5=false:=ha 5 (by kernel_rfl);simp only[List.map,e3,e4,e5] at hI⊢;have hsz:w.heap.size≤wq.heap.size:=by have:=hI.2.1.lt;omega
         refine jc 87 (#[ptrV b']) wq (by kernel_rfl) ((IH.out b' y wq HSZ.out (HS0Y.out.keep hI.1)).mono ?_);rintro e wa ⟨c,rfl,hc,hb5⟩;have hK:=hI.keep hsz hb5;exact⟨_,rfl,(c,gx.2),rfl,(by refine zA5.of_same ⟨?_,?_,?_,?_,?_,?_,?_,?_,trivial⟩<;>first|exact jK|exact .inl rfl|exact .inr (.inl (by kernel_rfl))),hK.1,hK.2.1,hK.2.2.1,hK.2.2.2.1,(fun _ _=>hc.any fun b _ hb=>⟨fun h=>by have:=((hI.2.2.2.1 rfl).lt b h).2;omega,by have:=hI.2.1.lt;omega,by have:=hI.2.2.1.lt;omega⟩),(fun h=>by cases h),fun h=>by cases h⟩
        ·have e3:L 3=true:=hb 3 (by kernel_rfl);have e4:L 4=false:=hL;have e5:L 5=false:=ha 5 (by kernel_rfl);simp only[List.map,e3,e4,e5] at hI⊢;have hsz:w.heap.size≤wq.heap.size:=by have:=hI.2.1.lt;omega
         have hK:=hI.keep hsz (zA0 wq (.cells gx.1 49));have hz:=(hI.2.2.2.2.1 rfl rfl).size;obtain⟨gc,gb,gv⟩:=gx;obtain⟨A8,c8,rfl,_⟩:=(hI.2.2.2.2.1 rfl rfl).form;exact jv (.slice (some ⟨wq.heap.size,0,none⟩) 1 1) (wq.alloc (.cells (rdC y.rule y.at_ A8 y.kids.length c8) 49)) (by simp[go_sem]) ⟨(_,wq.heap.size,gv),rfl,(by refine zA5.of_same ⟨?_,?_,?_,?_,?_,?_,?_,?_,trivial⟩<;>first|exact jK|exact .inl rfl|exact .inr (.inl (by kernel_rfl))),hK.1,hK.2.1,hK.2.2.1,hK.2.2.2.1,hK.2.2.2.2.1,(fun _ _=>Blk.new _ _ _),fun h=>by cases h⟩
        ·have e3:L 3=true:=hb 3 (by kernel_rfl);have e4:L 4=true:=hb 4 (by kernel_rfl);have e5:L 5=false:=hL;have e7:L 7=false:=ha 7 (by kernel_rfl);simp only[List.map,e3,e4,e5,e7] at hI⊢;obtain⟨h1,h2,h3,h4,h5,h6,_⟩:=hI;obtain⟨css,ho,hl,hr⟩:=h4 rfl;have hxl:=HXL.out;have hrow:∀b,v.ownBlock=some b→w.heap.size+1+1≤b:=fun b hb=>((h4 rfl).lt b hb).1
         exact zBg (.tmp 25) (.tmp 28) 39 rfl (w.heap.size+1+1) 49 i0 (.agg #[.int .i64 0,.int .i64 0,.slice none 0 0]) 3 40 Tryz.underlying39 hi hz0 hz1 hz2 rfl (by decide) v _ _ rfl ho wq.heap.size (some ⟨gx.2.1,0,none⟩) 1 1 gx.1.toList rfl (zCf (h6 rfl rfl) (h5 rfl rfl).size) (zSz (h5 rfl rfl)) (by unfold maxLen;omega) (by omega) (by have:=h3.lt;omega) (fun v' w' g2 g3 g4=>⟨(gx.1,gx.2.1,v'),rfl,(by refine zA5.of_same ⟨?_,?_,?_,?_,?_,?_,?_,?_,trivial⟩<;>first|exact jK|exact .inl rfl|exact .inr (.inl (by kernel_rfl))),h1.grown g3 (by have:=h2.lt;omega) (fun b hb=>by have:=hrow b hb;omega),h2.grown g3 (fun e=>by have:=hrow _ e.symm;omega),h3.grown g3 (fun e=>by have:=hrow _ e.symm;omega),(fun h=>by cases h),(fun _ h=>by cases h),(fun _ h=>by cases h),fun _=>AppR.push hl hr (h5 rfl rfl) g2 g3 g4⟩)
        ·exact jq (.pointer (some ⟨w.heap.size+1,2,none⟩)) wq (by simp[go_sem]) rfl hI
        ·have e3:L 3=true:=hb 3 (by kernel_rfl);have e4:L 4=true:=hb 4 (by kernel_rfl);have e5:L 5=true:=hb 5 (by kernel_rfl);have e7:L 7=false:=hL;simp only[List.map,e3,e4,e5,e7] at hI⊢;obtain⟨gc,gb,gv⟩:=gx;obtain⟨h1,h2,h3,_,_,_,h7⟩:=hI;have h3:Blk wq (w.heap.size+1) 49 #[.int .i64 x.rule,.int .i64 x.at_,v]:=h3;obtain⟨A5,c5,e9,_⟩:=(h7 rfl).form (fun b hb=>⟨by omega,by omega⟩);dsimp only at e9;subst e9;have cJ:=h3.cell 2;have fJ:=h3.frozen 2;have hfar:∀b,(Value.slice A5 (x.kids.take 0++[y]).length c5).ownBlock=some b→w.heap.size+1+1≤b:=fun b hb=>((h7 rfl).lt b hb).1
         exact Gives.skip (w':=wq.setCell ⟨w.heap.size+1,2,none⟩ (.slice A5 (x.kids.take 0++[y]).length c5)) (by simp[go_sem,cJ,fJ]) ⟨_,rfl,zA5.same,h1.setCell (p:=⟨w.heap.size+1,2,none⟩) (by show w.heap.size≤w.heap.size+1;omega) _,h2.far (by show w.heap.size≠w.heap.size+1;omega) _,h3.set_ 2 _,(fun h=>by cases h),(fun _ h=>by cases h),(fun _ h=>by cases h),fun _=>(h7 rfl).set_ (p:=⟨w.heap.size+1,2,none⟩) (fun h=>h.2 rfl) (by show w.heap.size+1<_;omega) _⟩
       ·intro gx wq hI;obtain⟨h1,h2,h3,_,_,_,h7⟩:=hI;have HB:=zh h1;have K0:=zh h2;have K1:=zh h3;have HO:=zh (h7 rfl);rw[←HTK.out] at HO;clear h1 h2 h3 h7;go_wp2_with fail;go_roundw
        case rel=>exact⟨1,_,by omega,rfl,HO,K1,K0,HB⟩
        case measure=>simp[intOf]
      ·rw[hkv,show((1:Nat):Int)=1 from rfl];have hix:=zKa (kv 0) (ptrV b');clear hkv;go_upto_region 6 with(fail)
       clear hix;refine zB1 (X:=Array Value×Nat×Value) (by kernel_rfl) _ (fun gx=>[.pointer (some ⟨w.heap.size+1,2,none⟩),v,ptrV b',.agg gx.1,.slice (some ⟨gx.2.1,0,none⟩) 1 1,gx.2.2,.pointer (some ⟨w.heap.size+1,2,none⟩),undef]) [true,true,true,true,true,true,true,true] [3,4,5,7] (InvY w w.heap.size (w.heap.size+1) x.rule x.at_ v (x.kids.take 1) y) (#[],0,.nilFunc) (by kernel_rfl) (fun gx=>by simp[fin,zAm,zAb,List.range,List.range.loop,Act.put];rfl) (fun _=>by kernel_rfl) (by kernel_rfl) ⟨zA2 HB.out,K0.out.drew,K1.out.drew,(fun _=>HO.out.keep (zA2 (Below.refl _ _))),(fun h=>by cases h),(fun h=>by cases h),fun h=>by cases h⟩ ?_ ?_
       ·refine⟨fun L gx wq hL hb ha hI=>?_,fun L gx wq hL hb ha hI=>?_,fun L gx wq hL hb ha hI=>?_,fun L gx wq hL hb ha hI=>?_,fun L gx wq hL hb ha hI=>?_,fun L gx wq hL hb ha hI=>?_,fun L gx wq hL hb ha hI=>?_,fun L gx wq hL hb ha hI=>?_,trivial⟩
        ·exact jq (.pointer (some ⟨w.heap.size+1,2,none⟩)) wq (by simp[go_sem]) rfl hI
        ·have e7:L 7=false:=ha 7 (by kernel_rfl);have cJ:=hI.2.2.1.cell 2;simp only[e7] at cJ;exact jq v wq (by simp[go_sem,cJ]) rfl hI
        ·exact jq (ptrV b') wq (by kernel_rfl) rfl hI
        ·have e3:L 3=false:=hL;have e4:L 4=false:=ha 4 (by kernel_rfl);have e5:L 5=false:=ha 5 (by kernel_rfl);simp only[List.map,e3,e4,e5] at hI⊢;have hsz:w.heap.size≤wq.heap.size:=by have:=hI.2.1.lt;omega
         refine jc 87 (#[ptrV b']) wq (by kernel_rfl) ((IH.out b' y wq HSZ.out (HS0Y.out.keep hI.1)).mono ?_);rintro e wa ⟨c,rfl,hc,hb5⟩;have hK:=hI.keep hsz hb5;exact⟨_,rfl,(c,gx.2),rfl,(by refine zA5.of_same ⟨?_,?_,?_,?_,?_,?_,?_,?_,trivial⟩<;>first|exact jK|exact .inl rfl|exact .inr (.inl (by kernel_rfl))),hK.1,hK.2.1,hK.2.2.1,hK.2.2.2.1,(fun _ _=>hc.any fun b _ hb=>⟨fun h=>by have:=((hI.2.2.2.1 rfl).lt b h).2;omega,by have:=hI.2.1.lt;omega,by have:=hI.2.2.1.lt;omega⟩),(fun h=>by cases h),fun h=>by cases h⟩
        ·have e3:L 3=true:=hb 3 (by kernel_rfl);have e4:L 4=false:=hL;have e5:L 5=false:=ha 5 (by kernel_rfl);simp only[List.map,e3,e4,e5] at hI⊢;have hsz:w.heap.size≤wq.heap.size:=by have:=hI.2.1.lt;omega
         have hK:=hI.keep hsz (zA0 wq (.cells gx.1 49));have hz:=(hI.2.2.2.2.1 rfl rfl).size;obtain⟨gc,gb,gv⟩:=gx;obtain⟨A8,c8,rfl,_⟩:=(hI.2.2.2.2.1 rfl rfl).form;exact jv (.slice (some ⟨wq.heap.size,0,none⟩) 1 1) (wq.alloc (.cells (rdC y.rule y.at_ A8 y.kids.length c8) 49)) (by simp[go_sem]) ⟨(_,wq.heap.size,gv),rfl,(by refine zA5.of_same ⟨?_,?_,?_,?_,?_,?_,?_,?_,trivial⟩<;>first|exact jK|exact .inl rfl|exact .inr (.inl (by kernel_rfl))),hK.1,hK.2.1,hK.2.2.1,hK.2.2.2.1,hK.2.2.2.2.1,(fun _ _=>Blk.new _ _ _),fun h=>by cases h⟩
        ·have e3:L 3=true:=hb 3 (by kernel_rfl);have e4:L 4=true:=hb 4 (by kernel_rfl);have e5:L 5=false:=hL;have e7:L 7=false:=ha 7 (by kernel_rfl);simp only[List.map,e3,e4,e5,e7] at hI⊢;obtain⟨h1,h2,h3,h4,h5,h6,_⟩:=hI;obtain⟨css,ho,hl,hr⟩:=h4 rfl;have hxl:=HXL.out;have hrow:∀b,v.ownBlock=some b→w.heap.size+1+1≤b:=fun b hb=>((h4 rfl).lt b hb).1
         exact zBg (.tmp 25) (.tmp 28) 39 rfl (w.heap.size+1+1) 49 i0 (.agg #[.int .i64 0,.int .i64 0,.slice none 0 0]) 3 40 Tryz.underlying39 hi hz0 hz1 hz2 rfl (by decide) v _ _ rfl ho wq.heap.size (some ⟨gx.2.1,0,none⟩) 1 1 gx.1.toList rfl (zCf (h6 rfl rfl) (h5 rfl rfl).size) (zSz (h5 rfl rfl)) (by unfold maxLen;omega) (by omega) (by have:=h3.lt;omega) (fun v' w' g2 g3 g4=>⟨(gx.1,gx.2.1,v'),rfl,(by refine zA5.of_same ⟨?_,?_,?_,?_,?_,?_,?_,?_,trivial⟩<;>first|exact jK|exact .inl rfl|exact .inr (.inl (by kernel_rfl))),h1.grown g3 (by have:=h2.lt;omega) (fun b hb=>by have:=hrow b hb;omega),h2.grown g3 (fun e=>by have:=hrow _ e.symm;omega),h3.grown g3 (fun e=>by have:=hrow _ e.symm;omega),(fun h=>by cases h),(fun _ h=>by cases h),(fun _ h=>by cases h),fun _=>AppR.push hl hr (h5 rfl rfl) g2 g3 g4⟩)
        ·exact jq (.pointer (some ⟨w.heap.size+1,2,none⟩)) wq (by simp[go_sem]) rfl hI
        ·have e3:L 3=true:=hb 3 (by kernel_rfl);have e4:L 4=true:=hb 4 (by kernel_rfl);have e5:L 5=true:=hb 5 (by kernel_rfl);have e7:L 7=false:=hL;simp only[List.map,e3,e4,e5,e7] at hI⊢;obtain⟨gc,gb,gv⟩:=gx;obtain⟨h1,h2,h3,_,_,_,h7⟩:=hI;have h3:Blk wq (w.heap.size+1) 49 #[.int .i64 x.rule,.int .i64 x.at_,v]:=h3;obtain⟨A5,c5,e9,_⟩:=(h7 rfl).form (fun b hb=>⟨by omega,by omega⟩);dsimp only at e9;subst e9;have cJ:=h3.cell 2;have fJ:=h3.frozen 2;have hfar:∀b,(Value.slice A5 (x.kids.take 1++[y]).length c5).ownBlock=some b→w.heap.size+1+1≤b:=fun b hb=>((h7 rfl).lt b hb).1
         exact Gives.skip (w':=wq.setCell ⟨w.heap.size+1,2,none⟩ (.slice A5 (x.kids.take 1++[y]).length c5)) (by simp[go_sem,cJ,fJ]) ⟨_,rfl,zA5.same,h1.setCell (p:=⟨w.heap.size+1,2,none⟩) (by show w.heap.size≤w.heap.size+1;omega) _,h2.far (by show w.heap.size≠w.heap.size+1;omega) _,h3.set_ 2 _,(fun h=>by cases h),(fun _ h=>by cases h),(fun _ h=>by cases h),fun _=>(h7 rfl).set_ (p:=⟨w.heap.size+1,2,none⟩) (fun h=>h.2 rfl) (by show w.heap.size+1<_;omega) _⟩
       ·intro gx wq hI;obtain⟨h1,h2,h3,_,_,_,h7⟩:=hI;have HB:=zh h1;have K0:=zh h2;have K1:=zh h3;have HO:=zh (h7 rfl);rw[←HTK.out] at HO;clear h1 h2 h3 h7;go_wp2_with fail;go_roundw
        case rel=>exact⟨2,_,by omega,rfl,HO,K1,K0,HB⟩
        case measure=>simp[intOf]
    ·obtain rfl:k=2:=by omega
     rw[List.take_of_length_le HKL.out] at HO;obtain⟨A5,cap5,rfl,hl5,hc5,hR5⟩:=HO.out.form (fun b hb=>⟨by omega,by omega⟩);have HR5:=zh hR5;have c1:=fun i=>K1.out.cell i
     have c0:=fun i=>K0.out.cell i
     have f1:=fun i=>K1.out.frozen i
     have f0:=fun i=>K0.out.frozen i
     go_wp2_with fail;have hwf:=((K0.out.set_ 0 (.int .i64 x.rule)).set_ 1 (.int .i64 x.at_)).set_ 2 (.slice A5 x.kids.length cap5);have hbf:=((HB.out.setCell (p:=⟨w.heap.size,0,none⟩) (Nat.le_refl _) (.int .i64 x.rule)).setCell (p:=⟨w.heap.size,1,none⟩) (Nat.le_refl _) (.int .i64 x.at_)).setCell (p:=⟨w.heap.size,2,none⟩) (Nat.le_refl _) (.slice A5 x.kids.length cap5);have hrf:zCa (fun b=>w.heap.size≤b) (((wr.setCell ⟨w.heap.size,0,none⟩ (.int .i64 x.rule)).setCell ⟨w.heap.size,1,none⟩ (.int .i64 x.at_)).setCell ⟨w.heap.size,2,none⟩ (.slice A5 x.kids.length cap5)) A5 x.kids:=by
      refine HR5.out.map (Nat.le_trans (zBj _ _ _).size (Nat.le_trans (zBj _ _ _).size (zBj _ _ _).size)) (fun b _ h=>by omega) fun q _ hq=>?_
      have hne:∀o,q≠⟨w.heap.size,o,none⟩:=fun o e=>by rw[e] at hq;exact Nat.lt_irrefl _ hq.1
      rw[World.cell?_setCell_other _ _ _ _ (fun e=>hne 2 e.symm),World.cell?_setCell_other _ _ _ _ (fun e=>hne 1 e.symm),World.cell?_setCell_other _ _ _ _ (fun e=>hne 0 e.symm)]
     generalize ((wr.setCell ⟨w.heap.size,0,none⟩ (.int .i64 x.rule)).setCell ⟨w.heap.size,1,none⟩ (.int .i64 x.at_)).setCell ⟨w.heap.size,2,none⟩ (.slice A5 x.kids.length cap5)=wf at*;have dC:=fun i=>hwf.cell i
     refine bodyPost_ret (v:=.agg (rdC x.rule x.at_ A5 x.kids.length cap5)) (by simp[results,Tryz.results87,go_sem,dC]) rfl ⟨_,rfl,?_,hbf⟩;obtain⟨r9,a9,ks9⟩:=x;exact RdAt.of hl5 hc5 hrf
end Go.Proofs.YtadcldfbmkfkaaaGreatDoor.Ch
