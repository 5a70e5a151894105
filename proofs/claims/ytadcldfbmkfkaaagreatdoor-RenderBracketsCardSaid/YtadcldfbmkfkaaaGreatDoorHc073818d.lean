/- The first readings of an application, appended to those of the same rule. -/
import Derived.Test.YtadcldfbmkfkaaaGreatDoorH3bed96f7
import Derived.Maps.OwnOps
import Derived.Maps.OwnSet
import Derived.Maps.Views
namespace Go.Proofs.YtadcldfbmkfkaaaGreatDoor.Ch
open Go.RowKit
theorem OwnP.row {w:World}{B:Nat}{v:Value}{bs:List Nat}(h:OwnP w B v bs):∀r,v.ownBlock=some r→B≤r∧r<w.heap.size∧∃cs,Blk w r 140 cs:=by
 intro r hr;refine⟨(World.ownsRow.lt h r hr).1,(World.ownsRow.lt h r hr).2,?_⟩;rcases h.2 with⟨h1,_⟩|⟨g',cap',cur,h1,_,h2,_⟩
 ·rw[h1] at hr;cases hr
 ·rw[h1] at hr;obtain rfl:g'=r:=sj hr;exact⟨_,h2⟩
theorem Shs.grow {rs:List Rul}{w w':World}{bs:List Nat}{xs:List Rd}{row:Option Nat}(h:Shs rs w bs xs)(hg:w.grownBy w' row)(hr:∀r,row=some r→∃cs,Blk w r 140 cs):Shs rs w' bs xs:=
 h.map fun g cs' hb=>hb.grown hg fun e=>by
  obtain⟨cs,h1⟩:=hr g e.symm;exact absurd (zCr h1 hb) (by decide)
theorem _root_.Go.Proofs.YtadcldfbmkfkaaaGreatDoor.Blk.stay {w w':World}{g:Nat}{t:TypeId}{cs:Array Value}{row:Option Nat}(h:Blk w g t cs)(hg:w.grownBy w' row)(hr:∀r,row=some r→∃cs,Blk w r 140 cs)(ht:t≠140):Blk w' g t cs:=
 h.grown hg fun e=>by
  obtain⟨cs,h1⟩:=hr g e.symm;exact ht (zCr h h1)
theorem zQs {α:Type}{L:List α}{z:α}(h:(L.take 2).length<2):(L++[z]).take 2=L.take 2++[z]:=by
 rw[List.length_take] at h;rw[List.take_append,List.take_of_length_le (l:=[z]) (by simp;omega)]
theorem zRv {α:Type}{L:List α}{z:α}(h:¬(L.take 2).length<2):(L++[z]).take 2=L.take 2:=by
 rw[List.length_take] at h;rw[List.take_append,show 2 -L.length=0 by omega,List.take_zero,List.append_nil]
structure ExtS (rs:List Rul)(w0 w:World)(l:Value)(wr:World)(l':Value)(bs:List Nat)(L:List Rd):Prop where
 own:OwnP wr w0.heap.size l' bs
 shs:Shs rs wr bs (L.take 2)
 below:Below w0.heap.size w0 wr
 grown:w.grownBy wr l.ownBlock
 loc:l'.ownBlock=l.ownBlock∨∃b,w.heap.size≤b∧l'.ownBlock=some b
section
variable {rs : List Rul} {w0 w : World} {l : Value} {wr : World} {l' : Value} {bs : List Nat} {L : List Rd}
theorem zOr {w wr w':World}{row:Option Nat}(h:w.grownBy wr row)(hb:Below wr.heap.size wr w'):w.grownBy w' row:=
 ⟨hb.os.trans h.os,hb.tape.trans h.tape,hb.output.trans h.output,Nat.le_trans h.size hb.size,fun i hi hne=>(hb.block i (ll hi h.size)).trans (h.block i hi hne)⟩
theorem ExtS.keep {w':World}(h:ExtS rs w0 w l wr l' bs L)(hb:Below wr.heap.size wr w'):ExtS rs w0 w l w' l' bs L:=
 ⟨h.own.keep hb,h.shs.keep hb,h.below.trans (hb.mono h.below.size),zOr h.grown hb,h.loc⟩
theorem ExtS.len (h:ExtS rs w0 w l wr l' bs L):bs.length=(L.take 2).length:=h.shs.1
theorem ExtS.push {w2:World}{v':Value}{b:Nat}{z:Rd}(h:ExtS rs w0 w l wr l' bs L)(hlt:bs.length<2)(hz:ShAt rs wr b z)(ho:OwnP w2 w0.heap.size v' (bs++[b]))(hg:wr.grownBy w2 l'.ownBlock)(hl:v'.ownBlock=l'.ownBlock∨v'.ownBlock=some wr.heap.size):ExtS rs w0 w l w2 v' (bs++[b]) (L++[z]):=by
 have hrow:=h.own.row;refine⟨ho,?_,h.below.grown hg h.below.size (fun k hk=>(hrow k hk).1),?_,?_⟩
 ·rw[zQs (by rw[←h.len];exact hlt)];exact(h.shs.snoc hz).grow hg fun r hr=>(hrow r hr).2.2
 ·refine⟨hg.os.trans h.grown.os,hg.tape.trans h.grown.tape,hg.output.trans h.grown.output,Nat.le_trans h.grown.size hg.size,fun i hi hne=>(hg.block i (ll hi h.grown.size) fun e=>?_).trans (h.grown.block i hi hne)⟩;rcases h.loc with h1|⟨b',h1,h2⟩
  ·exact hne (e.trans h1)
  ·rw[h2] at e;obtain rfl:=sj e;omega
 ·rcases hl with hl|hl
  ·rw[hl];exact h.loc
  ·exact .inr ⟨_,h.grown.size,hl⟩
theorem ExtS.full {z:Rd}(h:ExtS rs w0 w l wr l' bs L)(hge:¬bs.length<2):ExtS rs w0 w l wr l' bs (L++[z]):=
 ⟨h.own,by rw[zRv (by rw[←h.len];exact hge)];exact h.shs,h.below,h.grown,h.loc⟩
end
def zG4 (rs:List Rul)(wr:World)(A:Option Addr)(bs:List Nat)(xs:List Rd)(l':Value):Prop:=zEr wr A bs∧Shs rs wr bs xs∧∀g:Nat,A=some ⟨g,0,none⟩→g<wr.heap.size∧l'.ownBlock≠some g
theorem zG4.keep {rs:List Rul}{wr w':World}{A:Option Addr}{bs:List Nat}{xs:List Rd}{l':Value}(h:zG4 rs wr A bs xs l')(hb:Below wr.heap.size wr w'):zG4 rs w' A bs xs l':=⟨h.1.keep hb,h.2.1.keep hb,fun g hg=>⟨ll (h.2.2 g hg).1 hb.size,(h.2.2 g hg).2⟩⟩
theorem zG4.push {rs:List Rul}{wr w2:World}{A:Option Addr}{bs:List Nat}{xs:List Rd}{l' v':Value}{B:Nat}{cs:List Nat}(h:zG4 rs wr A bs xs l')(ho:OwnP wr B l' cs)(hg:wr.grownBy w2 l'.ownBlock)(hl:v'.ownBlock=l'.ownBlock∨v'.ownBlock=some wr.heap.size):zG4 rs w2 A bs xs v':=by
 refine⟨fun j b hj=>?_,h.2.1.grow hg fun r hr=>(ho.row r hr).2.2,fun g hA=>?_⟩
 ·obtain⟨g,h1,⟨cs',h2⟩,h3⟩:=h.1 j b hj;have hne:some g≠l'.ownBlock:=fun e=>(h.2.2 g h1).2 e.symm
  have h4:=h2.grown hg hne;refine⟨g,h1,⟨cs',h4⟩,?_⟩;rw[h4.cell,←h2.cell];exact h3
 ·have h5:=h.2.2 g hA;refine⟨ll h5.1 hg.size,?_⟩;rcases hl with hl|hl
  ·rw[hl];exact h5.2
  ·rw[hl];intro e;have:=sj e;omega
theorem zG4.zK6 {rs:List Rul}{wr:World}{A:Option Addr}{n cap B:Nat}{bs:List Nat}{xs:List Rd}{l':Value}(ho:OwnP wr B (.slice A n cap) bs)(hs:Shs rs wr bs xs)(hP:zEr wr A bs)(hl:∀b,l'.ownBlock=some b→b<B):zG4 rs wr A bs xs l':=by
 refine⟨hP,hs,fun g hA=>?_⟩;subst hA;have h:=World.ownsRow.lt ho g rfl;exact⟨h.2,fun e=>by have:=hl g e;omega⟩
def ExtP (rs:List Rul)(w0:World)(l:Value)(L:List Rd)(w:World)(e:Ending)(w':World):Prop:=∃v' bs,e= .returned v'∧ExtS rs w0 w l w' v' bs L
theorem zSx {r a:Int}{l:List Rd}{k:Nat}{x:Rd}(hx:l[k]?=some x):zEu r a (l.take (k+1))=zEu r a (l.take k)++[.mk r a [x]]:=by
 unfold zEu;rw[List.take_add_one,hx,List.map_append];rfl
theorem zSg {r a:Int}{l m:List Rd}{k:Nat}{x:Rd}(hx:l[k]?=some x):zBy r a (l.take (k+1)) m=zBy r a (l.take k) m++m.map fun y=>.mk r a [x,y]:=by
 unfold zBy;rw[List.take_add_one,hx,List.flatMap_append];simp
theorem zUi {r a:Int}{m:List Rd}{x y:Rd}{k:Nat}(hy:m[k]?=some y):((m.take (k+1)).map fun y=>Rd.mk r a [x,y])=((m.take k).map fun y=>Rd.mk r a [x,y])++[.mk r a [x,y]]:=by
 rw[List.take_add_one,hy,List.map_append];rfl
set_option maxRecDepth 100000 in
set_option maxHeartbeats 4000000 in
theorem zSb (g:Nat)(F:Fin)(rs:List Rul)(ts:List ByteArray)(gc:Nat)(rows:Nat→Nat)(fill:Nat→Nat→Bool)(r frm left right t2 at_:Nat)(l:Value)(bs:List Nat)(xs:List Rd)(w0 w:World)(hT:TabAt w0 g F rs ts gc rows fill)(hb0:Below w0.heap.size w0 w)(ho:OwnP w w0.heap.size l bs)(hs:Shs rs w bs xs)(hx:xs.length≤2)(hr:r<rs.length)(h1:frm<left)(h2:left≤ts.length)(h3:fill frm left=true)(hn:rs.length≤1000000):
  Calls Tryz.prog 182 #[ptrV g,l,.int .i64 at_,.agg #[.int .i64 r,.int .i64 frm,.int .i64 left,.int .i64 right,.int .i64 t2,.int .i64 1]] w (ExtP rs w0 l (xs++zGm rs ts at_ ⟨r,frm,left,right,t2,1⟩) w):=by
 obtain⟨i0,hi,hz0,hz1,hz2⟩:=info_parts zIi;obtain⟨R,cR,T,cT,I,cI,P,cP,Q,cQ⟩:=F;obtain⟨ad,rfl⟩:∃ad,R=some ad:=by
  obtain⟨_,ad,hA,_⟩:=hT.fin.rules r rs[r] (gE hr);exact⟨ad,hA⟩
 have HR:=zh hr;have hba:=zA0 w (.cells #[.int .i64 r,.int .i64 frm,.int .i64 left,.int .i64 right,.int .i64 t2,.int .i64 1] 223);have HT0:=zh hT;have HT:=zh (hT.keep (hb0.trans (hba.mono hb0.size)));have K0:=zh (Blk.new w 223 #[.int .i64 r,.int .i64 frm,.int .i64 left,.int .i64 right,.int .i64 t2,.int .i64 1]);have HE:=zh (show ExtS rs w0 w l (w.alloc (.cells #[.int .i64 r,.int .i64 frm,.int .i64 left,.int .i64 right,.int .i64 t2,.int .i64 1] 223)) l bs xs from ExtS.keep ⟨ho,by rw[List.take_of_length_le hx];exact hs,hb0,World.grownBy.refl w _,.inl rfl⟩ hba);clear hT hb0 ho hs hx hba hr;go_enter Tryz.func182,Tryz.ntmps182;go_upto_region 1 with(fail)
 generalize w.alloc (.cells _ 223)=w1 at*;refine zAa (by kernel_rfl) _ [.pointer (some ⟨g,0,none⟩),.pointer (some ⟨g,0,none⟩),.pointer (some ⟨g,0,none⟩),.agg #[.slice (some ad) rs.length cR,.slice T ts.length cT,.slice I ts.length cI,.slice P ts.length cP,.slice Q ts.length cQ,.int .i64 (zAc rs 4 [])],.agg #[.int .i64 r,.int .i64 frm,.int .i64 left,.int .i64 right,.int .i64 t2,.int .i64 1],.tuple #[.int .i64 (lowR rs r),.int .i64 (zDh rs r)],.tuple #[.int .i64 (lowR rs r),.int .i64 (zDh rs r)],.int .i64 (lowR rs r),.int .i64 (zDh rs r),.int .i64 (lowR rs r),.int .i64 (zDh rs r)] [true,true,true,true,true,true,true,true,true,true,true] (fun wq=>Hid (Blk wq w.heap.size 223 #[.int .i64 r,.int .i64 frm,.int .i64 left,.int .i64 right,.int .i64 t2,.int .i64 1])∧Hid (ExtS rs w0 w l wq l bs xs)∧TabAt wq g ⟨some ad,cR,T,cT,I,cI,P,cP,Q,cQ⟩ rs ts gc rows fill) (by kernel_rfl) (by simp[fin,zAm,zAb,List.range,List.range.loop,Act.put];rfl) (by kernel_rfl) ⟨K0.out.drew,HE.out.keep (zA2 (Below.refl _ _)),HT.out.drew⟩ ?_ ?_
 ·refine⟨fun wq hI=>?_,fun wq hI=>?_,fun wq hI=>?_,fun wq hI=>?_,fun wq hI=>?_,fun wq hI=>?_,fun wq hI=>?_,fun wq hI=>?_,fun wq hI=>?_,fun wq hI=>?_,fun wq hI=>?_,trivial⟩
  ·exact jv (.pointer (some ⟨g,0,none⟩)) wq (by kernel_rfl) ⟨rfl,hI⟩
  ·exact jv (.pointer (some ⟨g,0,none⟩)) wq (by simp[go_sem]) ⟨rfl,hI⟩
  ·exact jv (.pointer (some ⟨g,0,none⟩)) wq (by simp[go_sem]) ⟨rfl,hI⟩
  ·have cJ:=fun i=>(hI.2.2.blk.cell i)
   exact jv (.agg #[.slice (some ad) rs.length cR,.slice T ts.length cT,.slice I ts.length cI,.slice P ts.length cP,.slice Q ts.length cQ,.int .i64 (zAc rs 4 [])]) wq (by simp[go_sem,cJ]) ⟨rfl,hI⟩
  ·have cA:=fun i=>hI.1.out.cell i
   exact jv (.agg #[.int .i64 r,.int .i64 frm,.int .i64 left,.int .i64 right,.int .i64 t2,.int .i64 1]) wq (by simp[go_sem,cA]) ⟨rfl,hI⟩
  ·refine jc 205 (#[.agg #[.slice (some ad) rs.length cR,.slice T ts.length cT,.slice I ts.length cI,.slice P ts.length cP,.slice Q ts.length cQ,.int .i64 (zAc rs 4 [])],.agg #[.int .i64 r,.int .i64 frm,.int .i64 left,.int .i64 right,.int .i64 t2,.int .i64 1]]) wq (by kernel_rfl) ((zMy ⟨some ad,cR,T,cT,I,cI,P,cP,Q,cQ⟩ rs ts (zAc rs 4 []) ⟨r,frm,left,right,t2,1⟩ wq hI.2.2.fin HR.out).mono ?_);rintro e wa ⟨rfl,hb5⟩;exact⟨_,rfl,rfl,keep hb5 hI.1.out,hI.2.1.out.keep hb5,hI.2.2.keep hb5⟩
  ·exact jv (.tuple #[.int .i64 (lowR rs r),.int .i64 (zDh rs r)]) wq (by kernel_rfl) ⟨rfl,hI⟩
  ·exact jv (.int .i64 (lowR rs r)) wq (by simp[go_sem]) ⟨rfl,hI⟩
  ·exact jv (.int .i64 (zDh rs r)) wq (by simp[go_sem]) ⟨rfl,hI⟩
  ·exact jv (.int .i64 (lowR rs r)) wq (by kernel_rfl) ⟨rfl,hI⟩
  ·exact jv (.int .i64 (zDh rs r)) wq (by kernel_rfl) ⟨rfl,hI⟩
 ·intro wq hI;have K0:=hI.1;have HE:=hI.2.1;have HT:=zh hI.2.2;clear hI;generalize hlo:lowR rs r=lo at*;generalize hhi:zDh rs r=hig at*;have HLO:=zh hlo;have HHI:=zh hhi;clear hlo hhi;obtain⟨u,hu⟩:∃u,rs[r]?=some u:=⟨_,gE HR.out⟩
  have HPR:=zh (zJe hu);obtain⟨_,ad',he',hadl,_,_,_,c3,_,_⟩:=HT.out.fin.rules.at_ hu;obtain rfl:=sj he';rw[←HPR.out] at c3;clear he' hu;have ct0:=HT.out.blk.cell 0;have ca0:=K0.out.cell 0;have hrn:=HR.out;go_upto_region 2 with(fail)
  go_quiet (fail)
  have K0:=zh (Blk.drewN K0.out nq);have HE:=zh (HE.out.keep (below_drewN (Below.refl _ _) nq));have HT:=zh (HT.out.keep (below_drewN (Below.refl _ _) nq));generalize wq.drewN nq=w2 at*;clear c3 ct0 hrn hadl ca0;have ca1:=K0.out.cell 1;have ca2:=K0.out.cell 2;go_wp2_with fail;refine(zGq g _ rs ts gc rows fill frm left lo w2 HT.out h1 h2 h3 hn).mono ?_;rintro e w3 ⟨v1,bs1,rfl,ho1,hs1,hb⟩;have HSZ:=zh (show w2.heap.size≤w3.heap.size from hb.size);obtain⟨A1,cap1,rfl,hcl1,hcap1,hp1⟩:=ho1.form;have HS1:=zh (zG4.zK6 (l':=l) ho1 hs1 hp1 (fun b hb'=>(HE.out.own.row b hb').2.1));have HL1:=zh hs1.1;have hl1:bs1.length≤2:=by rw[hs1.1];exact zJ6
  have K0:=kp hb K0;have HE:=zh (HE.out.keep hb);have HT:=zh (HT.out.keep hb);clear hb ho1 hs1 hp1 ca1 ca2 HSZ;generalize hF1:zC5 rs ts frm left lo=F1 at*;have HF1:=zh hF1;clear hF1;go_wp2_with fail
  go_loopw [1,43] (fun l' n wr=>∃(k:Nat) (bs':List Nat),k≤bs1.length∧n= .int .i64 k∧Hid (ExtS rs w0 w l wr l' bs' (xs++zEu r at_ (F1.take k)))∧Hid (zG4 rs wr A1 bs1 F1 l')∧Hid (Blk wr w.heap.size 223 #[.int .i64 r,.int .i64 frm,.int .i64 left,.int .i64 right,.int .i64 t2,.int .i64 1])) (fun _ n _=>bs1.length -(intOf n).toNat)
  case atStart=>exact⟨0,bs,by omega,rfl,by rw[List.take_zero,zYb,List.append_nil];exact HE,HS1,K0⟩
  case round=>
   clear HE HS1 K0 HT;obtain⟨k,bs',hk,rfl,HE,HS1,K0⟩:=hrel
   by_cases hlt:k<bs1.length
   ·obtain⟨b,hb⟩:∃b,bs1[k]?=some b:=⟨_,gE hlt⟩
    obtain⟨x,hx⟩:∃x,F1[k]?=some x:=⟨_,gE (by rw[←HL1.out];exact hlt)⟩
    obtain⟨ga,rfl,_,c0⟩:=HS1.out.1 k b hb;have HX:=zh (HS1.out.2.1.2 k b x hb hx);have HSN:=zh (zSx (r:=r) (a:=at_) hx);clear hb hx;have ca5:=K0.out.cell 5;have ca0:=K0.out.cell 0;obtain⟨A5,cap5,rfl,hcl5,hcap5,_⟩:=HE.out.own.form
    by_cases hl2:bs'.length<2
    ·have hbx:=(zA0 wr (.cells (shC rs r at_ (ptrV b) (.pointer none)) 185)).trans ((zA0 (wr.alloc (.cells (shC rs r at_ (ptrV b) (.pointer none)) 185)) (.cells #[ptrV wr.heap.size] 140)).mono (by simp));have KS:=zh ((Blk.new wr 185 (shC rs r at_ (ptrV b) (.pointer none))).alloc (.cells #[ptrV wr.heap.size] 140));have NE:=zh (HE.out.keep hbx);have NS:=zh (HS1.out.keep hbx);have NK:=kp hbx K0;have NX:=zh (HX.out.keep hbx);have hown:World.ownsRow _ w0.heap.size 140 1 (.slice A5 bs'.length cap5) bs'.length (bs'.map ptrV):=NE.out.own;have cn:=zF8 (wr.alloc (.cells (shC rs r at_ (ptrV b) (.pointer none)) 185)) [ptrV wr.heap.size] 140;rw[World.size_alloc] at cn;clear hbx HE HS1 K0 HX;go_wp2_with (at_builtin;refine wpList_append_own_at _ rfl (.tmp 53) (.tmp 62) 138 rfl w0.heap.size 140 i0 (.pointer none) 1 8 Tryz.underlying138 hi hz0 hz1 hz2 rfl (by decide) _ _ _ rfl hown ⟨wr.heap.size+1,0,none⟩ 1 1 [ptrV wr.heap.size] rfl rfl cn ?c2a ?c3a ?c4a ?c5a ?_)
     case c2a=>intro u hu;simp at hu;subst hu;rfl
     case c3a=>unfold maxLen;omega
     case c4a=>omega
     case c5a=>exact NE.out.below.size
     intro v' w4 hown' hgrow _ hloc;have M1:=zh (NE.out.push hl2 (.one _ _ _ _ _ KS.out NX.out) (zGu rfl hown') hgrow (hloc.imp id fun h=>h.trans (by simp)));have M2:=zh (NS.out.push hown hgrow (hloc.imp id fun h=>h.trans (by simp)));have M3:=zh (NK.out.stay hgrow (fun r hr=>(OwnP.row hown r hr).2.2) (by decide));rw[List.append_assoc,←HSN.out] at M1;clear hown hown' hgrow hloc NE NS NK NX KS cn c0 ca5 ca0;go_wp2_with fail;go_roundw
     case rel=>exact⟨k+1,_,by omega,by go_num,M1,M2,M3⟩
     case measure=>simp[intOf];omega
    ·have M1:=zh (HE.out.full (z:=.mk r at_ [x]) hl2);rw[List.append_assoc,←HSN.out] at M1;clear HE;go_wp2_with fail;go_roundw
     case rel=>exact⟨k+1,_,by omega,by go_num,M1,HS1,K0⟩
     case measure=>simp[intOf];omega
   ·obtain rfl:k=bs1.length:=by omega
    rw[HL1.out,List.take_length] at HE;have HQ:=zh (show zGm rs ts at_ ⟨r,frm,left,right,t2,1⟩=zEu r at_ F1 by rw[←HF1.out,←HLO.out];rfl);go_wp2_with fail;go_ret;exact⟨_,_,rfl,by rw[HQ.out];exact HE.out⟩
set_option maxRecDepth 100000 in
set_option maxHeartbeats 4000000 in
theorem zS1 (g:Nat)(F:Fin)(rs:List Rul)(ts:List ByteArray)(gc:Nat)(rows:Nat→Nat)(fill:Nat→Nat→Bool)(r frm left right t2 at_:Nat)(l:Value)(bs:List Nat)(xs:List Rd)(w0 w:World)(hT:TabAt w0 g F rs ts gc rows fill)(hb0:Below w0.heap.size w0 w)(ho:OwnP w w0.heap.size l bs)(hs:Shs rs w bs xs)(hx:xs.length≤2)(hr:r<rs.length)(h1:frm<left)(h2:left≤ts.length)(h3:fill frm left=true)(h4:right<t2)(h5:t2≤ts.length)(h6:fill right t2=true)(hn:rs.length≤1000000):
  Calls Tryz.prog 182 #[ptrV g,l,.int .i64 at_,.agg #[.int .i64 r,.int .i64 frm,.int .i64 left,.int .i64 right,.int .i64 t2,.int .i64 2]] w (ExtP rs w0 l (xs++zGm rs ts at_ ⟨r,frm,left,right,t2,2⟩) w):=by
 obtain⟨i0,hi,hz0,hz1,hz2⟩:=info_parts zIi;obtain⟨R,cR,T,cT,I,cI,P,cP,Q,cQ⟩:=F;obtain⟨ad,rfl⟩:∃ad,R=some ad:=by
  obtain⟨_,ad,hA,_⟩:=hT.fin.rules r rs[r] (gE hr);exact⟨ad,hA⟩
 have HR:=zh hr;have hba:=zA0 w (.cells #[.int .i64 r,.int .i64 frm,.int .i64 left,.int .i64 right,.int .i64 t2,.int .i64 2] 223);have HT0:=zh hT;have HT:=zh (hT.keep (hb0.trans (hba.mono hb0.size)));have K0:=zh (Blk.new w 223 #[.int .i64 r,.int .i64 frm,.int .i64 left,.int .i64 right,.int .i64 t2,.int .i64 2]);have HE:=zh (show ExtS rs w0 w l (w.alloc (.cells #[.int .i64 r,.int .i64 frm,.int .i64 left,.int .i64 right,.int .i64 t2,.int .i64 2] 223)) l bs xs from ExtS.keep ⟨ho,by rw[List.take_of_length_le hx];exact hs,hb0,World.grownBy.refl w _,.inl rfl⟩ hba);clear hT hb0 ho hs hx hba hr;go_enter Tryz.func182,Tryz.ntmps182;go_upto_region 1 with(fail)
 generalize w.alloc (.cells _ 223)=w1 at*;refine zAa (by kernel_rfl) _ [.pointer (some ⟨g,0,none⟩),.pointer (some ⟨g,0,none⟩),.pointer (some ⟨g,0,none⟩),.agg #[.slice (some ad) rs.length cR,.slice T ts.length cT,.slice I ts.length cI,.slice P ts.length cP,.slice Q ts.length cQ,.int .i64 (zAc rs 4 [])],.agg #[.int .i64 r,.int .i64 frm,.int .i64 left,.int .i64 right,.int .i64 t2,.int .i64 2],.tuple #[.int .i64 (lowR rs r),.int .i64 (zDh rs r)],.tuple #[.int .i64 (lowR rs r),.int .i64 (zDh rs r)],.int .i64 (lowR rs r),.int .i64 (zDh rs r),.int .i64 (lowR rs r),.int .i64 (zDh rs r)] [true,true,true,true,true,true,true,true,true,true,true] (fun wq=>Hid (Blk wq w.heap.size 223 #[.int .i64 r,.int .i64 frm,.int .i64 left,.int .i64 right,.int .i64 t2,.int .i64 2])∧Hid (ExtS rs w0 w l wq l bs xs)∧TabAt wq g ⟨some ad,cR,T,cT,I,cI,P,cP,Q,cQ⟩ rs ts gc rows fill) (by kernel_rfl) (by simp[fin,zAm,zAb,List.range,List.range.loop,Act.put];rfl) (by kernel_rfl) ⟨K0.out.drew,HE.out.keep (zA2 (Below.refl _ _)),HT.out.drew⟩ ?_ ?_
 ·refine⟨fun wq hI=>?_,fun wq hI=>?_,fun wq hI=>?_,fun wq hI=>?_,fun wq hI=>?_,fun wq hI=>?_,fun wq hI=>?_,fun wq hI=>?_,fun wq hI=>?_,fun wq hI=>?_,fun wq hI=>?_,trivial⟩
  ·exact jv (.pointer (some ⟨g,0,none⟩)) wq (by kernel_rfl) ⟨rfl,hI⟩
  ·exact jv (.pointer (some ⟨g,0,none⟩)) wq (by simp[go_sem]) ⟨rfl,hI⟩
  ·exact jv (.pointer (some ⟨g,0,none⟩)) wq (by simp[go_sem]) ⟨rfl,hI⟩
  ·have cJ:=fun i=>(hI.2.2.blk.cell i)
   exact jv (.agg #[.slice (some ad) rs.length cR,.slice T ts.length cT,.slice I ts.length cI,.slice P ts.length cP,.slice Q ts.length cQ,.int .i64 (zAc rs 4 [])]) wq (by simp[go_sem,cJ]) ⟨rfl,hI⟩
  ·have cA:=fun i=>hI.1.out.cell i
   exact jv (.agg #[.int .i64 r,.int .i64 frm,.int .i64 left,.int .i64 right,.int .i64 t2,.int .i64 2]) wq (by simp[go_sem,cA]) ⟨rfl,hI⟩
  ·refine jc 205 (#[.agg #[.slice (some ad) rs.length cR,.slice T ts.length cT,.slice I ts.length cI,.slice P ts.length cP,.slice Q ts.length cQ,.int .i64 (zAc rs 4 [])],.agg #[.int .i64 r,.int .i64 frm,.int .i64 left,.int .i64 right,.int .i64 t2,.int .i64 2]]) wq (by kernel_rfl) ((zMy ⟨some ad,cR,T,cT,I,cI,P,cP,Q,cQ⟩ rs ts (zAc rs 4 []) ⟨r,frm,left,right,t2,2⟩ wq hI.2.2.fin HR.out).mono ?_);rintro e wa ⟨rfl,hb5⟩;exact⟨_,rfl,rfl,keep hb5 hI.1.out,hI.2.1.out.keep hb5,hI.2.2.keep hb5⟩
  ·exact jv (.tuple #[.int .i64 (lowR rs r),.int .i64 (zDh rs r)]) wq (by kernel_rfl) ⟨rfl,hI⟩
  ·exact jv (.int .i64 (lowR rs r)) wq (by simp[go_sem]) ⟨rfl,hI⟩
  ·exact jv (.int .i64 (zDh rs r)) wq (by simp[go_sem]) ⟨rfl,hI⟩
  ·exact jv (.int .i64 (lowR rs r)) wq (by kernel_rfl) ⟨rfl,hI⟩
  ·exact jv (.int .i64 (zDh rs r)) wq (by kernel_rfl) ⟨rfl,hI⟩
 ·intro wq hI;have K0:=hI.1;have HE:=hI.2.1;have HT:=zh hI.2.2;clear hI;generalize hlo:lowR rs r=lo at*;generalize hhi:zDh rs r=hig at*;have HLO:=zh hlo;have HHI:=zh hhi;clear hlo hhi;obtain⟨u,hu⟩:∃u,rs[r]?=some u:=⟨_,gE HR.out⟩
  have HPR:=zh (zJe hu);obtain⟨_,ad',he',hadl,_,_,_,c3,_,_⟩:=HT.out.fin.rules.at_ hu;obtain rfl:=sj he';rw[←HPR.out] at c3;clear he' hu;have ct0:=HT.out.blk.cell 0;have ca0:=K0.out.cell 0;have hrn:=HR.out;go_upto_region 2 with(fail)
  go_quiet (fail)
  have K0:=zh (Blk.drewN K0.out nq);have HE:=zh (HE.out.keep (below_drewN (Below.refl _ _) nq));have HT:=zh (HT.out.keep (below_drewN (Below.refl _ _) nq));generalize wq.drewN nq=w2 at*;clear c3 ct0 hrn hadl ca0;have ca1:=K0.out.cell 1;have ca2:=K0.out.cell 2;go_wp2_with fail;refine(zGq g _ rs ts gc rows fill frm left lo w2 HT.out h1 h2 h3 hn).mono ?_;rintro e w3 ⟨v1,bs1,rfl,ho1,hs1,hb⟩;have HSZ:=zh (show w2.heap.size≤w3.heap.size from hb.size);obtain⟨A1,cap1,rfl,hcl1,hcap1,hp1⟩:=ho1.form;have HS1:=zh (zG4.zK6 (l':=l) ho1 hs1 hp1 (fun b hb'=>(HE.out.own.row b hb').2.1));have HL1:=zh hs1.1;have hl1:bs1.length≤2:=by rw[hs1.1];exact zJ6
  have K0:=kp hb K0;have HE:=zh (HE.out.keep hb);have HT:=zh (HT.out.keep hb);clear hb ho1 hs1 hp1 ca1 ca2 HSZ;generalize hF1:zC5 rs ts frm left lo=F1 at*;have HF1:=zh hF1;clear hF1;go_wp2_with fail;generalize hF2:zC5 rs ts right t2 hig=F2;have HF2:=zh hF2;clear hF2
  go_loopw [1,43] (fun l' n wr=>∃(k:Nat) (bs':List Nat),k≤bs1.length∧n= .int .i64 k∧Hid (ExtS rs w0 w l wr l' bs' (xs++zBy r at_ (F1.take k) F2))∧Hid (zG4 rs wr A1 bs1 F1 l')∧Hid (Blk wr w.heap.size 223 #[.int .i64 r,.int .i64 frm,.int .i64 left,.int .i64 right,.int .i64 t2,.int .i64 2])) (fun _ n _=>bs1.length -(intOf n).toNat)
  case atStart=>exact⟨0,bs,by omega,rfl,by rw[List.take_zero,show zBy r at_ [] F2=[] from rfl,List.append_nil];exact HE,HS1,K0⟩
  case round=>
   clear HE HS1 K0 HT;obtain⟨k,bs',hk,rfl,HE,HS1,K0⟩:=hrel
   by_cases hlt:k<bs1.length
   ·obtain⟨b,hb⟩:∃b,bs1[k]?=some b:=⟨_,gE hlt⟩
    obtain⟨x,hx⟩:∃x,F1[k]?=some x:=⟨_,gE (by rw[←HL1.out];exact hlt)⟩
    obtain⟨ga,rfl,_,c0⟩:=HS1.out.1 k b hb;have HB1:=zh hb;have HX1:=zh hx;have HSN:=zh (zSg (r:=r) (a:=at_) (m:=F2) hx);clear hb hx;have ca5:=K0.out.cell 5;have ca3:=K0.out.cell 3;have ca4:=K0.out.cell 4;go_wp2_with fail;refine(zGq g _ rs ts gc rows fill right t2 hig wr (HT0.out.keep HE.out.below) h4 h5 h6 hn).mono ?_;rw[HF2.out];rintro e w5 ⟨v2,bs2,rfl,ho2,hs2,hb⟩;obtain⟨A2,cap2,rfl,hcl2,hcap2,hp2⟩:=ho2.form;have HS2:=zh (zG4.zK6 ho2 hs2 hp2 (fun b hb'=>(HE.out.own.row b hb').2.1));have HL2:=zh hs2.1;have hl2:bs2.length≤2:=by rw[hs2.1,←HF2.out];exact zJ6
    have K0:=kp hb K0;have HE:=zh (HE.out.keep hb);have HS1:=zh (HS1.out.keep hb);clear hb ho2 hs2 hp2 ca5 ca3 ca4 c0;go_wp2_with fail
    go_loopw [1,72] (fun l'' n wr=>∃(m:Nat) (bs':List Nat),m≤bs2.length∧n= .int .i64 m∧Hid (ExtS rs w0 w l wr l'' bs' (xs++zBy r at_ (F1.take k) F2++(F2.take m).map fun y=>Rd.mk r at_ [x,y]))∧Hid (zG4 rs wr (some ⟨ga,0,none⟩) bs1 F1 l'')∧Hid (zG4 rs wr A2 bs2 F2 l'')∧Hid (Blk wr w.heap.size 223 #[.int .i64 r,.int .i64 frm,.int .i64 left,.int .i64 right,.int .i64 t2,.int .i64 2])) (fun _ n _=>bs2.length -(intOf n).toNat)
    case atStart=>exact⟨0,bs',by omega,rfl,by rw[List.take_zero,List.map_nil,List.append_nil];exact HE,HS1,HS2,K0⟩
    case round=>
     clear HE HS1 HS2 K0;obtain⟨m,bs'',hm,rfl,HE,HS1,HS2,K0⟩:=hrel
     by_cases hlm:m<bs2.length
     ·obtain⟨c,hc⟩:∃c,bs2[m]?=some c:=⟨_,gE hlm⟩
      obtain⟨y,hy⟩:∃y,F2[m]?=some y:=⟨_,gE (by rw[←HL2.out];exact hlm)⟩
      obtain⟨gb,rfl,_,c0⟩:=HS2.out.1 m c hc;have HY:=zh (HS2.out.2.1.2 m c y hc hy);have HX:=zh (HS1.out.2.1.2 k b x HB1.out HX1.out);have HMN:=zh (zUi (r:=r) (a:=at_) (x:=x) hy);clear hc hy;have ca0:=K0.out.cell 0;obtain⟨A5,cap5,rfl,hcl5,hcap5,_⟩:=HE.out.own.form
      by_cases hlb:bs''.length<2
      ·have hbx:=(zA0 wr (.cells (shC rs r at_ (ptrV b) (ptrV c)) 185)).trans ((zA0 (wr.alloc (.cells (shC rs r at_ (ptrV b) (ptrV c)) 185)) (.cells #[ptrV wr.heap.size] 140)).mono (by simp));have KS:=zh ((Blk.new wr 185 (shC rs r at_ (ptrV b) (ptrV c))).alloc (.cells #[ptrV wr.heap.size] 140));have NE:=zh (HE.out.keep hbx);have NS:=zh (HS1.out.keep hbx);have NS2:=zh (HS2.out.keep hbx);have NK:=kp hbx K0;have NX:=zh (HX.out.keep hbx);have NY:=zh (HY.out.keep hbx);have hown:World.ownsRow _ w0.heap.size 140 1 (.slice A5 bs''.length cap5) bs''.length (bs''.map ptrV):=NE.out.own;have cn:=zF8 (wr.alloc (.cells (shC rs r at_ (ptrV b) (ptrV c)) 185)) [ptrV wr.heap.size] 140;rw[World.size_alloc] at cn;clear hbx HE HS1 HS2 K0 HX HY;go_wp2_with (at_builtin;refine wpList_append_own_at _ rfl (.tmp 79) (.tmp 89) 138 rfl w0.heap.size 140 i0 (.pointer none) 1 8 Tryz.underlying138 hi hz0 hz1 hz2 rfl (by decide) _ _ _ rfl hown ⟨wr.heap.size+1,0,none⟩ 1 1 [ptrV wr.heap.size] rfl rfl cn ?c2a ?c3a ?c4a ?c5a ?_)
       case c2a=>intro u hu;simp at hu;subst hu;rfl
       case c3a=>unfold maxLen;omega
       case c4a=>omega
       case c5a=>exact NE.out.below.size
       intro v' w4 hown' hgrow _ hloc;have M1:=zh (NE.out.push hlb (.two _ _ _ _ _ _ _ KS.out NX.out NY.out) (zGu rfl hown') hgrow (hloc.imp id fun h=>h.trans (by simp)));have M2:=zh (NS.out.push hown hgrow (hloc.imp id fun h=>h.trans (by simp)));have M4:=zh (NS2.out.push hown hgrow (hloc.imp id fun h=>h.trans (by simp)));have M3:=zh (NK.out.stay hgrow (fun r hr=>(OwnP.row hown r hr).2.2) (by decide));rw[List.append_assoc,←HMN.out] at M1;clear hown hown' hgrow hloc NE NS NS2 NK NX NY KS cn c0 ca0;go_wp2_with fail;go_roundw
       case rel=>exact⟨m+1,_,by omega,by go_num,M1,M2,M4,M3⟩
       case measure=>simp[intOf];omega
      ·have M1:=zh (HE.out.full (z:=.mk r at_ [x,y]) hlb);rw[List.append_assoc,←HMN.out] at M1;clear HE;go_wp2_with fail;go_roundw
       case rel=>exact⟨m+1,_,by omega,by go_num,M1,HS1,HS2,K0⟩
       case measure=>simp[intOf];omega
     ·obtain rfl:m=bs2.length:=by omega
      rw[HL2.out,List.take_length,List.append_assoc,←HSN.out] at HE;go_wp2_with fail;go_roundw
      case rel=>exact⟨k+1,_,by omega,by go_num,HE,HS1,K0⟩
      case measure=>simp[intOf];omega
   ·obtain rfl:k=bs1.length:=by omega
    rw[HL1.out,List.take_length] at HE;have HQ:=zh (show zGm rs ts at_ ⟨r,frm,left,right,t2,2⟩=zBy r at_ F1 F2 by rw[←HF1.out,←HF2.out,←HLO.out,←HHI.out];rfl);go_wp2_with fail;go_ret;exact⟨_,_,rfl,by rw[HQ.out];exact HE.out⟩
def hdrD:Value→DataW Unit
 | .slice (some a) n c=>.agg [.lit (.int .i64 1),.lit (.int .i64 a.block),.lit (.int .i64 n),.lit (.int .i64 c)]
 |_=>.lit (.int .i64 0)
def zWx:Value→Bool
 | .slice none 0 0=>true
 | .slice (some ⟨_,0,none⟩) _ _=>true
 |_=>false
def hdrE (v:Value):Option (DataW Unit×List MemPlace):=if zWx v then some (hdrD v,[]) else none
theorem zO7 {u v:Value}{ps:List MemPlace}(hu:zWx u=true)(h:hdrE v=some (hdrD u,ps)):v=u:=by
 unfold hdrE at h
 split at h
 ·rename_i hv
  simp only[Option.some.injEq,Prod.mk.injEq] at h;have h:=h.1;unfold zWx at hu hv
  split at hu
  ·split at hv
   ·rfl
   ·simp[hdrD] at h
   ·cases hv
  ·split at hv
   ·simp[hdrD] at h
   ·simp only[hdrD,DataW.agg.injEq,List.cons.injEq,DataW.lit.injEq,Lit.int.injEq,true_and,and_true] at h;obtain⟨h1,h2,h3⟩:=h;have e1:=Int.ofNat.inj h1;have e2:=Int.ofNat.inj h2;have e3:=Int.ofNat.inj h3;subst e1 e2 e3;rfl
   ·cases hv
  ·cases hu
 ·cases h
theorem OwnP.ok {w:World}{B:Nat}{v:Value}{bs:List Nat}(h:OwnP w B v bs):zWx v=true:=by
 rcases h.2 with⟨h1,_⟩|⟨g',cap',cur,h1,_⟩
 ·rw[h1];rfl
 ·rw[h1];rfl
theorem lawI:Maps.Keyed Tryz.prog 3:=Maps.int_keyed Tryz.underlying3
theorem zZ9 (w:World):(zeroValue 138).run Tryz.prog w= .ok (.slice none 0 0) w:=by simp[Tryz.zeroValue138]
structure MapS (w:World)(B bm:Nat)(rs:List Rul)(ts:List ByteArray)(i:Nat)(done:List App)(D:DataW Unit)(hd:Nat→Value)(bss:Nat→List Nat):Prop where
 own:w.ownsMap Tryz.prog 3 hdrE bm done.length D
 at_:∀r:Nat,D.atKey (.int .i64 r) (hdrD (.slice none 0 0))=hdrD (hd r)
 rows:∀r,OwnP w B (hd r) (bss r)
 shs:∀r,Shs rs w (bss r) (gotR rs ts i r done)
 dis:∀r r',r≠r'→∀b,(hd r).ownBlock=some b→(hd r').ownBlock≠some b
theorem zCt {w:World}{bm n:Nat}{D:DataW Unit}(h:w.ownsMap Tryz.prog 3 hdrE bm n D){t:TypeId}{cs:Array Value}:¬Blk w bm t cs:=by
 obtain⟨es,clock,hb,_⟩:=h;unfold Blk;rw[hb];simp
theorem MapS.keep {w w':World}{B bm:Nat}{rs:List Rul}{ts:List ByteArray}{i:Nat}{done:List App}{D:DataW Unit}{hd:Nat→Value}{bss:Nat→List Nat}(h:MapS w B bm rs ts i done D hd bss)(hb:Below w.heap.size w w'):MapS w' B bm rs ts i done D hd bss:=
 ⟨h.own.kept (row:=none) ⟨hb.os,hb.tape,hb.output,hb.size,fun i hi _=>hb.block i hi⟩ (by simp),h.at_,fun r=>(h.rows r).keep hb,fun r=>(h.shs r).keep hb,h.dis⟩
theorem MapS.full {w:World}{B bm:Nat}{rs:List Rul}{ts:List ByteArray}{i:Nat}{done:List App}{D:DataW Unit}{hd:Nat→Value}{bss:Nat→List Nat}(h:MapS w B bm rs ts i done D hd bss){a:App}(hf:¬(bss a.rule).length<2):MapS w B bm rs ts i (done++[a]) D hd bss:=by
 refine⟨h.own.mono (by simp),h.at_,h.rows,fun r=>?_,h.dis⟩;rw[zPg]
 split
 ·rename_i e
  subst e;rw[zXg (by rw[←(h.shs a.rule).1];exact hf)];exact h.shs _
 ·exact h.shs r
theorem MapS.put {w w1 w2 w0:World}{bm:Nat}{rs:List Rul}{ts:List ByteArray}{i:Nat}{done:List App}{D:DataW Unit}{hd:Nat→Value}{bss:Nat→List Nat}(h:MapS w w0.heap.size bm rs ts i done D hd bss){a:App}{v':Value}{bs':List Nat}
  (he:ExtS rs w0 w (hd a.rule) w1 v' bs' (gotR rs ts i a.rule done++zGm rs ts i a)) (hm:w2.ownsMap Tryz.prog 3 hdrE bm (done.length+1) (D.put (.int .i64 a.rule) (hdrD v'))) (hg:w1.grownBy w2 (some bm)) (hm1:∀t cs,¬Blk w1 bm t cs):
  ∃D' hd' bss',MapS w2 w0.heap.size bm rs ts i (done++[a]) D' hd' bss':=by
 have stay:∀g t cs,Blk w1 g t cs→Blk w2 g t cs:=fun g t cs hb=>hb.grown hg fun e=>by
  obtain rfl:=sj e;exact hm1 _ _ hb
 have row2:∀v bs,OwnP w1 w0.heap.size v bs→OwnP w2 w0.heap.size v bs:=fun v bs ho=>by
  refine World.ownsRow.kept ho hg ?_;cases hv:v.ownBlock with
  |none=>exact .inl rfl
  |some b=>
   refine .inr fun e=>?_
   obtain rfl:=sj e;obtain⟨cs,hc⟩:=(ho.row _ hv).2.2;exact hm1 _ _ hc
 have row1:∀r,r≠a.rule→OwnP w1 w0.heap.size (hd r) (bss r):=fun r hr=>by
  refine World.ownsRow.kept (h.rows r) he.grown ?_;cases hv:(hd r).ownBlock with
  |none=>exact .inl rfl
  |some b=>exact .inr fun e=>h.dis r a.rule hr b hv e.symm
 refine⟨_,fun r=>if r=a.rule then v' else hd r,fun r=>if r=a.rule then bs' else bss r,by rw[List.length_append];exact hm,fun r=>?_,fun r=>?_,fun r=>?_,fun r r' hne b hb=>?_⟩
 ·show(D.put (.int .i64 a.rule) (hdrD v')).atKey _ _=hdrD (if r=a.rule then v' else hd r)
  by_cases e:r=a.rule
  ·rw[if_pos e,e];exact Maps.atKey_put_same (World.ownsMap.isMap h.own) (by trivial) _ _
  ·rw[if_neg e,Maps.atKey_put_other (fun hh=>e (by simp at hh;omega))];exact h.at_ r
 ·show OwnP w2 _ (if r=a.rule then v' else hd r) (if r=a.rule then bs' else bss r)
  by_cases e:r=a.rule
  ·rw[if_pos e,if_pos e];exact row2 _ _ he.own
  ·rw[if_neg e,if_neg e];exact row2 _ _ (row1 r e)
 ·show Shs rs w2 (if r=a.rule then bs' else bss r) _;rw[zPg]
  by_cases e:r=a.rule
  ·subst e;rw[if_pos rfl,if_pos rfl];exact he.shs.map fun g cs hb=>stay g _ cs hb
  ·rw[if_neg e,if_neg (fun hh=>e hh.symm)];exact((h.shs r).grow he.grown fun r' hr'=>((h.rows a.rule).row r' hr').2.2).map fun g cs hb=>stay g _ cs hb
 ·have hlt:∀r b,(hd r).ownBlock=some b→b<w.heap.size:=fun r b hb=>((h.rows r).row b hb).2.1
  show(if r'=a.rule then v' else hd r').ownBlock≠some b;have hb:(if r=a.rule then v' else hd r).ownBlock=some b:=hb
  by_cases e:r=a.rule
  ·rw[if_pos e] at hb;rw[if_neg (fun e'=>hne (e.trans e'.symm))];rcases he.loc with h1|⟨b',h1,h2⟩
   ·rw[h1] at hb;exact h.dis a.rule r' (fun hh=>hne (e.trans hh)) b hb
   ·rw[h2] at hb;obtain rfl:=sj hb;intro hh;have:=hlt r' _ hh;omega
  ·rw[if_neg e] at hb
   by_cases e':r'=a.rule
   ·rw[if_pos e'];rcases he.loc with h1|⟨b',h1,h2⟩
    ·rw[h1];exact h.dis r a.rule e b hb
    ·rw[h2];intro hh;obtain rfl:=sj hh;have:=hlt r _ hb;omega
   ·rw[if_neg e'];exact h.dis r r' hne b hb
structure zI4 (w0:World)(g gm gt gi bm:Nat)(rs:List Rul)(ts:List ByteArray)(i:Nat)(done:List App)(w:World):Prop where
 vm:Blk w gm 220 #[.map (some bm)]
 vt:Blk w gt 136 #[ptrV g]
 vi:Blk w gi 3 #[.int .i64 i]
 below:Below w0.heap.size w0 w
 map:∃D hd bss,MapS w w0.heap.size bm rs ts i done D hd bss
 low:w0.heap.size≤bm
theorem zI4.keep {w0:World}{g gm gt gi bm:Nat}{rs:List Rul}{ts:List ByteArray}{i:Nat}{done:List App}{w w':World}(h:zI4 w0 g gm gt gi bm rs ts i done w)(hb:Below w.heap.size w w'):zI4 w0 g gm gt gi bm rs ts i done w':=by
 obtain⟨h1,h2,h3,h4,⟨D,hd,bss,h5⟩,h6⟩:=h;exact⟨jL hb h1,jL hb h2,jL hb h3,h4.trans (hb.mono h4.size),⟨D,hd,bss,h5.keep hb⟩,h6⟩
theorem zI4.put {w0:World}{g gm gt gi bm:Nat}{rs:List Rul}{ts:List ByteArray}{i:Nat}{done:List App}{w w1 w2:World}{D:DataW Unit}{hd:Nat→Value}{bss:Nat→List Nat}{a:App}{v':Value}{bs':List Nat}
  (h1:Blk w gm 220 #[.map (some bm)]) (h2:Blk w gt 136 #[ptrV g]) (h3:Blk w gi 3 #[.int .i64 i]) (h6:w0.heap.size≤bm) (hM:MapS w w0.heap.size bm rs ts i done D hd bss)
  (he:ExtS rs w0 w (hd a.rule) w1 v' bs' (gotR rs ts i a.rule done++zGm rs ts i a)) (hm:w2.ownsMap Tryz.prog 3 hdrE bm (done.length+1) (D.put (.int .i64 a.rule) (hdrD v'))) (hg:w1.grownBy w2 (some bm)):
  zI4 w0 g gm gt gi bm rs ts i (done++[a]) w2∧∀k cs,Blk w k 176 cs→Blk w2 k 176 cs:=by
 have hrow:∀r,(hd a.rule).ownBlock=some r→∃cs,Blk w r 140 cs:=fun r hr=>((hM.rows a.rule).row r hr).2.2
 have hm1:w1.ownsMap Tryz.prog 3 hdrE bm done.length D:=hM.own.kept he.grown fun e=>by
  obtain⟨cs,hc⟩:=hrow bm e.symm;exact zCt hM.own hc
 have both:∀k t cs,t≠140→Blk w k t cs→Blk w2 k t cs:=fun k t cs ht hb=>by
  have hb1:=hb.stay he.grown hrow ht;exact hb1.grown hg fun e=>by
   obtain rfl:=sj e;exact zCt hm1 hb1
 refine⟨⟨both _ _ _ (by decide) h1,both _ _ _ (by decide) h2,both _ _ _ (by decide) h3,he.below.grown hg he.below.size (fun k hk=>by cases hk;exact h6),hM.put he hm hg (fun t cs=>zCt hm1),h6⟩,fun k cs hb=>both _ _ _ (by decide) hb⟩
def InvC (w0:World)(g gm gt gi bm:Nat)(rs:List Rul)(ts:List ByteArray)(i:Nat)(done:List App)(a:App)(wa:World)(hd:Nat→Value):List Bool→Value×List Nat→World→Prop
 |[false,_],_,wq=>Below wa.heap.size wa wq
 |[true,false],gx,wq=>∃wb,Below wa.heap.size wa wb∧ExtS rs w0 wb (hd a.rule) wq gx.1 gx.2 (gotR rs ts i a.rule done++zGm rs ts i a)
 |[true,true],_,wq=>zI4 w0 g gm gt gi bm rs ts i (done++[a]) wq∧∀k cs,Blk wa k 176 cs→Blk wq k 176 cs
 |_,_,_=>False
theorem yB6 {rs:List Rul}{ts:List ByteArray}{i j k:Nat}:(inA rs ts i j k).length≤1:=by
 unfold inA
 split
 ·split<;>simp
 ·simp
theorem yA2 {rs:List Rul}{i j k:Nat}:(juxA rs i j k).length≤1:=by
 unfold juxA
 split<;>simp
theorem yA1 {rs:List Rul}{ts:List ByteArray}{i j k:Nat}:(midA rs ts i j k).length≤2:=by
 unfold midA;rw[List.length_append];have h1:=yB6 (rs:=rs) (ts:=ts) (i:=i) (j:=j) (k:=k);have h2:=yA2 (rs:=rs) (i:=i) (j:=j) (k:=k);omega
theorem zW4 {rs:List Rul}{ts:List ByteArray}{i j:Nat}:(zDt rs ts i j).length≤2+2*(j -(i+1)):=by
 unfold zDt;rw[List.length_append,List.length_append];have h1:(preA rs ts i j).length≤1:=by
  unfold preA
  split
  ·split<;>simp
  ·simp
 have h2:(zFr rs ts i j).length≤1:=by
  unfold zFr
  split
  ·split<;>simp
  ·simp
 have h3:=zLm (f:=midA rs ts i j) (b:=2) (l:=List.range' (i+1) (j -(i+1))) fun k _=>yA1
 rw[List.length_range'] at h3;omega
theorem zYj {rs:List Rul}{ts:List ByteArray}{i j:Nat}(hij:i<j){a:App}(h:a∈zDt rs ts i j):a.rule<rs.length∧i≤a.frm∧a.frm<a.left∧a.left≤j∧a.left -a.frm<j -i∧(a.kids=1∨(a.kids=2∧i<a.right∧a.right<a.to∧a.to=j)):=by
 unfold zDt at h;rw[List.mem_append,List.mem_append,List.mem_flatMap] at h;have fr:∀{kind:Int} {s:List UInt8} {r:Nat},zBs rs kind s=some r→r<rs.length:=fun h=>by
  obtain⟨x,hx,_⟩:=zCd h;exact(List.getElem?_eq_some_iff.1 hx).1
 rcases h with(h|h)|⟨k,hk,h⟩
 ·unfold preA at h
  split at h
  ·split at h
   ·rw[List.mem_singleton] at h;subst h;exact⟨fr ‹_›,by dsimp only;omega,by dsimp only;omega,by dsimp only;omega,by dsimp only;omega,.inl rfl⟩
   ·cases h
  ·cases h
 ·unfold zFr at h
  split at h
  ·split at h
   ·rw[List.mem_singleton] at h;subst h;exact⟨fr ‹_›,by dsimp only;omega,by dsimp only;omega,by dsimp only;omega,by dsimp only;omega,.inl rfl⟩
   ·cases h
  ·cases h
 ·have hkm:=zDg hk;unfold midA at h;rw[List.mem_append] at h;rcases h with h|h
  ·unfold inA at h
   split at h
   ·split at h
    ·rw[List.mem_singleton] at h;subst h;exact⟨fr ‹_›,by dsimp only;omega,by dsimp only;omega,by dsimp only;omega,by dsimp only;omega,.inr ⟨rfl,by dsimp only;omega,by dsimp only;omega,rfl⟩⟩
    ·cases h
   ·cases h
  ·unfold juxA at h
   split at h
   ·rw[List.mem_singleton] at h;subst h;exact⟨fr ‹_›,by dsimp only;omega,by dsimp only;omega,by dsimp only;omega,by dsimp only;omega,.inr ⟨rfl,by dsimp only;omega,by dsimp only;omega,rfl⟩⟩
   ·cases h
theorem zR3 (g:Nat)(F:Fin)(rs:List Rul)(ts:List ByteArray)(gc:Nat)(rows:Nat→Nat)(fill:Nat→Nat→Bool)(a:App)(i j:Nat)(l:Value)(bs:List Nat)(xs:List Rd)(w0 w:World)(hT:TabAt w0 g F rs ts gc rows fill)(hb0:Below w0.heap.size w0 w)(ho:OwnP w w0.heap.size l bs)(hs:Shs rs w bs xs)(hx:xs.length≤2)(hij:i<j)(hj:j≤ts.length)(ha:a∈zDt rs ts i j)(hf:∀p q,i≤p→p<q→q≤j→q -p<j -i→fill p q=true)(hn:rs.length≤1000000):
  Calls Tryz.prog 182 #[ptrV g,l,.int .i64 i,.agg a.c] w (ExtP rs w0 l (xs++zGm rs ts i a) w):=by
 obtain⟨r,frm,left,right,t2,kids⟩:=a;obtain⟨h1,h2,h3,h4,h5,h6⟩:=zYj hij ha;dsimp only at h1 h2 h3 h4 h5 h6;rcases h6 with rfl|⟨rfl,h7,h8,h9⟩
 ·exact zSb g F rs ts gc rows fill r frm left right t2 i l bs xs w0 w hT hb0 ho hs hx h1 h3 (by omega) (hf _ _ h2 h3 h4 h5) hn
 ·exact zS1 g F rs ts gc rows fill r frm left right t2 i l bs xs w0 w hT hb0 ho hs hx h1 h3 (by omega) (hf _ _ h2 h3 h4 h5) h8 (by omega) (hf _ _ (by omega) h8 (by omega) (by omega)) hn
theorem InvC.keeps {w0:World}{g gm gt gi bm:Nat}{rs:List Rul}{ts:List ByteArray}{i:Nat}{done:List App}{a:App}{wa:World}{D:DataW Unit}{hd:Nat→Value}{bss:Nat→List Nat}{b10 b11:Bool}{gx:Value×List Nat}{wq:World}(h:InvC w0 g gm gt gi bm rs ts i done a wa hd [b10,b11] gx wq)(hM:MapS wa w0.heap.size bm rs ts i done D hd bss)(h11:b11=false){k:Nat}{t:TypeId}{cs:Array Value}(hk:Blk wa k t cs)(ht:t≠140)(o:Nat):wq.cell? ⟨k,o,none⟩=cs[o]?:=by
 subst h11;cases b10
 ·exact(jL h hk).cell o
 ·obtain⟨wb,hb,he⟩:=h;exact((jL hb hk).stay he.grown (fun r hr=>(((hM.keep hb).rows a.rule).row r hr).2.2) ht).cell o
set_option maxRecDepth 100000 in
set_option maxHeartbeats 4000000 in
theorem zQt (g:Nat)(F:Fin)(rs:List Rul)(ts:List ByteArray)(gc:Nat)(rows:Nat→Nat)(fill:Nat→Nat→Bool)(i j gm gt gi bm:Nat)(w0:World)(hT:TabAt w0 g F rs ts gc rows fill)(hij:i<j)(hj:j≤ts.length)(hf:∀p q,i≤p→p<q→q≤j→q -p<j -i→fill p q=true)(hn:rs.length≤1000000)(hm:ts.length≤1000000):
  zYn 181 #[ptrV gm,ptrV gt,ptrV gi] rs ts i j (zI4 w0 g gm gt gi bm rs ts i):=by
 intro done a m w hA hC;have HT:=zh hT;have HFI:=zh hf;have HA:=zh (show a∈zDt rs ts i j by rw[hA];simp);have hr:=(zYj hij HA.out).1;have hdl:done.length≤2000002:=by
  have h1:=zW4 (rs:=rs) (ts:=ts) (i:=i) (j:=j);rw[hA,List.length_append] at h1;omega
 have HDN:=zh (show done.length<maxLen by unfold maxLen;omega);clear hA hT hf hdl;obtain⟨r,frm,left,right,t2,kids⟩:=a;dsimp only at hr;have HKEY:=zh (Maps.keyOf_int_mk (P:=Tryz.prog) (k:=3) Tryz.underlying3 (q:=.i64) (a:=(r:Int)) (WalkArith.wf_i64 (by omega)));have HBA:=zh (zA0 w (.cells #[.int .i64 r,.int .i64 frm,.int .i64 left,.int .i64 right,.int .i64 t2,.int .i64 kids] 223));have K0:=zh (Blk.new w 223 #[.int .i64 r,.int .i64 frm,.int .i64 left,.int .i64 right,.int .i64 t2,.int .i64 kids]);obtain⟨k1,k2,k3,hb,⟨D,hd,bss,hM⟩,hlow⟩:=hC.keep HBA.out;have K1:=zh k1;have K2:=zh k2;have K3:=zh k3;have HB:=zh hb;have HM:=zh hM;have HLOW:=zh hlow;clear hb hM hlow k1 k2 k3 hC;obtain⟨A5,cap5,e5,hcl5,_,_⟩:=(HM.out.rows r).form;obtain⟨v,ps,hrun,hv⟩:=HM.out.own.lookup lawI Tryz.underlying220 (zZ9 _) (show hdrE (.slice none 0 0)=some (hdrD (.slice none 0 0),[]) from rfl) HKEY.out;obtain rfl:=zO7 (HM.out.rows r).ok (by rw[←HM.out.at_ r];exact hv);rw[e5] at hrun;clear hv;have c1:=K1.out.cell 0;rw[show(#[Value.agg (App.c ⟨r,frm,left,right,t2,kids⟩)]++ #[ptrV gm,ptrV gt,ptrV gi]:Array Value)= #[.agg #[.int .i64 r,.int .i64 frm,.int .i64 left,.int .i64 right,.int .i64 t2,.int .i64 kids],ptrV gm,ptrV gt,ptrV gi] from rfl]
 by_cases hl2:(bss r).length<2
 ·have q1:((bss r).length:Int)<2:=by omega
  go_enter Tryz.func181,Tryz.ntmps181;go_upto_region 2 with(fail)
  clear hrun c1 e5 q1;generalize w.alloc (.cells _ 223)=w1 at*;refine zB1 (X:=Value×List Nat) (by kernel_rfl) _ (fun gx=>[.map (some bm),.pointer (some ⟨w.heap.size,0,none⟩),.int .i64 r,.pointer (some ⟨g,0,none⟩),.map (some bm),.pointer (some ⟨w.heap.size,0,none⟩),.int .i64 r,hd r,.int .i64 i,.agg #[.int .i64 r,.int .i64 frm,.int .i64 left,.int .i64 right,.int .i64 t2,.int .i64 kids],gx.1,undef]) [true,true,true,true,true,true,true,true,true,true,true,true] [10,11] (InvC w0 g gm gt gi bm rs ts i done ⟨r,frm,left,right,t2,kids⟩ w1 hd) (.nilFunc,[]) (by kernel_rfl) (fun gx=>by simp[fin,zAm,zAb,List.range,List.range.loop,Act.put];rfl) (fun _=>by kernel_rfl) (by kernel_rfl) (zA2 (Below.refl _ _)) ?_ ?_
  ·refine⟨fun L gx wq hL hb ha hI=>?_,fun L gx wq hL hb ha hI=>?_,fun L gx wq hL hb ha hI=>?_,fun L gx wq hL hb ha hI=>?_,fun L gx wq hL hb ha hI=>?_,fun L gx wq hL hb ha hI=>?_,fun L gx wq hL hb ha hI=>?_,fun L gx wq hL hb ha hI=>?_,fun L gx wq hL hb ha hI=>?_,fun L gx wq hL hb ha hI=>?_,fun L gx wq hL hb ha hI=>?_,fun L gx wq hL hb ha hI=>?_,trivial⟩
   ·have cJ:=InvC.keeps hI HM.out (ha 11 (by kernel_rfl)) K1.out (by decide) 0;exact jq (.map (some bm)) wq (by simp[go_sem,cJ]) rfl hI
   ·exact jq (.pointer (some ⟨w.heap.size,0,none⟩)) wq (by simp[go_sem]) rfl hI
   ·have cJ:=InvC.keeps hI HM.out (ha 11 (by kernel_rfl)) K0.out (by decide) 0;exact jq (.int .i64 r) wq (by simp[go_sem,cJ]) rfl hI
   ·have cJ:=InvC.keeps hI HM.out (ha 11 (by kernel_rfl)) K2.out (by decide) 0;exact jq (.pointer (some ⟨g,0,none⟩)) wq (by simp[go_sem,cJ]) rfl hI
   ·have cJ:=InvC.keeps hI HM.out (ha 11 (by kernel_rfl)) K1.out (by decide) 0;exact jq (.map (some bm)) wq (by simp[go_sem,cJ]) rfl hI
   ·exact jq (.pointer (some ⟨w.heap.size,0,none⟩)) wq (by simp[go_sem]) rfl hI
   ·have cJ:=InvC.keeps hI HM.out (ha 11 (by kernel_rfl)) K0.out (by decide) 0;exact jq (.int .i64 r) wq (by simp[go_sem,cJ]) rfl hI
   ·have e10:L 10=false:=ha 10 (by kernel_rfl);have hI9:=hI;simp only[List.map,e10] at hI9;obtain⟨v,ps,hrun,hv⟩:=(HM.out.keep hI9).own.lookup lawI Tryz.underlying220 (zZ9 wq) (show hdrE (.slice none 0 0)=some (hdrD (.slice none 0 0),[]) from rfl) HKEY.out;obtain rfl:=zO7 (HM.out.rows r).ok (by rw[←HM.out.at_ r];exact hv);exact jq (hd r) wq (by simp[go_sem,hrun]) rfl hI
   ·have cJ:=InvC.keeps hI HM.out (ha 11 (by kernel_rfl)) K3.out (by decide) 0;exact jq (.int .i64 i) wq (by simp[go_sem,cJ]) rfl hI
   ·have cJ:=fun k=>InvC.keeps hI HM.out (ha 11 (by kernel_rfl)) K0.out (by decide) k
    exact jq (.agg #[.int .i64 r,.int .i64 frm,.int .i64 left,.int .i64 right,.int .i64 t2,.int .i64 kids]) wq (by simp[go_sem,cJ]) rfl hI
   ·have e10:L 10=false:=hL;have e11:L 11=false:=ha 11 (by kernel_rfl);simp only[List.map,e10,e11] at hI⊢;refine jc 182 (#[.pointer (some ⟨g,0,none⟩),hd r,.int .i64 i,.agg #[.int .i64 r,.int .i64 frm,.int .i64 left,.int .i64 right,.int .i64 t2,.int .i64 kids]]) wq (by kernel_rfl) ((zR3 g F rs ts gc rows fill ⟨r,frm,left,right,t2,kids⟩ i j (hd r) (bss r) (gotR rs ts i r done) w0 wq HT.out (HB.out.trans (Below.mono hI HB.out.size)) ((HM.out.rows r).keep hI) ((HM.out.shs r).keep hI) zL6 hij hj HA.out HFI.out hn).mono ?_);rintro e wa ⟨v',bs',rfl,he⟩;exact⟨_,rfl,(v',bs'),rfl,(zA5.of_same ⟨jK,jK,jK,jK,jK,jK,jK,jK,jK,jK,.inl rfl,jK,trivial⟩),wq,hI,he⟩
   ·have e10:L 10=true:=hb 10 (by kernel_rfl);have e11:L 11=false:=hL;simp only[List.map,e10,e11] at hI⊢;obtain⟨wb,hbb,he⟩:=hI;have HMb:=HM.out.keep hbb;have hm1:=HMb.own.kept he.grown (fun e=>by
     obtain⟨cs,hc⟩:=((HMb.rows r).row bm e.symm).2.2;exact zCt HMb.own hc)
    obtain⟨w2,hrun,hm2,hg2⟩:=hm1.update lawI Tryz.underlying220 HDN.out HKEY.out (show hdrE gx.1=some (hdrD gx.1,[]) by unfold hdrE;rw[he.own.ok];rfl);have hfin:=zI4.put (a:=⟨r,frm,left,right,t2,kids⟩) (keep hbb K1.out) (keep hbb K2.out) (keep hbb K3.out) HLOW.out HMb he hm2 hg2;exact Gives.skip (w':=w2) (by simp[go_sem,hrun]) ⟨gx,rfl,zA5.same,hfin.1,fun k cs hk=>hfin.2 k cs (keep hbb hk)⟩
  ·intro gx wq hI;obtain⟨hc,hk⟩:=hI;go_wp2_with fail
   go_end0
   exact⟨rfl,hc,fun k cs hb=>hk k cs (keep HBA.out hb)⟩
 ·have hf:=HM.out.full (a:=⟨r,frm,left,right,t2,kids⟩) hl2;have HF:=zh hf;have q1:¬((bss r).length:Int)<2:=by omega
  clear hf;go_enter Tryz.func181,Tryz.ntmps181;go_wp2_with fail
  go_end0
  exact⟨rfl,⟨K1.out,K2.out,K3.out,HB.out,⟨_,_,_,HF.out⟩,HLOW.out⟩,fun k cs hb=>keep HBA.out hb⟩
theorem MapS.stay {w w':World}{B B' bm:Nat}{rs:List Rul}{ts:List ByteArray}{i:Nat}{done:List App}{D:DataW Unit}{hd:Nat→Value}{bss:Nat→List Nat}(h:MapS w B bm rs ts i done D hd bss){v:Value}{bs:List Nat}(ho:OwnP w B' v bs)(hg:w.grownBy w' v.ownBlock)(hf:∀r b,(hd r).ownBlock=some b→v.ownBlock≠some b):MapS w' B bm rs ts i done D hd bss:=by
 refine⟨h.own.kept hg fun e=>?_,h.at_,fun r=>?_,fun r=>(h.shs r).grow hg fun r' hr'=>(ho.row r' hr').2.2,h.dis⟩
 ·obtain⟨cs,hc⟩:=(ho.row bm e.symm).2.2;exact zCt h.own hc
 ·refine World.ownsRow.kept (h.rows r) hg ?_;cases hv:(hd r).ownBlock with
  |none=>exact .inl rfl
  |some b=>exact .inr fun e=>hf r b hv e.symm
theorem MapS.made {w:World}{rs:List Rul}{ts:List ByteArray}{i:Nat}:MapS (w.alloc (.map #[] 0)) w.heap.size w.heap.size rs ts i [] (.map []) (fun _=>.slice none 0 0) (fun _=>[]):=
 ⟨World.ownsMap_made _ _ _ _,fun r=>rfl,fun r=>OwnP.nil _ _,fun r=>Shs.nil,fun r r' _ b h=>by cases h⟩
def InvE (w4 w6:World)(g gm gt gi bm:Nat)(rs:List Rul)(ts:List ByteArray)(i j:Nat):List Bool→Unit→World→Prop
 |[false],_,wq=>Below w6.heap.size w6 wq
 |[true],_,wq=>zI4 w4 g gm gt gi bm rs ts i (zDt rs ts i j) wq
 |_,_,_=>False
theorem zQj {ts:List ByteArray}{i j:Nat}(h:j=i+1∧tokB ts i zE0=true):zEk ts i j=[.mk (-1) i []]:=by unfold zEk;rw[if_pos h]
theorem zOa {ts:List ByteArray}{i j:Nat}(h:¬(j=i+1∧tokB ts i zE0=true)):zEk ts i j=[]:=by unfold zEk;rw[if_neg h]
theorem zSc {α:Type}(f:Nat→List α)(r:Nat):(List.range (r+1)).flatMap f=(List.range r).flatMap f++f r:=by
 rw[List.range_succ,List.flatMap_append];simp
theorem zOe {rs:List Rul}{ts:List ByteArray}{i r:Nat}{l:List App}:((List.range r).flatMap fun n=>gotR rs ts i n l).length≤2*r:=by
 have:=zLm (f:=fun n=>gotR rs ts i n l) (b:=2) (l:=List.range r) fun n _=>zL6
 rw[List.length_range] at this;omega
theorem zX1 {w:World}{B:Nat}{v:Value}{bs cs:List Nat}(h:w.ownsRow B 140 1 v (bs.length+cs.length) (bs.map ptrV++cs.map ptrV)):OwnP w B v (bs++cs):=by
 unfold OwnP;rw[List.length_append,List.map_append];exact h
theorem zZ5 {bs:List Nat}:∀u∈bs.map ptrV,u.oneCell'=true:=by
 intro u hu;obtain⟨b,_,rfl⟩:=List.mem_map.1 hu;rfl
set_option maxRecDepth 100000 in
set_option maxHeartbeats 4000000 in
theorem zY4 (g:Nat)(F:Fin)(rs:List Rul)(ts:List ByteArray)(gc:Nat)(rows:Nat→Nat)(fill:Nat→Nat→Bool)(i j:Nat)(w:World)(hv:zAg rs=true)(hT:TabAt w g F rs ts gc rows fill)(hij:i<j)(hj:j≤ts.length)(hf:∀p q,i≤p→p<q→q≤j→q -p<j -i→fill p q=true)(hn:rs.length≤1000000)(hm:ts.length≤1000000):
  Calls Tryz.prog 142 #[ptrV g,.int .i64 i,.int .i64 j] w (zYk rs (zFu rs ts i j) w):=by
 obtain⟨i0,hi,hz0,hz1,hz2⟩:=info_parts zIi;obtain⟨R,cR,T,cT,I,cI,P,cP,Q,cQ⟩:=F;have HQ:=zh (zWv hv hij hj);have hmf:∀(fn:Fn) (first cap:Array Value) (w:World),(Instr.makeFunc fn first cap).run Tryz.prog w= .ok (.func fn first cap) w:=fun _ _ _ _=>rfl
 have hmm:= @run_makeMap Tryz.prog;have hba:=(zA0 w (.cells #[ptrV g] 136)).trans ((zA0 (w.alloc (.cells #[ptrV g] 136)) (.cells #[.int .i64 i] 3)).mono (by simp));have HT:=zh (hT.keep hba);have HB:=zh hba;have K2:=zh ((Blk.new w 136 #[ptrV g]).alloc (.cells #[.int .i64 i] 3));have K3:=Blk.new (w.alloc (.cells #[ptrV g] 136)) 3 #[.int .i64 i];rw[World.size_alloc] at K3;have K3:=zh K3;have HFI:=zh hf;clear hba hT hf hv;have hjn:j≤ts.length:=hj;obtain⟨s,hs⟩:∃s,ts[i]?=some s:=⟨_,gE (by omega)⟩
 have HTB:=zh (show tokB ts i zE0=(s.toList==zE0) by unfold tokB;rw[hs]);obtain⟨_,adT,hAT,hTl,ctk⟩:=HT.out.fin.toks i s hs;dsimp only at hAT;subst hAT;clear hs;go_enter Tryz.func142,Tryz.ntmps142;go_upto_region 2 with(fail)
 generalize (w.alloc (.cells #[ptrV g] 136)).alloc (.cells #[.int .i64 i] 3)=w1 at*;have hOP:(⟨#[35]⟩:ByteArray).toList=zE0:=by rw[ByteArray.toList_eq];rfl
 go_cut [24] (fun b wc=>b= .bool (!(zEk ts i j).isEmpty)∧∃n,wc=w1.drewN n)
 case first=>
  by_cases hji:j=i+1
  ·have hjd:((j:Int)==(i:Int)+1)=true:=by rw[beq_iff_eq];omega
   have ct1:=HT.out.blk.cell 1;have ci:=K3.out.cell 0;have ctv:=K2.out.cell 0;have hin:(i:Int)<(ts.length:Int):=by omega
   dsimp only at ct1;have HBQ:=zh (show(!(zEk ts i j).isEmpty)=(s.toList==zE0) by
    cases hq:(s.toList==zE0)
    ·rw[zOa (fun h=>by rw[HTB.out,hq] at h;exact absurd h.2 (by simp))];rfl
    ·rw[zQj ⟨hji,by rw[HTB.out];exact hq⟩];rfl)
   clear hji hOP
   go_quiet (fail)
   go_wp2_with fail;go_meet;exact⟨by rw[HBQ.out];rfl,⟨_,rfl⟩⟩
  ·have hjd:((j:Int)==(i:Int)+1)=false:=by rw[beq_eq_false_iff_ne];omega
   have ci:=K3.out.cell 0;have HBQ:=zh (show(!(zEk ts i j).isEmpty)=false by rw[zOa (fun h=>hji h.1)];rfl);clear hji hOP
   go_quiet (fail)
   go_wp2_with fail;go_meet;exact⟨by rw[HBQ.out],⟨_,rfl⟩⟩
 case rest=>
  clear ctk hTl hOP;obtain⟨rfl,nq,hw⟩:=hcut;subst hw;have HT:=zh (HT.out.keep (below_drewN (Below.refl _ _) nq));have HB:=zh (below_drewN HB.out nq);have K2:=zh (Blk.drewN K2.out nq);have K3:=zh (Blk.drewN K3.out nq);generalize w1.drewN nq=w2 at*;go_upto_if 24 with(fail)
  go_cut [7] (fun v wc=>∃bs,Hid (OwnP wc w.heap.size v bs)∧Hid (Shs rs wc bs (zEk ts i j))∧Hid (Below w2.heap.size w2 wc))
  case first=>
   by_cases hb:j=i+1∧tokB ts i zE0=true
   ·have HBQ:=zh (zQj hb);rw[HBQ.out];have ci:=K3.out.cell 0;clear hb;have hbx:=(zA0 w2 (.cells (shC rs (-1) i (.pointer none) (.pointer none)) 185)).trans ((zA0 (w2.alloc (.cells (shC rs (-1) i (.pointer none) (.pointer none)) 185)) (.cells #[ptrV w2.heap.size] 140)).mono (by simp));have KS:=zh ((Blk.new w2 185 (shC rs (-1) i (.pointer none) (.pointer none))).alloc (.cells #[ptrV w2.heap.size] 140));have hown:World.ownsRow _ w.heap.size 140 1 (.slice none 0 0) 0 []:=OwnP.nil ((w2.alloc (.cells (shC rs (-1) i (.pointer none) (.pointer none)) 185)).alloc (.cells #[ptrV w2.heap.size] 140)) w.heap.size;have cn:=zF8 (w2.alloc (.cells (shC rs (-1) i (.pointer none) (.pointer none)) 185)) [ptrV w2.heap.size] 140;rw[World.size_alloc] at cn;have HSZ:=zh HB.out.size;have HBX:=zh hbx;clear hbx;rw[show shC rs (-1) i (.pointer none) (.pointer none)= #[.int .i64 (-1),.int .i64 i,.int .i64 101,.pointer none,.pointer none] from rfl] at cn hown;go_wp2_with (at_builtin;refine wpList_append_own_at _ rfl (.tmp 25) (.tmp 29) 138 rfl w.heap.size 140 i0 (.pointer none) 1 8 Tryz.underlying138 hi hz0 hz1 hz2 rfl (by decide) _ _ _ rfl hown ⟨w2.heap.size+1,0,none⟩ 1 1 [ptrV w2.heap.size] rfl rfl cn ?c2a ?c3a ?c4a ?c5a ?_)
    case c2a=>intro u hu;simp at hu;subst hu;rfl
    case c3a=>unfold maxLen;omega
    case c4a=>omega
    case c5a=>have:=HSZ.out;simp;omega
    intro v' w4 hown' hgrow _ hloc;have M0:=zh (zGu (bs:=[]) (b:=w2.heap.size) rfl hown');have M1:=zh (Shs.snoc (rs:=rs) Shs.nil (ShAt.leaf _ _ _ (KS.out.grown hgrow (by simp[Value.ownBlock]))));have M2:=zh (HBX.out.grown hgrow HBX.out.size (fun k hk=>by simp[Value.ownBlock] at hk));clear hown hown' hgrow hloc cn KS ci;go_wp2_with fail;go_meet;exact⟨_,M0,by rw[HBQ.out];exact M1,M2⟩
   ·have HBQ:=zh (zOa hb);rw[HBQ.out];clear hb;go_wp2_with fail;go_meet;exact⟨[],OwnP.nil _ _,by rw[HBQ.out];exact Shs.nil,Below.refl _ _⟩
  case rest=>
   obtain⟨bs,HO,HS,hb⟩:=hcut;have HT:=zh (HT.out.keep hb.out);have HB:=zh (HB.out.trans (hb.out.mono HB.out.size));have K2:=zh (keep hb.out K2.out);have K3:=zh (keep hb.out K3.out);generalize wc=w4 at*;clear hb;have HO4:=HO;go_upto_region 5 with(fail)
   have hbx:=(zA0 w4 (.map #[] 0)).trans ((zA0 (w4.alloc (.map #[] 0)) (.cells #[.map (some w4.heap.size)] 220)).mono (by simp));have K1:=Blk.new (w4.alloc (.map #[] 0)) 220 #[.map (some w4.heap.size)];rw[World.size_alloc] at K1;have HC0:=zh (show zI4 w4 g (w4.heap.size+1) w.heap.size (w.heap.size+1) w4.heap.size rs ts i [] _ from⟨K1,keep hbx K2.out,keep hbx K3.out,hbx,⟨_,_,_,MapS.made.keep ((zA0 (w4.alloc (.map #[] 0)) (.cells #[.map (some w4.heap.size)] 220)))⟩,Nat.le_refl _⟩);have HT6:=zh (HT.out.keep hbx);clear hbx K1 hmm;generalize (w4.alloc (.map #[] 0)).alloc (.cells _ 220)=w6 at*;refine zB1 (X:=Unit) (by kernel_rfl) _ (fun gx=>[.pointer (some ⟨g,0,none⟩),.pointer (some ⟨g,0,none⟩),.pointer (some ⟨g,0,none⟩),.agg #[.slice R rs.length cR,.slice (some adT) ts.length cT,.slice I ts.length cI,.slice P ts.length cP,.slice Q ts.length cQ,.int .i64 (zAc rs 4 [])],.int .i64 i,.int .i64 j,.func (.func 181) #[] #[.pointer (some ⟨w4.heap.size+1,0,none⟩),.pointer (some ⟨w.heap.size,0,none⟩),.pointer (some ⟨w.heap.size+1,0,none⟩)],undef]) [true,true,true,true,true,true,true,true] [7] (InvE w4 w6 g (w4.heap.size+1) w.heap.size (w.heap.size+1) w4.heap.size rs ts i j) () (by kernel_rfl) (fun gx=>by simp[fin,zAm,zAb,List.range,List.range.loop,Act.put];rfl) (fun _=>by kernel_rfl) (by kernel_rfl) (zA2 (Below.refl _ _)) ?_ ?_
   ·refine⟨fun L gx wq hL hb ha hI=>?_,fun L gx wq hL hb ha hI=>?_,fun L gx wq hL hb ha hI=>?_,fun L gx wq hL hb ha hI=>?_,fun L gx wq hL hb ha hI=>?_,fun L gx wq hL hb ha hI=>?_,fun L gx wq hL hb ha hI=>?_,fun L gx wq hL hb ha hI=>?_,trivial⟩
    ·have e7:L 7=false:=ha 7 (by kernel_rfl);have hI9:=hI;simp only[List.map,e7] at hI9;have cJ:=(HC0.out.keep hI9).vt.cell 0;exact jq (.pointer (some ⟨g,0,none⟩)) wq (by simp[go_sem,cJ]) rfl hI
    ·exact jq (.pointer (some ⟨g,0,none⟩)) wq (by simp[go_sem]) rfl hI
    ·exact jq (.pointer (some ⟨g,0,none⟩)) wq (by simp[go_sem]) rfl hI
    ·have e7:L 7=false:=ha 7 (by kernel_rfl);have hI9:=hI;simp only[List.map,e7] at hI9;have cJ:=fun k=>(HT6.out.keep hI9).blk.cell k
     exact jq (.agg #[.slice R rs.length cR,.slice (some adT) ts.length cT,.slice I ts.length cI,.slice P ts.length cP,.slice Q ts.length cQ,.int .i64 (zAc rs 4 [])]) wq (by simp[go_sem,cJ]) rfl hI
    ·have e7:L 7=false:=ha 7 (by kernel_rfl);have hI9:=hI;simp only[List.map,e7] at hI9;have cJ:=(HC0.out.keep hI9).vi.cell 0;exact jq (.int .i64 i) wq (by simp[go_sem,cJ]) rfl hI
    ·exact jq (.int .i64 j) wq (by kernel_rfl) rfl hI
    ·exact jq (.func (.func 181) #[] #[.pointer (some ⟨w4.heap.size+1,0,none⟩),.pointer (some ⟨w.heap.size,0,none⟩),.pointer (some ⟨w.heap.size+1,0,none⟩)]) wq (by simp[go_sem]) rfl hI
    ·have e7:L 7=false:=hL;simp only[List.map,e7] at hI⊢;refine jc 180 (#[.agg #[.slice R rs.length cR,.slice (some adT) ts.length cT,.slice I ts.length cI,.slice P ts.length cP,.slice Q ts.length cQ,.int .i64 (zAc rs 4 [])],.int .i64 i,.int .i64 j,.func (.func 181) #[] #[.pointer (some ⟨w4.heap.size+1,0,none⟩),.pointer (some ⟨w.heap.size,0,none⟩),.pointer (some ⟨w.heap.size+1,0,none⟩)]]) wq (by kernel_rfl) ((zY7 181 #[ptrV (w4.heap.size+1),ptrV w.heap.size,ptrV (w.heap.size+1)] ⟨R,cR,(some adT),cT,I,cI,P,cP,Q,cQ⟩ rs ts i j (zI4 w4 g (w4.heap.size+1) w.heap.size (w.heap.size+1) w4.heap.size rs ts i) wq hij hj hm (fun l w hc=>HT.out.fin.keep hc.below) (fun l w w' hc hb=>hc.keep hb) (zQt g _ rs ts gc rows fill i j _ _ _ _ w4 HT.out hij hj HFI.out hn hm) (HC0.out.keep hI) (fun _ _=>by rfl)).mono ?_);rintro e wa ⟨rfl,hc⟩;exact⟨_,rfl,(),rfl,zA5.same,hc⟩
   ·intro gx wq hI;have HC:Hid (zI4 w4 g (w4.heap.size+1) w.heap.size (w.heap.size+1) w4.heap.size rs ts i (zDt rs ts i j) wq):=hI;clear hI HC0 HT6;obtain⟨k1,k2,k3,hb,⟨D,hd,bss,hM⟩,_⟩:=HC.out;have K1:=zh k1;have K2:=zh k2;have HM:=zh hM;have HW:=jt HB hb;have HO:=zh (HO.out.keep hb);have HS:=zh (HS.out.keep hb);have HT:=zh (HT.out.keep hb);have HFR:=zh (show ∀r b,(hd r).ownBlock=some b→u7.ownBlock≠some b from fun r b h1 h2=>by
     have:=((hM.rows r).row b h1).1;have:=(HO4.out.row b h2).2.1;omega)
    clear k1 k2 k3 hb hM HC K3 HO4 hmf;have ctv:=K2.out.cell 0;have ct0:=HT.out.blk.cell 0;dsimp only at ct0;go_wp2_with fail;clear ctv ct0
    go_loopw [7,46] (fun v n wr=>∃(r:Nat) (bs:List Nat),r≤rs.length∧n= .int .i64 r∧Hid (OwnP wr w.heap.size v bs)∧Hid (Shs rs wr bs (zEk ts i j++(List.range r).flatMap fun n=>gotR rs ts i n (zDt rs ts i j)))∧Hid (MapS wr w4.heap.size w4.heap.size rs ts i (zDt rs ts i j) D hd bss)∧Hid (Blk wr (w4.heap.size+1) 220 #[.map (some w4.heap.size)])∧Hid (Below w.heap.size w wr)∧Hid (∀r b,(hd r).ownBlock=some b→v.ownBlock≠some b)) (fun _ n _=>rs.length -(intOf n).toNat)
    case atStart=>exact⟨0,bs,by omega,rfl,HO,by rw[show(List.range 0).flatMap (fun n=>gotR rs ts i n (zDt rs ts i j))=[] from rfl,List.append_nil];exact HS,HM,K1,HW,HFR⟩
    case round=>
     clear HO HS HM K1 HW HFR HT;obtain⟨r,cs,hr,rfl,HO,HS,HM,K1,HW,HFR⟩:=hrel
     by_cases hlt:r<rs.length
     ·have HRF:=zh (zSc (fun n=>gotR rs ts i n (zDt rs ts i j)) r);have HKEY:=zh (Maps.keyOf_int_mk (P:=Tryz.prog) (k:=3) Tryz.underlying3 (q:=.i64) (a:=(r:Int)) (WalkArith.wf_i64 (by omega)));obtain⟨v,ps,hrun,hv⟩:=HM.out.own.lookup lawI Tryz.underlying220 (zZ9 _) (show hdrE (.slice none 0 0)=some (hdrD (.slice none 0 0),[]) from rfl) HKEY.out;obtain rfl:=zO7 (HM.out.rows r).ok (by rw[←HM.out.at_ r];exact hv);obtain⟨A5,cap5,e5,hcl5,_,_⟩:=(HM.out.rows r).form;rw[e5] at hrun;have cm:=K1.out.cell 0;have hrd:=Reads.zK6 (show wr.ownsRow w4.heap.size 140 1 (.slice A5 (bss r).length cap5) (bss r).length ((bss r).map ptrV) from by rw[←e5];exact HM.out.rows r);have hcs:cs.length≤2*r+1:=by
       rw[HS.out.1,List.length_append];have:=zOe (rs:=rs) (ts:=ts) (i:=i) (r:=r) (l:=zDt rs ts i j);have:(zEk ts i j).length≤1:=by unfold zEk;split<;>simp
       omega
      have hbr:(bss r).length≤2:=by rw[(HM.out.shs r).1];exact zL6
      obtain⟨A6,cap6,e6,hcl6,hcap6,_⟩:=HO.out.form;subst e6;have hown:World.ownsRow wr w.heap.size 140 1 (.slice A6 cs.length cap6) cs.length (cs.map ptrV):=HO.out;have HSZ:=zh HW.out.size;clear hv e5;go_wp2_with (at_builtin;refine zAo _ rfl (.tmp 49) (.tmp 52) 138 rfl w.heap.size 140 i0 (.pointer none) 1 8 Tryz.underlying138 hi hz0 hz1 hz2 rfl (by decide) _ _ _ rfl hown wr.heap.size A5 (bss r).length cap5 ((bss r).map ptrV) rfl hrd zZ5 ?c3a ?c4a ?c5a ?_)
      case c3a=>unfold maxLen;omega
      case c4a=>omega
      case c5a=>exact HSZ.out
      intro v' w5 hown' hgrow hloc;have M0:=zh (zX1 hown');have M1:=zh (HM.out.stay HO.out hgrow HFR.out);have hrow:=fun r hr=>(HO.out.row r hr).2.2
      have M2:=zh ((HS.out.grow hgrow hrow).append (M1.out.shs r));have M3:=zh (K1.out.stay hgrow hrow (by decide));have M4:=zh (show ∀r b,(hd r).ownBlock=some b→v'.ownBlock≠some b from fun r b h1=>by
       rcases hloc with h|h
       ·rw[h];exact HFR.out r b h1
       ·rw[h];intro h2;have:=((HM.out.rows r).row b h1).2.1;have:=sj h2;omega)
      have M5:=zh (HW.out.grown hgrow HW.out.size (fun k hk=>(HO.out.row k hk).1));rw[List.append_assoc,←HRF.out] at M2;clear hown hown' hgrow hloc hrow hrd hrun cm HO HS HM K1 HW HFR hcs hbr;go_wp2_with fail;go_roundw
      case rel=>exact⟨r+1,_,by omega,by go_num,M0,M2,M1,M3,M5,M4⟩
      case measure=>simp[intOf];omega
     ·obtain rfl:r=rs.length:=by omega
      go_wp2_with fail;go_ret;exact⟨_,_,rfl,HO.out,by rw[HQ.out];exact HS.out,HW.out⟩
end Go.Proofs.YtadcldfbmkfkaaaGreatDoor.Ch
