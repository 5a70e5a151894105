/- A region that draws its order, where each operation comes to one value whatever the. -/
import Derived.Shelf.Small.Strs
import Derived.Shelf.Strconv.Itoa0
import Derived.Shelf.Strconv.Itoa1
import Derived.Shelf.LaysM
import Derived.Shelf.Strconv.Itoa2
import Derived.Shelf.Strconv.Itoa3
import Derived.Shelf.Strings.Search1
import Derived.Shelf.Strings.Search2
import Derived.Shelf.Strings.Search3
import Derived.Shelf.Strings.Cut
import Derived.Shelf.Strings.Shaped
import Derived.Test.YtchllommcolijaaGreatDoorHb0bc2648
import Derived.Orders
namespace Go.Proofs
open Go.Shelf
def Tryz.lays137_ren:Go.Shelf.Ren:=⟨fun|137=>78|217=>100|266=>127|n=>n,fun|9=>9|5=>5|3=>3|n=>n,fun|n=>n⟩
theorem Tryz.lays137:Go.Proofs.Lays.n137 Tryz.prog Tryz.lays137_ren:={
 mixed:=by kernel_rfl
 f137:=Tryz.func78.trans (congrArg some (by kernel_rfl))
 f217:=Tryz.func100.trans (congrArg some (by kernel_rfl))
 f266:=Tryz.func127.trans (congrArg some (by kernel_rfl))
 t3:=Tryz.underlying3
 a3:=Tryz.isAgg3
 z3:=Tryz.sizeOf3
 v3:=Tryz.zeroValue3
 t5:=Tryz.underlying5
 a5:=Tryz.isAgg5
 z5:=Tryz.sizeOf5
 v5:=Tryz.zeroValue5
 t9:=Tryz.underlying9
 a9:=Tryz.isAgg9
 z9:=Tryz.sizeOf9
 v9:=Tryz.zeroValue9}
open Go.RowKit in
theorem Tryz.strings_IndexByte (s:ByteArray)(c:Int)(w:World):
  Calls Tryz.prog 78 #[.string s,.int .u8 c] w fun e w'=>e= .returned (.int .i64 (Lib.indexByte s.data.toList c.toNat.toUInt8))∧w'=w:=Any.strings_IndexByte Tryz.lays137 s c w
def Tryz.lays171_ren:Go.Shelf.Ren:=⟨fun|171=>83|243=>107|246=>129|283=>135|284=>136|285=>137|286=>138|129=>141|317=>140|318=>142|319=>143|320=>144|337=>145|338=>146|n=>n,fun|3=>3|9=>9|2=>2|4=>4|171=>177|0=>0|53=>178|37=>174|5=>5|173=>181|212=>187|51=>183|20=>20|213=>188|46=>176|232=>192|233=>193|n=>n,fun|17=>1|18=>2|19=>3|n=>n⟩
theorem Tryz.lays171:Go.Proofs.Lays.n171 Tryz.prog Tryz.lays171_ren:={
 mixed:=by kernel_rfl
 f129:=Tryz.func141.trans (congrArg some (by kernel_rfl))
 f171:=Tryz.func83.trans (congrArg some (by kernel_rfl))
 f243:=Tryz.func107.trans (congrArg some (by kernel_rfl))
 f246:=Tryz.func129.trans (congrArg some (by kernel_rfl))
 f283:=Tryz.func135.trans (congrArg some (by kernel_rfl))
 f284:=Tryz.func136.trans (congrArg some (by kernel_rfl))
 f285:=Tryz.func137.trans (congrArg some (by kernel_rfl))
 f286:=Tryz.func138.trans (congrArg some (by kernel_rfl))
 f317:=Tryz.func140.trans (congrArg some (by kernel_rfl))
 f318:=Tryz.func142.trans (congrArg some (by kernel_rfl))
 f319:=Tryz.func143.trans (congrArg some (by kernel_rfl))
 f320:=Tryz.func144.trans (congrArg some (by kernel_rfl))
 f337:=Tryz.func145.trans (congrArg some (by kernel_rfl))
 f338:=Tryz.func146.trans (congrArg some (by kernel_rfl))
 t0:=Tryz.underlying0
 a0:=Tryz.isAgg0
 z0:=Tryz.sizeOf0
 v0:=Tryz.zeroValue0
 t2:=Tryz.underlying2
 a2:=Tryz.isAgg2
 z2:=Tryz.sizeOf2
 v2:=Tryz.zeroValue2
 t3:=Tryz.underlying3
 a3:=Tryz.isAgg3
 z3:=Tryz.sizeOf3
 v3:=Tryz.zeroValue3
 t4:=Tryz.underlying4
 a4:=Tryz.isAgg4
 z4:=Tryz.sizeOf4
 v4:=Tryz.zeroValue4
 t5:=Tryz.underlying5
 a5:=Tryz.isAgg5
 z5:=Tryz.sizeOf5
 v5:=Tryz.zeroValue5
 t9:=Tryz.underlying9
 a9:=Tryz.isAgg9
 z9:=Tryz.sizeOf9
 v9:=Tryz.zeroValue9
 t20:=Tryz.underlying20
 a20:=Tryz.isAgg20
 z20:=Tryz.sizeOf20
 v20:=Tryz.zeroValue20
 t37:=Tryz.underlying174
 a37:=Tryz.isAgg174
 z37:=Tryz.sizeOf174
 v37:=Tryz.zeroValue174
 t46:=Tryz.underlying176
 a46:=Tryz.isAgg176
 z46:=Tryz.sizeOf176
 v46:=Tryz.zeroValue176
 t51:=Tryz.underlying183
 a51:=Tryz.isAgg183
 z51:=Tryz.sizeOf183
 v51:=Tryz.zeroValue183
 t53:=Tryz.underlying178
 a53:=Tryz.isAgg178
 z53:=Tryz.sizeOf178
 v53:=Tryz.zeroValue178
 t171:=Tryz.underlying177
 a171:=Tryz.isAgg177
 z171:=Tryz.sizeOf177
 v171:=Tryz.zeroValue177
 t173:=Tryz.underlying181
 a173:=Tryz.isAgg181
 z173:=Tryz.sizeOf181
 v173:=Tryz.zeroValue181
 t212:=Tryz.underlying187
 a212:=Tryz.isAgg187
 z212:=Tryz.sizeOf187
 v212:=Tryz.zeroValue187
 t213:=Tryz.underlying188
 a213:=Tryz.isAgg188
 z213:=Tryz.sizeOf188
 t232:=Tryz.underlying192
 a232:=Tryz.isAgg192
 z232:=Tryz.sizeOf192
 v232:=Tryz.zeroValue192
 t233:=Tryz.underlying193
 a233:=Tryz.isAgg193
 z233:=Tryz.sizeOf193
 v233:=Tryz.zeroValue193
 g17:=by kernel_rfl
 g18:=by kernel_rfl
 g19:=by kernel_rfl}
open Go.RowKit Go.Sort Go.Lib in
theorem Tryz.strconv_Itoa_small (i:Nat)(hi:i<100)(w:World):
  Calls Tryz.prog 83 #[.int .i64 i] w fun e w'=>e= .returned (.string ⟨(Lib.decDigits i).toArray⟩)∧w'=w:=Any.strconv_Itoa_small Tryz.lays171 i hi w
def Tryz.lays144_ren:Go.Shelf.Ren:=⟨fun|144=>73|143=>98|219=>126|217=>100|225=>132|224=>133|267=>134|266=>127|314=>139|n=>n,fun|9=>9|4=>4|3=>3|5=>5|46=>176|146=>184|51=>183|n=>n,fun|1=>0|n=>n⟩
theorem Tryz.lays144:Go.Proofs.Lays.n144 Tryz.prog Tryz.lays144_ren:={
 mixed:=by kernel_rfl
 f143:=Tryz.func98.trans (congrArg some (by kernel_rfl))
 f144:=Tryz.func73.trans (congrArg some (by kernel_rfl))
 f217:=Tryz.func100.trans (congrArg some (by kernel_rfl))
 f219:=Tryz.func126.trans (congrArg some (by kernel_rfl))
 f224:=Tryz.func133.trans (congrArg some (by kernel_rfl))
 f225:=Tryz.func132.trans (congrArg some (by kernel_rfl))
 f266:=Tryz.func127.trans (congrArg some (by kernel_rfl))
 f267:=Tryz.func134.trans (congrArg some (by kernel_rfl))
 f314:=Tryz.func139.trans (congrArg some (by kernel_rfl))
 t3:=Tryz.underlying3
 a3:=Tryz.isAgg3
 z3:=Tryz.sizeOf3
 v3:=Tryz.zeroValue3
 t4:=Tryz.underlying4
 a4:=Tryz.isAgg4
 z4:=Tryz.sizeOf4
 v4:=Tryz.zeroValue4
 t5:=Tryz.underlying5
 a5:=Tryz.isAgg5
 z5:=Tryz.sizeOf5
 v5:=Tryz.zeroValue5
 t9:=Tryz.underlying9
 a9:=Tryz.isAgg9
 z9:=Tryz.sizeOf9
 v9:=Tryz.zeroValue9
 t46:=Tryz.underlying176
 a46:=Tryz.isAgg176
 z46:=Tryz.sizeOf176
 v46:=Tryz.zeroValue176
 t51:=Tryz.underlying183
 a51:=Tryz.isAgg183
 z51:=Tryz.sizeOf183
 v51:=Tryz.zeroValue183
 t146:=Tryz.underlying184
 a146:=Tryz.isAgg184
 z146:=Tryz.sizeOf184
 v146:=Tryz.zeroValue184
 g1:=by kernel_rfl}
open Go.RowKit Go.Lib in
theorem Tryz.strings_Contains_one (s:ByteArray)(c:UInt8)(w:World):
  Calls Tryz.prog 73 #[.string s,.string ⟨#[c]⟩] w fun e w'=>e= .returned (.bool (decide (0≤Lib.indexByte s.data.toList c)))∧w'=w:=Any.strings_Contains_one Tryz.lays144 s c w
def Tryz.lays145_ren:Go.Shelf.Ren:=⟨fun|145=>76|220=>99|219=>126|217=>100|225=>132|224=>133|267=>134|266=>127|314=>139|n=>n,fun|9=>9|4=>4|59=>133|3=>3|5=>5|46=>176|146=>184|51=>183|n=>n,fun|1=>0|n=>n⟩
theorem Tryz.lays145:Go.Proofs.Lays.n145 Tryz.prog Tryz.lays145_ren:={
 mixed:=by kernel_rfl
 f145:=Tryz.func76.trans (congrArg some (by kernel_rfl))
 f217:=Tryz.func100.trans (congrArg some (by kernel_rfl))
 f219:=Tryz.func126.trans (congrArg some (by kernel_rfl))
 f220:=Tryz.func99.trans (congrArg some (by kernel_rfl))
 f224:=Tryz.func133.trans (congrArg some (by kernel_rfl))
 f225:=Tryz.func132.trans (congrArg some (by kernel_rfl))
 f266:=Tryz.func127.trans (congrArg some (by kernel_rfl))
 f267:=Tryz.func134.trans (congrArg some (by kernel_rfl))
 f314:=Tryz.func139.trans (congrArg some (by kernel_rfl))
 t3:=Tryz.underlying3
 a3:=Tryz.isAgg3
 z3:=Tryz.sizeOf3
 v3:=Tryz.zeroValue3
 t4:=Tryz.underlying4
 a4:=Tryz.isAgg4
 z4:=Tryz.sizeOf4
 v4:=Tryz.zeroValue4
 t5:=Tryz.underlying5
 a5:=Tryz.isAgg5
 z5:=Tryz.sizeOf5
 v5:=Tryz.zeroValue5
 t9:=Tryz.underlying9
 a9:=Tryz.isAgg9
 z9:=Tryz.sizeOf9
 v9:=Tryz.zeroValue9
 t46:=Tryz.underlying176
 a46:=Tryz.isAgg176
 z46:=Tryz.sizeOf176
 v46:=Tryz.zeroValue176
 t51:=Tryz.underlying183
 a51:=Tryz.isAgg183
 z51:=Tryz.sizeOf183
 v51:=Tryz.zeroValue183
 t59:=Tryz.underlying133
 a59:=Tryz.isAgg133
 z59:=Tryz.sizeOf133
 v59:=Tryz.zeroValue133
 t146:=Tryz.underlying184
 a146:=Tryz.isAgg184
 z146:=Tryz.sizeOf184
 v146:=Tryz.zeroValue184
 g1:=by kernel_rfl}
end Go.Proofs
namespace Go.Proofs.YtchllommcolijaaGreatDoor
open Go.RowKit
def Blk (w:World)(g:Nat)(t:TypeId)(cs:Array Value):Prop:=w.heap[g]?=some (.cells cs t (0,0))
section
variable {w w' : World} {g : Nat} {t : TypeId} {cs : Array Value}
theorem Blk.lt (h:Blk w g t cs):g<w.heap.size:=by
 rcases Nat.lt_or_ge g w.heap.size with hlt|hge
 ·exact hlt
 ·unfold Blk at h;rw[Array.getElem?_eq_none hge] at h;cases h
theorem Blk.cell (h:Blk w g t cs)(i:Nat):w.cell? ⟨g,i,none⟩=cs[i]?:=cell_of_row w g i cs t (0,0) h
theorem Blk.frozen (h:Blk w g t cs)(i:Nat):w.frozen? ⟨g,i,none⟩=false:=by
 unfold Blk at h;simp[World.frozen?,h]
theorem Blk.new (w:World)(t:TypeId)(cs:Array Value):Blk (w.alloc (.cells cs t)) w.heap.size t cs:=heap_alloc_new w _
theorem Blk.drew (h:Blk w g t cs):Blk w.drew g t cs:=h
theorem Blk.drewN (h:Blk w g t cs)(n:Nat):Blk (w.drewN n) g t cs:=h
theorem Blk.alloc (h:Blk w g t cs)(o:Obj):Blk (w.alloc o) g t cs:=(Below.heap_alloc w o g h.lt).trans h
theorem Blk.set_ (h:Blk w g t cs)(i:Nat)(u:Value):Blk (w.setCell ⟨g,i,none⟩ u) g t (cs.setIfInBounds i u):=by
 unfold Blk at h⊢;simp[World.setCell,Array.getElem?_modify,h]
theorem Blk.far (h:Blk w g t cs){p:Addr}(hp:g≠p.block)(u:Value):Blk (w.setCell p u) g t cs:=(Below.heap_setCell w p u g hp).trans h
theorem Blk.below {B:Nat}(h:Blk w g t cs)(hb:Below B w w')(hg:g<B):Blk w' g t cs:=(hb.block g hg).trans h
theorem Blk.grown {row:Option Nat}(h:Blk w g t cs)(hb:w.grownBy w' row)(hg:some g≠row):Blk w' g t cs:=(hb.block g h.lt hg).trans h
end
theorem keep {W w1:World}(hb:Below W.heap.size W w1){g:Nat}{t:TypeId}{cs:Array Value}(h:Blk W g t cs):Blk w1 g t cs:=h.below hb h.lt
theorem zA2 {B:Nat}{a w:World}(h:Below B a w):Below B a w.drew:=⟨h.os,h.tape,h.output,h.size,h.block⟩
theorem below_drewN {B:Nat}{a w:World}(h:Below B a w)(n:Nat):Below B a (w.drewN n):=⟨h.os,h.tape,h.output,h.size,h.block⟩
theorem zA1 (w:World)(o:Obj):Below w.heap.size w (w.alloc o):=(Below.refl _ _).alloc (Nat.le_refl _) o
def zDc (w:World)(g:Nat)(ss:List ByteArray):Prop:=g<w.heap.size∧∀(j:Nat) (s:ByteArray),ss[j]?=some s→w.cell? ⟨g,j,none⟩=some (.string s)
theorem zDc.keep {w w':World}{g:Nat}{ss:List ByteArray}(h:zDc w g ss)(hb:Below w.heap.size w w'):zDc w' g ss:=
 ⟨Nat.lt_of_lt_of_le h.1 hb.size,fun j p hj=>(hb.cell (p:=⟨g,j,none⟩) h.1).trans (h.2 j p hj)⟩
theorem zDc.drew {w:World}{g:Nat}{ss:List ByteArray}(h:zDc w g ss):zDc w.drew g ss:=h
theorem zDc.alloc {w:World}{g:Nat}{ss:List ByteArray}(h:zDc w g ss)(o:Obj):zDc (w.alloc o) g ss:=h.keep (zA1 w o)
theorem zDc.new (w:World)(ss:List ByteArray)(t:TypeId):zDc (w.alloc (.cells (ss.map Value.string).toArray t)) w.heap.size ss:=by
 refine⟨by simp,fun j s hj=>?_⟩;rw[Blk.cell (Blk.new w t _)];simp[hj]
theorem zZc {ss:List ByteArray}{s x:ByteArray}{k:Nat}(hk:ss[k]?=some x)(h:(x.toList==s.toList)=true):inB (ss.map (·.toList)) s.toList=true:=by
 unfold inB;rw[List.contains_iff_mem];rw[←beq_iff_eq.1 h];exact List.mem_map.2 ⟨x,List.mem_of_getElem? hk,rfl⟩
theorem zVl {ss:List ByteArray}{s:ByteArray}(h:∀(j:Nat) x,ss[j]?=some x→(x.toList==s.toList)=false):inB (ss.map (·.toList)) s.toList=false:=by
 unfold inB;rw[Bool.eq_false_iff];intro hc;rw[List.contains_iff_mem,List.mem_map] at hc;obtain⟨x,hx,he⟩:=hc;obtain⟨j,hj⟩:=List.mem_iff_getElem?.1 hx;have:=h j x hj;rw[he] at this;simp at this
set_option maxHeartbeats 400000 in
theorem zNo (g cap:Nat)(ss:List ByteArray)(s:ByteArray)(w:World)(hS:zDc w g ss)(hn:ss.length≤1000000):Calls Tryz.prog 113 #[.slice (some ⟨g,0,none⟩) ss.length cap,.string s] w fun e w'=>e= .returned (.bool (inB (ss.map (·.toList)) s.toList))∧w=w':=by
 have HS:=zh hS;clear hS;go_enter Tryz.func113,Tryz.ntmps113;go_wp2_with fail
 go_loop [5] (fun i=>∃k:Nat,k≤ss.length∧i= .int .i64 k∧Hid (∀(j:Nat) x,ss[j]?=some x→j<k→(x.toList==s.toList)=false)) (fun i=>ss.length -(intOf i).toNat)
 case atStart=>exact⟨0,by omega,rfl,fun j _ _ h=>by omega⟩
 case round=>
  obtain⟨k,hk,rfl,HJ⟩:=hrel
  by_cases hlt:k<ss.length
  ·obtain⟨x,hx⟩:∃x,ss[k]?=some x:=⟨_,gE hlt⟩
   have hc:=HS.out.2 k x hx;cases hq:(x.toList==s.toList)
   ·have HX:=zh hx;have HQ:=zh hq;clear hx;go_wp2_with fail;go_round
    case rel=>exact⟨k+1,by omega,by go_num,fun j y hj h=>by
     rcases Nat.lt_or_ge j k with h'|h'
     ·exact HJ.out j y hj h'
     ·obtain rfl:j=k:=by omega
      rw[HX.out] at hj;obtain rfl:=sj hj;exact HQ.out⟩
    case measure=>simp[intOf];omega
   ·have HR:=zh (zZc hx hq);clear hx;go_wp2_with fail;go_ret;exact⟨zA0 HR.out.symm,rfl⟩
  ·have HR:=zh (zVl (ss:=ss) (s:=s) fun j x hj=>HJ.out j x hj (by
    rcases Nat.lt_or_ge j ss.length with h|h
    ·omega
    ·rw[List.getElem?_eq_none h] at hj;cases hj))
   go_wp2_with fail;go_ret;exact⟨zA0 HR.out.symm,rfl⟩
def kwS:List ByteArray:=[⟨#[102,114,97,99]⟩,⟨#[114,111,111,116]⟩,⟨#[109,97,116,114,105,120]⟩,⟨#[102,101,110,99,101]⟩]
theorem zVz:kwS.map (·.toList)=zB1:=by
 simp only[kwS,List.map_cons,List.map_nil,ByteArray.toList_eq];rfl
set_option maxHeartbeats 400000 in
theorem zLj (w:World):Calls Tryz.prog 114 #[] w fun e w'=>e= .returned (.slice (some ⟨w.heap.size,0,none⟩) 4 4)∧zDc w' w.heap.size kwS∧Below w.heap.size w w':=by
 go_enter Tryz.func114,Tryz.ntmps114;go_wp2_with fail;go_ret;exact⟨rfl,zDc.new w kwS _,zA1 _ _⟩
def acS:List ByteArray:=[⟨#[104,97,116]⟩,⟨#[98,97,114]⟩,⟨#[118,101,99]⟩,⟨#[100,111,116]⟩,⟨#[116,105,108,100,101]⟩,⟨#[99,104,101,99,107]⟩]
theorem zP4:acS.map (·.toList)=zAu:=by
 simp only[acS,List.map_cons,List.map_nil,ByteArray.toList_eq];rfl
set_option maxHeartbeats 400000 in
theorem zHo (w:World):Calls Tryz.prog 115 #[] w fun e w'=>e= .returned (.slice (some ⟨w.heap.size,0,none⟩) 6 6)∧zDc w' w.heap.size acS∧Below w.heap.size w w':=by
 go_enter Tryz.func115,Tryz.ntmps115;go_wp2_with fail;go_ret;exact⟨rfl,zDc.new w acS _,zA1 _ _⟩
theorem zU9 {s:ByteArray}(h:s.size=1):∃c:UInt8,s=⟨#[c]⟩:=Lib.one_byte s h
theorem zJx (c:UInt8):symB (⟨#[c]⟩:ByteArray).toList=(letB c||hasB zEq c):=by rw[ByteArray.toList_eq];rfl
theorem zJj {s:ByteArray}(h:s.size≠1):symB s.toList=(decide (2≤s.size)&&(decide (s.size≤16)&&(zB2 s.toList&&(!inB zB1 s.toList&& !inB zAu s.toList)))):=by
 rw[←zC2 s] at h⊢;unfold symB
 split
 ·rename_i c hc;rw[hc] at h;exact absurd rfl h
 ·rfl
set_option maxHeartbeats 400000 in
theorem zVi (c:UInt8)(w:World):Calls Tryz.prog 87 #[.string ⟨#[c]⟩] w fun e w'=>e= .returned (.bool (symB (⟨#[c]⟩:ByteArray).toList))∧Below w.heap.size w w':=by
 rw[zJx];go_enter Tryz.func87,Tryz.ntmps87;go_wp2_with fail;refine(zSt c _).mono ?_;rintro e w' ⟨rfl,rfl⟩;generalize hb:(letB c||hasB zEq c)=b;have HBQ:=zh hb;clear hb;go_wp2_with fail;go_ret;exact⟨zA0 HBQ.out.symm,Below.refl _ _⟩
set_option maxHeartbeats 800000 in
theorem zT3 (s:ByteArray)(w:World)(hs:s.size≤9223372036854775807)(h1:s.size≠1):Calls Tryz.prog 87 #[.string s] w fun e w'=>e= .returned (.bool (symB s.toList))∧Below w.heap.size w w':=by
 have HM:=zh (zJj h1);have h1':((s.size:Int)==1)=false:=by rw[beq_eq_false_iff_ne];omega
 clear h1;go_enter Tryz.func87,Tryz.ntmps87;go_wp2_with fail
 go_loop [3] (fun i=>∃k:Nat,k≤s.size∧i= .int .i64 k∧Hid (∀(j:Nat) (hj:j<s.size),j<k→letB s[j]=true)) (fun i=>s.size -(intOf i).toNat)
 case atStart=>exact⟨0,by omega,rfl,fun j _ h=>by omega⟩
 case round=>
  obtain⟨k,hk,rfl,HJ⟩:=hrel
  by_cases hlt:k<s.size
  ·go_wp2_with fail;refine(zFz s[k] _).mono ?_;rintro e w' ⟨rfl,rfl⟩;cases hl:letB s[k]
   ·have HF:=zh (zAn hlt hl);clear hl;go_wp2_with fail;go_ret;exact⟨zA0 (by rw[HM.out];unfold zB2;rw[HF.out];simp),Below.refl _ _⟩
   ·have HL:=zh hl;clear hl;go_wp2_with fail;go_round
    case rel=>exact⟨k+1,by omega,by go_num,fun j hj h=>by
     rcases Nat.lt_or_ge j k with h'|h'
     ·exact HJ.out j hj h'
     ·obtain rfl:j=k:=by omega
      exact HL.out⟩
    case measure=>simp[intOf];omega
  ·have HF:=zh (show zB2 s.toList=true from zDq (s:=s) (p:=letB) fun j hj=>HJ.out j hj (by omega))
   by_cases h2:2≤s.size
   ·by_cases h16:s.size≤16
    ·rw[decide_eq_true h2,decide_eq_true h16,HF.out] at HM;go_wp2_with fail;refine(zLj _).mono ?_;rintro e w1 ⟨rfl,hS,hb⟩;have HB:=zh hb;clear hb;go_wp2_with fail;refine(zNo w.heap.size 4 kwS s _ hS (by decide)).mono ?_;rintro e w' ⟨rfl,rfl⟩;clear hS;rw[zVz];cases hk:inB zB1 s.toList
     ·rw[hk] at HM;clear hk;go_wp2_with fail;refine(zHo _).mono ?_;rintro e w2 ⟨rfl,hS,hb⟩;have HB2:=jt HB hb;clear hb;go_wp2_with fail;refine(zNo w1.heap.size 6 acS s _ hS (by decide)).mono ?_;rintro e w' ⟨rfl,rfl⟩;clear hS;rw[zP4];cases ha:inB zAu s.toList
      ·rw[ha] at HM;clear ha;go_wp2_with fail;go_ret;exact⟨zA0 (by rw[HM.out];rfl),HB2.out⟩
      ·rw[ha] at HM;clear ha;go_wp2_with fail;go_ret;exact⟨zA0 (by rw[HM.out];rfl),HB2.out⟩
     ·rw[hk] at HM;clear hk;go_wp2_with fail;go_ret;exact⟨zA0 (by rw[HM.out];rfl),HB.out⟩
    ·rw[decide_eq_false h16,Bool.false_and,Bool.and_false] at HM;go_wp2_with fail;go_ret;exact⟨zA0 (by rw[HM.out]),Below.refl _ _⟩
   ·rw[decide_eq_false h2,Bool.false_and] at HM;go_wp2_with fail;go_ret;exact⟨zA0 (by rw[HM.out]),Below.refl _ _⟩
theorem zFc (s:ByteArray)(w:World)(hs:s.size≤9223372036854775807):Calls Tryz.prog 87 #[.string s] w fun e w'=>e= .returned (.bool (symB s.toList))∧Below w.heap.size w w':=by
 by_cases h:s.size=1
 ·obtain⟨c,rfl⟩:=zU9 h;exact zVi c w
 ·exact zT3 s w hs h
theorem contains_one (c:UInt8):decide (0≤Lib.indexByte zEq c)=hasB zEq c:=by
 have h:∀n:Nat,n<256→decide (0≤Lib.indexByte zEq (UInt8.ofNat n))=hasB zEq (UInt8.ofNat n):=by decide+kernel
 have:=h c.toNat c.toNat_lt
 rwa [UInt8.ofNat_toNat] at this
theorem zJb (c:UInt8):zB2 (⟨#[c]⟩:ByteArray).toList=letB c:=by rw[ByteArray.toList_eq];simp[zB2]
set_option maxHeartbeats 400000 in
theorem zNs (c:UInt8)(w:World):Calls Tryz.prog 40 #[.string ⟨#[c]⟩] w fun e w'=>e= .returned (.bool (symB (⟨#[c]⟩:ByteArray).toList))∧Below w.heap.size w w':=by
 rw[zJx];have HC:=zh (contains_one c);cases hl:letB c
 ·have HL:=zh hl;clear hl;go_enter Tryz.func40,Tryz.ntmps40;go_wp2_with fail;refine(zG9 _ _ (by show 1≤9223372036854775807;omega)).mono ?_;rintro e w' ⟨rfl,rfl⟩;rw[zJb,HL.out];go_wp2_with fail;refine(Tryz.strings_Contains_one _ _ _).mono ?_;rintro e w' ⟨rfl,rfl⟩;rw[show(⟨#[43,45,42,47,61,60,62,44,59,58,33,124,39,63,126,64]⟩:ByteArray).data.toList=zEq from rfl,HC.out];generalize hb:hasB zEq c=b;have HBQ:=zh hb;clear hb;go_wp2_with fail;go_ret;exact⟨zA0 (by rw[HBQ.out,Bool.false_or]),Below.refl _ _⟩
 ·have HL:=zh hl;clear hl;go_enter Tryz.func40,Tryz.ntmps40;go_wp2_with fail;refine(zG9 _ _ (by show 1≤9223372036854775807;omega)).mono ?_;rintro e w' ⟨rfl,rfl⟩;rw[zJb,HL.out];go_wp2_with fail;go_ret;exact⟨zA0 (Bool.true_or _).symm,Below.refl _ _⟩
set_option maxHeartbeats 800000 in
theorem zWv (s:ByteArray)(w:World)(hs:s.size≤9223372036854775807)(h1:s.size≠1):Calls Tryz.prog 40 #[.string s] w fun e w'=>e= .returned (.bool (symB s.toList))∧Below w.heap.size w w':=by
 have HM:=zh (zJj h1);have h1':((s.size:Int)==1)=false:=by rw[beq_eq_false_iff_ne];omega
 clear h1
 by_cases h2:2≤s.size
 ·by_cases h16:s.size≤16
  ·rw[decide_eq_true h2,decide_eq_true h16] at HM;go_enter Tryz.func40,Tryz.ntmps40;go_wp2_with fail;refine(zG9 s _ hs).mono ?_;rintro e w' ⟨rfl,rfl⟩;cases hl:zB2 s.toList
   ·rw[hl] at HM;clear hl;go_wp2_with fail;go_ret;exact⟨zA0 (by rw[HM.out];rfl),Below.refl _ _⟩
   ·rw[hl] at HM;clear hl;go_wp2_with fail;refine(zOn s _).mono ?_;rintro e w' ⟨rfl,rfl⟩;cases hk:inB zB1 s.toList
    ·rw[hk] at HM;clear hk;go_wp2_with fail;refine(zJv s _).mono ?_;rintro e w' ⟨rfl,rfl⟩;cases ha:inB zAu s.toList
     ·rw[ha] at HM;clear ha;go_wp2_with fail;go_ret;exact⟨zA0 (by rw[HM.out];rfl),Below.refl _ _⟩
     ·rw[ha] at HM;clear ha;go_wp2_with fail;go_ret;exact⟨zA0 (by rw[HM.out];rfl),Below.refl _ _⟩
    ·rw[hk] at HM;clear hk;go_wp2_with fail;go_ret;exact⟨zA0 (by rw[HM.out];rfl),Below.refl _ _⟩
  ·rw[decide_eq_false h16,Bool.false_and,Bool.and_false] at HM;go_enter Tryz.func40,Tryz.ntmps40;go_wp2_with fail;go_ret;exact⟨zA0 (by rw[HM.out]),Below.refl _ _⟩
 ·rw[decide_eq_false h2,Bool.false_and] at HM;go_enter Tryz.func40,Tryz.ntmps40;go_wp2_with fail;go_ret;exact⟨zA0 (by rw[HM.out]),Below.refl _ _⟩
theorem zH6 (s:ByteArray)(w:World)(hs:s.size≤9223372036854775807):Calls Tryz.prog 40 #[.string s] w fun e w'=>e= .returned (.bool (symB s.toList))∧Below w.heap.size w w':=by
 by_cases h:s.size=1
 ·obtain⟨c,rfl⟩:=zU9 h;exact zNs c w
 ·exact zWv s w hs h
theorem kp {w w':World}(hb:Below w.heap.size w w'){g:Nat}{t:TypeId}{cs:Array Value}(h:RowKit.Hid (Blk w g t cs)):RowKit.Hid (Blk w' g t cs):=Lib.hid (keep hb h.out)
abbrev Rul.c (r:Rul):Array Value:= #[.int .i64 r.kind,.string r.sym,.string r.nam,.int .i64 r.prec,.int .i64 r.left,.int .i64 r.right]
abbrev Rul.v (r:Rul):Value:=.agg r.c
def Rul.fits (r:Rul):Prop:=r.sym.size≤9223372036854775807∧r.nam.size≤9223372036854775807
def zY1 (r:Rul):Bool:=if r.kind=1 then symB r.sym.toList else if r.kind=2 then symB r.sym.toList&&decide (r.left=0) else if r.kind=3 then symB r.sym.toList&&decide (r.right=0) else decide (r.kind=4)&&r.sym.toList.isEmpty
theorem zUp (r:Rul):ownB r=(zAl r.nam.toList&&(inR r.prec 1 100&&(inR r.left 0 101&&(inR r.right 0 101&&zY1 r)))):=rfl
set_option maxRecDepth 100000 in
set_option maxHeartbeats 800000 in
theorem zG3 (r:Rul)(w:World)(hf:r.fits):Calls Tryz.prog 20 #[r.v] w fun e w'=>e= .returned (.bool (ownB r))∧Below w.heap.size w w':=by
 have HO:=zh (zUp r);have HF:=zh hf;clear hf;go_enter Tryz.func20,Tryz.ntmps20;go_wp2_with fail;refine(zSg r.nam _ HF.out.2).mono ?_;rintro e w' ⟨rfl,rfl⟩;cases h1:zAl r.nam.toList
 ·rw[h1,Bool.false_and] at HO;clear h1;go_wp2_with fail;go_ret;exact⟨zA0 HO.out.symm,zA1 _ _⟩
 ·rw[h1] at HO;clear h1;go_wp2_with fail;refine(zHf r.prec 1 100 _).mono ?_;rintro e w' ⟨rfl,rfl⟩;cases h2:inR r.prec 1 100
  ·rw[h2,Bool.false_and,Bool.and_false] at HO;clear h2;go_wp2_with fail;go_ret;exact⟨zA0 HO.out.symm,zA1 _ _⟩
  ·rw[h2] at HO;clear h2;go_wp2_with fail;refine(zHf r.left 0 101 _).mono ?_;rintro e w' ⟨rfl,rfl⟩;cases h3:inR r.left 0 101
   ·rw[h3,Bool.false_and,Bool.and_false,Bool.and_false] at HO;clear h3;go_wp2_with fail;go_ret;exact⟨zA0 HO.out.symm,zA1 _ _⟩
   ·rw[h3] at HO;clear h3;go_wp2_with fail;refine(zHf r.right 0 101 _).mono ?_;rintro e w' ⟨rfl,rfl⟩;cases h4:inR r.right 0 101
    ·rw[h4,Bool.false_and,Bool.and_false,Bool.and_false,Bool.and_false] at HO;clear h4;go_wp2_with fail;go_ret;exact⟨zA0 HO.out.symm,zA1 _ _⟩
    ·rw[h4] at HO;clear h4;rw[Bool.true_and,Bool.true_and,Bool.true_and,Bool.true_and] at HO;unfold zY1 at HO
     by_cases k1:r.kind=1
     ·rw[if_pos k1] at HO;have q1:(r.kind==1)=true:=by rw[k1];rfl
      clear k1;go_wp2_with fail;refine(zH6 r.sym _ HF.out.1).mono ?_;rintro e w1 ⟨rfl,hb⟩;have K0:=zh (keep hb (Blk.new w 42 r.c));have H0:=zh ((zA1 w _).trans (hb.mono (by simp)));have c0:=fun i=>K0.out.cell i
      have l0:=K0.out.lt;clear hb;generalize symB r.sym.toList=b at HO⊢;go_wp2_with fail;go_ret;exact⟨zA0 HO.out.symm,H0.out⟩
     ·rw[if_neg k1] at HO;have q1:(r.kind==1)=false:=by rw[beq_eq_false_iff_ne];exact k1
      by_cases k2:r.kind=2
      ·rw[if_pos k2] at HO;have q2:(r.kind==2)=true:=by rw[k2];rfl
       clear k1 k2;go_wp2_with fail;refine(zH6 r.sym _ HF.out.1).mono ?_;rintro e w1 ⟨rfl,hb⟩;have K0:=zh (keep hb (Blk.new w 42 r.c));have H0:=zh ((zA1 w _).trans (hb.mono (by simp)));have c0:=fun i=>K0.out.cell i
       have l0:=K0.out.lt;clear hb;cases hy:symB r.sym.toList
       ·rw[hy,Bool.false_and] at HO;clear hy;go_wp2_with fail;go_ret;exact⟨zA0 HO.out.symm,H0.out⟩
       ·rw[hy,Bool.true_and] at HO;clear hy
        by_cases hz:r.left=0
        ·rw[decide_eq_true hz] at HO;have qz:(r.left==0)=true:=by rw[hz];rfl
         clear hz;go_wp2_with fail;go_ret;exact⟨zA0 HO.out.symm,H0.out⟩
        ·rw[decide_eq_false hz] at HO;have qz:(r.left==0)=false:=by rw[beq_eq_false_iff_ne];exact hz
         clear hz;go_wp2_with fail;go_ret;exact⟨zA0 HO.out.symm,H0.out⟩
      ·rw[if_neg k2] at HO;have q2:(r.kind==2)=false:=by rw[beq_eq_false_iff_ne];exact k2
       by_cases k3:r.kind=3
       ·rw[if_pos k3] at HO;have q3:(r.kind==3)=true:=by rw[k3];rfl
        clear k1 k2 k3;go_wp2_with fail;refine(zH6 r.sym _ HF.out.1).mono ?_;rintro e w1 ⟨rfl,hb⟩;have K0:=zh (keep hb (Blk.new w 42 r.c));have H0:=zh ((zA1 w _).trans (hb.mono (by simp)));have c0:=fun i=>K0.out.cell i
        have l0:=K0.out.lt;clear hb;cases hy:symB r.sym.toList
        ·rw[hy,Bool.false_and] at HO;clear hy;go_wp2_with fail;go_ret;exact⟨zA0 HO.out.symm,H0.out⟩
        ·rw[hy,Bool.true_and] at HO;clear hy
         by_cases hz:r.right=0
         ·rw[decide_eq_true hz] at HO;have qz:(r.right==0)=true:=by rw[hz];rfl
          clear hz;go_wp2_with fail;go_ret;exact⟨zA0 HO.out.symm,H0.out⟩
         ·rw[decide_eq_false hz] at HO;have qz:(r.right==0)=false:=by rw[beq_eq_false_iff_ne];exact hz
          clear hz;go_wp2_with fail;go_ret;exact⟨zA0 HO.out.symm,H0.out⟩
       ·rw[if_neg k3] at HO;have q3:(r.kind==3)=false:=by rw[beq_eq_false_iff_ne];exact k3
        by_cases k4:r.kind=4
        ·rw[decide_eq_true k4,Bool.true_and] at HO;have q4:(r.kind==4)=true:=by rw[k4];rfl
         clear k1 k2 k3 k4;go_wp2_with fail;go_ret;exact⟨zA0 (by first|exact HO.out.symm|(rw[HO.out])),zA1 _ _⟩
        ·rw[decide_eq_false k4,Bool.false_and] at HO;have q4:(r.kind==4)=false:=by rw[beq_eq_false_iff_ne];exact k4
         clear k1 k2 k3 k4;go_wp2_with fail;go_ret;exact⟨zA0 HO.out.symm,zA1 _ _⟩
set_option maxRecDepth 100000 in
set_option maxHeartbeats 800000 in
theorem zXh (r:Rul)(w:World)(hf:r.fits):Calls Tryz.prog 60 #[r.v] w fun e w'=>e= .returned (.bool (ownB r))∧Below w.heap.size w w':=by
 have HO:=zh (zUp r);have HF:=zh hf;clear hf;go_enter Tryz.func60,Tryz.ntmps60;go_wp2_with fail;refine(zHb r.nam _ HF.out.2).mono ?_;rintro e w' ⟨rfl,rfl⟩;cases h1:zAl r.nam.toList
 ·rw[h1,Bool.false_and] at HO;clear h1;go_wp2_with fail;go_ret;exact⟨zA0 HO.out.symm,zA1 _ _⟩
 ·rw[h1] at HO;clear h1;go_wp2_with fail;refine(zG6 r.prec 1 100 _).mono ?_;rintro e w' ⟨rfl,rfl⟩;cases h2:inR r.prec 1 100
  ·rw[h2,Bool.false_and,Bool.and_false] at HO;clear h2;go_wp2_with fail;go_ret;exact⟨zA0 HO.out.symm,zA1 _ _⟩
  ·rw[h2] at HO;clear h2;go_wp2_with fail;refine(zG6 r.left 0 101 _).mono ?_;rintro e w' ⟨rfl,rfl⟩;cases h3:inR r.left 0 101
   ·rw[h3,Bool.false_and,Bool.and_false,Bool.and_false] at HO;clear h3;go_wp2_with fail;go_ret;exact⟨zA0 HO.out.symm,zA1 _ _⟩
   ·rw[h3] at HO;clear h3;go_wp2_with fail;refine(zG6 r.right 0 101 _).mono ?_;rintro e w' ⟨rfl,rfl⟩;cases h4:inR r.right 0 101
    ·rw[h4,Bool.false_and,Bool.and_false,Bool.and_false,Bool.and_false] at HO;clear h4;go_wp2_with fail;go_ret;exact⟨zA0 HO.out.symm,zA1 _ _⟩
    ·rw[h4] at HO;clear h4;rw[Bool.true_and,Bool.true_and,Bool.true_and,Bool.true_and] at HO;unfold zY1 at HO
     by_cases k1:r.kind=1
     ·rw[if_pos k1] at HO;have q1:(r.kind==1)=true:=by rw[k1];rfl
      clear k1;go_wp2_with fail;refine(zFc r.sym _ HF.out.1).mono ?_;rintro e w1 ⟨rfl,hb⟩;have K0:=zh (keep hb (Blk.new w 42 r.c));have H0:=zh ((zA1 w _).trans (hb.mono (by simp)));have c0:=fun i=>K0.out.cell i
      have l0:=K0.out.lt;clear hb;generalize symB r.sym.toList=b at HO⊢;go_wp2_with fail;go_ret;exact⟨zA0 HO.out.symm,H0.out⟩
     ·rw[if_neg k1] at HO;have q1:(r.kind==1)=false:=by rw[beq_eq_false_iff_ne];exact k1
      by_cases k2:r.kind=2
      ·rw[if_pos k2] at HO;have q2:(r.kind==2)=true:=by rw[k2];rfl
       clear k1 k2;go_wp2_with fail;refine(zFc r.sym _ HF.out.1).mono ?_;rintro e w1 ⟨rfl,hb⟩;have K0:=zh (keep hb (Blk.new w 42 r.c));have H0:=zh ((zA1 w _).trans (hb.mono (by simp)));have c0:=fun i=>K0.out.cell i
       have l0:=K0.out.lt;clear hb;cases hy:symB r.sym.toList
       ·rw[hy,Bool.false_and] at HO;clear hy;go_wp2_with fail;go_ret;exact⟨zA0 HO.out.symm,H0.out⟩
       ·rw[hy,Bool.true_and] at HO;clear hy
        by_cases hz:r.left=0
        ·rw[decide_eq_true hz] at HO;have qz:(r.left==0)=true:=by rw[hz];rfl
         clear hz;go_wp2_with fail;go_ret;exact⟨zA0 HO.out.symm,H0.out⟩
        ·rw[decide_eq_false hz] at HO;have qz:(r.left==0)=false:=by rw[beq_eq_false_iff_ne];exact hz
         clear hz;go_wp2_with fail;go_ret;exact⟨zA0 HO.out.symm,H0.out⟩
      ·rw[if_neg k2] at HO;have q2:(r.kind==2)=false:=by rw[beq_eq_false_iff_ne];exact k2
       by_cases k3:r.kind=3
       ·rw[if_pos k3] at HO;have q3:(r.kind==3)=true:=by rw[k3];rfl
        clear k1 k2 k3;go_wp2_with fail;refine(zFc r.sym _ HF.out.1).mono ?_;rintro e w1 ⟨rfl,hb⟩;have K0:=zh (keep hb (Blk.new w 42 r.c));have H0:=zh ((zA1 w _).trans (hb.mono (by simp)));have c0:=fun i=>K0.out.cell i
        have l0:=K0.out.lt;clear hb;cases hy:symB r.sym.toList
        ·rw[hy,Bool.false_and] at HO;clear hy;go_wp2_with fail;go_ret;exact⟨zA0 HO.out.symm,H0.out⟩
        ·rw[hy,Bool.true_and] at HO;clear hy
         by_cases hz:r.right=0
         ·rw[decide_eq_true hz] at HO;have qz:(r.right==0)=true:=by rw[hz];rfl
          clear hz;go_wp2_with fail;go_ret;exact⟨zA0 HO.out.symm,H0.out⟩
         ·rw[decide_eq_false hz] at HO;have qz:(r.right==0)=false:=by rw[beq_eq_false_iff_ne];exact hz
          clear hz;go_wp2_with fail;go_ret;exact⟨zA0 HO.out.symm,H0.out⟩
       ·rw[if_neg k3] at HO;have q3:(r.kind==3)=false:=by rw[beq_eq_false_iff_ne];exact k3
        by_cases k4:r.kind=4
        ·rw[decide_eq_true k4,Bool.true_and] at HO;have q4:(r.kind==4)=true:=by rw[k4];rfl
         clear k1 k2 k3 k4;go_wp2_with fail;go_ret;exact⟨zA0 (by first|exact HO.out.symm|(rw[HO.out])),zA1 _ _⟩
        ·rw[decide_eq_false k4,Bool.false_and] at HO;have q4:(r.kind==4)=false:=by rw[beq_eq_false_iff_ne];exact k4
         clear k1 k2 k3 k4;go_wp2_with fail;go_ret;exact⟨zA0 HO.out.symm,zA1 _ _⟩
set_option maxHeartbeats 800000 in
theorem zK9 (o r:Rul)(w:World):Calls Tryz.prog 61 #[o.v,r.v] w fun e w'=>e= .returned (.bool (zB7 o r))∧Below w.heap.size w w':=by
 cases h1:(o.kind==r.kind)
 ·have HC:=zh (show zB7 o r=false by unfold zB7;rw[decide_eq_false (by rw[beq_eq_false_iff_ne] at h1;exact h1)];rfl);go_enter Tryz.func61,Tryz.ntmps61;go_wp2_with fail;go_ret;exact⟨zA0 HC.out.symm,(zA1 w _).trans ((zA1 _ _).mono (by simp))⟩
 ·have hk:decide (o.kind=r.kind)=true:=decide_eq_true (beq_iff_eq.1 h1);cases h2:(o.sym.toList==r.sym.toList)
  ·have HC:=zh (show zB7 o r=(o.nam.toList==r.nam.toList) by unfold zB7;rw[hk,h2];rfl);clear hk;go_enter Tryz.func61,Tryz.ntmps61;go_wp2_with fail;go_ret;exact⟨zA0 HC.out.symm,(zA1 w _).trans ((zA1 _ _).mono (by simp))⟩
  ·have HC:=zh (show zB7 o r=true by unfold zB7;rw[hk,h2];rfl);clear hk;go_enter Tryz.func61,Tryz.ntmps61;go_wp2_with fail;go_ret;exact⟨zA0 HC.out.symm,(zA1 w _).trans ((zA1 _ _).mono (by simp))⟩
set_option maxHeartbeats 800000 in
theorem zV5 (o r:Rul)(g:Nat)(w:World)(hK:Blk w g 42 r.c):Calls Tryz.prog 42 #[o.v,.pointer (some ⟨g,0,none⟩)] w fun e w'=>e= .returned (.bool (zB7 o r))∧Below w.heap.size w w':=by
 cases h1:(o.kind==r.kind)
 ·have HC:=zh (show zB7 o r=false by unfold zB7;rw[decide_eq_false (by rw[beq_eq_false_iff_ne] at h1;exact h1)];rfl);have c0:=fun i=>hK.cell i
  have l0:=hK.lt;go_enter Tryz.func42,Tryz.ntmps42;go_wp2_with fail;go_ret;exact⟨zA0 HC.out.symm,zA1 _ _⟩
 ·have hk:decide (o.kind=r.kind)=true:=decide_eq_true (beq_iff_eq.1 h1);cases h2:(o.sym.toList==r.sym.toList)
  ·have HC:=zh (show zB7 o r=(o.nam.toList==r.nam.toList) by unfold zB7;rw[hk,h2];rfl);clear hk;have c0:=fun i=>hK.cell i
   have l0:=hK.lt;go_enter Tryz.func42,Tryz.ntmps42;go_wp2_with fail;go_ret;exact⟨zA0 HC.out.symm,zA1 _ _⟩
  ·have HC:=zh (show zB7 o r=true by unfold zB7;rw[hk,h2];rfl);clear hk;have c0:=fun i=>hK.cell i
   have l0:=hK.lt;go_enter Tryz.func42,Tryz.ntmps42;go_wp2_with fail;go_ret;exact⟨zA0 HC.out.symm,zA1 _ _⟩
end Go.Proofs.YtchllommcolijaaGreatDoor
namespace Go.Proofs.YtchllommcolijaaGreatDoor
def Gives (P:Program)(s:Sem Next)(w:World)(R:Value→World→Prop):Prop:=
 match s.run P w with
 | .ok (.value v) w'=>R v w'
 | .ok .skip w'=>R undef w'
 | .ok (.enter f args) w'=>Calls P f args w' fun e w''=>∃v,e= .returned v∧R v w''
 |_=>False
theorem Gives.wp {P:Program}{o:Oper}{a:Act}{w:World}{R:Value→World→Prop}{K:Act→World→Prop}{Q:Exit→Act→World→Prop}(h:Gives P (execOp a.eval o) w R)(hK:∀v w',R v w'→K (a.put o.dst v) w'):o.wp P a w K Q:=by
 unfold Oper.wp;unfold Gives at h;generalize (execOp a.eval o).run P w=x at h;cases x with
 |halt e w'=>exact h.elim
 |ok n w'=>
  cases n with
  |value v=>exact hK _ _ h
  |skip=>exact hK _ _ h
  |enter f args=>
   refine Calls.mono h fun e w'' he=>?_
   obtain⟨v,rfl,hr⟩:=he;exact hK _ _ hr
  |_=>exact h.elim
theorem Gives.value {P:Program}{s:Sem Next}{w w':World}{v:Value}{R:Value→World→Prop}(h:s.run P w= .ok (.value v) w')(hR:R v w'):Gives P s w R:=by unfold Gives;rw[h];exact hR
theorem Gives.skip {P:Program}{s:Sem Next}{w w':World}{R:Value→World→Prop}(h:s.run P w= .ok .skip w')(hR:R undef w'):Gives P s w R:=by unfold Gives;rw[h];exact hR
theorem Gives.call {P:Program}{s:Sem Next}{w w':World}{f:FuncId}{args:Array Value}{R:Value→World→Prop}(h:s.run P w= .ok (.enter f args) w')(hR:Calls P f args w' fun e w''=>∃v,e= .returned v∧R v w''):Gives P s w R:=by unfold Gives;rw[h];exact hR
section
variable {P : Program} {ops : Array Oper} {Q : Exit → Act → World → Prop}
def zA7 (ops:Array Oper)(i:Nat):Option Tmp:=(ops[i]?).bind (·.dst)
def zAi (ops:Array Oper)(vals:Nat→Value)(a:Act)(l:List Nat):Act:=l.foldl (fun a i=>a.put (zA7 ops i) (vals i)) a
def fin (ops:Array Oper)(vals:Nat→Value)(a:Act):Act:=zAi ops vals a (List.range ops.size)
def zEy (ops:Array Oper):Bool:=(List.range ops.size).all fun i=>(List.range ops.size).all fun j=>i==j||zA7 ops i !=zA7 ops j||(zA7 ops i).isNone
def bound (o:Oper)(j:Nat):Bool:=o.after.any fun e=>e.on==j&&Region.binds .any e
def zDy (ops:Array Oper)(o:Oper):Bool:=
 (o.op.operands.all fun| .tmp t=>(List.range ops.size).all fun j=>zA7 ops j !=some t||bound o j |_=>true)&&
 (match o.guard with|none=>true|some (g,_)=>bound o g)
def zHn (ops:Array Oper):Bool:=Region.noSelect ops&&zEy ops&&(ops.all (zDy ops))&&(List.range ops.size).all fun i=>match ops[i]? with
 |some o=>o.after.all fun e=> !Region.binds .any e||decide (e.on<i)
 |none=>true
theorem zDr (a:Act)(d:Option Tmp)(v:Value)(t:Nat):(a.put d v).tmps[t]?=if d=some t∧t<a.tmps.size then some v else a.tmps[t]?:=by
 cases d with
 |none=>simp[Act.put]
 |some d=>
  simp only[Act.put,Array.getElem?_setIfInBounds,Option.some.injEq]
  by_cases h:d=t
  ·subst h
   by_cases h2:d<a.tmps.size
   ·simp[h2]
   ·simp[h2]
  ·simp[h]
theorem zFe (a:Act)(d:Option Tmp)(v:Value):(a.put d v).tmps.size=a.tmps.size:=by cases d<;>simp[Act.put]
theorem put_defers (a:Act)(d:Option Tmp)(v:Value):(a.put d v).defers=a.defers:=by cases d<;>simp[Act.put]
theorem zBa (vals:Nat→Value):∀(l:List Nat) (a:Act),(zAi ops vals a l).tmps.size=a.tmps.size∧(zAi ops vals a l).defers=a.defers
 |[],a=>⟨rfl,rfl⟩
 |i::l,a=>by
  obtain⟨h1,h2⟩:=zBa vals l (a.put (zA7 ops i) (vals i));exact⟨h1.trans (zFe _ _ _),h2.trans (put_defers _ _ _)⟩
theorem zC4 (vals:Nat→Value)(t:Nat):∀(l:List Nat) (a:Act),(∀i∈l,zA7 ops i≠some t)→(zAi ops vals a l).tmps[t]?=a.tmps[t]?
 |[],_,_=>rfl
 |i::l,a,h=>by
  have:=zC4 vals t l (a.put (zA7 ops i) (vals i)) (fun j hj=>h j (List.mem_cons_of_mem _ hj));rw[show zAi ops vals a (i::l)=zAi ops vals (a.put (zA7 ops i) (vals i)) l from rfl,this,zDr,if_neg (fun hc=>h i List.mem_cons_self hc.1)]
theorem zL5 (vals:Nat→Value)(hd:zEy ops=true)(t i:Nat)(hi:zA7 ops i=some t):∀(l:List Nat) (a:Act),i∈l→(∀j∈l,j<ops.size)→t<a.tmps.size→(zAi ops vals a l).tmps[t]?=some (vals i)
 |[],_,h,_,_=>by cases h
 |j::l,a,h,hl,ht=>by
  rw[show zAi ops vals a (j::l)=zAi ops vals (a.put (zA7 ops j) (vals j)) l from rfl]
  by_cases hm:i∈l
  ·exact zL5 vals hd t i hi l _ hm (fun k hk=>hl k (List.mem_cons_of_mem _ hk)) (by rw[zFe];exact ht)
  ·obtain rfl:i=j:=by simpa [hm] using h
   rw[zC4 vals t l _ ?_,zDr,if_pos ⟨hi,ht⟩];intro k hk hkt;have h1:=List.all_eq_true.1 hd i (List.mem_range.2 (hl i List.mem_cons_self));have h2:=List.all_eq_true.1 h1 k (List.mem_range.2 (hl k (List.mem_cons_of_mem _ hk)));rw[hi,hkt] at h2;simp at h2;subst h2;exact hm hk
theorem zBe {i t:Nat}(h:zA7 ops i=some t):i<ops.size:=by
 rcases Nat.lt_or_ge i ops.size with h'|h'
 ·exact h'
 ·unfold zA7 at h;rw[Array.getElem?_eq_none h'] at h;cases h
structure zDs (ops:Array Oper)(vals:Nat→Value)(a0:Act)(L:Nat→Bool)(a:Act):Prop where
 size:a.tmps.size=a0.tmps.size
 defers:a.defers=a0.defers
 done:∀i t,zA7 ops i=some t→L i=true→a.tmps[t]?=(fin ops vals a0).tmps[t]?
 rest:∀t,(∀i,L i=true→zA7 ops i≠some t)→a.tmps[t]?=a0.tmps[t]?
theorem fin_at {vals:Nat→Value}{a0:Act}(hd:zEy ops=true){i t:Nat}(h:zA7 ops i=some t)(ht:t<a0.tmps.size):(fin ops vals a0).tmps[t]?=some (vals i):=
 zL5 vals hd t i h _ a0 (List.mem_range.2 (zBe h)) (fun _ hj=>List.mem_range.1 hj) ht
theorem zDs.put {vals:Nat→Value}{a0:Act}{L:Nat→Bool}{a:Act}(hd:zEy ops=true)(h:zDs ops vals a0 L a)(i:Nat)(hi:i<ops.size)(hL:L i=false):zDs ops vals a0 (fun j=>L j||j==i) (a.put (zA7 ops i) (vals i)):=by
 obtain⟨h1,h2,h3,h4⟩:=h;refine⟨(zFe _ _ _).trans h1,(put_defers _ _ _).trans h2,fun j t hj hjL=>?_,fun t ht=>?_⟩
 ·rw[zDr]
  by_cases hc:zA7 ops i=some t∧t<a.tmps.size
  ·rw[if_pos hc,fin_at hd hc.1 (by have:=hc.2;rwa [h1] at this)]
  ·rw[if_neg hc]
   by_cases hij:j=i
   ·subst hij;have hlt:¬t<a.tmps.size:=fun hl=>hc ⟨hj,hl⟩
    rw[Array.getElem?_eq_none (Nat.le_of_not_lt hlt)];exact(Array.getElem?_eq_none (show(zAi ops vals a0 (List.range ops.size)).tmps.size≤t by rw[(zBa vals _ a0).1,←h1];exact Nat.le_of_not_lt hlt)).symm
   ·exact h3 j t hj (by simpa [hij] using hjL)
 ·rw[zDr,if_neg (fun hc=>ht i (by simp) hc.1)];exact h4 t fun j hj=>ht j (by simp[hj])
theorem zDs.end {vals:Nat→Value}{a0:Act}{L:Nat→Bool}{a:Act}(h:zDs ops vals a0 L a)(hall:∀i,i<ops.size→L i=true):a=fin ops vals a0:=by
 obtain⟨h1,h2,h3,h4⟩:=h;have ht:a.tmps=(fin ops vals a0).tmps:=by
  refine Array.ext_getElem? fun t=>?_
  by_cases hc:∃i,zA7 ops i=some t
  ·obtain⟨i,hi⟩:=hc;exact h3 i t hi (hall i (zBe hi))
  ·rw[h4 t fun i _ hi=>hc ⟨i,hi⟩];exact(zC4 vals t _ a0 fun i _ hi=>hc ⟨i,hi⟩).symm
 cases a with
 |mk tm de=>
  have e2:de=(fin ops vals a0).defers:=h2.trans (zBa vals _ a0).2.symm;cases hf:fin ops vals a0 with
  |mk tm' de'=>rw[hf] at ht e2;simp only at ht e2;rw[ht,e2]
theorem zCy {o:Oper}{j:Nat}{L:Nat→Bool}(hb:bound o j=true)(hL:∀e∈o.after,Region.binds .any e=true→L e.on=true):L j=true:=by
 unfold bound at hb;obtain⟨e,he,h⟩:=Array.any_eq_true'.1 hb;simp only[Bool.and_eq_true,beq_iff_eq] at h;rw[←h.1];exact hL e he h.2
theorem zDs.eval {vals:Nat→Value}{a0:Act}{L:Nat→Bool}{a:Act}(h:zDs ops vals a0 L a){o:Oper}(ho:zDy ops o=true)(hL:∀e∈o.after,Region.binds .any e=true→L e.on=true):
  (∀x∈o.op.operands,a.eval x=(fin ops vals a0).eval x)∧Region.wanted o (yielded ops a.tmps)=Region.wanted o (yielded ops (fin ops vals a0).tmps):=by
 unfold zDy at ho;rw[Bool.and_eq_true] at ho;obtain⟨h1,h2⟩:=ho;refine⟨fun x hx=>?_,?_⟩
 ·cases x with
  |tmp t=>
   have hx':=Array.all_eq_true'.1 h1 _ hx;have e:a.tmps[t]?=(fin ops vals a0).tmps[t]?:=by
    by_cases hc:∃i,zA7 ops i=some t
    ·obtain⟨i,hi⟩:=hc;have:=List.all_eq_true.1 hx' i (List.mem_range.2 (zBe hi));rw[hi] at this;exact h.done i t hi (zCy (by simpa using this) hL)
    ·rw[h.rest t fun i _ hi=>hc ⟨i,hi⟩];exact(zC4 vals t _ a0 fun i _ hi=>hc ⟨i,hi⟩).symm
   simp only[Act.eval,Array.getD_eq_getD_getElem?,e]
  |_=>rfl
 ·unfold Region.wanted;cases hg:o.guard with
  |none=>rfl
  |some gw=>
   obtain⟨g,want⟩:=gw;rw[hg] at h2;have hLg:=zCy h2 hL;have:yielded ops a.tmps g=yielded ops (fin ops vals a0).tmps g:=by
    unfold yielded;cases hd:(ops[g]?).bind (·.dst) with
    |none=>rfl
    |some t=>simp only[Option.bind_some,h.done g t hd hLg]
   simp only[this]
theorem zE8:∀(l:List Bool) (i:Nat),l[i]?=some false→l.countP (·==false)=(l.set i true).countP (·==false)+1
 |[],i,h=>by simp at h
 |b::l,0,h=>by
  obtain rfl:b=false:=by simpa using h
  simp
 |b::l,i+1,h=>by
  have ih:=zE8 l i (by simpa using h);simp only[List.set_cons_succ,List.countP_cons];omega
theorem zKp {vals:Nat→Value}{a0:Act}{Inv:(Nat→Bool)→World→Prop}(hok:zHn ops=true)
  (hstep:∀(i:Nat) (o:Oper) (L:Nat→Bool) (w:World),ops[i]?=some o→L i=false→(∀e∈o.after,Region.binds .any e=true→L e.on=true)→Inv L w→
   if Region.wanted o (yielded ops (fin ops vals a0).tmps)=true then Gives P (execOp (fin ops vals a0).eval o) w (fun v w'=>v=vals i∧Inv (fun j=>L j||j==i) w') else vals i=undef∧Inv (fun j=>L j||j==i) w)
  (hend:∀(L:Nat→Bool) (w:World),(∀i,i<ops.size→L i=true)→Inv L w→Q .normal (fin ops vals a0) w):
  ∀(fuel:Nat) (listed:Array Bool) (a:Act) (w:World),listed.size=ops.size→(listed.toList.countP (·==false))≤fuel→zDs ops vals a0 (fun j=>listed.getD j false) a→Inv (fun j=>listed.getD j false) w→wpAny P .any ops Q fuel listed a w:=by
 simp only[zHn,Bool.and_eq_true] at hok;obtain⟨⟨⟨hsel,hd⟩,hall⟩,hedge⟩:=hok;have fini:∀(listed:Array Bool) (a:Act) (w:World),listed.size=ops.size→zDs ops vals a0 (fun j=>listed.getD j false) a→Inv (fun j=>listed.getD j false) w→Region.ready .any ops listed=[]→Q .normal a w:=by
  intro listed a w hs ho hI hr;have hL:∀i,i<ops.size→listed.getD i false=true:=by
   intro i
   induction i using Nat.strongRecOn with
   |_ i ih=>
    intro hi;refine Classical.byContradiction fun hn=>?_
    have hm:i∈Region.ready .any ops listed:=by
     rw[mem_ready];refine⟨?_,ops[i],Array.getElem?_eq_getElem hi,fun e he hb=>?_⟩
     ·have hil:i<listed.size:=by omega
      simp only[Array.getD_eq_getD_getElem?,Array.getElem?_eq_getElem hil,Option.getD_some] at hn⊢
      simpa using hn
     ·have h1:=List.all_eq_true.1 hedge i (List.mem_range.2 hi);rw[Array.getElem?_eq_getElem hi] at h1;have h2:=Array.all_eq_true'.1 h1 e he;rw[hb] at h2;have h3:e.on<i:=by simpa using h2
      exact ih e.on h3 (by omega)
    rw[hr] at hm;cases hm
  rw[ho.end hL];exact hend _ w hL hI
 intro fuel
 induction fuel with
 |zero=>
  intro listed a w hs hc ho hI;have hr:Region.ready .any ops listed=[]:=by
   rw[List.eq_nil_iff_forall_not_mem];intro j hj;rw[mem_ready] at hj;obtain⟨h0,o,hoj,_⟩:=hj;have hjl:j<listed.size:=by rw[hs];exact(Array.getElem?_eq_some_iff.1 hoj).1
   have hf:listed[j]=false:=by simpa [Array.getD_eq_getD_getElem?,Array.getElem?_eq_getElem hjl] using h0
   have:0<listed.toList.countP (·==false):=List.countP_pos_iff.2 ⟨false,by rw[←hf];simp,rfl⟩;omega
  exact⟨hr,fini listed a w hs ho hI hr⟩
 |succ fuel ih=>
  intro listed a w hs hc ho hI;refine⟨fini listed a w hs ho hI,fun i hi=>?_⟩;rw[mem_ready] at hi;obtain⟨h0,o,hoi,hb⟩:=hi;have hil:i<ops.size:=(Array.getElem?_eq_some_iff.1 hoi).1;have hil':i<listed.size:=by omega
  have hf:listed[i]=false:=by simpa [Array.getD_eq_getD_getElem?,Array.getElem?_eq_getElem hil'] using h0
  have hLi:listed.getD i false=false:=by simp[Array.getD_eq_getD_getElem?,Array.getElem?_eq_getElem hil',hf]
  have hL':(fun j=>(listed.setIfInBounds i true).getD j false)=fun j=>listed.getD j false||j==i:=by
   funext j
   by_cases hij:j=i
   ·subst hij;simp[Array.getD_eq_getD_getElem?,hil']
   ·rw[getD_set_ne false (Ne.symm hij)];simp[hij]
  have hcount:(listed.setIfInBounds i true).toList.countP (·==false)≤fuel:=by
   rw[Array.toList_setIfInBounds];have hl:i<listed.toList.length:=by simpa using hil'
   have hs1:listed.toList.countP (·==false)=(listed.toList.set i true).countP (·==false)+1:=by
    exact zE8 _ _ (by rw[List.getElem?_eq_getElem hl];simpa using hf)
   omega
  have hoOk:zDy ops o=true:=by
   obtain⟨_,hx⟩:=Array.getElem?_eq_some_iff.1 hoi;exact Array.all_eq_true'.1 hall o (by rw[←hx];exact Array.getElem_mem _)
  obtain⟨hev,hwant⟩:=ho.eval hoOk hb;have hexec:execOp a.eval o=execOp (fin ops vals a0).eval o:=execOp_congr o (fun cs b=>Region.noSelect_spec hsel i o cs b hoi) hev;have hst:=hstep i o _ w hoi hLi hb hI;have hdst:o.dst=zA7 ops i:=by unfold zA7;rw[hoi];rfl
  have next:∀w',Inv (fun j=>listed.getD j false||j==i) w'→wpAny P .any ops Q fuel (listed.setIfInBounds i true) (a.put o.dst (vals i)) w':=by
   intro w' hI';refine ih _ _ w' (by simpa using hs) hcount ?_ (by rw[hL'];exact hI');rw[hL',hdst];exact ho.put hd i hil hLi
  unfold wpOp;simp only[hoi];rw[hwant]
  by_cases hw:Region.wanted o (yielded ops (fin ops vals a0).tmps)=true
  ·rw[if_pos hw] at hst⊢;refine .inl (Gives.wp (R:=fun v w'=>v=vals i∧Inv (fun j=>listed.getD j false||j==i) w') (by rw[hexec];exact hst) ?_);rintro v w' ⟨rfl,hI'⟩;exact next w' hI'
  ·rw[if_neg hw] at hst⊢;rw[←hst.1];exact next w hst.2
theorem zNn {id:Nat}{a0:Act}{w0:World}(hm:P.follows .mixedOrders=true)(vals:Nat→Value)(Inv:World→Prop)(hok:zHn ops=true)(h0:Inv w0.drew)
  (hstep:∀(i:Nat) (o:Oper) (w:World),ops[i]?=some o→Inv w→
   if Region.wanted o (yielded ops (fin ops vals a0).tmps)=true then Gives P (execOp (fin ops vals a0).eval o) w (fun v w'=>v=vals i∧Inv w') else vals i=undef∧Inv w)
  (hend:∀w:World,Inv w→Q .normal (fin ops vals a0) w):(Code.region id ops true).wp P Q a0 w0:=by
 refine wp_region_any hm ?_;refine zKp (vals:=vals) (a0:=a0) (Inv:=fun _ w=>Inv w) hok (fun i o L w ho _ _ hI=>hstep i o w ho hI) (fun _ w _ hI=>hend w hI) ops.size (Array.replicate ops.size false) a0 _ (by simp) (by
  refine Nat.le_trans (List.countP_le_length) ?_;simp) ⟨rfl,rfl,fun i t _ h=>?_,fun _ _=>rfl⟩ h0
 rw[Array.getD_eq_getD_getElem?,Array.getElem?_replicate] at h
 split at h<;>simp at h
def Each (P:Program)(F:Act)(Inv:World→Prop):List Oper→List Value→List Bool→Prop
 |o::os,v::vs,true::bs=>(∀w,Inv w→Gives P (execOp F.eval o) w fun u w'=>u=v∧Inv w')∧Each P F Inv os vs bs
 |_::os,v::vs,false::bs=>v=undef∧Each P F Inv os vs bs
 |[],[],[]=>True
 |_,_,_=>False
theorem Each.at_ {F:Act}{Inv:World→Prop}:∀{os:List Oper} {vs:List Value} {bs:List Bool},Each P F Inv os vs bs→∀{i:Nat} {o:Oper},os[i]?=some o→∃b,bs[i]?=some b∧∀w,Inv w→if b=true then Gives P (execOp F.eval o) w (fun u w'=>u=vs.getD i undef∧Inv w') else vs.getD i undef=undef∧Inv w
 |[],[],[],_,i,o,h=>by simp at h
 |o::os,v::vs,true::bs,⟨h1,h2⟩,0,o',h=>by
  obtain rfl:o=o':=by simpa using h
  exact⟨true,rfl,fun w hI=>by rw[if_pos rfl];exact h1 w hI⟩
 |o::os,v::vs,false::bs,⟨h1,h2⟩,0,o',h=>⟨false,rfl,fun w hI=>by rw[if_neg (by simp)];exact⟨h1,hI⟩⟩
 |o::os,v::vs,true::bs,⟨h1,h2⟩,i+1,o',h=>by
  obtain⟨b,hb,hh⟩:=Each.at_ h2 (i:=i) (o:=o') (by simpa using h);exact⟨b,by simpa using hb,by simpa using hh⟩
 |o::os,v::vs,false::bs,⟨h1,h2⟩,i+1,o',h=>by
  obtain⟨b,hb,hh⟩:=Each.at_ h2 (i:=i) (o:=o') (by simpa using h);exact⟨b,by simpa using hb,by simpa using hh⟩
 |[],[],_::_,h,_,_,_=>h.elim
 |[],_::_,_,h,_,_,_=>h.elim
 |_::_,[],_,h,_,_,_=>h.elim
 |_::_,_::_,[],h,_,_,_=>h.elim
theorem zA8 {id:Nat}{a0:Act}{w0:World}(hm:P.follows .mixedOrders=true)(F:Act)(vs:List Value)(bs:List Bool)(Inv:World→Prop)(hok:zHn ops=true)(hF:fin ops (fun i=>vs.getD i undef) a0=F)
  (hw:((List.range ops.size).map fun i=>((ops[i]?).map fun o=>Region.wanted o (yielded ops F.tmps)).getD true)=bs) (h0:Inv w0.drew) (hE:Each P F Inv ops.toList vs bs) (hend:∀w:World,Inv w→Q .normal F w):(Code.region id ops true).wp P Q a0 w0:=by
 subst hF;refine zNn hm (fun i=>vs.getD i undef) Inv hok h0 (fun i o w ho hI=>?_) hend;have hi:i<ops.size:=(Array.getElem?_eq_some_iff.1 ho).1;obtain⟨b,hb,hh⟩:=hE.at_ (i:=i) (o:=o) (by rw[Array.getElem?_toList];exact ho);rw[←hw,List.getElem?_map,List.getElem?_range hi] at hb;simp only[Option.map_some,ho,Option.getD_some,Option.some.injEq] at hb;have:=hh w hI;rw[←hb] at this;exact this
end
theorem jv {P:Program}{s:Sem Next}{w:World}{R:Value→World→Prop}(v:Value)(w':World)(h:s.run P w= .ok (.value v) w')(hR:R v w'):Gives P s w R:=Gives.value h hR
theorem jc {P:Program}{s:Sem Next}{w:World}{R:Value→World→Prop}(f:FuncId)(args:Array Value)(w':World)(h:s.run P w= .ok (.enter f args) w')(hR:Calls P f args w' fun e w''=>∃v,e= .returned v∧R v w''):Gives P s w R:=Gives.call h hR
theorem bn {α:Type _}[BEq α][LawfulBEq α]{a b:α}(h:¬a=b):(a==b)=false:=beq_eq_false_iff_ne.2 h
theorem ll {n m k:Nat}(h:n<m)(h2:m≤k):n<k:=Nat.lt_of_lt_of_le h h2
theorem jK {a b:Prop}{α:Sort _}{x:α}:a∨b∨x=x:=.inr (.inr rfl)
end Go.Proofs.YtchllommcolijaaGreatDoor
