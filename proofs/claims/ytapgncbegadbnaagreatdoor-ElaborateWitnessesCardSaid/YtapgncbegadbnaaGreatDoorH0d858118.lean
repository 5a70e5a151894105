/- awake of the law. -/
import Derived.Test.YtapgncbegadbnaaGreatDoorH7e02b7a8
import Derived.Test.YtapgncbegadbnaaGreatDoorH03655f60
set_option maxRecDepth 100000
set_option maxHeartbeats 8000000
namespace Go.Proofs.YtapgncbegadbnaaGreatDoor
namespace Ch
open Go.RowKit
variable{rs:List Rul}{ts:List ByteArray}{x:Rd}
def zIw (rs:List Rul)(ts:List ByteArray)(x:Rd):Bool:=(zAd rs&&zD5 ts)&&(decide (x.at_=0)&&(decide (endR rs ts x=(ts.length:Int))&&decide (0<ts.length)))
theorem zXo :zIw rs ts x=true↔(zAd rs&&zD5 ts)=true/\x∈allR rs ts 0 ts.length:=by
 unfold zIw;rw[Bool.and_eq_true,<-yBy x];simp
theorem zQk :zIw rs ts x=true↔x∈allL rs ts:=by
 rw[zXo];unfold allL
 split
 ·rename_i h;simp[h]
 ·rename_i h;simp[h]
theorem zLo (A T:Option Addr)(cap cT:Nat)(rs:List Rul)(ts:List ByteArray)(ok:Nat->Prop)(x:Rd)(c:Array Value)(w:World)(hR:zAc w A rs)(hT:zBp w T ts)(hX:RdAt ok w x c)(hr:rs.length<=1000000)(ht:ts.length<=1000000):Calls Tryz.prog 13 #[.slice A rs.length cap,.slice T ts.length cT,.agg c] w fun e w'=>e= .returned (.bool (zIw rs ts x))/\Below w.heap.size w w':=by
 obtain⟨A',cap',rfl,hl,hc,hk⟩:=hX.form;have hba:=zA0 w (.cells (rdC x.rule x.at_ A' x.kids.length cap') 42);have HX:=zh (hX.keep hba);have HR:=zh (hR.keep hba);have HT:=zh (hT.keep hba);have HB:=zh hba;have K1:=zh (Blk.new w 42 (rdC x.rule x.at_ A' x.kids.length cap'));clear hX hba hR hT hk hl hc;go_enter Tryz.func13,Tryz.ntmps13;go_wp2_with fail;refine(zRy A T cap cT rs ts _ HR.out HT.out hr ht).mono ?_;rintro e w1 ⟨rfl,hb⟩;have HX:=zh (HX.out.keep hb);have HR:=zh (HR.out.keep hb);have HT:=zh (HT.out.keep hb);have K1:=kp hb K1;have HB:=jt HB hb;clear hb;cases q:(zAd rs&&zD5 ts)
 ·have E:=zh (show zIw rs ts x=false by unfold zIw;rw[q,Bool.false_and]);clear q;go_wp2;go_ret;rw[E.out];exact⟨rfl,HB.out⟩
 have c1:=K1.out.cell 1;have c0:=K1.out.cell 0;have c2:=K1.out.cell 2
 by_cases a0:x.at_=0
 ·have ha:(x.at_==(0:Int))=true:=beq_iff_eq.2 a0;have E:=zh (show zIw rs ts x=(decide (endR rs ts x=(ts.length:Int))&&decide (0<ts.length)) by unfold zIw;rw[q,decide_eq_true a0,Bool.true_and,Bool.true_and]);clear q a0;go_wp2_with fail;refine(yA4 A T cap cT rs ts hr ht (zB4 x) ok x _ _ (Nat.le_refl _) HR.out HT.out HX.out).mono ?_;rintro e w2 ⟨rfl,hb⟩;have HB:=jt HB hb;clear hb c0 c1 c2
  by_cases e0:endR rs ts x=(ts.length:Int)
  ·rw[decide_eq_true e0,Bool.true_and] at E;have e1:(endR rs ts x==(ts.length:Int))=true:=beq_iff_eq.2 e0;generalize endR rs ts x=k at*;clear e0;go_wp2;go_ret;rw[E.out];exact⟨rfl,HB.out⟩
  ·rw[decide_eq_false e0,Bool.false_and] at E;have e1:(endR rs ts x==(ts.length:Int))=false:=bn e0;generalize endR rs ts x=k at*;clear e0;go_wp2;go_ret;rw[E.out];exact⟨rfl,HB.out⟩
 ·have ha:(x.at_==(0:Int))=false:=bn a0;have E:=zh (show zIw rs ts x=false by unfold zIw;rw[decide_eq_false a0,Bool.false_and,Bool.and_false]);clear q a0;go_wp2;go_ret;rw[E.out];exact⟨rfl,HB.out⟩
end Ch
namespace El
open At Ch Sp Sy Go.RowKit
def awN:List Tre:=[.mk 2 ⟨#[120]⟩ 0 [],.mk 2 ⟨#[43]⟩ 0 [],.mk 3 ⟨#[49]⟩ 0 []]
def awT:Trm:=.mk 4 ⟨#[112,108,117,115]⟩ ⟨#[]⟩ ⟨#[105,110,102,105,120]⟩ [.mk 2 ⟨#[120]⟩ ⟨#[]⟩ ⟨#[]⟩ [],.mk 1 ⟨#[49]⟩ ⟨#[]⟩ ⟨#[]⟩ []]
theorem zSf:zBh [zWl] 6 (rowT awN)= .ok awT:=by kernel_rfl
theorem zXj {w:World}{g:Nat}(h:Blk w g 53 zW5):zAc w (some ⟨g,0,none⟩) [zWl]:=fun k r hk=>by
 cases k with
 |succ k=>simp at hk
 |zero=>
  obtain rfl:zWl=r:=by simpa using hk
  refine⟨⟨by decide,by decide⟩,_,rfl,h.lt,fun j v hj=>?_⟩;have hc:=h.cell j
  match j,hj with
  |0,hj|1,hj|2,hj|3,hj|4,hj|5,hj=>exact hc.trans hj
  |j+6,hj=>simp[zWl] at hj
theorem yC3 {w:World}{g:Nat}(h:Blk w g 25 #[qI 2,.string ⟨#[120]⟩,qI 0,qN,qI 2,.string ⟨#[43]⟩,qI 0,qN,qI 3,.string ⟨#[49]⟩,qI 0,qN]):zAo w (some ⟨g,0,none⟩) awN:=fun i t hi=>by
 have leaf:∀(k:Int) (s:ByteArray),s.size<=9223372036854775807->zAv w (.mk k s 0 []) #[qI k,.string s,qI 0,qN]:=fun k s hs=>zAv.of (ks:=[]) (A:=none) (cap:=0) hs (Nat.le_refl _) (by omega) (fun i t hi=>by simp at hi)
 match i,hi with
 |0,hi=>
  obtain rfl:Tre.mk 2 ⟨#[120]⟩ 0 []=t:=by simpa [awN] using hi
  exact⟨_,rfl,h.lt,_,leaf 2 _ (by decide),fun j hj=>by
   have hc:=h.cell j
   match j,hj with
   |0,_|1,_|2,_|3,_=>exact hc
   |j+4,hj=>omega⟩
 |1,hi=>
  obtain rfl:Tre.mk 2 ⟨#[43]⟩ 0 []=t:=by simpa [awN] using hi
  exact⟨_,rfl,h.lt,_,leaf 2 _ (by decide),fun j hj=>by
   have hc:=h.cell (4+j)
   match j,hj with
   |0,_|1,_|2,_|3,_=>exact hc
   |j+4,hj=>omega⟩
 |2,hi=>
  obtain rfl:Tre.mk 3 ⟨#[49]⟩ 0 []=t:=by simpa [awN] using hi
  exact⟨_,rfl,h.lt,_,leaf 3 _ (by decide),fun j hj=>by
   have hc:=h.cell (8+j)
   match j,hj with
   |0,_|1,_|2,_|3,_=>exact hc
   |j+4,hj=>omega⟩
 |i+3,hi=>simp[awN] at hi
theorem zWh (w:World):Calls Tryz.prog 4 #[] w fun e w'=>e= .returned (.bool true)/\Below w.heap.size w w':=by
 go_enter Tryz.func4,Tryz.ntmps4;go_wp2_with fail;refine(zXs w).mono ?_;rintro e w1 ⟨rfl,rfl⟩;have HB:=zh (zA0 w (.cells zW5 53));have K5:=zh (Blk.new w 53 zW5);generalize hn5:w.heap.size=n5 at K5;have HN5:=zh hn5;clear hn5;generalize w.alloc (.cells zW5 53)=w1 at*;go_wp2_with fail;have hba:=zA0 w1 (.cells #[qI 2,.string ⟨#[120]⟩,qI 0,qN,qI 2,.string ⟨#[43]⟩,qI 0,qN,qI 3,.string ⟨#[49]⟩,qI 0,qN] 25);replace HB:=jt HB hba;replace K5:=kp hba K5;have K9:=zh (Blk.new w1 25 #[qI 2,.string ⟨#[120]⟩,qI 0,qN,qI 2,.string ⟨#[43]⟩,qI 0,qN,qI 3,.string ⟨#[49]⟩,qI 0,qN]);clear hba;generalize w1.alloc (.cells #[qI 2,.string ⟨#[120]⟩,qI 0,qN,qI 2,.string ⟨#[43]⟩,qI 0,qN,qI 3,.string ⟨#[49]⟩,qI 0,qN] 25)=w2 at*;refine(zPu (some ⟨w1.heap.size,0,none⟩) 3 3 w2).mono ?_;rintro e w3 ⟨rfl,hb⟩;replace HB:=jt HB hb;replace K5:=kp hb K5;replace K9:=kp hb K9;clear hb;go_wp2_with fail;refine(zYk (some ⟨n5,0,none⟩) 1 [zWl] 6 (rowT awN) _ w3 (zXj K5.out) (Nat.le_refl _) (by decide) (by decide) (zAv.of (by decide) (Nat.le_refl _) (by decide) (yC3 K9.out)) (by decide)).mono ?_;rintro e w4 hm;rw[zSf] at hm;obtain⟨⟨c9,rfl,htm⟩,hb⟩:=hm;obtain⟨Aa,ca,rfl,-⟩:=htm.form;replace HB:=jt HB hb;have hba:=zA0 w4 (.cells zerC 47);have HB4:=jt HB hba;have K1:=zh (Blk.new w4 47 zerC);have HL:=zh HB.out.size;clear hb hba htm K5 K9;have k1c:=K1.out.cell;have k1f:=K1.out.frozen;dsimp only[awT,Trm.kind,Trm.nam,Trm.vr,Trm.args,Trm.form,trmC,List.length_cons,List.length_nil];go_wp2;exact bodyPost_ret (v:=.bool true) (by simp[results,Tryz.results4,go_sem]) rfl ⟨rfl,HB.out.trans ((zA0 w4 _).mono HB.out.size)⟩
end El
end Go.Proofs.YtapgncbegadbnaaGreatDoor
