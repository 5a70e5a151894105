/- The fields of a term: the program and the reference. -/
import Derived.Test.YtapgncbegadbnaaGreatDoorH302f5ee1
set_option maxRecDepth 100000
set_option maxHeartbeats 800000
namespace Go.Proofs.YtapgncbegadbnaaGreatDoor.Sp
open At Go.RowKit
theorem yAx (s:ByteArray)(w:World)(hs:s.size<=9223372036854775807):Calls Tryz.prog 71 #[.string s] w fun e w'=>e= .returned (.bool (numP s.toList))/\Below w.heap.size w w':=by
 rw[ByteArray.toList_eq];exact zS5 s w hs
theorem zWe (s:ByteArray)(w:World)(hs:s.size<=9223372036854775807):Calls Tryz.prog 118 #[.string s] w fun e w'=>e= .returned (.bool (numP s.toList))/\Below w.heap.size w w':=by
 rw[ByteArray.toList_eq,<-zRa];exact(zQn s w hs).mono fun e w' ⟨h1,h2⟩=>⟨h1,by rw[h2];exact Below.refl _ _⟩
theorem zF2 (s:ByteArray)(a n:Nat)(w:World)(hs:s.size<=9223372036854775807):Calls Tryz.prog 138 #[.string s,.int .u8 (a:Int),qI (n:Int)] w fun e w'=>e= .returned (.bool (zCu a s.toList&&decide (s.toList.length<=n)))/\Below w.heap.size w w':=by
 rw[zCe];exact(zPx s a n w hs).mono fun e w' ⟨h1,h2⟩=>⟨h1,by rw[h2];exact Below.refl _ _⟩
theorem zKo (s:ByteArray)(a n:Nat)(w:World)(hs:s.size<=9223372036854775807):Calls Tryz.prog 136 #[.string s,.int .u8 (a:Int),qI (n:Int)] w fun e w'=>e= .returned (.bool (zCu a s.toList&&decide (s.toList.length<=n)))/\Below w.heap.size w w':=by
 rw[zCe];exact(zSb s a n w hs).mono fun e w' ⟨h1,h2⟩=>⟨h1,by rw[h2];exact Below.refl _ _⟩
theorem zVw (s:ByteArray)(w:World)(hs:s.size<=9223372036854775807):Calls Tryz.prog 139 #[.string s] w fun e w'=>e= .returned (.bool (zAl s.toList))/\Below w.heap.size w w':=
 (yAb s w hs).mono fun e w' ⟨h1,h2⟩=>⟨h1,by rw[h2];exact Below.refl _ _⟩
theorem zRv (s:ByteArray)(w:World)(hs:s.size<=9223372036854775807):Calls Tryz.prog 93 #[.string s] w fun e w'=>e= .returned (.bool (zAl s.toList))/\Below w.heap.size w w':=
 (zI1 s w hs).mono fun e w' ⟨h1,h2⟩=>⟨h1,by rw[h2];exact Below.refl _ _⟩
theorem yAt (a v f:ByteArray)(ts:List Trm)(p:Addr)(A:Option Addr)(cap:Nat)(w:World)(hP:PtM w p (.mk 1 a v f ts) A cap):Calls Tryz.prog 127 #[.pointer (some p)] w fun e w'=>e= .returned (.bool (ownM 1 a.toList v.toList f.toList ts.length))/\Below w.heap.size w w':=by
 obtain⟨hlt,c0,c1,c2,c3,c4,ha,hv,hf,hn,hc,-⟩:=hP;dsimp only[Trm.kind,Trm.nam,Trm.vr,Trm.form,Trm.args] at c0 c1 c2 c3 c4 ha hv hf hn;have HB:=zh (Below.refl w.heap.size w);have HF:=zh (fun w=>zF2 f 33 16 w hf);have HQ:=zh (show ownM 1 a.toList v.toList f.toList ts.length=((v.toList.isEmpty&&(f.toList.isEmpty&&decide (ts.length=0)))&&numP a.toList) from rfl);have HN:=zh (fun w=>yAx a w ha);generalize (zCu 33 f.toList&&decide (f.toList.length<=16))=fm at*;generalize numP a.toList=rr at*;cases hv1:v.toList.isEmpty
 ·rw[hv1] at HQ;go_enter Tryz.func127,Tryz.ntmps127;go_wp2_with fail;refine(HF.out _).mono ?_;rintro e w1 ⟨rfl,hb⟩;have HB:=jt HB hb;replace c0:=(hb.cell hlt).trans c0;replace c1:=(hb.cell (p:=⟨p.block,p.off+1,none⟩) hlt).trans c1;replace c2:=(hb.cell (p:=⟨p.block,p.off+2,none⟩) hlt).trans c2;replace c3:=(hb.cell (p:=⟨p.block,p.off+3,none⟩) hlt).trans c3;replace c4:=(hb.cell (p:=⟨p.block,p.off+4,none⟩) hlt).trans c4;replace hlt:=Nat.lt_of_lt_of_le hlt hb.size;clear hb;go_wp2;go_ret;exact⟨zA1 (by rw[HQ.out];rfl),HB.out⟩
 ·rw[hv1,Bool.true_and] at HQ;cases hf1:f.toList.isEmpty
  ·rw[hf1] at HQ;go_enter Tryz.func127,Tryz.ntmps127;go_wp2_with fail;refine(HF.out _).mono ?_;rintro e w1 ⟨rfl,hb⟩;have HB:=jt HB hb;replace c0:=(hb.cell hlt).trans c0;replace c1:=(hb.cell (p:=⟨p.block,p.off+1,none⟩) hlt).trans c1;replace c2:=(hb.cell (p:=⟨p.block,p.off+2,none⟩) hlt).trans c2;replace c3:=(hb.cell (p:=⟨p.block,p.off+3,none⟩) hlt).trans c3;replace c4:=(hb.cell (p:=⟨p.block,p.off+4,none⟩) hlt).trans c4;replace hlt:=Nat.lt_of_lt_of_le hlt hb.size;clear hb;go_wp2;go_ret;exact⟨zA1 (by rw[HQ.out];rfl),HB.out⟩
  ·rw[hf1,Bool.true_and] at HQ
   by_cases hn1:ts.length=0
   ·have hn2:((ts.length:Int)==0)=true:=by rw[beq_iff_eq];omega
    rw[decide_eq_true hn1,Bool.true_and] at HQ;clear hn1;go_enter Tryz.func127,Tryz.ntmps127;go_wp2_with fail;refine(HF.out _).mono ?_;rintro e w1 ⟨rfl,hb⟩;have HB:=jt HB hb;replace c0:=(hb.cell hlt).trans c0;replace c1:=(hb.cell (p:=⟨p.block,p.off+1,none⟩) hlt).trans c1;replace c2:=(hb.cell (p:=⟨p.block,p.off+2,none⟩) hlt).trans c2;replace c3:=(hb.cell (p:=⟨p.block,p.off+3,none⟩) hlt).trans c3;replace c4:=(hb.cell (p:=⟨p.block,p.off+4,none⟩) hlt).trans c4;replace hlt:=Nat.lt_of_lt_of_le hlt hb.size;clear hb;go_wp2_with fail;refine(HN.out _).mono ?_;rintro e w1 ⟨rfl,hb⟩;have HB:=jt HB hb;replace c0:=(hb.cell hlt).trans c0;replace c1:=(hb.cell (p:=⟨p.block,p.off+1,none⟩) hlt).trans c1;replace c2:=(hb.cell (p:=⟨p.block,p.off+2,none⟩) hlt).trans c2;replace c3:=(hb.cell (p:=⟨p.block,p.off+3,none⟩) hlt).trans c3;replace c4:=(hb.cell (p:=⟨p.block,p.off+4,none⟩) hlt).trans c4;replace hlt:=Nat.lt_of_lt_of_le hlt hb.size;clear hb;go_wp2;go_ret;exact⟨zA1 (by rw[HQ.out]),HB.out⟩
   ·have hn2:((ts.length:Int)==0)=false:=by rw[beq_eq_false_iff_ne];omega
    rw[decide_eq_false hn1] at HQ;clear hn1;go_enter Tryz.func127,Tryz.ntmps127;go_wp2_with fail;refine(HF.out _).mono ?_;rintro e w1 ⟨rfl,hb⟩;have HB:=jt HB hb;replace c0:=(hb.cell hlt).trans c0;replace c1:=(hb.cell (p:=⟨p.block,p.off+1,none⟩) hlt).trans c1;replace c2:=(hb.cell (p:=⟨p.block,p.off+2,none⟩) hlt).trans c2;replace c3:=(hb.cell (p:=⟨p.block,p.off+3,none⟩) hlt).trans c3;replace c4:=(hb.cell (p:=⟨p.block,p.off+4,none⟩) hlt).trans c4;replace hlt:=Nat.lt_of_lt_of_le hlt hb.size;clear hb;go_wp2;go_ret;exact⟨zA1 (by rw[HQ.out];rfl),HB.out⟩
theorem yDh (a v f:ByteArray)(ts:List Trm)(p:Addr)(A:Option Addr)(cap:Nat)(w:World)(hP:PtM w p (.mk 2 a v f ts) A cap):Calls Tryz.prog 127 #[.pointer (some p)] w fun e w'=>e= .returned (.bool (ownM 2 a.toList v.toList f.toList ts.length))/\Below w.heap.size w w':=by
 obtain⟨hlt,c0,c1,c2,c3,c4,ha,hv,hf,hn,hc,-⟩:=hP;dsimp only[Trm.kind,Trm.nam,Trm.vr,Trm.form,Trm.args] at c0 c1 c2 c3 c4 ha hv hf hn;have HB:=zh (Below.refl w.heap.size w);have HF:=zh (fun w=>zF2 f 33 16 w hf);have HQ:=zh (show ownM 2 a.toList v.toList f.toList ts.length=((v.toList.isEmpty&&(f.toList.isEmpty&&decide (ts.length=0)))&&idB a.toList) from rfl);have HN:=zh (fun w=>zH2 a w ha);generalize (zCu 33 f.toList&&decide (f.toList.length<=16))=fm at*;generalize idB a.toList=rr at*;cases hv1:v.toList.isEmpty
 ·rw[hv1] at HQ;go_enter Tryz.func127,Tryz.ntmps127;go_wp2_with fail;refine(HF.out _).mono ?_;rintro e w1 ⟨rfl,hb⟩;have HB:=jt HB hb;replace c0:=(hb.cell hlt).trans c0;replace c1:=(hb.cell (p:=⟨p.block,p.off+1,none⟩) hlt).trans c1;replace c2:=(hb.cell (p:=⟨p.block,p.off+2,none⟩) hlt).trans c2;replace c3:=(hb.cell (p:=⟨p.block,p.off+3,none⟩) hlt).trans c3;replace c4:=(hb.cell (p:=⟨p.block,p.off+4,none⟩) hlt).trans c4;replace hlt:=Nat.lt_of_lt_of_le hlt hb.size;clear hb;go_wp2;go_ret;exact⟨zA1 (by rw[HQ.out];rfl),HB.out⟩
 ·rw[hv1,Bool.true_and] at HQ;cases hf1:f.toList.isEmpty
  ·rw[hf1] at HQ;go_enter Tryz.func127,Tryz.ntmps127;go_wp2_with fail;refine(HF.out _).mono ?_;rintro e w1 ⟨rfl,hb⟩;have HB:=jt HB hb;replace c0:=(hb.cell hlt).trans c0;replace c1:=(hb.cell (p:=⟨p.block,p.off+1,none⟩) hlt).trans c1;replace c2:=(hb.cell (p:=⟨p.block,p.off+2,none⟩) hlt).trans c2;replace c3:=(hb.cell (p:=⟨p.block,p.off+3,none⟩) hlt).trans c3;replace c4:=(hb.cell (p:=⟨p.block,p.off+4,none⟩) hlt).trans c4;replace hlt:=Nat.lt_of_lt_of_le hlt hb.size;clear hb;go_wp2;go_ret;exact⟨zA1 (by rw[HQ.out];rfl),HB.out⟩
  ·rw[hf1,Bool.true_and] at HQ
   by_cases hn1:ts.length=0
   ·have hn2:((ts.length:Int)==0)=true:=by rw[beq_iff_eq];omega
    rw[decide_eq_true hn1,Bool.true_and] at HQ;clear hn1;go_enter Tryz.func127,Tryz.ntmps127;go_wp2_with fail;refine(HF.out _).mono ?_;rintro e w1 ⟨rfl,hb⟩;have HB:=jt HB hb;replace c0:=(hb.cell hlt).trans c0;replace c1:=(hb.cell (p:=⟨p.block,p.off+1,none⟩) hlt).trans c1;replace c2:=(hb.cell (p:=⟨p.block,p.off+2,none⟩) hlt).trans c2;replace c3:=(hb.cell (p:=⟨p.block,p.off+3,none⟩) hlt).trans c3;replace c4:=(hb.cell (p:=⟨p.block,p.off+4,none⟩) hlt).trans c4;replace hlt:=Nat.lt_of_lt_of_le hlt hb.size;clear hb;go_wp2_with fail;refine(HN.out _).mono ?_;rintro e w1 ⟨rfl,hb⟩;have HB:=jt HB hb;replace c0:=(hb.cell hlt).trans c0;replace c1:=(hb.cell (p:=⟨p.block,p.off+1,none⟩) hlt).trans c1;replace c2:=(hb.cell (p:=⟨p.block,p.off+2,none⟩) hlt).trans c2;replace c3:=(hb.cell (p:=⟨p.block,p.off+3,none⟩) hlt).trans c3;replace c4:=(hb.cell (p:=⟨p.block,p.off+4,none⟩) hlt).trans c4;replace hlt:=Nat.lt_of_lt_of_le hlt hb.size;clear hb;go_wp2;go_ret;exact⟨zA1 (by rw[HQ.out]),HB.out⟩
   ·have hn2:((ts.length:Int)==0)=false:=by rw[beq_eq_false_iff_ne];omega
    rw[decide_eq_false hn1] at HQ;clear hn1;go_enter Tryz.func127,Tryz.ntmps127;go_wp2_with fail;refine(HF.out _).mono ?_;rintro e w1 ⟨rfl,hb⟩;have HB:=jt HB hb;replace c0:=(hb.cell hlt).trans c0;replace c1:=(hb.cell (p:=⟨p.block,p.off+1,none⟩) hlt).trans c1;replace c2:=(hb.cell (p:=⟨p.block,p.off+2,none⟩) hlt).trans c2;replace c3:=(hb.cell (p:=⟨p.block,p.off+3,none⟩) hlt).trans c3;replace c4:=(hb.cell (p:=⟨p.block,p.off+4,none⟩) hlt).trans c4;replace hlt:=Nat.lt_of_lt_of_le hlt hb.size;clear hb;go_wp2;go_ret;exact⟨zA1 (by rw[HQ.out];rfl),HB.out⟩
theorem yDk (a v f:ByteArray)(ts:List Trm)(p:Addr)(A:Option Addr)(cap:Nat)(w:World)(hP:PtM w p (.mk 3 a v f ts) A cap):Calls Tryz.prog 127 #[.pointer (some p)] w fun e w'=>e= .returned (.bool (ownM 3 a.toList v.toList f.toList ts.length))/\Below w.heap.size w w':=by
 obtain⟨hlt,c0,c1,c2,c3,c4,ha,hv,hf,hn,hc,-⟩:=hP;dsimp only[Trm.kind,Trm.nam,Trm.vr,Trm.form,Trm.args] at c0 c1 c2 c3 c4 ha hv hf hn;have HB:=zh (Below.refl w.heap.size w);have HF:=zh (fun w=>zF2 f 33 16 w hf);have HQ:=zh (show ownM 3 a.toList v.toList f.toList ts.length=((v.toList.isEmpty&&(f.toList.isEmpty&&decide (ts.length=0)))&&(zCu 32 a.toList&&decide (a.toList.length<=200))) from rfl);have HN:=zh (fun w=>zF2 a 32 200 w ha);generalize (zCu 33 f.toList&&decide (f.toList.length<=16))=fm at*;generalize (zCu 32 a.toList&&decide (a.toList.length<=200))=rr at*;cases hv1:v.toList.isEmpty
 ·rw[hv1] at HQ;go_enter Tryz.func127,Tryz.ntmps127;go_wp2_with fail;refine(HF.out _).mono ?_;rintro e w1 ⟨rfl,hb⟩;have HB:=jt HB hb;replace c0:=(hb.cell hlt).trans c0;replace c1:=(hb.cell (p:=⟨p.block,p.off+1,none⟩) hlt).trans c1;replace c2:=(hb.cell (p:=⟨p.block,p.off+2,none⟩) hlt).trans c2;replace c3:=(hb.cell (p:=⟨p.block,p.off+3,none⟩) hlt).trans c3;replace c4:=(hb.cell (p:=⟨p.block,p.off+4,none⟩) hlt).trans c4;replace hlt:=Nat.lt_of_lt_of_le hlt hb.size;clear hb;go_wp2;go_ret;exact⟨zA1 (by rw[HQ.out];rfl),HB.out⟩
 ·rw[hv1,Bool.true_and] at HQ;cases hf1:f.toList.isEmpty
  ·rw[hf1] at HQ;go_enter Tryz.func127,Tryz.ntmps127;go_wp2_with fail;refine(HF.out _).mono ?_;rintro e w1 ⟨rfl,hb⟩;have HB:=jt HB hb;replace c0:=(hb.cell hlt).trans c0;replace c1:=(hb.cell (p:=⟨p.block,p.off+1,none⟩) hlt).trans c1;replace c2:=(hb.cell (p:=⟨p.block,p.off+2,none⟩) hlt).trans c2;replace c3:=(hb.cell (p:=⟨p.block,p.off+3,none⟩) hlt).trans c3;replace c4:=(hb.cell (p:=⟨p.block,p.off+4,none⟩) hlt).trans c4;replace hlt:=Nat.lt_of_lt_of_le hlt hb.size;clear hb;go_wp2;go_ret;exact⟨zA1 (by rw[HQ.out];rfl),HB.out⟩
  ·rw[hf1,Bool.true_and] at HQ
   by_cases hn1:ts.length=0
   ·have hn2:((ts.length:Int)==0)=true:=by rw[beq_iff_eq];omega
    rw[decide_eq_true hn1,Bool.true_and] at HQ;clear hn1;go_enter Tryz.func127,Tryz.ntmps127;go_wp2_with fail;refine(HF.out _).mono ?_;rintro e w1 ⟨rfl,hb⟩;have HB:=jt HB hb;replace c0:=(hb.cell hlt).trans c0;replace c1:=(hb.cell (p:=⟨p.block,p.off+1,none⟩) hlt).trans c1;replace c2:=(hb.cell (p:=⟨p.block,p.off+2,none⟩) hlt).trans c2;replace c3:=(hb.cell (p:=⟨p.block,p.off+3,none⟩) hlt).trans c3;replace c4:=(hb.cell (p:=⟨p.block,p.off+4,none⟩) hlt).trans c4;replace hlt:=Nat.lt_of_lt_of_le hlt hb.size;clear hb;go_wp2_with fail;refine(HN.out _).mono ?_;rintro e w1 ⟨rfl,hb⟩;have HB:=jt HB hb;replace c0:=(hb.cell hlt).trans c0;replace c1:=(hb.cell (p:=⟨p.block,p.off+1,none⟩) hlt).trans c1;replace c2:=(hb.cell (p:=⟨p.block,p.off+2,none⟩) hlt).trans c2;replace c3:=(hb.cell (p:=⟨p.block,p.off+3,none⟩) hlt).trans c3;replace c4:=(hb.cell (p:=⟨p.block,p.off+4,none⟩) hlt).trans c4;replace hlt:=Nat.lt_of_lt_of_le hlt hb.size;clear hb;go_wp2;go_ret;exact⟨zA1 (by rw[HQ.out]),HB.out⟩
   ·have hn2:((ts.length:Int)==0)=false:=by rw[beq_eq_false_iff_ne];omega
    rw[decide_eq_false hn1] at HQ;clear hn1;go_enter Tryz.func127,Tryz.ntmps127;go_wp2_with fail;refine(HF.out _).mono ?_;rintro e w1 ⟨rfl,hb⟩;have HB:=jt HB hb;replace c0:=(hb.cell hlt).trans c0;replace c1:=(hb.cell (p:=⟨p.block,p.off+1,none⟩) hlt).trans c1;replace c2:=(hb.cell (p:=⟨p.block,p.off+2,none⟩) hlt).trans c2;replace c3:=(hb.cell (p:=⟨p.block,p.off+3,none⟩) hlt).trans c3;replace c4:=(hb.cell (p:=⟨p.block,p.off+4,none⟩) hlt).trans c4;replace hlt:=Nat.lt_of_lt_of_le hlt hb.size;clear hb;go_wp2;go_ret;exact⟨zA1 (by rw[HQ.out];rfl),HB.out⟩
theorem yDb (a v f:ByteArray)(ts:List Trm)(p:Addr)(A:Option Addr)(cap:Nat)(w:World)(hP:PtM w p (.mk 4 a v f ts) A cap):Calls Tryz.prog 127 #[.pointer (some p)] w fun e w'=>e= .returned (.bool (ownM 4 a.toList v.toList f.toList ts.length))/\Below w.heap.size w w':=by
 obtain⟨hlt,c0,c1,c2,c3,c4,ha,hv,hf,hn,hc,-⟩:=hP;dsimp only[Trm.kind,Trm.nam,Trm.vr,Trm.form,Trm.args] at c0 c1 c2 c3 c4 ha hv hf hn;have HB:=zh (Below.refl w.heap.size w);have HF:=zh (fun w=>zF2 f 33 16 w hf);have HQ:=zh (show ownM 4 a.toList v.toList f.toList ts.length=((zCu 33 f.toList&&decide (f.toList.length<=16))&&(zAl a.toList&&v.toList.isEmpty)) from rfl);have HN:=zh (fun w=>zVw a w ha);generalize (zCu 33 f.toList&&decide (f.toList.length<=16))=fm at*;generalize zAl a.toList=nm at*;cases hv1:v.toList.isEmpty
 ·skip
  rw[hv1] at HQ;go_enter Tryz.func127,Tryz.ntmps127;go_wp2_with fail;refine(HF.out _).mono ?_;rintro e w1 ⟨rfl,hb⟩;have HB:=jt HB hb;replace c0:=(hb.cell hlt).trans c0;replace c1:=(hb.cell (p:=⟨p.block,p.off+1,none⟩) hlt).trans c1;replace c2:=(hb.cell (p:=⟨p.block,p.off+2,none⟩) hlt).trans c2;replace c3:=(hb.cell (p:=⟨p.block,p.off+3,none⟩) hlt).trans c3;replace c4:=(hb.cell (p:=⟨p.block,p.off+4,none⟩) hlt).trans c4;replace hlt:=Nat.lt_of_lt_of_le hlt hb.size;clear hb;cases fm
  ·go_wp2;go_ret;exact⟨zA1 (by rw[HQ.out];rfl),HB.out⟩
  ·go_wp2_with fail;refine(HN.out _).mono ?_;rintro e w1 ⟨rfl,hb⟩;have HB:=jt HB hb;replace c0:=(hb.cell hlt).trans c0;replace c1:=(hb.cell (p:=⟨p.block,p.off+1,none⟩) hlt).trans c1;replace c2:=(hb.cell (p:=⟨p.block,p.off+2,none⟩) hlt).trans c2;replace c3:=(hb.cell (p:=⟨p.block,p.off+3,none⟩) hlt).trans c3;replace c4:=(hb.cell (p:=⟨p.block,p.off+4,none⟩) hlt).trans c4;replace hlt:=Nat.lt_of_lt_of_le hlt hb.size;clear hb;cases nm
   ·go_wp2;go_ret;exact⟨zA1 (by rw[HQ.out];rfl),HB.out⟩
   ·go_wp2;go_ret;exact⟨zA1 (by rw[HQ.out];rfl),HB.out⟩
 ·cases hf1:f.toList.isEmpty
  ·skip
   rw[hv1] at HQ;go_enter Tryz.func127,Tryz.ntmps127;go_wp2_with fail;refine(HF.out _).mono ?_;rintro e w1 ⟨rfl,hb⟩;have HB:=jt HB hb;replace c0:=(hb.cell hlt).trans c0;replace c1:=(hb.cell (p:=⟨p.block,p.off+1,none⟩) hlt).trans c1;replace c2:=(hb.cell (p:=⟨p.block,p.off+2,none⟩) hlt).trans c2;replace c3:=(hb.cell (p:=⟨p.block,p.off+3,none⟩) hlt).trans c3;replace c4:=(hb.cell (p:=⟨p.block,p.off+4,none⟩) hlt).trans c4;replace hlt:=Nat.lt_of_lt_of_le hlt hb.size;clear hb;cases fm
   ·go_wp2;go_ret;exact⟨zA1 (by rw[HQ.out];rfl),HB.out⟩
   ·go_wp2_with fail;refine(HN.out _).mono ?_;rintro e w1 ⟨rfl,hb⟩;have HB:=jt HB hb;replace c0:=(hb.cell hlt).trans c0;replace c1:=(hb.cell (p:=⟨p.block,p.off+1,none⟩) hlt).trans c1;replace c2:=(hb.cell (p:=⟨p.block,p.off+2,none⟩) hlt).trans c2;replace c3:=(hb.cell (p:=⟨p.block,p.off+3,none⟩) hlt).trans c3;replace c4:=(hb.cell (p:=⟨p.block,p.off+4,none⟩) hlt).trans c4;replace hlt:=Nat.lt_of_lt_of_le hlt hb.size;clear hb;cases nm
    ·go_wp2;go_ret;exact⟨zA1 (by rw[HQ.out];rfl),HB.out⟩
    ·go_wp2;go_ret;exact⟨zA1 (by rw[HQ.out];rfl),HB.out⟩
  ·by_cases hn1:ts.length=0
   ·have hn2:((ts.length:Int)==0)=true:=by rw[beq_iff_eq];omega
    have hn3:¬(0:Int)<(ts.length:Int):=by omega
    rw[hv1] at HQ;go_enter Tryz.func127,Tryz.ntmps127;go_wp2_with fail;refine(HF.out _).mono ?_;rintro e w1 ⟨rfl,hb⟩;have HB:=jt HB hb;replace c0:=(hb.cell hlt).trans c0;replace c1:=(hb.cell (p:=⟨p.block,p.off+1,none⟩) hlt).trans c1;replace c2:=(hb.cell (p:=⟨p.block,p.off+2,none⟩) hlt).trans c2;replace c3:=(hb.cell (p:=⟨p.block,p.off+3,none⟩) hlt).trans c3;replace c4:=(hb.cell (p:=⟨p.block,p.off+4,none⟩) hlt).trans c4;replace hlt:=Nat.lt_of_lt_of_le hlt hb.size;clear hb;cases fm
    ·go_wp2;go_ret;exact⟨zA1 (by rw[HQ.out];rfl),HB.out⟩
    ·go_wp2_with fail;refine(HN.out _).mono ?_;rintro e w1 ⟨rfl,hb⟩;have HB:=jt HB hb;replace c0:=(hb.cell hlt).trans c0;replace c1:=(hb.cell (p:=⟨p.block,p.off+1,none⟩) hlt).trans c1;replace c2:=(hb.cell (p:=⟨p.block,p.off+2,none⟩) hlt).trans c2;replace c3:=(hb.cell (p:=⟨p.block,p.off+3,none⟩) hlt).trans c3;replace c4:=(hb.cell (p:=⟨p.block,p.off+4,none⟩) hlt).trans c4;replace hlt:=Nat.lt_of_lt_of_le hlt hb.size;clear hb;cases nm
     ·go_wp2;go_ret;exact⟨zA1 (by rw[HQ.out];rfl),HB.out⟩
     ·go_wp2;go_ret;exact⟨zA1 (by rw[HQ.out];rfl),HB.out⟩
   ·have hn2:((ts.length:Int)==0)=false:=by rw[beq_eq_false_iff_ne];omega
    have hn3:(0:Int)<(ts.length:Int):=by omega
    rw[hv1] at HQ;go_enter Tryz.func127,Tryz.ntmps127;go_wp2_with fail;refine(HF.out _).mono ?_;rintro e w1 ⟨rfl,hb⟩;have HB:=jt HB hb;replace c0:=(hb.cell hlt).trans c0;replace c1:=(hb.cell (p:=⟨p.block,p.off+1,none⟩) hlt).trans c1;replace c2:=(hb.cell (p:=⟨p.block,p.off+2,none⟩) hlt).trans c2;replace c3:=(hb.cell (p:=⟨p.block,p.off+3,none⟩) hlt).trans c3;replace c4:=(hb.cell (p:=⟨p.block,p.off+4,none⟩) hlt).trans c4;replace hlt:=Nat.lt_of_lt_of_le hlt hb.size;clear hb;cases fm
    ·go_wp2;go_ret;exact⟨zA1 (by rw[HQ.out];rfl),HB.out⟩
    ·go_wp2_with fail;refine(HN.out _).mono ?_;rintro e w1 ⟨rfl,hb⟩;have HB:=jt HB hb;replace c0:=(hb.cell hlt).trans c0;replace c1:=(hb.cell (p:=⟨p.block,p.off+1,none⟩) hlt).trans c1;replace c2:=(hb.cell (p:=⟨p.block,p.off+2,none⟩) hlt).trans c2;replace c3:=(hb.cell (p:=⟨p.block,p.off+3,none⟩) hlt).trans c3;replace c4:=(hb.cell (p:=⟨p.block,p.off+4,none⟩) hlt).trans c4;replace hlt:=Nat.lt_of_lt_of_le hlt hb.size;clear hb;cases nm
     ·go_wp2;go_ret;exact⟨zA1 (by rw[HQ.out];rfl),HB.out⟩
     ·go_wp2;go_ret;exact⟨zA1 (by rw[HQ.out];rfl),HB.out⟩
theorem yDl (a v f:ByteArray)(ts:List Trm)(p:Addr)(A:Option Addr)(cap:Nat)(w:World)(hP:PtM w p (.mk 5 a v f ts) A cap):Calls Tryz.prog 127 #[.pointer (some p)] w fun e w'=>e= .returned (.bool (ownM 5 a.toList v.toList f.toList ts.length))/\Below w.heap.size w w':=by
 obtain⟨hlt,c0,c1,c2,c3,c4,ha,hv,hf,hn,hc,-⟩:=hP;dsimp only[Trm.kind,Trm.nam,Trm.vr,Trm.form,Trm.args] at c0 c1 c2 c3 c4 ha hv hf hn;have HB:=zh (Below.refl w.heap.size w);have HF:=zh (fun w=>zF2 f 33 16 w hf);have HQ:=zh (show ownM 5 a.toList v.toList f.toList ts.length=((zCu 33 f.toList&&decide (f.toList.length<=16))&&(zAl a.toList&&(idB v.toList&&decide (0<ts.length)))) from rfl);have HN:=zh (fun w=>zVw a w ha);have HI:=zh (fun w=>zH2 v w hv);generalize (zCu 33 f.toList&&decide (f.toList.length<=16))=fm at*;generalize zAl a.toList=nm at*;generalize idB v.toList=ii at*;cases hv1:v.toList.isEmpty
 ·skip
  go_enter Tryz.func127,Tryz.ntmps127;go_wp2_with fail;refine(HF.out _).mono ?_;rintro e w1 ⟨rfl,hb⟩;have HB:=jt HB hb;replace c0:=(hb.cell hlt).trans c0;replace c1:=(hb.cell (p:=⟨p.block,p.off+1,none⟩) hlt).trans c1;replace c2:=(hb.cell (p:=⟨p.block,p.off+2,none⟩) hlt).trans c2;replace c3:=(hb.cell (p:=⟨p.block,p.off+3,none⟩) hlt).trans c3;replace c4:=(hb.cell (p:=⟨p.block,p.off+4,none⟩) hlt).trans c4;replace hlt:=Nat.lt_of_lt_of_le hlt hb.size;clear hb;cases fm
  ·go_wp2;go_ret;exact⟨zA1 (by rw[HQ.out];rfl),HB.out⟩
  ·go_wp2_with fail;refine(HN.out _).mono ?_;rintro e w1 ⟨rfl,hb⟩;have HB:=jt HB hb;replace c0:=(hb.cell hlt).trans c0;replace c1:=(hb.cell (p:=⟨p.block,p.off+1,none⟩) hlt).trans c1;replace c2:=(hb.cell (p:=⟨p.block,p.off+2,none⟩) hlt).trans c2;replace c3:=(hb.cell (p:=⟨p.block,p.off+3,none⟩) hlt).trans c3;replace c4:=(hb.cell (p:=⟨p.block,p.off+4,none⟩) hlt).trans c4;replace hlt:=Nat.lt_of_lt_of_le hlt hb.size;clear hb;cases nm
   ·go_wp2;go_ret;exact⟨zA1 (by rw[HQ.out];rfl),HB.out⟩
   ·go_wp2_with fail;refine(HI.out _).mono ?_;rintro e w1 ⟨rfl,hb⟩;have HB:=jt HB hb;replace c0:=(hb.cell hlt).trans c0;replace c1:=(hb.cell (p:=⟨p.block,p.off+1,none⟩) hlt).trans c1;replace c2:=(hb.cell (p:=⟨p.block,p.off+2,none⟩) hlt).trans c2;replace c3:=(hb.cell (p:=⟨p.block,p.off+3,none⟩) hlt).trans c3;replace c4:=(hb.cell (p:=⟨p.block,p.off+4,none⟩) hlt).trans c4;replace hlt:=Nat.lt_of_lt_of_le hlt hb.size;clear hb;cases ii
    ·go_wp2;go_ret;exact⟨zA1 (by rw[HQ.out];rfl),HB.out⟩
    ·by_cases hn1:ts.length=0
     ·have hn3:¬(0:Int)<(ts.length:Int):=by omega
      go_wp2;go_ret;exact⟨zA1 (by rw[HQ.out];rw[decide_eq_false (by omega)];rfl),HB.out⟩
     ·have hn3:(0:Int)<(ts.length:Int):=by omega
      go_wp2;go_ret;exact⟨zA1 (by rw[HQ.out];rw[decide_eq_true (by omega)];rfl),HB.out⟩
 ·cases hf1:f.toList.isEmpty
  ·skip
   go_enter Tryz.func127,Tryz.ntmps127;go_wp2_with fail;refine(HF.out _).mono ?_;rintro e w1 ⟨rfl,hb⟩;have HB:=jt HB hb;replace c0:=(hb.cell hlt).trans c0;replace c1:=(hb.cell (p:=⟨p.block,p.off+1,none⟩) hlt).trans c1;replace c2:=(hb.cell (p:=⟨p.block,p.off+2,none⟩) hlt).trans c2;replace c3:=(hb.cell (p:=⟨p.block,p.off+3,none⟩) hlt).trans c3;replace c4:=(hb.cell (p:=⟨p.block,p.off+4,none⟩) hlt).trans c4;replace hlt:=Nat.lt_of_lt_of_le hlt hb.size;clear hb;cases fm
   ·go_wp2;go_ret;exact⟨zA1 (by rw[HQ.out];rfl),HB.out⟩
   ·go_wp2_with fail;refine(HN.out _).mono ?_;rintro e w1 ⟨rfl,hb⟩;have HB:=jt HB hb;replace c0:=(hb.cell hlt).trans c0;replace c1:=(hb.cell (p:=⟨p.block,p.off+1,none⟩) hlt).trans c1;replace c2:=(hb.cell (p:=⟨p.block,p.off+2,none⟩) hlt).trans c2;replace c3:=(hb.cell (p:=⟨p.block,p.off+3,none⟩) hlt).trans c3;replace c4:=(hb.cell (p:=⟨p.block,p.off+4,none⟩) hlt).trans c4;replace hlt:=Nat.lt_of_lt_of_le hlt hb.size;clear hb;cases nm
    ·go_wp2;go_ret;exact⟨zA1 (by rw[HQ.out];rfl),HB.out⟩
    ·go_wp2_with fail;refine(HI.out _).mono ?_;rintro e w1 ⟨rfl,hb⟩;have HB:=jt HB hb;replace c0:=(hb.cell hlt).trans c0;replace c1:=(hb.cell (p:=⟨p.block,p.off+1,none⟩) hlt).trans c1;replace c2:=(hb.cell (p:=⟨p.block,p.off+2,none⟩) hlt).trans c2;replace c3:=(hb.cell (p:=⟨p.block,p.off+3,none⟩) hlt).trans c3;replace c4:=(hb.cell (p:=⟨p.block,p.off+4,none⟩) hlt).trans c4;replace hlt:=Nat.lt_of_lt_of_le hlt hb.size;clear hb;cases ii
     ·go_wp2;go_ret;exact⟨zA1 (by rw[HQ.out];rfl),HB.out⟩
     ·by_cases hn1:ts.length=0
      ·have hn3:¬(0:Int)<(ts.length:Int):=by omega
       go_wp2;go_ret;exact⟨zA1 (by rw[HQ.out];rw[decide_eq_false (by omega)];rfl),HB.out⟩
      ·have hn3:(0:Int)<(ts.length:Int):=by omega
       go_wp2;go_ret;exact⟨zA1 (by rw[HQ.out];rw[decide_eq_true (by omega)];rfl),HB.out⟩
  ·by_cases hn1:ts.length=0
   ·have hn2:((ts.length:Int)==0)=true:=by rw[beq_iff_eq];omega
    have hn3:¬(0:Int)<(ts.length:Int):=by omega
    go_enter Tryz.func127,Tryz.ntmps127;go_wp2_with fail;refine(HF.out _).mono ?_;rintro e w1 ⟨rfl,hb⟩;have HB:=jt HB hb;replace c0:=(hb.cell hlt).trans c0;replace c1:=(hb.cell (p:=⟨p.block,p.off+1,none⟩) hlt).trans c1;replace c2:=(hb.cell (p:=⟨p.block,p.off+2,none⟩) hlt).trans c2;replace c3:=(hb.cell (p:=⟨p.block,p.off+3,none⟩) hlt).trans c3;replace c4:=(hb.cell (p:=⟨p.block,p.off+4,none⟩) hlt).trans c4;replace hlt:=Nat.lt_of_lt_of_le hlt hb.size;clear hb;cases fm
    ·go_wp2;go_ret;exact⟨zA1 (by rw[HQ.out];rfl),HB.out⟩
    ·go_wp2_with fail;refine(HN.out _).mono ?_;rintro e w1 ⟨rfl,hb⟩;have HB:=jt HB hb;replace c0:=(hb.cell hlt).trans c0;replace c1:=(hb.cell (p:=⟨p.block,p.off+1,none⟩) hlt).trans c1;replace c2:=(hb.cell (p:=⟨p.block,p.off+2,none⟩) hlt).trans c2;replace c3:=(hb.cell (p:=⟨p.block,p.off+3,none⟩) hlt).trans c3;replace c4:=(hb.cell (p:=⟨p.block,p.off+4,none⟩) hlt).trans c4;replace hlt:=Nat.lt_of_lt_of_le hlt hb.size;clear hb;cases nm
     ·go_wp2;go_ret;exact⟨zA1 (by rw[HQ.out];rfl),HB.out⟩
     ·go_wp2_with fail;refine(HI.out _).mono ?_;rintro e w1 ⟨rfl,hb⟩;have HB:=jt HB hb;replace c0:=(hb.cell hlt).trans c0;replace c1:=(hb.cell (p:=⟨p.block,p.off+1,none⟩) hlt).trans c1;replace c2:=(hb.cell (p:=⟨p.block,p.off+2,none⟩) hlt).trans c2;replace c3:=(hb.cell (p:=⟨p.block,p.off+3,none⟩) hlt).trans c3;replace c4:=(hb.cell (p:=⟨p.block,p.off+4,none⟩) hlt).trans c4;replace hlt:=Nat.lt_of_lt_of_le hlt hb.size;clear hb;cases ii
      ·go_wp2;go_ret;exact⟨zA1 (by rw[HQ.out];rfl),HB.out⟩
      ·go_wp2;go_ret;exact⟨zA1 (by rw[HQ.out];rw[decide_eq_false (by omega)];rfl),HB.out⟩
   ·have hn2:((ts.length:Int)==0)=false:=by rw[beq_eq_false_iff_ne];omega
    have hn3:(0:Int)<(ts.length:Int):=by omega
    go_enter Tryz.func127,Tryz.ntmps127;go_wp2_with fail;refine(HF.out _).mono ?_;rintro e w1 ⟨rfl,hb⟩;have HB:=jt HB hb;replace c0:=(hb.cell hlt).trans c0;replace c1:=(hb.cell (p:=⟨p.block,p.off+1,none⟩) hlt).trans c1;replace c2:=(hb.cell (p:=⟨p.block,p.off+2,none⟩) hlt).trans c2;replace c3:=(hb.cell (p:=⟨p.block,p.off+3,none⟩) hlt).trans c3;replace c4:=(hb.cell (p:=⟨p.block,p.off+4,none⟩) hlt).trans c4;replace hlt:=Nat.lt_of_lt_of_le hlt hb.size;clear hb;cases fm
    ·go_wp2;go_ret;exact⟨zA1 (by rw[HQ.out];rfl),HB.out⟩
    ·go_wp2_with fail;refine(HN.out _).mono ?_;rintro e w1 ⟨rfl,hb⟩;have HB:=jt HB hb;replace c0:=(hb.cell hlt).trans c0;replace c1:=(hb.cell (p:=⟨p.block,p.off+1,none⟩) hlt).trans c1;replace c2:=(hb.cell (p:=⟨p.block,p.off+2,none⟩) hlt).trans c2;replace c3:=(hb.cell (p:=⟨p.block,p.off+3,none⟩) hlt).trans c3;replace c4:=(hb.cell (p:=⟨p.block,p.off+4,none⟩) hlt).trans c4;replace hlt:=Nat.lt_of_lt_of_le hlt hb.size;clear hb;cases nm
     ·go_wp2;go_ret;exact⟨zA1 (by rw[HQ.out];rfl),HB.out⟩
     ·go_wp2_with fail;refine(HI.out _).mono ?_;rintro e w1 ⟨rfl,hb⟩;have HB:=jt HB hb;replace c0:=(hb.cell hlt).trans c0;replace c1:=(hb.cell (p:=⟨p.block,p.off+1,none⟩) hlt).trans c1;replace c2:=(hb.cell (p:=⟨p.block,p.off+2,none⟩) hlt).trans c2;replace c3:=(hb.cell (p:=⟨p.block,p.off+3,none⟩) hlt).trans c3;replace c4:=(hb.cell (p:=⟨p.block,p.off+4,none⟩) hlt).trans c4;replace hlt:=Nat.lt_of_lt_of_le hlt hb.size;clear hb;cases ii
      ·go_wp2;go_ret;exact⟨zA1 (by rw[HQ.out];rfl),HB.out⟩
      ·go_wp2;go_ret;exact⟨zA1 (by rw[HQ.out];rw[decide_eq_true (by omega)];rfl),HB.out⟩
theorem yDc (k:Int)(a v f:ByteArray)(ts:List Trm)(p:Addr)(A:Option Addr)(cap:Nat)(w:World)(hP:PtM w p (.mk k a v f ts) A cap)(h1:(k==1)=false)(h2:(k==2)=false)(h3:(k==3)=false)(h4:(k==4)=false)(h5:(k==5)=false):Calls Tryz.prog 127 #[.pointer (some p)] w fun e w'=>e= .returned (.bool (ownM k a.toList v.toList f.toList ts.length))/\Below w.heap.size w w':=by
 obtain⟨hlt,c0,c1,c2,c3,c4,ha,hv,hf,hn,hc,-⟩:=hP;dsimp only[Trm.kind,Trm.nam,Trm.vr,Trm.form,Trm.args] at c0 c1 c2 c3 c4 ha hv hf hn;have HB:=zh (Below.refl w.heap.size w);have HF:=zh (fun w=>zF2 f 33 16 w hf);have HQ:=zh (show ownM k a.toList v.toList f.toList ts.length=false by unfold ownM;rw[if_neg (beq_eq_false_iff_ne.1 h1),if_neg (beq_eq_false_iff_ne.1 h2),if_neg (beq_eq_false_iff_ne.1 h3),if_neg (beq_eq_false_iff_ne.1 h4),if_neg (beq_eq_false_iff_ne.1 h5)]);generalize (zCu 33 f.toList&&decide (f.toList.length<=16))=fm at*;cases hv1:v.toList.isEmpty
 ·skip
  go_enter Tryz.func127,Tryz.ntmps127;go_wp2_with fail;refine(HF.out _).mono ?_;rintro e w1 ⟨rfl,hb⟩;have HB:=jt HB hb;replace c0:=(hb.cell hlt).trans c0;replace c1:=(hb.cell (p:=⟨p.block,p.off+1,none⟩) hlt).trans c1;replace c2:=(hb.cell (p:=⟨p.block,p.off+2,none⟩) hlt).trans c2;replace c3:=(hb.cell (p:=⟨p.block,p.off+3,none⟩) hlt).trans c3;replace c4:=(hb.cell (p:=⟨p.block,p.off+4,none⟩) hlt).trans c4;replace hlt:=Nat.lt_of_lt_of_le hlt hb.size;clear hb;go_wp2;go_ret;exact⟨zA1 (by rw[HQ.out]),HB.out⟩
 ·cases hf1:f.toList.isEmpty
  ·skip
   go_enter Tryz.func127,Tryz.ntmps127;go_wp2_with fail;refine(HF.out _).mono ?_;rintro e w1 ⟨rfl,hb⟩;have HB:=jt HB hb;replace c0:=(hb.cell hlt).trans c0;replace c1:=(hb.cell (p:=⟨p.block,p.off+1,none⟩) hlt).trans c1;replace c2:=(hb.cell (p:=⟨p.block,p.off+2,none⟩) hlt).trans c2;replace c3:=(hb.cell (p:=⟨p.block,p.off+3,none⟩) hlt).trans c3;replace c4:=(hb.cell (p:=⟨p.block,p.off+4,none⟩) hlt).trans c4;replace hlt:=Nat.lt_of_lt_of_le hlt hb.size;clear hb;go_wp2;go_ret;exact⟨zA1 (by rw[HQ.out]),HB.out⟩
  ·by_cases hn1:ts.length=0
   ·have hn2:((ts.length:Int)==0)=true:=by rw[beq_iff_eq];omega
    have hn3:¬(0:Int)<(ts.length:Int):=by omega
    go_enter Tryz.func127,Tryz.ntmps127;go_wp2_with fail;refine(HF.out _).mono ?_;rintro e w1 ⟨rfl,hb⟩;have HB:=jt HB hb;replace c0:=(hb.cell hlt).trans c0;replace c1:=(hb.cell (p:=⟨p.block,p.off+1,none⟩) hlt).trans c1;replace c2:=(hb.cell (p:=⟨p.block,p.off+2,none⟩) hlt).trans c2;replace c3:=(hb.cell (p:=⟨p.block,p.off+3,none⟩) hlt).trans c3;replace c4:=(hb.cell (p:=⟨p.block,p.off+4,none⟩) hlt).trans c4;replace hlt:=Nat.lt_of_lt_of_le hlt hb.size;clear hb;go_wp2;go_ret;exact⟨zA1 (by rw[HQ.out]),HB.out⟩
   ·have hn2:((ts.length:Int)==0)=false:=by rw[beq_eq_false_iff_ne];omega
    have hn3:(0:Int)<(ts.length:Int):=by omega
    go_enter Tryz.func127,Tryz.ntmps127;go_wp2_with fail;refine(HF.out _).mono ?_;rintro e w1 ⟨rfl,hb⟩;have HB:=jt HB hb;replace c0:=(hb.cell hlt).trans c0;replace c1:=(hb.cell (p:=⟨p.block,p.off+1,none⟩) hlt).trans c1;replace c2:=(hb.cell (p:=⟨p.block,p.off+2,none⟩) hlt).trans c2;replace c3:=(hb.cell (p:=⟨p.block,p.off+3,none⟩) hlt).trans c3;replace c4:=(hb.cell (p:=⟨p.block,p.off+4,none⟩) hlt).trans c4;replace hlt:=Nat.lt_of_lt_of_le hlt hb.size;clear hb;go_wp2;go_ret;exact⟨zA1 (by rw[HQ.out]),HB.out⟩
theorem zGz (t:Trm)(p:Addr)(A:Option Addr)(cap:Nat)(w:World)(hP:PtM w p t A cap):Calls Tryz.prog 127 #[.pointer (some p)] w fun e w'=>e= .returned (.bool (ownM t.kind t.nam.data.toList t.vr.data.toList t.form.data.toList t.args.length))/\Below w.heap.size w w':=by
 obtain⟨k,a,v,f,ts⟩:=t;dsimp only[Trm.kind,Trm.nam,Trm.vr,Trm.form,Trm.args];rw[<-ByteArray.toList_eq,<-ByteArray.toList_eq,<-ByteArray.toList_eq]
 by_cases h1:k=1
 ·subst h1;exact yAt a v f ts p A cap w hP
 by_cases h2:k=2
 ·subst h2;exact yDh a v f ts p A cap w hP
 by_cases h3:k=3
 ·subst h3;exact yDk a v f ts p A cap w hP
 by_cases h4:k=4
 ·subst h4;exact yDb a v f ts p A cap w hP
 by_cases h5:k=5
 ·subst h5;exact yDl a v f ts p A cap w hP
 exact yDc k a v f ts p A cap w hP (beq_eq_false_iff_ne.2 h1) (beq_eq_false_iff_ne.2 h2) (beq_eq_false_iff_ne.2 h3) (beq_eq_false_iff_ne.2 h4) (beq_eq_false_iff_ne.2 h5)
end Go.Proofs.YtapgncbegadbnaaGreatDoor.Sp
