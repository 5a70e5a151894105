/- The fields of a term: the reference. -/
import Derived.Test.YtapgncbegadbnaaGreatDoorHa8b27224
import Derived.Test.YtapgncbegadbnaaGreatDoorH5b393dad
set_option maxRecDepth 100000
set_option maxHeartbeats 1600000
namespace Go.Proofs.YtapgncbegadbnaaGreatDoor
namespace Sp
open At Go.RowKit
theorem yD4 (a v f:ByteArray)(n:Nat)(A:Option Addr)(cap:Nat)(w:World)(ha:a.size<=9223372036854775807)(hn:n<=9223372036854775807):Calls Tryz.prog 117 #[.agg (trmC 1 a v A n cap f)] w fun e w'=>e= .returned (.bool (ownM 1 a.toList v.toList f.toList n))/\Below w.heap.size w w':=by
 have HQ:=zh (show ownM 1 a.toList v.toList f.toList n=((v.toList.isEmpty&&(f.toList.isEmpty&&decide (n=0)))&&numP a.toList) from rfl);have HN:=zh (fun w=>zWe a w ha);generalize numP a.toList=rr at*
 by_cases hn1:n=0
 ·have hn2:((n:Int)==0)=true:=by rw[beq_iff_eq];omega
  have hn3:¬(0:Int)<(n:Int):=by omega
  replace hn1:=zh hn1;cases hv1:v.toList.isEmpty
  ·skip
   rw[hv1] at HQ;go_enter Tryz.func117,Tryz.ntmps117;go_wp2_with fail;have K0:=zh (Blk.new w 47 (trmC 1 a v A n cap f));have HB:=zh (zA0 w (.cells (trmC 1 a v A n cap f) 47));dsimp only[trmC] at K0 HB;generalize w.alloc (.cells #[qI 1,.string a,.string v,.slice A n cap,.string f] 47)=wz at*;obtain⟨c0,c1,c2,c3,c4⟩:=qc K0;have hlt:=K0.out.lt;go_wp2;go_ret;exact⟨zA1 (by rw[HQ.out];rfl),HB.out⟩
  ·cases hf1:f.toList.isEmpty
   ·skip
    rw[hv1,hf1] at HQ;go_enter Tryz.func117,Tryz.ntmps117;go_wp2_with fail;have K0:=zh (Blk.new w 47 (trmC 1 a v A n cap f));have HB:=zh (zA0 w (.cells (trmC 1 a v A n cap f) 47));dsimp only[trmC] at K0 HB;generalize w.alloc (.cells #[qI 1,.string a,.string v,.slice A n cap,.string f] 47)=wz at*;obtain⟨c0,c1,c2,c3,c4⟩:=qc K0;have hlt:=K0.out.lt;go_wp2;go_ret;exact⟨zA1 (by rw[HQ.out];rfl),HB.out⟩
   ·skip
    rw[hv1,hf1,decide_eq_true hn1.out,Bool.true_and,Bool.true_and,Bool.true_and] at HQ;clear hn1;go_enter Tryz.func117,Tryz.ntmps117;go_wp2_with fail;have K0:=zh (Blk.new w 47 (trmC 1 a v A n cap f));have HB:=zh (zA0 w (.cells (trmC 1 a v A n cap f) 47));dsimp only[trmC] at K0 HB;generalize w.alloc (.cells #[qI 1,.string a,.string v,.slice A n cap,.string f] 47)=wz at*;obtain⟨c0,c1,c2,c3,c4⟩:=qc K0;have hlt:=K0.out.lt
    skip
    refine(HN.out _).mono ?_;rintro e w1 ⟨rfl,hb⟩;have HB:=jt HB hb;replace c0:=(hb.cell (p:=⟨w.heap.size,0,none⟩) hlt).trans c0;replace c1:=(hb.cell (p:=⟨w.heap.size,1,none⟩) hlt).trans c1;replace c2:=(hb.cell (p:=⟨w.heap.size,2,none⟩) hlt).trans c2;replace c3:=(hb.cell (p:=⟨w.heap.size,3,none⟩) hlt).trans c3;replace c4:=(hb.cell (p:=⟨w.heap.size,4,none⟩) hlt).trans c4;replace hlt:=Nat.lt_of_lt_of_le hlt hb.size;clear hb;go_wp2;go_ret;exact⟨zA1 (by rw[HQ.out]),HB.out⟩
 ·have hn2:((n:Int)==0)=false:=by rw[beq_eq_false_iff_ne];omega
  have hn3:(0:Int)<(n:Int):=by omega
  replace hn1:=zh hn1;rw[decide_eq_false hn1.out,Bool.and_false,Bool.and_false] at HQ;clear hn1;go_enter Tryz.func117,Tryz.ntmps117;go_wp2_with fail;have K0:=zh (Blk.new w 47 (trmC 1 a v A n cap f));have HB:=zh (zA0 w (.cells (trmC 1 a v A n cap f) 47));dsimp only[trmC] at K0 HB;generalize w.alloc (.cells #[qI 1,.string a,.string v,.slice A n cap,.string f] 47)=wz at*;obtain⟨c0,c1,c2,c3,c4⟩:=qc K0;have hlt:=K0.out.lt;go_wp2;go_ret;exact⟨zA1 (by rw[HQ.out];rfl),HB.out⟩
theorem yCz (a v f:ByteArray)(n:Nat)(A:Option Addr)(cap:Nat)(w:World)(ha:a.size<=9223372036854775807)(hn:n<=9223372036854775807):Calls Tryz.prog 117 #[.agg (trmC 2 a v A n cap f)] w fun e w'=>e= .returned (.bool (ownM 2 a.toList v.toList f.toList n))/\Below w.heap.size w w':=by
 have HQ:=zh (show ownM 2 a.toList v.toList f.toList n=((v.toList.isEmpty&&(f.toList.isEmpty&&decide (n=0)))&&idB a.toList) from rfl);have HN:=zh (fun w=>zG3 a w ha);generalize idB a.toList=rr at*
 by_cases hn1:n=0
 ·have hn2:((n:Int)==0)=true:=by rw[beq_iff_eq];omega
  have hn3:¬(0:Int)<(n:Int):=by omega
  replace hn1:=zh hn1;cases hv1:v.toList.isEmpty
  ·skip
   rw[hv1] at HQ;go_enter Tryz.func117,Tryz.ntmps117;go_wp2_with fail;have K0:=zh (Blk.new w 47 (trmC 2 a v A n cap f));have HB:=zh (zA0 w (.cells (trmC 2 a v A n cap f) 47));dsimp only[trmC] at K0 HB;generalize w.alloc (.cells #[qI 2,.string a,.string v,.slice A n cap,.string f] 47)=wz at*;obtain⟨c0,c1,c2,c3,c4⟩:=qc K0;have hlt:=K0.out.lt;go_wp2;go_ret;exact⟨zA1 (by rw[HQ.out];rfl),HB.out⟩
  ·cases hf1:f.toList.isEmpty
   ·skip
    rw[hv1,hf1] at HQ;go_enter Tryz.func117,Tryz.ntmps117;go_wp2_with fail;have K0:=zh (Blk.new w 47 (trmC 2 a v A n cap f));have HB:=zh (zA0 w (.cells (trmC 2 a v A n cap f) 47));dsimp only[trmC] at K0 HB;generalize w.alloc (.cells #[qI 2,.string a,.string v,.slice A n cap,.string f] 47)=wz at*;obtain⟨c0,c1,c2,c3,c4⟩:=qc K0;have hlt:=K0.out.lt;go_wp2;go_ret;exact⟨zA1 (by rw[HQ.out];rfl),HB.out⟩
   ·skip
    rw[hv1,hf1,decide_eq_true hn1.out,Bool.true_and,Bool.true_and,Bool.true_and] at HQ;clear hn1;go_enter Tryz.func117,Tryz.ntmps117;go_wp2_with fail;have K0:=zh (Blk.new w 47 (trmC 2 a v A n cap f));have HB:=zh (zA0 w (.cells (trmC 2 a v A n cap f) 47));dsimp only[trmC] at K0 HB;generalize w.alloc (.cells #[qI 2,.string a,.string v,.slice A n cap,.string f] 47)=wz at*;obtain⟨c0,c1,c2,c3,c4⟩:=qc K0;have hlt:=K0.out.lt
    skip
    refine(HN.out _).mono ?_;rintro e w1 ⟨rfl,hb⟩;have HB:=jt HB hb;replace c0:=(hb.cell (p:=⟨w.heap.size,0,none⟩) hlt).trans c0;replace c1:=(hb.cell (p:=⟨w.heap.size,1,none⟩) hlt).trans c1;replace c2:=(hb.cell (p:=⟨w.heap.size,2,none⟩) hlt).trans c2;replace c3:=(hb.cell (p:=⟨w.heap.size,3,none⟩) hlt).trans c3;replace c4:=(hb.cell (p:=⟨w.heap.size,4,none⟩) hlt).trans c4;replace hlt:=Nat.lt_of_lt_of_le hlt hb.size;clear hb;go_wp2;go_ret;exact⟨zA1 (by rw[HQ.out]),HB.out⟩
 ·have hn2:((n:Int)==0)=false:=by rw[beq_eq_false_iff_ne];omega
  have hn3:(0:Int)<(n:Int):=by omega
  replace hn1:=zh hn1;rw[decide_eq_false hn1.out,Bool.and_false,Bool.and_false] at HQ;clear hn1;go_enter Tryz.func117,Tryz.ntmps117;go_wp2_with fail;have K0:=zh (Blk.new w 47 (trmC 2 a v A n cap f));have HB:=zh (zA0 w (.cells (trmC 2 a v A n cap f) 47));dsimp only[trmC] at K0 HB;generalize w.alloc (.cells #[qI 2,.string a,.string v,.slice A n cap,.string f] 47)=wz at*;obtain⟨c0,c1,c2,c3,c4⟩:=qc K0;have hlt:=K0.out.lt;go_wp2;go_ret;exact⟨zA1 (by rw[HQ.out];rfl),HB.out⟩
theorem yD2 (a v f:ByteArray)(n:Nat)(A:Option Addr)(cap:Nat)(w:World)(ha:a.size<=9223372036854775807)(hn:n<=9223372036854775807):Calls Tryz.prog 117 #[.agg (trmC 3 a v A n cap f)] w fun e w'=>e= .returned (.bool (ownM 3 a.toList v.toList f.toList n))/\Below w.heap.size w w':=by
 have HQ:=zh (show ownM 3 a.toList v.toList f.toList n=((v.toList.isEmpty&&(f.toList.isEmpty&&decide (n=0)))&&(zCu 32 a.toList&&decide (a.toList.length<=200))) from rfl);have HN:=zh (fun w=>zKo a 32 200 w ha);generalize (zCu 32 a.toList&&decide (a.toList.length<=200))=rr at*
 by_cases hn1:n=0
 ·have hn2:((n:Int)==0)=true:=by rw[beq_iff_eq];omega
  have hn3:¬(0:Int)<(n:Int):=by omega
  replace hn1:=zh hn1;cases hv1:v.toList.isEmpty
  ·skip
   rw[hv1] at HQ;go_enter Tryz.func117,Tryz.ntmps117;go_wp2_with fail;have K0:=zh (Blk.new w 47 (trmC 3 a v A n cap f));have HB:=zh (zA0 w (.cells (trmC 3 a v A n cap f) 47));dsimp only[trmC] at K0 HB;generalize w.alloc (.cells #[qI 3,.string a,.string v,.slice A n cap,.string f] 47)=wz at*;obtain⟨c0,c1,c2,c3,c4⟩:=qc K0;have hlt:=K0.out.lt;go_wp2;go_ret;exact⟨zA1 (by rw[HQ.out];rfl),HB.out⟩
  ·cases hf1:f.toList.isEmpty
   ·skip
    rw[hv1,hf1] at HQ;go_enter Tryz.func117,Tryz.ntmps117;go_wp2_with fail;have K0:=zh (Blk.new w 47 (trmC 3 a v A n cap f));have HB:=zh (zA0 w (.cells (trmC 3 a v A n cap f) 47));dsimp only[trmC] at K0 HB;generalize w.alloc (.cells #[qI 3,.string a,.string v,.slice A n cap,.string f] 47)=wz at*;obtain⟨c0,c1,c2,c3,c4⟩:=qc K0;have hlt:=K0.out.lt;go_wp2;go_ret;exact⟨zA1 (by rw[HQ.out];rfl),HB.out⟩
   ·skip
    rw[hv1,hf1,decide_eq_true hn1.out,Bool.true_and,Bool.true_and,Bool.true_and] at HQ;clear hn1;go_enter Tryz.func117,Tryz.ntmps117;go_wp2_with fail;have K0:=zh (Blk.new w 47 (trmC 3 a v A n cap f));have HB:=zh (zA0 w (.cells (trmC 3 a v A n cap f) 47));dsimp only[trmC] at K0 HB;generalize w.alloc (.cells #[qI 3,.string a,.string v,.slice A n cap,.string f] 47)=wz at*;obtain⟨c0,c1,c2,c3,c4⟩:=qc K0;have hlt:=K0.out.lt
    skip
    refine(HN.out _).mono ?_;rintro e w1 ⟨rfl,hb⟩;have HB:=jt HB hb;replace c0:=(hb.cell (p:=⟨w.heap.size,0,none⟩) hlt).trans c0;replace c1:=(hb.cell (p:=⟨w.heap.size,1,none⟩) hlt).trans c1;replace c2:=(hb.cell (p:=⟨w.heap.size,2,none⟩) hlt).trans c2;replace c3:=(hb.cell (p:=⟨w.heap.size,3,none⟩) hlt).trans c3;replace c4:=(hb.cell (p:=⟨w.heap.size,4,none⟩) hlt).trans c4;replace hlt:=Nat.lt_of_lt_of_le hlt hb.size;clear hb;go_wp2;go_ret;exact⟨zA1 (by rw[HQ.out]),HB.out⟩
 ·have hn2:((n:Int)==0)=false:=by rw[beq_eq_false_iff_ne];omega
  have hn3:(0:Int)<(n:Int):=by omega
  replace hn1:=zh hn1;rw[decide_eq_false hn1.out,Bool.and_false,Bool.and_false] at HQ;clear hn1;go_enter Tryz.func117,Tryz.ntmps117;go_wp2_with fail;have K0:=zh (Blk.new w 47 (trmC 3 a v A n cap f));have HB:=zh (zA0 w (.cells (trmC 3 a v A n cap f) 47));dsimp only[trmC] at K0 HB;generalize w.alloc (.cells #[qI 3,.string a,.string v,.slice A n cap,.string f] 47)=wz at*;obtain⟨c0,c1,c2,c3,c4⟩:=qc K0;have hlt:=K0.out.lt;go_wp2;go_ret;exact⟨zA1 (by rw[HQ.out];rfl),HB.out⟩
theorem yD9 (a v f:ByteArray)(n:Nat)(A:Option Addr)(cap:Nat)(w:World)(ha:a.size<=9223372036854775807)(hf:f.size<=9223372036854775807)(hn:n<=9223372036854775807):Calls Tryz.prog 117 #[.agg (trmC 4 a v A n cap f)] w fun e w'=>e= .returned (.bool (ownM 4 a.toList v.toList f.toList n))/\Below w.heap.size w w':=by
 have HQ:=zh (show ownM 4 a.toList v.toList f.toList n=((zCu 33 f.toList&&decide (f.toList.length<=16))&&(zAl a.toList&&v.toList.isEmpty)) from rfl);have HN:=zh (fun w=>zRv a w ha);have HF:=zh (fun w=>zKo f 33 16 w hf);generalize (zCu 33 f.toList&&decide (f.toList.length<=16))=fm at*;generalize zAl a.toList=nm at*
 by_cases hn1:n=0
 ·have hn2:((n:Int)==0)=true:=by rw[beq_iff_eq];omega
  have hn3:¬(0:Int)<(n:Int):=by omega
  replace hn1:=zh hn1;cases hv1:v.toList.isEmpty
  ·skip
   rw[hv1] at HQ;go_enter Tryz.func117,Tryz.ntmps117;go_wp2_with fail;have K0:=zh (Blk.new w 47 (trmC 4 a v A n cap f));have HB:=zh (zA0 w (.cells (trmC 4 a v A n cap f) 47));dsimp only[trmC] at K0 HB;generalize w.alloc (.cells #[qI 4,.string a,.string v,.slice A n cap,.string f] 47)=wz at*;obtain⟨c0,c1,c2,c3,c4⟩:=qc K0;have hlt:=K0.out.lt;refine(HN.out _).mono ?_;rintro e w1 ⟨rfl,hb⟩;have HB:=jt HB hb;replace c0:=(hb.cell (p:=⟨w.heap.size,0,none⟩) hlt).trans c0;replace c1:=(hb.cell (p:=⟨w.heap.size,1,none⟩) hlt).trans c1;replace c2:=(hb.cell (p:=⟨w.heap.size,2,none⟩) hlt).trans c2;replace c3:=(hb.cell (p:=⟨w.heap.size,3,none⟩) hlt).trans c3;replace c4:=(hb.cell (p:=⟨w.heap.size,4,none⟩) hlt).trans c4;replace hlt:=Nat.lt_of_lt_of_le hlt hb.size;clear hb;cases nm
   ·go_wp2;go_ret;exact⟨zA1 (by rw[HQ.out];cases fm<;>rfl),HB.out⟩
   ·go_wp2;go_ret;exact⟨zA1 (by rw[HQ.out];cases fm<;>rfl),HB.out⟩
  ·cases hf1:f.toList.isEmpty
   ·skip
    rw[hv1] at HQ;go_enter Tryz.func117,Tryz.ntmps117;go_wp2_with fail;have K0:=zh (Blk.new w 47 (trmC 4 a v A n cap f));have HB:=zh (zA0 w (.cells (trmC 4 a v A n cap f) 47));dsimp only[trmC] at K0 HB;generalize w.alloc (.cells #[qI 4,.string a,.string v,.slice A n cap,.string f] 47)=wz at*;obtain⟨c0,c1,c2,c3,c4⟩:=qc K0;have hlt:=K0.out.lt;refine(HN.out _).mono ?_;rintro e w1 ⟨rfl,hb⟩;have HB:=jt HB hb;replace c0:=(hb.cell (p:=⟨w.heap.size,0,none⟩) hlt).trans c0;replace c1:=(hb.cell (p:=⟨w.heap.size,1,none⟩) hlt).trans c1;replace c2:=(hb.cell (p:=⟨w.heap.size,2,none⟩) hlt).trans c2;replace c3:=(hb.cell (p:=⟨w.heap.size,3,none⟩) hlt).trans c3;replace c4:=(hb.cell (p:=⟨w.heap.size,4,none⟩) hlt).trans c4;replace hlt:=Nat.lt_of_lt_of_le hlt hb.size;clear hb;cases nm
    ·go_wp2;go_ret;exact⟨zA1 (by rw[HQ.out];cases fm<;>rfl),HB.out⟩
    ·go_wp2_with fail;refine(HF.out _).mono ?_;rintro e w1 ⟨rfl,hb⟩;have HB:=jt HB hb;replace c0:=(hb.cell (p:=⟨w.heap.size,0,none⟩) hlt).trans c0;replace c1:=(hb.cell (p:=⟨w.heap.size,1,none⟩) hlt).trans c1;replace c2:=(hb.cell (p:=⟨w.heap.size,2,none⟩) hlt).trans c2;replace c3:=(hb.cell (p:=⟨w.heap.size,3,none⟩) hlt).trans c3;replace c4:=(hb.cell (p:=⟨w.heap.size,4,none⟩) hlt).trans c4;replace hlt:=Nat.lt_of_lt_of_le hlt hb.size;clear hb;go_wp2;go_ret;exact⟨zA1 (by rw[HQ.out];cases fm<;>rfl),HB.out⟩
   ·skip
    rw[hv1] at HQ;go_enter Tryz.func117,Tryz.ntmps117;go_wp2_with fail;have K0:=zh (Blk.new w 47 (trmC 4 a v A n cap f));have HB:=zh (zA0 w (.cells (trmC 4 a v A n cap f) 47));dsimp only[trmC] at K0 HB;generalize w.alloc (.cells #[qI 4,.string a,.string v,.slice A n cap,.string f] 47)=wz at*;obtain⟨c0,c1,c2,c3,c4⟩:=qc K0;have hlt:=K0.out.lt;refine(HN.out _).mono ?_;rintro e w1 ⟨rfl,hb⟩;have HB:=jt HB hb;replace c0:=(hb.cell (p:=⟨w.heap.size,0,none⟩) hlt).trans c0;replace c1:=(hb.cell (p:=⟨w.heap.size,1,none⟩) hlt).trans c1;replace c2:=(hb.cell (p:=⟨w.heap.size,2,none⟩) hlt).trans c2;replace c3:=(hb.cell (p:=⟨w.heap.size,3,none⟩) hlt).trans c3;replace c4:=(hb.cell (p:=⟨w.heap.size,4,none⟩) hlt).trans c4;replace hlt:=Nat.lt_of_lt_of_le hlt hb.size;clear hb;cases nm
    ·go_wp2;go_ret;exact⟨zA1 (by rw[HQ.out];cases fm<;>rfl),HB.out⟩
    ·go_wp2_with fail;refine(HF.out _).mono ?_;rintro e w1 ⟨rfl,hb⟩;have HB:=jt HB hb;replace c0:=(hb.cell (p:=⟨w.heap.size,0,none⟩) hlt).trans c0;replace c1:=(hb.cell (p:=⟨w.heap.size,1,none⟩) hlt).trans c1;replace c2:=(hb.cell (p:=⟨w.heap.size,2,none⟩) hlt).trans c2;replace c3:=(hb.cell (p:=⟨w.heap.size,3,none⟩) hlt).trans c3;replace c4:=(hb.cell (p:=⟨w.heap.size,4,none⟩) hlt).trans c4;replace hlt:=Nat.lt_of_lt_of_le hlt hb.size;clear hb;go_wp2;go_ret;exact⟨zA1 (by rw[HQ.out];cases fm<;>rfl),HB.out⟩
 ·have hn2:((n:Int)==0)=false:=by rw[beq_eq_false_iff_ne];omega
  have hn3:(0:Int)<(n:Int):=by omega
  replace hn1:=zh hn1;cases hv1:v.toList.isEmpty
  ·skip
   rw[hv1] at HQ;go_enter Tryz.func117,Tryz.ntmps117;go_wp2_with fail;have K0:=zh (Blk.new w 47 (trmC 4 a v A n cap f));have HB:=zh (zA0 w (.cells (trmC 4 a v A n cap f) 47));dsimp only[trmC] at K0 HB;generalize w.alloc (.cells #[qI 4,.string a,.string v,.slice A n cap,.string f] 47)=wz at*;obtain⟨c0,c1,c2,c3,c4⟩:=qc K0;have hlt:=K0.out.lt;refine(HN.out _).mono ?_;rintro e w1 ⟨rfl,hb⟩;have HB:=jt HB hb;replace c0:=(hb.cell (p:=⟨w.heap.size,0,none⟩) hlt).trans c0;replace c1:=(hb.cell (p:=⟨w.heap.size,1,none⟩) hlt).trans c1;replace c2:=(hb.cell (p:=⟨w.heap.size,2,none⟩) hlt).trans c2;replace c3:=(hb.cell (p:=⟨w.heap.size,3,none⟩) hlt).trans c3;replace c4:=(hb.cell (p:=⟨w.heap.size,4,none⟩) hlt).trans c4;replace hlt:=Nat.lt_of_lt_of_le hlt hb.size;clear hb;cases nm
   ·go_wp2;go_ret;exact⟨zA1 (by rw[HQ.out];cases fm<;>rfl),HB.out⟩
   ·go_wp2;go_ret;exact⟨zA1 (by rw[HQ.out];cases fm<;>rfl),HB.out⟩
  ·skip
   rw[hv1] at HQ;go_enter Tryz.func117,Tryz.ntmps117;go_wp2_with fail;have K0:=zh (Blk.new w 47 (trmC 4 a v A n cap f));have HB:=zh (zA0 w (.cells (trmC 4 a v A n cap f) 47));dsimp only[trmC] at K0 HB;generalize w.alloc (.cells #[qI 4,.string a,.string v,.slice A n cap,.string f] 47)=wz at*;obtain⟨c0,c1,c2,c3,c4⟩:=qc K0;have hlt:=K0.out.lt;refine(HN.out _).mono ?_;rintro e w1 ⟨rfl,hb⟩;have HB:=jt HB hb;replace c0:=(hb.cell (p:=⟨w.heap.size,0,none⟩) hlt).trans c0;replace c1:=(hb.cell (p:=⟨w.heap.size,1,none⟩) hlt).trans c1;replace c2:=(hb.cell (p:=⟨w.heap.size,2,none⟩) hlt).trans c2;replace c3:=(hb.cell (p:=⟨w.heap.size,3,none⟩) hlt).trans c3;replace c4:=(hb.cell (p:=⟨w.heap.size,4,none⟩) hlt).trans c4;replace hlt:=Nat.lt_of_lt_of_le hlt hb.size;clear hb;cases nm
   ·go_wp2;go_ret;exact⟨zA1 (by rw[HQ.out];cases fm<;>rfl),HB.out⟩
   ·go_wp2_with fail;refine(HF.out _).mono ?_;rintro e w1 ⟨rfl,hb⟩;have HB:=jt HB hb;replace c0:=(hb.cell (p:=⟨w.heap.size,0,none⟩) hlt).trans c0;replace c1:=(hb.cell (p:=⟨w.heap.size,1,none⟩) hlt).trans c1;replace c2:=(hb.cell (p:=⟨w.heap.size,2,none⟩) hlt).trans c2;replace c3:=(hb.cell (p:=⟨w.heap.size,3,none⟩) hlt).trans c3;replace c4:=(hb.cell (p:=⟨w.heap.size,4,none⟩) hlt).trans c4;replace hlt:=Nat.lt_of_lt_of_le hlt hb.size;clear hb;go_wp2;go_ret;exact⟨zA1 (by rw[HQ.out];cases fm<;>rfl),HB.out⟩
theorem yCp (a v f:ByteArray)(n:Nat)(A:Option Addr)(cap:Nat)(w:World)(ha:a.size<=9223372036854775807)(hv:v.size<=9223372036854775807)(hf:f.size<=9223372036854775807)(hn:n<=9223372036854775807):Calls Tryz.prog 117 #[.agg (trmC 5 a v A n cap f)] w fun e w'=>e= .returned (.bool (ownM 5 a.toList v.toList f.toList n))/\Below w.heap.size w w':=by
 have HQ:=zh (show ownM 5 a.toList v.toList f.toList n=((zCu 33 f.toList&&decide (f.toList.length<=16))&&(zAl a.toList&&(idB v.toList&&decide (0<n)))) from rfl);have HN:=zh (fun w=>zRv a w ha);have HI:=zh (fun w=>zG3 v w hv);have HF:=zh (fun w=>zKo f 33 16 w hf);generalize (zCu 33 f.toList&&decide (f.toList.length<=16))=fm at*;generalize zAl a.toList=nm at*;generalize idB v.toList=ii at*
 by_cases hn1:n=0
 ·have hn2:((n:Int)==0)=true:=by rw[beq_iff_eq];omega
  have hn3:¬(0:Int)<(n:Int):=by omega
  replace hn1:=zh hn1;cases hv1:v.toList.isEmpty
  ·skip
   rw[show decide (0<n)=false by rw[decide_eq_false (by omega)]] at HQ;go_enter Tryz.func117,Tryz.ntmps117;go_wp2_with fail;have K0:=zh (Blk.new w 47 (trmC 5 a v A n cap f));have HB:=zh (zA0 w (.cells (trmC 5 a v A n cap f) 47));dsimp only[trmC] at K0 HB;generalize w.alloc (.cells #[qI 5,.string a,.string v,.slice A n cap,.string f] 47)=wz at*;obtain⟨c0,c1,c2,c3,c4⟩:=qc K0;have hlt:=K0.out.lt;refine(HN.out _).mono ?_;rintro e w1 ⟨rfl,hb⟩;have HB:=jt HB hb;replace c0:=(hb.cell (p:=⟨w.heap.size,0,none⟩) hlt).trans c0;replace c1:=(hb.cell (p:=⟨w.heap.size,1,none⟩) hlt).trans c1;replace c2:=(hb.cell (p:=⟨w.heap.size,2,none⟩) hlt).trans c2;replace c3:=(hb.cell (p:=⟨w.heap.size,3,none⟩) hlt).trans c3;replace c4:=(hb.cell (p:=⟨w.heap.size,4,none⟩) hlt).trans c4;replace hlt:=Nat.lt_of_lt_of_le hlt hb.size;clear hb;cases nm
   ·go_wp2;go_ret;exact⟨zA1 (by rw[HQ.out];cases fm<;>rfl),HB.out⟩
   ·go_wp2_with fail;refine(HI.out _).mono ?_;rintro e w1 ⟨rfl,hb⟩;have HB:=jt HB hb;replace c0:=(hb.cell (p:=⟨w.heap.size,0,none⟩) hlt).trans c0;replace c1:=(hb.cell (p:=⟨w.heap.size,1,none⟩) hlt).trans c1;replace c2:=(hb.cell (p:=⟨w.heap.size,2,none⟩) hlt).trans c2;replace c3:=(hb.cell (p:=⟨w.heap.size,3,none⟩) hlt).trans c3;replace c4:=(hb.cell (p:=⟨w.heap.size,4,none⟩) hlt).trans c4;replace hlt:=Nat.lt_of_lt_of_le hlt hb.size;clear hb;cases ii
    ·go_wp2;go_ret;exact⟨zA1 (by rw[HQ.out];cases fm<;>rfl),HB.out⟩
    ·go_wp2_with fail;refine(HF.out _).mono ?_;rintro e w1 ⟨rfl,hb⟩;have HB:=jt HB hb;replace c0:=(hb.cell (p:=⟨w.heap.size,0,none⟩) hlt).trans c0;replace c1:=(hb.cell (p:=⟨w.heap.size,1,none⟩) hlt).trans c1;replace c2:=(hb.cell (p:=⟨w.heap.size,2,none⟩) hlt).trans c2;replace c3:=(hb.cell (p:=⟨w.heap.size,3,none⟩) hlt).trans c3;replace c4:=(hb.cell (p:=⟨w.heap.size,4,none⟩) hlt).trans c4;replace hlt:=Nat.lt_of_lt_of_le hlt hb.size;clear hb;cases fm
     ·go_wp2;go_ret;exact⟨zA1 (by rw[HQ.out];rfl),HB.out⟩
     ·go_wp2;go_ret;exact⟨zA1 (by rw[HQ.out];first|rfl|(simp;omega)),HB.out⟩
  ·cases hf1:f.toList.isEmpty
   ·skip
    rw[show decide (0<n)=false by rw[decide_eq_false (by omega)]] at HQ;go_enter Tryz.func117,Tryz.ntmps117;go_wp2_with fail;have K0:=zh (Blk.new w 47 (trmC 5 a v A n cap f));have HB:=zh (zA0 w (.cells (trmC 5 a v A n cap f) 47));dsimp only[trmC] at K0 HB;generalize w.alloc (.cells #[qI 5,.string a,.string v,.slice A n cap,.string f] 47)=wz at*;obtain⟨c0,c1,c2,c3,c4⟩:=qc K0;have hlt:=K0.out.lt;refine(HN.out _).mono ?_;rintro e w1 ⟨rfl,hb⟩;have HB:=jt HB hb;replace c0:=(hb.cell (p:=⟨w.heap.size,0,none⟩) hlt).trans c0;replace c1:=(hb.cell (p:=⟨w.heap.size,1,none⟩) hlt).trans c1;replace c2:=(hb.cell (p:=⟨w.heap.size,2,none⟩) hlt).trans c2;replace c3:=(hb.cell (p:=⟨w.heap.size,3,none⟩) hlt).trans c3;replace c4:=(hb.cell (p:=⟨w.heap.size,4,none⟩) hlt).trans c4;replace hlt:=Nat.lt_of_lt_of_le hlt hb.size;clear hb;cases nm
    ·go_wp2;go_ret;exact⟨zA1 (by rw[HQ.out];cases fm<;>rfl),HB.out⟩
    ·go_wp2_with fail;refine(HI.out _).mono ?_;rintro e w1 ⟨rfl,hb⟩;have HB:=jt HB hb;replace c0:=(hb.cell (p:=⟨w.heap.size,0,none⟩) hlt).trans c0;replace c1:=(hb.cell (p:=⟨w.heap.size,1,none⟩) hlt).trans c1;replace c2:=(hb.cell (p:=⟨w.heap.size,2,none⟩) hlt).trans c2;replace c3:=(hb.cell (p:=⟨w.heap.size,3,none⟩) hlt).trans c3;replace c4:=(hb.cell (p:=⟨w.heap.size,4,none⟩) hlt).trans c4;replace hlt:=Nat.lt_of_lt_of_le hlt hb.size;clear hb;cases ii
     ·go_wp2;go_ret;exact⟨zA1 (by rw[HQ.out];cases fm<;>rfl),HB.out⟩
     ·go_wp2_with fail;refine(HF.out _).mono ?_;rintro e w1 ⟨rfl,hb⟩;have HB:=jt HB hb;replace c0:=(hb.cell (p:=⟨w.heap.size,0,none⟩) hlt).trans c0;replace c1:=(hb.cell (p:=⟨w.heap.size,1,none⟩) hlt).trans c1;replace c2:=(hb.cell (p:=⟨w.heap.size,2,none⟩) hlt).trans c2;replace c3:=(hb.cell (p:=⟨w.heap.size,3,none⟩) hlt).trans c3;replace c4:=(hb.cell (p:=⟨w.heap.size,4,none⟩) hlt).trans c4;replace hlt:=Nat.lt_of_lt_of_le hlt hb.size;clear hb;cases fm
      ·go_wp2;go_ret;exact⟨zA1 (by rw[HQ.out];rfl),HB.out⟩
      ·go_wp2;go_ret;exact⟨zA1 (by rw[HQ.out];first|rfl|(simp;omega)),HB.out⟩
   ·skip
    rw[show decide (0<n)=false by rw[decide_eq_false (by omega)]] at HQ;go_enter Tryz.func117,Tryz.ntmps117;go_wp2_with fail;have K0:=zh (Blk.new w 47 (trmC 5 a v A n cap f));have HB:=zh (zA0 w (.cells (trmC 5 a v A n cap f) 47));dsimp only[trmC] at K0 HB;generalize w.alloc (.cells #[qI 5,.string a,.string v,.slice A n cap,.string f] 47)=wz at*;obtain⟨c0,c1,c2,c3,c4⟩:=qc K0;have hlt:=K0.out.lt;refine(HN.out _).mono ?_;rintro e w1 ⟨rfl,hb⟩;have HB:=jt HB hb;replace c0:=(hb.cell (p:=⟨w.heap.size,0,none⟩) hlt).trans c0;replace c1:=(hb.cell (p:=⟨w.heap.size,1,none⟩) hlt).trans c1;replace c2:=(hb.cell (p:=⟨w.heap.size,2,none⟩) hlt).trans c2;replace c3:=(hb.cell (p:=⟨w.heap.size,3,none⟩) hlt).trans c3;replace c4:=(hb.cell (p:=⟨w.heap.size,4,none⟩) hlt).trans c4;replace hlt:=Nat.lt_of_lt_of_le hlt hb.size;clear hb;cases nm
    ·go_wp2;go_ret;exact⟨zA1 (by rw[HQ.out];cases fm<;>rfl),HB.out⟩
    ·go_wp2_with fail;refine(HI.out _).mono ?_;rintro e w1 ⟨rfl,hb⟩;have HB:=jt HB hb;replace c0:=(hb.cell (p:=⟨w.heap.size,0,none⟩) hlt).trans c0;replace c1:=(hb.cell (p:=⟨w.heap.size,1,none⟩) hlt).trans c1;replace c2:=(hb.cell (p:=⟨w.heap.size,2,none⟩) hlt).trans c2;replace c3:=(hb.cell (p:=⟨w.heap.size,3,none⟩) hlt).trans c3;replace c4:=(hb.cell (p:=⟨w.heap.size,4,none⟩) hlt).trans c4;replace hlt:=Nat.lt_of_lt_of_le hlt hb.size;clear hb;cases ii
     ·go_wp2;go_ret;exact⟨zA1 (by rw[HQ.out];cases fm<;>rfl),HB.out⟩
     ·go_wp2_with fail;refine(HF.out _).mono ?_;rintro e w1 ⟨rfl,hb⟩;have HB:=jt HB hb;replace c0:=(hb.cell (p:=⟨w.heap.size,0,none⟩) hlt).trans c0;replace c1:=(hb.cell (p:=⟨w.heap.size,1,none⟩) hlt).trans c1;replace c2:=(hb.cell (p:=⟨w.heap.size,2,none⟩) hlt).trans c2;replace c3:=(hb.cell (p:=⟨w.heap.size,3,none⟩) hlt).trans c3;replace c4:=(hb.cell (p:=⟨w.heap.size,4,none⟩) hlt).trans c4;replace hlt:=Nat.lt_of_lt_of_le hlt hb.size;clear hb;cases fm
      ·go_wp2;go_ret;exact⟨zA1 (by rw[HQ.out];rfl),HB.out⟩
      ·go_wp2;go_ret;exact⟨zA1 (by rw[HQ.out];first|rfl|(simp;omega)),HB.out⟩
 ·have hn2:((n:Int)==0)=false:=by rw[beq_eq_false_iff_ne];omega
  have hn3:(0:Int)<(n:Int):=by omega
  replace hn1:=zh hn1;rw[show decide (0<n)=true by rw[decide_eq_true (by omega)]] at HQ;go_enter Tryz.func117,Tryz.ntmps117;go_wp2_with fail;have K0:=zh (Blk.new w 47 (trmC 5 a v A n cap f));have HB:=zh (zA0 w (.cells (trmC 5 a v A n cap f) 47));dsimp only[trmC] at K0 HB;generalize w.alloc (.cells #[qI 5,.string a,.string v,.slice A n cap,.string f] 47)=wz at*;obtain⟨c0,c1,c2,c3,c4⟩:=qc K0;have hlt:=K0.out.lt;refine(HN.out _).mono ?_;rintro e w1 ⟨rfl,hb⟩;have HB:=jt HB hb;replace c0:=(hb.cell (p:=⟨w.heap.size,0,none⟩) hlt).trans c0;replace c1:=(hb.cell (p:=⟨w.heap.size,1,none⟩) hlt).trans c1;replace c2:=(hb.cell (p:=⟨w.heap.size,2,none⟩) hlt).trans c2;replace c3:=(hb.cell (p:=⟨w.heap.size,3,none⟩) hlt).trans c3;replace c4:=(hb.cell (p:=⟨w.heap.size,4,none⟩) hlt).trans c4;replace hlt:=Nat.lt_of_lt_of_le hlt hb.size;clear hb;cases nm
  ·go_wp2;go_ret;exact⟨zA1 (by rw[HQ.out];cases fm<;>rfl),HB.out⟩
  ·go_wp2_with fail;refine(HI.out _).mono ?_;rintro e w1 ⟨rfl,hb⟩;have HB:=jt HB hb;replace c0:=(hb.cell (p:=⟨w.heap.size,0,none⟩) hlt).trans c0;replace c1:=(hb.cell (p:=⟨w.heap.size,1,none⟩) hlt).trans c1;replace c2:=(hb.cell (p:=⟨w.heap.size,2,none⟩) hlt).trans c2;replace c3:=(hb.cell (p:=⟨w.heap.size,3,none⟩) hlt).trans c3;replace c4:=(hb.cell (p:=⟨w.heap.size,4,none⟩) hlt).trans c4;replace hlt:=Nat.lt_of_lt_of_le hlt hb.size;clear hb;cases ii
   ·go_wp2;go_ret;exact⟨zA1 (by rw[HQ.out];cases fm<;>rfl),HB.out⟩
   ·go_wp2_with fail;refine(HF.out _).mono ?_;rintro e w1 ⟨rfl,hb⟩;have HB:=jt HB hb;replace c0:=(hb.cell (p:=⟨w.heap.size,0,none⟩) hlt).trans c0;replace c1:=(hb.cell (p:=⟨w.heap.size,1,none⟩) hlt).trans c1;replace c2:=(hb.cell (p:=⟨w.heap.size,2,none⟩) hlt).trans c2;replace c3:=(hb.cell (p:=⟨w.heap.size,3,none⟩) hlt).trans c3;replace c4:=(hb.cell (p:=⟨w.heap.size,4,none⟩) hlt).trans c4;replace hlt:=Nat.lt_of_lt_of_le hlt hb.size;clear hb;cases fm
    ·go_wp2;go_ret;exact⟨zA1 (by rw[HQ.out];rfl),HB.out⟩
    ·go_wp2;go_ret;exact⟨zA1 (by rw[HQ.out];first|rfl|(simp;omega)),HB.out⟩
theorem yCs (k:Int)(a v f:ByteArray)(n:Nat)(A:Option Addr)(cap:Nat)(w:World)(hn:n<=9223372036854775807)(h1:(k==1)=false)(h2:(k==2)=false)(h3:(k==3)=false)(h4:(k==4)=false)(h5:(k==5)=false):Calls Tryz.prog 117 #[.agg (trmC k a v A n cap f)] w fun e w'=>e= .returned (.bool (ownM k a.toList v.toList f.toList n))/\Below w.heap.size w w':=by
 have HQ:=zh (show ownM k a.toList v.toList f.toList n=false by unfold ownM;rw[if_neg (beq_eq_false_iff_ne.1 h1),if_neg (beq_eq_false_iff_ne.1 h2),if_neg (beq_eq_false_iff_ne.1 h3),if_neg (beq_eq_false_iff_ne.1 h4),if_neg (beq_eq_false_iff_ne.1 h5)])
 by_cases hn1:n=0
 ·have hn2:((n:Int)==0)=true:=by rw[beq_iff_eq];omega
  have hn3:¬(0:Int)<(n:Int):=by omega
  replace hn1:=zh hn1;cases hv1:v.toList.isEmpty
  ·skip
   go_enter Tryz.func117,Tryz.ntmps117;go_wp2_with fail;have K0:=zh (Blk.new w 47 (trmC k a v A n cap f));have HB:=zh (zA0 w (.cells (trmC k a v A n cap f) 47));dsimp only[trmC] at K0 HB;generalize w.alloc (.cells #[qI k,.string a,.string v,.slice A n cap,.string f] 47)=wz at*;obtain⟨c0,c1,c2,c3,c4⟩:=qc K0;have hlt:=K0.out.lt;go_wp2;go_ret;exact⟨zA1 (by rw[HQ.out]),HB.out⟩
  ·cases hf1:f.toList.isEmpty
   ·skip
    go_enter Tryz.func117,Tryz.ntmps117;go_wp2_with fail;have K0:=zh (Blk.new w 47 (trmC k a v A n cap f));have HB:=zh (zA0 w (.cells (trmC k a v A n cap f) 47));dsimp only[trmC] at K0 HB;generalize w.alloc (.cells #[qI k,.string a,.string v,.slice A n cap,.string f] 47)=wz at*;obtain⟨c0,c1,c2,c3,c4⟩:=qc K0;have hlt:=K0.out.lt;go_wp2;go_ret;exact⟨zA1 (by rw[HQ.out]),HB.out⟩
   ·skip
    go_enter Tryz.func117,Tryz.ntmps117;go_wp2_with fail;have K0:=zh (Blk.new w 47 (trmC k a v A n cap f));have HB:=zh (zA0 w (.cells (trmC k a v A n cap f) 47));dsimp only[trmC] at K0 HB;generalize w.alloc (.cells #[qI k,.string a,.string v,.slice A n cap,.string f] 47)=wz at*;obtain⟨c0,c1,c2,c3,c4⟩:=qc K0;have hlt:=K0.out.lt;go_wp2;go_ret;exact⟨zA1 (by rw[HQ.out]),HB.out⟩
 ·have hn2:((n:Int)==0)=false:=by rw[beq_eq_false_iff_ne];omega
  have hn3:(0:Int)<(n:Int):=by omega
  replace hn1:=zh hn1;go_enter Tryz.func117,Tryz.ntmps117;go_wp2_with fail;have K0:=zh (Blk.new w 47 (trmC k a v A n cap f));have HB:=zh (zA0 w (.cells (trmC k a v A n cap f) 47));dsimp only[trmC] at K0 HB;generalize w.alloc (.cells #[qI k,.string a,.string v,.slice A n cap,.string f] 47)=wz at*;obtain⟨c0,c1,c2,c3,c4⟩:=qc K0;have hlt:=K0.out.lt;go_wp2;go_ret;exact⟨zA1 (by rw[HQ.out]),HB.out⟩
theorem zTe (t:Trm)(c:Array Value)(w:World)(hM:MAt w t c):Calls Tryz.prog 117 #[.agg c] w fun e w'=>e= .returned (.bool (ownM t.kind t.nam.data.toList t.vr.data.toList t.form.data.toList t.args.length))/\Below w.heap.size w w':=by
 obtain⟨A,cap,rfl,ha,hv,hf,hn,hc,-⟩:=hM.form;obtain⟨k,a,v,f,ts⟩:=t;dsimp only[Trm.kind,Trm.nam,Trm.vr,Trm.form,Trm.args] at ha hv hf hn⊢;rw[<-ByteArray.toList_eq,<-ByteArray.toList_eq,<-ByteArray.toList_eq];have hn:ts.length<=9223372036854775807:=by omega
 by_cases h1:k=1
 ·subst h1;exact yD4 a v f _ A cap w ha hn
 by_cases h2:k=2
 ·subst h2;exact yCz a v f _ A cap w ha hn
 by_cases h3:k=3
 ·subst h3;exact yD2 a v f _ A cap w ha hn
 by_cases h4:k=4
 ·subst h4;exact yD9 a v f _ A cap w ha hf hn
 by_cases h5:k=5
 ·subst h5;exact yCp a v f _ A cap w ha hv hf hn
 exact yCs k a v f _ A cap w hn (beq_eq_false_iff_ne.2 h1) (beq_eq_false_iff_ne.2 h2) (beq_eq_false_iff_ne.2 h3) (beq_eq_false_iff_ne.2 h4) (beq_eq_false_iff_ne.2 h5)
theorem zWs:∀(z:Nat) (t:Trm) (c:Array Value) (w:World),cntM t<=z->z<=1000000->MAt w t c->Calls Tryz.prog 90 #[.agg c] w fun e w'=>e= .returned (qI (sizM t))/\Below w.heap.size w w':=by
 intro z
 induction z with
 |zero=>intro t c w h;have:=zF8 t;omega
 |succ z ih=>
  intro t c w hz hz2 hM;have IH:=zh (fun t c w h hN=>ih t c w h (by omega) hN);clear ih;obtain⟨A,cap,rfl,ha,hv,hf,hl,hc,hk⟩:=hM.form;have HM:=zh (hM.keep (zA0 w (.cells (trmC t.kind t.nam t.vr A t.args.length cap t.form) 47)));obtain⟨k,a,v,f,ts⟩:=t;dsimp only[Trm.kind,Trm.nam,Trm.vr,Trm.form,Trm.args] at ha hv hf hl hk HM⊢;have HK:=zh (hk.keep (zA0 w (.cells (trmC k a v A ts.length cap f) 47)));have HB:=zh (zA0 w (.cells (trmC k a v A ts.length cap f) 47));have K1:=zh (Blk.new w 47 (trmC k a v A ts.length cap f));have HT:cntM (.mk k a v f ts)=cntL ts+1:=by rw[cntM]
  have HFM:=zh (show zH3 (.mk k a v f ts)=(ownM k a.data.toList v.data.toList f.data.toList ts.length&&zCx ts) by rw[zH3]);have hlc:=zYp ts;have HZ:=zh (show cntL ts<=z by omega);have HL:ts.length<=1000000:=by omega
  have HQ:=zh (show sizM (.mk k a v f ts)=if zH3 (.mk k a v f ts)=true/\cntL ts+1<=1000 then((cntL ts+1:Nat):Int) else -1 by unfold sizM;rw[HT]);have HLC:=zh hlc;clear hz hM hk HT hlc;dsimp only[trmC] at HK HB K1 HM;go_enter Tryz.func90,Tryz.ntmps90;go_wp2_with fail;refine(zTe _ _ _ HM.out).mono ?_;rintro e w1 ⟨rfl,hb⟩;dsimp only[Trm.kind,Trm.nam,Trm.vr,Trm.form,Trm.args];replace HK:=zh (HK.out.keep hb);replace K1:=kp hb K1;replace HB:=jt HB hb;clear hb HM;have c3:=K1.out.cell 3;cases ho:ownM k a.data.toList v.data.toList f.data.toList ts.length
  ·have HQ2:=zh (show sizM (.mk k a v f ts)= -1 by rw[HQ.out,if_neg (fun h=>by rw[HFM.out,ho] at h;simp at h)]);clear ho;go_wp2;go_ret;exact⟨zAj HQ2.out.symm,HB.out⟩
  rw[ho,Bool.true_and] at HFM;clear ho
  by_cases hbig:1000<(ts.length:Int)
  ·have HQ2:=zh (show sizM (.mk k a v f ts)= -1 by rw[HQ.out,if_neg (fun h=>by have:=HLC.out;omega)]);go_wp2;go_ret;exact⟨zAj HQ2.out.symm,HB.out⟩
  rw[HFM.out] at HQ;go_wp2_with fail;clear c3
  go_loopw [3,4] (fun v0 i wr=>∃(j x:Nat),j<=ts.length/\i=qI j/\v0=qI x/\x<=1000/\Hid (x=cntL (ts.take j)+1)/\Hid (zCx (ts.take j)=true)/\Hid (Blk wr w.heap.size 47 (trmC k a v A ts.length cap f))/\Hid (zGj wr A ts)/\Hid (Below w.heap.size w wr)) (fun _ i _=>ts.length -(intOf i).toNat)
  case atStart=>exact⟨0,1,by omega,rfl,rfl,by omega,rfl,rfl,K1,HK,HB⟩
  case round=>
   clear K1 HK HB;obtain⟨j,x,hj,rfl,rfl,hx,HX,HFJ,K1,HK,HB⟩:=hrel;have c3:=K1.out.cell 3;dsimp only[trmC] at c3
   by_cases hlt:j<ts.length
   ·obtain⟨y,hy⟩:∃y,ts[j]?=some y:=⟨_,gE hlt⟩
    obtain⟨ad,A',cap',rfl,hadl,hp⟩:=HK.out.at_ hy;have HY:=zh hp.whole;obtain⟨-,d0,d1,d2,d3,d4,-⟩:=hp;have HS:=zh (show cntM y<=z by have:=zPj hy;have:=HZ.out;omega);have HSN:=zh (zWw hy);have HFS:=zh (zP4 hy);have HLE:=zh (zX5 ts (j+1));have HFF:=zh (fun h=>zNy (ks:=ts) (k:=j+1) h);have HYP:=zh (zF8 y);clear hy;go_wp2_with fail;refine(IH.out y _ _ HS.out HY.out).mono ?_;rintro e w2 ⟨rfl,hb⟩;replace HK:=zh (HK.out.keep hb);replace K1:=kp hb K1;replace HB:=jt HB hb;clear hb HY d0 d1 d2 d3 d4 c3
    by_cases hgood:zH3 y=true/\cntM y<=1000
    ·rw[show sizM y=(cntM y:Int) by unfold sizM;rw[if_pos hgood]];obtain⟨g1,g2⟩:=hgood;rw[HFJ.out,g1] at HFS;have hyp:=HYP.out
     by_cases hover:1000<x+cntM y
     ·have HQ2:=zh (show sizM (.mk k a v f ts)= -1 by rw[HQ.out,if_neg (fun h=>by have h1:=HSN.out;have h2:=HX.out;have h3:=HLE.out;omega)]);clear g1 HSN HX;generalize cntM y=u at*;go_wp2;go_ret;exact⟨zAj HQ2.out.symm,HB.out⟩
     ·have HS2:=zh (show x+cntM y=cntL (ts.take (j+1))+1 by rw[HSN.out,HX.out];omega);clear g1 HSN HX HS;generalize cntM y=u at*;go_wp2;go_roundw
      case rel=>exact⟨j+1,x+u,by omega,by go_num,by go_num,by omega,HS2,HFS,K1,HK,HB⟩
      case measure=>simp[intOf];omega
    ·rw[show sizM y= -1 by unfold sizM;rw[if_neg hgood]];have HQ2:=zh (show sizM (.mk k a v f ts)= -1 by
      rw[HQ.out,if_neg];rintro⟨h1,h2⟩
      apply hgood
      refine⟨?_,?_⟩
      ·cases hfy:zH3 y
       ·have h3:=HFF.out (by rw[HFS.out,hfy,Bool.and_false]);rw[h3] at h1;cases h1
       ·rfl
      ·have h3:=HSN.out;have h4:=HLE.out;omega)
     clear hgood;go_wp2;go_ret;exact⟨zAj HQ2.out.symm,HB.out⟩
   ·obtain rfl:j=ts.length:=by omega
    rw[List.take_length] at HX HFJ;have HQ2:=zh (show sizM (.mk k a v f ts)=(x:Int) by rw[HQ.out,if_pos ⟨HFJ.out,by have:=HX.out;omega⟩,HX.out]);go_wp2;go_ret;exact⟨zAj HQ2.out.symm,HB.out⟩
theorem zB8 (t:Trm)(c:Array Value)(w:World)(hn:cntM t<=1000000)(hM:MAt w t c):Calls Tryz.prog 53 #[.agg c] w fun e w'=>e= .returned (.bool (zCs t))/\Below w.heap.size w w':=by
 obtain⟨A,cap,rfl,ha,hv,hf,hl,hc,hk⟩:=hM.form;have HM:=zh (hM.keep (zA0 w (.cells (trmC t.kind t.nam t.vr A t.args.length cap t.form) 47)));have HB:=zh (zA0 w (.cells (trmC t.kind t.nam t.vr A t.args.length cap t.form) 47));have K1:=zh (Blk.new w 47 (trmC t.kind t.nam t.vr A t.args.length cap t.form));have HQ:=zh (zU7 t);have HN:=zh hn;clear hM hk hn;dsimp only[trmC] at HM HB K1;go_enter Tryz.func53,Tryz.ntmps53;go_wp2_with fail;refine(zWs (cntM t) t _ _ (Nat.le_refl _) HN.out HM.out).mono ?_;rintro e w2 ⟨rfl,hb⟩;replace HB:=jt HB hb;clear hb;generalize sizM t=sz at*;go_wp2;go_ret;exact⟨zA1 HQ.out,HB.out⟩
theorem zK2:∀(a b:List Trm) (n:Nat),zCw (a++b) n=if(zCw a n).1=true then zCw b (zCw a n).2 else zCw a n
 |[],b,n=>by rw[List.nil_append,show zCw [] n=(true,n) by rw[zCw],if_pos rfl]
 |x::r,b,n=>by
  rw[List.cons_append,zCw,zCw];cases h:(chkM x n).1
  ·simp
  ·rw[if_pos rfl,if_pos rfl,zK2 r b]
theorem zSd {ks:List Trm}{j n nj:Nat}{y:Trm}(hy:ks[j]?=some y)(h:zCw (ks.take j) n=(true,nj)):zCw (ks.take (j+1)) n=chkM y nj:=by
 rw[List.take_add_one,hy,Option.toList,zK2,h,if_pos rfl,zCw];cases hc:(chkM y nj).1
 ·rw[if_neg (by simp)];rw[<-hc]
 ·rw[if_pos rfl,zCw];rw[<-hc]
theorem zTi {ks:List Trm}{j n:Nat}(h:(zCw (ks.take j) n).1=false):zCw ks n=zCw (ks.take j) n:=by
 conv=>lhs;rw[<-List.take_append_drop j ks]
 rw[zK2,h,if_neg (by simp)]
theorem yAs (t:Trm)(n:Nat)(h:(chkM t n).1=true):(chkM t n).2<=1000:=by
 obtain⟨a,b⟩:=zJa t n;rw[b h];exact(a.1 h).2
theorem zCo:∀(m:Nat) (t:Trm) (p:Addr) (A:Option Addr) (cap gc n:Nat) (w0 w:World),cntM t<=m->PtM w0 p t A cap->Below w0.heap.size w0 w->Blk w gc 3 #[qI (n:Int)]->w0.heap.size<=gc->n<=1000->Calls Tryz.prog 98 #[.pointer (some p),qP gc] w fun e w'=>e= .returned (.bool (chkM t n).1)/\Blk w' gc 3 #[qI ((chkM t n).2:Int)]/\Below w0.heap.size w0 w':=by
 intro m
 induction m with
 |zero=>intro t p A cap gc n w0 w h;have:=zF8 t;omega
 |succ m ih=>
  intro t p A cap gc n w0 w hm hP hB hC hgc hn;have IH:=zh ih;clear ih;obtain⟨k,a,v,f,ts⟩:=t;have HP:=zh hP;have HZ:=zh (show cntL ts<=m by rw[cntM] at hm;omega);have HQ0:=zh (show chkM (.mk k a v f ts) n=if 1000<n+1\/ownM k a.data.toList v.data.toList f.data.toList ts.length=false then(false,n+1) else zCw ts (n+1) by rw[chkM]);have f0:=hC.frozen 0;have f1:=hC.cell 0;have HC1:=zh (show Blk (w.setCell ⟨gc,0,none⟩ (qI ((n:Int)+1))) gc 3 #[qI ((n+1:Nat):Int)] from hC.set_ 0 (qI ((n:Int)+1)));have HB1:=zh (hB.setCell (p:=⟨gc,0,none⟩) hgc (qI ((n:Int)+1)));have HGC:=zh hgc;clear hP hB hC hm hgc;have f2:=HC1.out.cell 0;go_enter Tryz.func98,Tryz.ntmps98
  by_cases h1:1000<n+1
  ·have HQ:=zh (show chkM (.mk k a v f ts) n=(false,n+1) by rw[HQ0.out,if_pos (.inl h1)]);go_wp2;go_ret;exact⟨zA1 (by rw[HQ.out]),by rw[HQ.out];exact HC1.out,HB1.out⟩
  go_wp2_with fail;generalize w.setCell ⟨gc,0,none⟩ (qI ((n:Int)+1))=w1 at*;clear f0 f1 f2;refine(zGz _ p A cap w1 (HP.out.keep HB1.out)).mono ?_;rintro e w2 ⟨rfl,hb⟩;dsimp only[Trm.kind,Trm.nam,Trm.vr,Trm.form,Trm.args];have HC:=kp hb HC1;have HB:=jt HB1 hb;clear hb HC1 HB1;cases ho:ownM k a.data.toList v.data.toList f.data.toList ts.length
  ·have HQ:=zh (show chkM (.mk k a v f ts) n=(false,n+1) by rw[HQ0.out,if_pos (.inr ho)]);clear ho;go_wp2;go_ret;exact⟨zA1 (by rw[HQ.out]),by rw[HQ.out];exact HC.out,HB.out⟩
  rw[if_neg (by rintro(h|h);exact h1 h;rw[ho] at h;cases h)] at HQ0;clear ho;obtain⟨-,-,-,-,c3,-,-,-,-,hl,hc,-⟩:=HP.out.keep HB.out;dsimp only[Trm.kind,Trm.nam,Trm.vr,Trm.form,Trm.args] at c3 hl;go_wp2_with fail;clear c3
  go_loopw [25] (fun i wr=>∃(j nj:Nat),j<=ts.length/\i=qI j/\nj<=1000/\Hid (zCw (ts.take j) (n+1)=(true,nj))/\Hid (Blk wr gc 3 #[qI (nj:Int)])/\Hid (Below w0.heap.size w0 wr)) (fun i _=>ts.length -(intOf i).toNat)
  case atStart=>exact⟨0,n+1,by omega,rfl,by omega,(by rw[List.take_zero];show zCw [] (n+1)=_;rw[zCw]),HC,HB⟩
  case round=>
   clear HC HB;obtain⟨j,nj,hj,rfl,hnj,HJ,HC,HB⟩:=hrel
   by_cases hlt:j<ts.length
   ·obtain⟨y,hy⟩:∃y,ts[j]?=some y:=⟨_,gE hlt⟩
    obtain⟨-,-,-,-,c3,-,-,-,-,-,-,hka⟩:=HP.out.keep HB.out;dsimp only[Trm.kind,Trm.nam,Trm.vr,Trm.form,Trm.args] at c3 hka;obtain⟨ad,A',cap',rfl,hadl,hp⟩:=hka.at_ hy;have HY:Hid (PtM w0 (ad.add (j*5)) y A' cap'):=by
     obtain⟨-,-,-,-,-,-,-,-,-,-,-,hk0⟩:=HP.out;dsimp only[Trm.args] at hk0;obtain⟨ad',A'',cap'',e1,hadl',hp'⟩:=hk0.at_ hy;obtain rfl:=sj e1;have e3:=hp'.keep HB.out;obtain⟨-,-,-,-,q,-⟩:=e3;obtain⟨-,-,-,-,q',-⟩:=hp;rw[q] at q';injection q' with q';injection q' with q1 _ q2;subst q1;subst q2;exact hp'
    have HS:=zh (show cntM y<=m by have:=zPj hy;have:=HZ.out;omega);have HSN:=zh (zSd hy HJ.out);have HST:=zh (fun h=>zTi (ks:=ts) (j:=j+1) (n:=n+1) h);have HLE:=zh (yAs y nj);clear hy hka hp;go_wp2_with fail;refine(IH.out y _ A' cap' gc nj w0 wr HS.out HY.out HB.out HC.out HGC.out hnj).mono ?_;rintro e w4 ⟨rfl,hC4,hB4⟩;have HC:=zh hC4;have HB:=zh hB4;clear hC4 hB4 c3;cases hr:(chkM y nj).1
    ·have HQ:=zh (show chkM (.mk k a v f ts) n=(false,(chkM y nj).2) by rw[HQ0.out,HST.out (by rw[HSN.out,hr]),HSN.out,<-hr]);clear hr;go_wp2;go_ret;exact⟨zA1 (by rw[HQ.out]),by rw[HQ.out];exact HC.out,HB.out⟩
    ·have HJ2:=zh (show zCw (ts.take (j+1)) (n+1)=(true,(chkM y nj).2) by rw[HSN.out,<-hr]);have hle:=HLE.out hr;clear hr;generalize (chkM y nj).2=n2 at*;go_wp2;go_roundw
     case rel=>exact⟨j+1,n2,by omega,by go_num,hle,HJ2,HC,HB⟩
     case measure=>simp[intOf];omega
   ·obtain rfl:j=ts.length:=by omega
    rw[List.take_length] at HJ;have HQ:=zh (show chkM (.mk k a v f ts) n=(true,nj) by rw[HQ0.out,HJ.out]);go_wp2;go_ret;exact⟨zA1 (by rw[HQ.out]),by rw[HQ.out];exact HC.out,HB.out⟩
def cntI (t:Trm):Int:=if zCs t=true then(cntM t:Int) else 0
theorem zUe (t:Trm)(c:Array Value)(w:World)(hM:MAt w t c):Calls Tryz.prog 64 #[.agg c] w fun e w'=>e= .returned (qI (cntI t))/\Below w.heap.size w w':=by
 obtain⟨A,cap,rfl,ha,hv,hf,hl,hc,hk⟩:=hM.form;have HB:=zh (zA0 w (.cells (trmC t.kind t.nam t.vr A t.args.length cap t.form) 47));have K1:=zh (Blk.new w 47 (trmC t.kind t.nam t.vr A t.args.length cap t.form));have HP:=zh (PtM.box K1.out ha hv hf hl hc (hk.keep HB.out));have HVC:=zh (zLt t);have HCC:=zh (@zWp t);clear hM hk;dsimp only[trmC] at HB K1 HP;go_enter Tryz.func64,Tryz.ntmps64;go_wp2_with fail;have HG:=zh (show(w.alloc (.cells (trmC t.kind t.nam t.vr A t.args.length cap t.form) 47)).heap.size=w.heap.size+1 by simp);dsimp only[trmC] at HG;generalize w.alloc (.cells #[qI t.kind,.string t.nam,.string t.vr,.slice A t.args.length cap,.string t.form] 47)=w1 at*;have KC:=zh (show Blk (w1.alloc (.cells #[qI 0] 3)) (w.heap.size+1) 3 #[qI ((0:Nat):Int)] by rw[<-HG.out];exact Blk.new w1 3 #[qI 0]);have H1:=zh (zA0 w1 (.cells #[qI 0] 3));have HGE:=zh (show w1.heap.size<=w.heap.size+1 by rw[HG.out];exact Nat.le_refl _);generalize w1.alloc (.cells #[qI 0] 3)=w2 at*;refine(zCo (cntM t) t _ A cap (w.heap.size+1) 0 w1 w2 (Nat.le_refl _) HP.out H1.out KC.out HGE.out (by omega)).mono ?_;rintro e w4 ⟨rfl,hC4,hB4⟩;have HB:=jt HB hB4;have c0:=hC4.cell 0;clear hB4 hC4;rw[HVC.out];cases hval:zCs t
 ·have HE:=zh (show cntI t=0 by unfold cntI;rw[if_neg (by rw[hval];simp)]);clear hval;go_wp2;go_ret;exact⟨zAj HE.out.symm,HB.out⟩
 ·rw[HCC.out hval] at c0;have HE:=zh (show cntI t=cntM t by unfold cntI;rw[if_pos hval]);clear hval;go_wp2;go_ret;exact⟨zAj HE.out.symm,HB.out⟩
theorem zI6 (t:Trm)(c:Array Value)(w:World)(hM:MAt w t c):Calls Tryz.prog 33 #[.agg c] w fun e w'=>e= .returned (.bool (zCs t))/\Below w.heap.size w w':=by
 obtain⟨A,cap,rfl,ha,hv,hf,hl,hc,hk⟩:=hM.form;have HM:=zh (hM.keep (zA0 w (.cells (trmC t.kind t.nam t.vr A t.args.length cap t.form) 47)));have HB:=zh (zA0 w (.cells (trmC t.kind t.nam t.vr A t.args.length cap t.form) 47));have K1:=zh (Blk.new w 47 (trmC t.kind t.nam t.vr A t.args.length cap t.form));have hpos:=zF8 t;have HI:=zh (show cntI t=if zCs t=true then(cntM t:Int) else 0 from rfl);clear hM hk;dsimp only[trmC] at HM HB K1;go_enter Tryz.func33,Tryz.ntmps33;go_wp2_with fail;refine(zUe t _ _ HM.out).mono ?_;rintro e w2 ⟨rfl,hb⟩;have HB:=jt HB hb;clear hb;cases hval:zCs t
 ·have HVV:=zh hval;rw[hval,if_neg (by simp)] at HI;rw[HI.out];clear hval;go_wp2;go_ret;exact⟨zA1 (by rw[HVV.out]),HB.out⟩
 ·have HVV:=zh hval;rw[hval,if_pos rfl] at HI;rw[HI.out];clear hval HI;generalize cntM t=u at*;go_wp2;go_ret;exact⟨zA1 (by rw[HVV.out];first|rfl|(simp;omega)),HB.out⟩
end Sp
namespace El
open At Ch Sp Sy Go.RowKit
variable{n:Tre}{path:List Int}{rs:List Rul}{p:Bool}{N:Nat}
def badE {α:Type}(m:Mea α):Prop:=∀e p,m= .bad e p->e=14\/e=15
theorem badE.ok {α:Type}(a:α):badE (Mea.ok a):=fun e p h=>by cases h
theorem badE.then_ {α β:Type}{m:Mea α}{f:α->Mea β}(h:badE m)(hf:∀a,m= .ok a->badE (f a)):badE (m.then_ f):=by
 intro e p he;cases m with
 |bad e' p'=>
  have he2:(Mea.bad e' p':Mea β)= .bad e p:=he;injection he2 with h1 h2;rw[<-h1];exact h e' p' rfl
 |ok a=>exact hf a rfl e p he
theorem zHg {M:List Tre->List Int->Nat->Mea Trm}{path:List Int}:∀(ks:List Tre) (s b:Nat),(∀d∈ks,∀p k,badE (M d.kids p k))->badE (zAn M path ks s b)
 |[],_,_,_=>by rw[zAn];exact badE.ok _
 |n::ns,s,b,h=>by
  rw[zAn];exact(h n List.mem_cons_self _ _).then_ fun t _=>(zHg ns _ _ fun d hd=>h d (List.mem_cons_of_mem _ hd)).then_ fun ts _=>badE.ok _
theorem zYu {M:List Tre->List Int->Nat->Mea Trm}(h:∀d∈n.kids,∀p k,badE (M d.kids p k)):badE (zCr M n path):=by
 unfold zCr
 split
 ·exact badE.ok _
 split
 ·exact badE.ok _
 split
 ·exact badE.ok _
 ·refine badE.then_ ?_ fun ts _=>badE.ok _
  cases hk:n.kids with
  |nil=>exact badE.ok _
  |cons d ks=>
   rw[hk] at h;dsimp only
   split
   ·exact zHg ks 1 0 fun e he=>h e (List.mem_cons_of_mem _ he)
   ·exact zHg (d::ks) 0 0 h
theorem yBx {M:List Tre->List Int->Nat->Mea Trm}(h:∀d∈n.kids,∀p k,badE (M d.kids p k)):badE (scrF rs M n path p):=by
 unfold scrF
 split
 ·exact badE.ok _
 ·exact(zHg _ _ _ fun d hd=>h d (List.mem_of_mem_tail hd)).then_ fun ts _=>badE.ok _
theorem zLe {rs:List Rul}{M:List Tre->List Int->Nat->Mea Trm}{path:List Int}{kd:Nat->Int}{k:Nat}:∀(ns:List Tre) (ts:List ByteArray) (i:Nat),(∀n∈ns,∀d∈n.kids,∀p k,badE (M d.kids p k))->badE (zB3 rs M path kd k ns ts i)
 |[],ts,i,_=>by
  have:zB3 rs M path kd k [] ts i= .ok []:=by cases ts<;>simp[zB3]
  rw[this];exact badE.ok _
 |n::ns,[],i,_=>by
  have:zB3 rs M path kd k (n::ns) [] i= .ok []:=by simp[zB3]
  rw[this];exact badE.ok _
 |n::ns,t::ts,i,h=>by
  rw[zB3];refine badE.then_ ?_ fun x _=>(zLe ns ts (i+1) fun m hm=>h m (List.mem_cons_of_mem _ hm)).then_ fun ps _=>badE.ok _
  split
  ·exact zYu (h n List.mem_cons_self)
  ·exact yBx (h n List.mem_cons_self)
theorem zOq {l:List Tre}{t:Tre}(h:t∈l):zA7 t<=zA4 l:=by
 obtain⟨i,hi⟩:=List.getElem?_of_mem h;have h6:=zI3 hi;have h7:=zFx (l.take (i+1)) (l.drop (i+1));rw[List.take_append_drop] at h7;omega
theorem zQu (rs:List Rul):∀(f:Nat) (items:List Tre) (path:List Int) (k:Nat),zA4 items<f->badE (zAb rs f items path k)
 |0,_,_,_,h=>absurd h (by omega)
 |f+1,items,path,k,h=>by
  rw[zAb];unfold zHc
  split
  ·intro e p he;injection he with h1 h2;exact .inr h1.symm
  split
  ·intro e p he;injection he with h1 h2;exact .inr h1.symm
  split
  ·intro e p he;injection he with h1 h2;exact .inr h1.symm
  ·refine(zLe _ _ _ fun n hn d hd p j=>zQu rs f d.kids p j ?_).then_ fun ps _=>badE.ok _
   have h1:=zOq hn;have h2:=zOq hd;have h3:=zSo items k;have h4:=zLc n;have h5:=zLc d;omega
  ·intro e p he;injection he with h1 h2;exact .inl h1.symm
def badN {α:Type}(N:Nat)(m:Mea α):Prop:=∀e p,m= .bad e p->p.length<=N
theorem badN.ok {α:Type}(N:Nat)(a:α):badN N (Mea.ok a):=fun e p h=>by cases h
theorem badN.then_ {α β:Type}{N:Nat}{m:Mea α}{f:α->Mea β}(h:badN N m)(hf:∀a,m= .ok a->badN N (f a)):badN N (m.then_ f):=by
 intro e p he;cases m with
 |bad e' p'=>
  have he2:(Mea.bad e' p':Mea β)= .bad e p:=he;injection he2 with h1 h2;rw[<-h2];exact h e' p' rfl
 |ok a=>exact hf a rfl e p he
theorem zG9 {M:List Tre->List Int->Nat->Mea Trm}{path:List Int}{N:Nat}:∀(ks:List Tre) (s b:Nat),(∀d∈ks,∀(i:Int) k,badN N (M d.kids (path++[i]) k))->badN N (zAn M path ks s b)
 |[],_,_,_=>by rw[zAn];exact badN.ok _ _
 |n::ns,s,b,h=>by
  rw[zAn];exact(h n List.mem_cons_self _ _).then_ fun t _=>(zG9 ns _ _ fun d hd=>h d (List.mem_cons_of_mem _ hd)).then_ fun ts _=>badN.ok _ _
theorem zV3 {M:List Tre->List Int->Nat->Mea Trm}(h:∀d∈n.kids,∀(i:Int) k,badN N (M d.kids (path++[i]) k)):badN N (zCr M n path):=by
 unfold zCr
 split
 ·exact badN.ok _ _
 split
 ·exact badN.ok _ _
 split
 ·exact badN.ok _ _
 ·refine badN.then_ ?_ fun ts _=>badN.ok _ _
  cases hk:n.kids with
  |nil=>exact badN.ok _ _
  |cons d ks=>
   rw[hk] at h;dsimp only
   split
   ·exact zG9 ks 1 0 fun e he=>h e (List.mem_cons_of_mem _ he)
   ·exact zG9 (d::ks) 0 0 h
theorem zXl {M:List Tre->List Int->Nat->Mea Trm}(h:∀d∈n.kids,∀(i:Int) k,badN N (M d.kids (path++[i]) k)):badN N (scrF rs M n path p):=by
 unfold scrF
 split
 ·exact badN.ok _ _
 ·exact(zG9 _ _ _ fun d hd=>h d (List.mem_of_mem_tail hd)).then_ fun ts _=>badN.ok _ _
theorem zKa {rs:List Rul}{M:List Tre->List Int->Nat->Mea Trm}{path:List Int}{kd:Nat->Int}{k N:Nat}:∀(ns:List Tre) (ts:List ByteArray) (i:Nat),(∀n∈ns,∀d∈n.kids,∀(j i:Int) k,badN N (M d.kids (path++[j]++[i]) k))->badN N (zB3 rs M path kd k ns ts i)
 |[],ts,i,_=>by
  have:zB3 rs M path kd k [] ts i= .ok []:=by cases ts<;>simp[zB3]
  rw[this];exact badN.ok _ _
 |n::ns,[],i,_=>by
  have:zB3 rs M path kd k (n::ns) [] i= .ok []:=by simp[zB3]
  rw[this];exact badN.ok _ _
 |n::ns,t::ts,i,h=>by
  rw[zB3];refine badN.then_ ?_ fun x _=>(zKa ns ts (i+1) fun m hm=>h m (List.mem_cons_of_mem _ hm)).then_ fun ps _=>badN.ok _ _
  split
  ·exact zV3 fun d hd=>h n List.mem_cons_self d hd _
  ·exact zXl fun d hd=>h n List.mem_cons_self d hd _
theorem zNz (rs:List Rul):∀(f:Nat) (items:List Tre) (path:List Int) (k:Nat),badN (path.length+2*f+1) (zAb rs f items path k)
 |0,items,path,k=>by rw[zAb];intro e p he;injection he with h1 h2;rw[<-h2];omega
 |f+1,items,path,k=>by
  rw[zAb];unfold zHc
  split
  ·intro e p he;injection he with h1 h2;rw[<-h2,List.length_append,List.length_singleton];omega
  split
  ·intro e p he;injection he with h1 h2;rw[<-h2,List.length_append,List.length_singleton];omega
  split
  ·intro e p he;injection he with h1 h2;rw[<-h2,List.length_append,List.length_singleton];omega
  ·refine(zKa _ _ _ fun n hn d hd j i k'=>?_).then_ fun ps _=>badN.ok _ _
   have h:=zNz rs f d.kids (path++[j]++[i]) k';intro e p he;have:=h e p he;rw[List.length_append,List.length_append,List.length_singleton,List.length_singleton] at this;omega
  ·intro e p he;injection he with h1 h2;rw[<-h2,List.length_append,List.length_singleton];omega
end El
namespace Rn
open At Ch Sp Sy El Go.RowKit
variable{p path:List Int}{n:Tre}
theorem zF5 {α β:Type}{m:Mea α}{f:α->Mea β}{e:Int}(h:m.then_ f= .bad e p):m= .bad e p\/∃a,m= .ok a/\f a= .bad e p:=by
 cases m with
 |bad e' p'=>
  left
  have h2:(Mea.bad e' p':Mea β)= .bad e p:=h;injection h2 with h3 h4;rw[h3,h4]
 |ok a=>exact .inr ⟨a,rfl,h⟩
theorem zH9 {M:List Tre->List Int->Nat->Mea Trm}{path:List Int}{p:List Int}:∀(ns:List Tre) (s b:Nat),zAn M path ns s b= .bad 14 p->∃(j:Nat) (d:Tre) (b':Nat),ns[j]?=some d/\M d.kids (path++[((s+j:Nat):Int)]) b'= .bad 14 p
 |[],s,b,h=>by rw[zAn] at h;cases h
 |n::ns,s,b,h=>by
  rw[zAn] at h;rcases zF5 h with h|⟨t,_,h⟩
  ·exact⟨0,n,b,rfl,h⟩
  ·rcases zF5 h with h|⟨ts,_,h⟩
   ·obtain⟨j,d,b',h1,h2⟩:=zH9 ns (s+1) 0 h;exact⟨j+1,d,b',by simpa using h1,by rw[show s+(j+1)=s+1+j by omega];exact h2⟩
   ·cases h
theorem zZm {M:List Tre->List Int->Nat->Mea Trm}(h:zCr M n path= .bad 14 p):∃(j:Nat) (d:Tre) (b':Nat),n.kids[j]?=some d/\M d.kids (path++[(j:Int)]) b'= .bad 14 p:=by
 unfold zCr at h
 split at h
 ·cases h
 split at h
 ·cases h
 split at h
 ·cases h
 rcases zF5 h with h|⟨ts,_,h⟩
 ·cases hk:n.kids with
  |nil=>rw[hk] at h;cases h
  |cons d ks=>
   rw[hk] at h;dsimp only at h
   split at h
   ·obtain⟨j,d',b',h1,h2⟩:=zH9 ks 1 0 h;exact⟨j+1,d',b',by simpa using h1,by rw[show j+1=1+j by omega];exact h2⟩
   ·obtain⟨j,d',b',h1,h2⟩:=zH9 (d::ks) 0 0 h;exact⟨j,d',b',h1,by rw[Nat.zero_add] at h2;exact h2⟩
 ·cases h
theorem yBp {rs:List Rul}{M:List Tre->List Int->Nat->Mea Trm}{q:Bool}(h:scrF rs M n path q= .bad 14 p):∃(j:Nat) (d:Tre) (b':Nat),n.kids[j]?=some d/\M d.kids (path++[(j:Int)]) b'= .bad 14 p:=by
 unfold scrF at h
 split at h
 ·cases h
 rcases zF5 h with h|⟨ts,_,h⟩
 ·obtain⟨j,d',b',h1,h2⟩:=zH9 _ 1 _ h;refine⟨j+1,d',b',?_,by rw[show j+1=1+j by omega];exact h2⟩;rw[List.getElem?_tail] at h1;exact h1
 ·cases h
theorem zO3 {rs:List Rul}{M:List Tre->List Int->Nat->Mea Trm}{path:List Int}{kd:Nat->Int}{k:Nat}{p:List Int}:∀(ns:List Tre) (ts:List ByteArray) (i:Nat),zB3 rs M path kd k ns ts i= .bad 14 p->∃(j:Nat) (n:Tre) (s:Nat) (d:Tre) (b:Nat),ns[j]?=some n/\n.kids[s]?=some d/\M d.kids (path++[((k+(i+j):Nat):Int),(s:Int)]) b= .bad 14 p
 |[],ts,i,h=>by cases ts<;>(rw[zB3] at h<;>cases h)
 |_::_,[],i,h=>by rw[zB3] at h<;>cases h
 |n::ns,t::ts,i,h=>by
  rw[zB3] at h;rcases zF5 h with h|⟨a,_,h⟩
  ·have h2:∃(j:Nat) (d:Tre) (b':Nat),n.kids[j]?=some d/\M d.kids ((path++[((k+i:Nat):Int)])++[(j:Int)]) b'= .bad 14 p:=by
    split at h
    ·exact zZm h
    ·exact yBp h
   obtain⟨s,d,b,h3,h4⟩:=h2;refine⟨0,n,s,d,b,rfl,h3,?_⟩;rw[List.append_assoc] at h4;exact h4
  ·rcases zF5 h with h|⟨ps,_,h⟩
   ·obtain⟨j,n',s,d,b,h1,h2,h3⟩:=zO3 ns ts (i+1) h;exact⟨j+1,n',s,d,b,by simpa using h1,h2,by rw[show i+(j+1)=i+1+j by omega];exact h3⟩
   ·cases h
theorem zS6 (rs:List Rul):∀(f:Nat) (items:List Tre) (path:List Int) (k:Nat) (p:List Int),zAb rs f items path k= .bad 14 p->∃rds,Amb rs items path k p rds
 |0,items,path,k,p,h=>by rw[zAb] at h;injection h with h1 _;cases h1
 |f+1,items,path,k,p,h=>by
  rw[zAb] at h;unfold zHc at h
  split at h
  ·injection h with h1 _;cases h1
  split at h
  ·injection h with h1 _;cases h1
  rename_i ts ht
  split at h
  ·injection h with h1 _;cases h1
  ·rcases zF5 h with h|⟨ps,_,h⟩
   ·obtain⟨j,n,s,d,b,h1,h2,h3⟩:=zO3 _ _ 0 h;obtain⟨rds,h4⟩:=zS6 rs f d.kids _ b p h3;rw[Nat.zero_add] at h4;exact⟨rds,Amb.there items path k j s b n d p rds h1 h2 h4⟩
   ·cases h
  ·rename_i x y zs hr
   injection h with _ h2;exact⟨[x,y],h2▸Amb.here items path k ts x y zs ht hr⟩
def witF (m:Mea Trm):Int×List Int:=match m with
 | .ok _=>(8,[])
 | .bad er p=>if er=1 then(1,[]) else if er=14 then(0,p) else(8,[])
end Rn
namespace El
open At Ch Sp Sy Go.RowKit
theorem zYm (k:Int)(w:World):Calls Tryz.prog 80 #[qI k] w fun e w'=>e= .returned (.string (zBf k))/\w'=w:=by
 by_cases h1:k=1
 ·subst h1;go_enter Tryz.func80,Tryz.ntmps80;go_wp2;go_ret;exact⟨rfl,rfl⟩
 have q1:(k==1)=false:=bn h1
 by_cases h2:k=2
 ·subst h2;go_enter Tryz.func80,Tryz.ntmps80;go_wp2;go_ret;exact⟨rfl,rfl⟩
 have q2:(k==2)=false:=bn h2
 by_cases h3:k=3
 ·subst h3;go_enter Tryz.func80,Tryz.ntmps80;go_wp2;go_ret;exact⟨rfl,rfl⟩
 have q3:(k==3)=false:=bn h3;have HF:=zh (show zBf k=juxS by unfold zBf;rw[if_neg h1,if_neg h2,if_neg h3]);clear h1 h2 h3;go_enter Tryz.func80,Tryz.ntmps80;go_wp2;go_ret;exact⟨by rw[HF.out];rfl,rfl⟩
end El
end Go.Proofs.YtapgncbegadbnaaGreatDoor
