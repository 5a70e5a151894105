/- The fields of a term: the reference. -/
import Derived.Test.YtadcldfbmkfkaaaGreatDoorH87794071
namespace Go.Proofs.YtadcldfbmkfkaaaGreatDoor.Sp
open At Go.RowKit
set_option maxRecDepth 100000 in
set_option maxHeartbeats 800000 in
theorem yB3 (a v f:ByteArray)(n:Nat)(A:Option Addr)(cap:Nat)(w:World)(ha:a.size≤9223372036854775807)(hn:n≤9223372036854775807):Calls Tryz.prog 154 #[.agg (trmC 1 a v A n cap f)] w fun e w'=>e= .returned (.bool (ownM 1 a.toList v.toList f.toList n))∧Below w.heap.size w w':=by
 have HQ:=zh (show ownM 1 a.toList v.toList f.toList n=((v.toList.isEmpty&&(f.toList.isEmpty&&decide (n=0)))&&numP a.toList) from rfl);have HN:=zh (fun w=>zVh a w ha);generalize numP a.toList=rr at*
 by_cases hn1:n=0
 ·have hn2:((n:Int)==0)=true:=by rw[beq_iff_eq];omega
  have hn3:¬(0:Int)<(n:Int):=by omega
  replace hn1:=zh hn1;cases hv1:v.toList.isEmpty
  ·skip
   rw[hv1] at HQ;go_enter Tryz.func154,Tryz.ntmps154;go_wp2_with fail;have K0:=zh (Blk.new w 31 (trmC 1 a v A n cap f));have HB:=zh (zA0 w (.cells (trmC 1 a v A n cap f) 31));dsimp only[trmC] at K0 HB;generalize w.alloc (.cells #[.int .i64 1,.string a,.string v,.slice A n cap,.string f] 31)=wz at*;have c0:=K0.out.cell 0;have c1:=K0.out.cell 1;have c2:=K0.out.cell 2;have c3:=K0.out.cell 3;have c4:=K0.out.cell 4;have hlt:=K0.out.lt;go_wp2_with fail;go_ret;exact⟨zA1 (by rw[HQ.out];rfl),HB.out⟩
  ·cases hf1:f.toList.isEmpty
   ·skip
    rw[hv1,hf1] at HQ;go_enter Tryz.func154,Tryz.ntmps154;go_wp2_with fail;have K0:=zh (Blk.new w 31 (trmC 1 a v A n cap f));have HB:=zh (zA0 w (.cells (trmC 1 a v A n cap f) 31));dsimp only[trmC] at K0 HB;generalize w.alloc (.cells #[.int .i64 1,.string a,.string v,.slice A n cap,.string f] 31)=wz at*;have c0:=K0.out.cell 0;have c1:=K0.out.cell 1;have c2:=K0.out.cell 2;have c3:=K0.out.cell 3;have c4:=K0.out.cell 4;have hlt:=K0.out.lt;go_wp2_with fail;go_ret;exact⟨zA1 (by rw[HQ.out];rfl),HB.out⟩
   ·skip
    rw[hv1,hf1,decide_eq_true hn1.out,Bool.true_and,Bool.true_and,Bool.true_and] at HQ;clear hn1;go_enter Tryz.func154,Tryz.ntmps154;go_wp2_with fail;have K0:=zh (Blk.new w 31 (trmC 1 a v A n cap f));have HB:=zh (zA0 w (.cells (trmC 1 a v A n cap f) 31));dsimp only[trmC] at K0 HB;generalize w.alloc (.cells #[.int .i64 1,.string a,.string v,.slice A n cap,.string f] 31)=wz at*;have c0:=K0.out.cell 0;have c1:=K0.out.cell 1;have c2:=K0.out.cell 2;have c3:=K0.out.cell 3;have c4:=K0.out.cell 4;have hlt:=K0.out.lt
    skip
    refine(HN.out _).mono ?_;rintro e w1 ⟨rfl,hb⟩;have HB:=jt HB hb;replace c0:=(hb.cell (p:=⟨w.heap.size,0,none⟩) hlt).trans c0;replace c1:=(hb.cell (p:=⟨w.heap.size,1,none⟩) hlt).trans c1;replace c2:=(hb.cell (p:=⟨w.heap.size,2,none⟩) hlt).trans c2;replace c3:=(hb.cell (p:=⟨w.heap.size,3,none⟩) hlt).trans c3;replace c4:=(hb.cell (p:=⟨w.heap.size,4,none⟩) hlt).trans c4;replace hlt:=Nat.lt_of_lt_of_le hlt hb.size;clear hb;go_wp2_with fail;go_ret;exact⟨zA1 (by rw[HQ.out]),HB.out⟩
 ·have hn2:((n:Int)==0)=false:=by rw[beq_eq_false_iff_ne];omega
  have hn3:(0:Int)<(n:Int):=by omega
  replace hn1:=zh hn1;rw[decide_eq_false hn1.out,Bool.and_false,Bool.and_false] at HQ;clear hn1;go_enter Tryz.func154,Tryz.ntmps154;go_wp2_with fail;have K0:=zh (Blk.new w 31 (trmC 1 a v A n cap f));have HB:=zh (zA0 w (.cells (trmC 1 a v A n cap f) 31));dsimp only[trmC] at K0 HB;generalize w.alloc (.cells #[.int .i64 1,.string a,.string v,.slice A n cap,.string f] 31)=wz at*;have c0:=K0.out.cell 0;have c1:=K0.out.cell 1;have c2:=K0.out.cell 2;have c3:=K0.out.cell 3;have c4:=K0.out.cell 4;have hlt:=K0.out.lt;go_wp2_with fail;go_ret;exact⟨zA1 (by rw[HQ.out];rfl),HB.out⟩
set_option maxRecDepth 100000 in
set_option maxHeartbeats 800000 in
theorem yB5 (a v f:ByteArray)(n:Nat)(A:Option Addr)(cap:Nat)(w:World)(ha:a.size≤9223372036854775807)(hn:n≤9223372036854775807):Calls Tryz.prog 154 #[.agg (trmC 2 a v A n cap f)] w fun e w'=>e= .returned (.bool (ownM 2 a.toList v.toList f.toList n))∧Below w.heap.size w w':=by
 have HQ:=zh (show ownM 2 a.toList v.toList f.toList n=((v.toList.isEmpty&&(f.toList.isEmpty&&decide (n=0)))&&idB a.toList) from rfl);have HN:=zh (fun w=>zKy a w ha);generalize idB a.toList=rr at*
 by_cases hn1:n=0
 ·have hn2:((n:Int)==0)=true:=by rw[beq_iff_eq];omega
  have hn3:¬(0:Int)<(n:Int):=by omega
  replace hn1:=zh hn1;cases hv1:v.toList.isEmpty
  ·skip
   rw[hv1] at HQ;go_enter Tryz.func154,Tryz.ntmps154;go_wp2_with fail;have K0:=zh (Blk.new w 31 (trmC 2 a v A n cap f));have HB:=zh (zA0 w (.cells (trmC 2 a v A n cap f) 31));dsimp only[trmC] at K0 HB;generalize w.alloc (.cells #[.int .i64 2,.string a,.string v,.slice A n cap,.string f] 31)=wz at*;have c0:=K0.out.cell 0;have c1:=K0.out.cell 1;have c2:=K0.out.cell 2;have c3:=K0.out.cell 3;have c4:=K0.out.cell 4;have hlt:=K0.out.lt;go_wp2_with fail;go_ret;exact⟨zA1 (by rw[HQ.out];rfl),HB.out⟩
  ·cases hf1:f.toList.isEmpty
   ·skip
    rw[hv1,hf1] at HQ;go_enter Tryz.func154,Tryz.ntmps154;go_wp2_with fail;have K0:=zh (Blk.new w 31 (trmC 2 a v A n cap f));have HB:=zh (zA0 w (.cells (trmC 2 a v A n cap f) 31));dsimp only[trmC] at K0 HB;generalize w.alloc (.cells #[.int .i64 2,.string a,.string v,.slice A n cap,.string f] 31)=wz at*;have c0:=K0.out.cell 0;have c1:=K0.out.cell 1;have c2:=K0.out.cell 2;have c3:=K0.out.cell 3;have c4:=K0.out.cell 4;have hlt:=K0.out.lt;go_wp2_with fail;go_ret;exact⟨zA1 (by rw[HQ.out];rfl),HB.out⟩
   ·skip
    rw[hv1,hf1,decide_eq_true hn1.out,Bool.true_and,Bool.true_and,Bool.true_and] at HQ;clear hn1;go_enter Tryz.func154,Tryz.ntmps154;go_wp2_with fail;have K0:=zh (Blk.new w 31 (trmC 2 a v A n cap f));have HB:=zh (zA0 w (.cells (trmC 2 a v A n cap f) 31));dsimp only[trmC] at K0 HB;generalize w.alloc (.cells #[.int .i64 2,.string a,.string v,.slice A n cap,.string f] 31)=wz at*;have c0:=K0.out.cell 0;have c1:=K0.out.cell 1;have c2:=K0.out.cell 2;have c3:=K0.out.cell 3;have c4:=K0.out.cell 4;have hlt:=K0.out.lt
    skip
    refine(HN.out _).mono ?_;rintro e w1 ⟨rfl,hb⟩;have HB:=jt HB hb;replace c0:=(hb.cell (p:=⟨w.heap.size,0,none⟩) hlt).trans c0;replace c1:=(hb.cell (p:=⟨w.heap.size,1,none⟩) hlt).trans c1;replace c2:=(hb.cell (p:=⟨w.heap.size,2,none⟩) hlt).trans c2;replace c3:=(hb.cell (p:=⟨w.heap.size,3,none⟩) hlt).trans c3;replace c4:=(hb.cell (p:=⟨w.heap.size,4,none⟩) hlt).trans c4;replace hlt:=Nat.lt_of_lt_of_le hlt hb.size;clear hb;go_wp2_with fail;go_ret;exact⟨zA1 (by rw[HQ.out]),HB.out⟩
 ·have hn2:((n:Int)==0)=false:=by rw[beq_eq_false_iff_ne];omega
  have hn3:(0:Int)<(n:Int):=by omega
  replace hn1:=zh hn1;rw[decide_eq_false hn1.out,Bool.and_false,Bool.and_false] at HQ;clear hn1;go_enter Tryz.func154,Tryz.ntmps154;go_wp2_with fail;have K0:=zh (Blk.new w 31 (trmC 2 a v A n cap f));have HB:=zh (zA0 w (.cells (trmC 2 a v A n cap f) 31));dsimp only[trmC] at K0 HB;generalize w.alloc (.cells #[.int .i64 2,.string a,.string v,.slice A n cap,.string f] 31)=wz at*;have c0:=K0.out.cell 0;have c1:=K0.out.cell 1;have c2:=K0.out.cell 2;have c3:=K0.out.cell 3;have c4:=K0.out.cell 4;have hlt:=K0.out.lt;go_wp2_with fail;go_ret;exact⟨zA1 (by rw[HQ.out];rfl),HB.out⟩
set_option maxRecDepth 100000 in
set_option maxHeartbeats 800000 in
theorem yB1 (a v f:ByteArray)(n:Nat)(A:Option Addr)(cap:Nat)(w:World)(ha:a.size≤9223372036854775807)(hn:n≤9223372036854775807):Calls Tryz.prog 154 #[.agg (trmC 3 a v A n cap f)] w fun e w'=>e= .returned (.bool (ownM 3 a.toList v.toList f.toList n))∧Below w.heap.size w w':=by
 have HQ:=zh (show ownM 3 a.toList v.toList f.toList n=((v.toList.isEmpty&&(f.toList.isEmpty&&decide (n=0)))&&(zC9 32 a.toList&&decide (a.toList.length≤200))) from rfl);have HN:=zh (fun w=>zIv a 32 200 w ha);generalize (zC9 32 a.toList&&decide (a.toList.length≤200))=rr at*
 by_cases hn1:n=0
 ·have hn2:((n:Int)==0)=true:=by rw[beq_iff_eq];omega
  have hn3:¬(0:Int)<(n:Int):=by omega
  replace hn1:=zh hn1;cases hv1:v.toList.isEmpty
  ·skip
   rw[hv1] at HQ;go_enter Tryz.func154,Tryz.ntmps154;go_wp2_with fail;have K0:=zh (Blk.new w 31 (trmC 3 a v A n cap f));have HB:=zh (zA0 w (.cells (trmC 3 a v A n cap f) 31));dsimp only[trmC] at K0 HB;generalize w.alloc (.cells #[.int .i64 3,.string a,.string v,.slice A n cap,.string f] 31)=wz at*;have c0:=K0.out.cell 0;have c1:=K0.out.cell 1;have c2:=K0.out.cell 2;have c3:=K0.out.cell 3;have c4:=K0.out.cell 4;have hlt:=K0.out.lt;go_wp2_with fail;go_ret;exact⟨zA1 (by rw[HQ.out];rfl),HB.out⟩
  ·cases hf1:f.toList.isEmpty
   ·skip
    rw[hv1,hf1] at HQ;go_enter Tryz.func154,Tryz.ntmps154;go_wp2_with fail;have K0:=zh (Blk.new w 31 (trmC 3 a v A n cap f));have HB:=zh (zA0 w (.cells (trmC 3 a v A n cap f) 31));dsimp only[trmC] at K0 HB;generalize w.alloc (.cells #[.int .i64 3,.string a,.string v,.slice A n cap,.string f] 31)=wz at*;have c0:=K0.out.cell 0;have c1:=K0.out.cell 1;have c2:=K0.out.cell 2;have c3:=K0.out.cell 3;have c4:=K0.out.cell 4;have hlt:=K0.out.lt;go_wp2_with fail;go_ret;exact⟨zA1 (by rw[HQ.out];rfl),HB.out⟩
   ·skip
    rw[hv1,hf1,decide_eq_true hn1.out,Bool.true_and,Bool.true_and,Bool.true_and] at HQ;clear hn1;go_enter Tryz.func154,Tryz.ntmps154;go_wp2_with fail;have K0:=zh (Blk.new w 31 (trmC 3 a v A n cap f));have HB:=zh (zA0 w (.cells (trmC 3 a v A n cap f) 31));dsimp only[trmC] at K0 HB;generalize w.alloc (.cells #[.int .i64 3,.string a,.string v,.slice A n cap,.string f] 31)=wz at*;have c0:=K0.out.cell 0;have c1:=K0.out.cell 1;have c2:=K0.out.cell 2;have c3:=K0.out.cell 3;have c4:=K0.out.cell 4;have hlt:=K0.out.lt
    skip
    refine(HN.out _).mono ?_;rintro e w1 ⟨rfl,hb⟩;have HB:=jt HB hb;replace c0:=(hb.cell (p:=⟨w.heap.size,0,none⟩) hlt).trans c0;replace c1:=(hb.cell (p:=⟨w.heap.size,1,none⟩) hlt).trans c1;replace c2:=(hb.cell (p:=⟨w.heap.size,2,none⟩) hlt).trans c2;replace c3:=(hb.cell (p:=⟨w.heap.size,3,none⟩) hlt).trans c3;replace c4:=(hb.cell (p:=⟨w.heap.size,4,none⟩) hlt).trans c4;replace hlt:=Nat.lt_of_lt_of_le hlt hb.size;clear hb;go_wp2_with fail;go_ret;exact⟨zA1 (by rw[HQ.out]),HB.out⟩
 ·have hn2:((n:Int)==0)=false:=by rw[beq_eq_false_iff_ne];omega
  have hn3:(0:Int)<(n:Int):=by omega
  replace hn1:=zh hn1;rw[decide_eq_false hn1.out,Bool.and_false,Bool.and_false] at HQ;clear hn1;go_enter Tryz.func154,Tryz.ntmps154;go_wp2_with fail;have K0:=zh (Blk.new w 31 (trmC 3 a v A n cap f));have HB:=zh (zA0 w (.cells (trmC 3 a v A n cap f) 31));dsimp only[trmC] at K0 HB;generalize w.alloc (.cells #[.int .i64 3,.string a,.string v,.slice A n cap,.string f] 31)=wz at*;have c0:=K0.out.cell 0;have c1:=K0.out.cell 1;have c2:=K0.out.cell 2;have c3:=K0.out.cell 3;have c4:=K0.out.cell 4;have hlt:=K0.out.lt;go_wp2_with fail;go_ret;exact⟨zA1 (by rw[HQ.out];rfl),HB.out⟩
set_option maxRecDepth 100000 in
set_option maxHeartbeats 800000 in
theorem yAi (a v f:ByteArray)(n:Nat)(A:Option Addr)(cap:Nat)(w:World)(ha:a.size≤9223372036854775807)(hf:f.size≤9223372036854775807)(hn:n≤9223372036854775807):Calls Tryz.prog 154 #[.agg (trmC 4 a v A n cap f)] w fun e w'=>e= .returned (.bool (ownM 4 a.toList v.toList f.toList n))∧Below w.heap.size w w':=by
 have HQ:=zh (show ownM 4 a.toList v.toList f.toList n=((zC9 33 f.toList&&decide (f.toList.length≤16))&&(zAl a.toList&&v.toList.isEmpty)) from rfl);have HN:=zh (fun w=>zPj a w ha);have HF:=zh (fun w=>zIv f 33 16 w hf);generalize (zC9 33 f.toList&&decide (f.toList.length≤16))=fm at*;generalize zAl a.toList=nm at*
 by_cases hn1:n=0
 ·have hn2:((n:Int)==0)=true:=by rw[beq_iff_eq];omega
  have hn3:¬(0:Int)<(n:Int):=by omega
  replace hn1:=zh hn1;cases hv1:v.toList.isEmpty
  ·skip
   rw[hv1] at HQ;go_enter Tryz.func154,Tryz.ntmps154;go_wp2_with fail;have K0:=zh (Blk.new w 31 (trmC 4 a v A n cap f));have HB:=zh (zA0 w (.cells (trmC 4 a v A n cap f) 31));dsimp only[trmC] at K0 HB;generalize w.alloc (.cells #[.int .i64 4,.string a,.string v,.slice A n cap,.string f] 31)=wz at*;have c0:=K0.out.cell 0;have c1:=K0.out.cell 1;have c2:=K0.out.cell 2;have c3:=K0.out.cell 3;have c4:=K0.out.cell 4;have hlt:=K0.out.lt;refine(HN.out _).mono ?_;rintro e w1 ⟨rfl,hb⟩;have HB:=jt HB hb;replace c0:=(hb.cell (p:=⟨w.heap.size,0,none⟩) hlt).trans c0;replace c1:=(hb.cell (p:=⟨w.heap.size,1,none⟩) hlt).trans c1;replace c2:=(hb.cell (p:=⟨w.heap.size,2,none⟩) hlt).trans c2;replace c3:=(hb.cell (p:=⟨w.heap.size,3,none⟩) hlt).trans c3;replace c4:=(hb.cell (p:=⟨w.heap.size,4,none⟩) hlt).trans c4;replace hlt:=Nat.lt_of_lt_of_le hlt hb.size;clear hb;cases nm
   ·go_wp2_with fail;go_ret;exact⟨zA1 (by rw[HQ.out];cases fm<;>rfl),HB.out⟩
   ·go_wp2_with fail;go_ret;exact⟨zA1 (by rw[HQ.out];cases fm<;>rfl),HB.out⟩
  ·cases hf1:f.toList.isEmpty
   ·skip
    rw[hv1] at HQ;go_enter Tryz.func154,Tryz.ntmps154;go_wp2_with fail;have K0:=zh (Blk.new w 31 (trmC 4 a v A n cap f));have HB:=zh (zA0 w (.cells (trmC 4 a v A n cap f) 31));dsimp only[trmC] at K0 HB;generalize w.alloc (.cells #[.int .i64 4,.string a,.string v,.slice A n cap,.string f] 31)=wz at*;have c0:=K0.out.cell 0;have c1:=K0.out.cell 1;have c2:=K0.out.cell 2;have c3:=K0.out.cell 3;have c4:=K0.out.cell 4;have hlt:=K0.out.lt;refine(HN.out _).mono ?_;rintro e w1 ⟨rfl,hb⟩;have HB:=jt HB hb;replace c0:=(hb.cell (p:=⟨w.heap.size,0,none⟩) hlt).trans c0;replace c1:=(hb.cell (p:=⟨w.heap.size,1,none⟩) hlt).trans c1;replace c2:=(hb.cell (p:=⟨w.heap.size,2,none⟩) hlt).trans c2;replace c3:=(hb.cell (p:=⟨w.heap.size,3,none⟩) hlt).trans c3;replace c4:=(hb.cell (p:=⟨w.heap.size,4,none⟩) hlt).trans c4;replace hlt:=Nat.lt_of_lt_of_le hlt hb.size;clear hb;cases nm
    ·go_wp2_with fail;go_ret;exact⟨zA1 (by rw[HQ.out];cases fm<;>rfl),HB.out⟩
    ·go_wp2_with fail;refine(HF.out _).mono ?_;rintro e w1 ⟨rfl,hb⟩;have HB:=jt HB hb;replace c0:=(hb.cell (p:=⟨w.heap.size,0,none⟩) hlt).trans c0;replace c1:=(hb.cell (p:=⟨w.heap.size,1,none⟩) hlt).trans c1;replace c2:=(hb.cell (p:=⟨w.heap.size,2,none⟩) hlt).trans c2;replace c3:=(hb.cell (p:=⟨w.heap.size,3,none⟩) hlt).trans c3;replace c4:=(hb.cell (p:=⟨w.heap.size,4,none⟩) hlt).trans c4;replace hlt:=Nat.lt_of_lt_of_le hlt hb.size;clear hb;go_wp2_with fail;go_ret;exact⟨zA1 (by rw[HQ.out];cases fm<;>rfl),HB.out⟩
   ·skip
    rw[hv1] at HQ;go_enter Tryz.func154,Tryz.ntmps154;go_wp2_with fail;have K0:=zh (Blk.new w 31 (trmC 4 a v A n cap f));have HB:=zh (zA0 w (.cells (trmC 4 a v A n cap f) 31));dsimp only[trmC] at K0 HB;generalize w.alloc (.cells #[.int .i64 4,.string a,.string v,.slice A n cap,.string f] 31)=wz at*;have c0:=K0.out.cell 0;have c1:=K0.out.cell 1;have c2:=K0.out.cell 2;have c3:=K0.out.cell 3;have c4:=K0.out.cell 4;have hlt:=K0.out.lt;refine(HN.out _).mono ?_;rintro e w1 ⟨rfl,hb⟩;have HB:=jt HB hb;replace c0:=(hb.cell (p:=⟨w.heap.size,0,none⟩) hlt).trans c0;replace c1:=(hb.cell (p:=⟨w.heap.size,1,none⟩) hlt).trans c1;replace c2:=(hb.cell (p:=⟨w.heap.size,2,none⟩) hlt).trans c2;replace c3:=(hb.cell (p:=⟨w.heap.size,3,none⟩) hlt).trans c3;replace c4:=(hb.cell (p:=⟨w.heap.size,4,none⟩) hlt).trans c4;replace hlt:=Nat.lt_of_lt_of_le hlt hb.size;clear hb;cases nm
    ·go_wp2_with fail;go_ret;exact⟨zA1 (by rw[HQ.out];cases fm<;>rfl),HB.out⟩
    ·go_wp2_with fail;refine(HF.out _).mono ?_;rintro e w1 ⟨rfl,hb⟩;have HB:=jt HB hb;replace c0:=(hb.cell (p:=⟨w.heap.size,0,none⟩) hlt).trans c0;replace c1:=(hb.cell (p:=⟨w.heap.size,1,none⟩) hlt).trans c1;replace c2:=(hb.cell (p:=⟨w.heap.size,2,none⟩) hlt).trans c2;replace c3:=(hb.cell (p:=⟨w.heap.size,3,none⟩) hlt).trans c3;replace c4:=(hb.cell (p:=⟨w.heap.size,4,none⟩) hlt).trans c4;replace hlt:=Nat.lt_of_lt_of_le hlt hb.size;clear hb;go_wp2_with fail;go_ret;exact⟨zA1 (by rw[HQ.out];cases fm<;>rfl),HB.out⟩
 ·have hn2:((n:Int)==0)=false:=by rw[beq_eq_false_iff_ne];omega
  have hn3:(0:Int)<(n:Int):=by omega
  replace hn1:=zh hn1;cases hv1:v.toList.isEmpty
  ·skip
   rw[hv1] at HQ;go_enter Tryz.func154,Tryz.ntmps154;go_wp2_with fail;have K0:=zh (Blk.new w 31 (trmC 4 a v A n cap f));have HB:=zh (zA0 w (.cells (trmC 4 a v A n cap f) 31));dsimp only[trmC] at K0 HB;generalize w.alloc (.cells #[.int .i64 4,.string a,.string v,.slice A n cap,.string f] 31)=wz at*;have c0:=K0.out.cell 0;have c1:=K0.out.cell 1;have c2:=K0.out.cell 2;have c3:=K0.out.cell 3;have c4:=K0.out.cell 4;have hlt:=K0.out.lt;refine(HN.out _).mono ?_;rintro e w1 ⟨rfl,hb⟩;have HB:=jt HB hb;replace c0:=(hb.cell (p:=⟨w.heap.size,0,none⟩) hlt).trans c0;replace c1:=(hb.cell (p:=⟨w.heap.size,1,none⟩) hlt).trans c1;replace c2:=(hb.cell (p:=⟨w.heap.size,2,none⟩) hlt).trans c2;replace c3:=(hb.cell (p:=⟨w.heap.size,3,none⟩) hlt).trans c3;replace c4:=(hb.cell (p:=⟨w.heap.size,4,none⟩) hlt).trans c4;replace hlt:=Nat.lt_of_lt_of_le hlt hb.size;clear hb;cases nm
   ·go_wp2_with fail;go_ret;exact⟨zA1 (by rw[HQ.out];cases fm<;>rfl),HB.out⟩
   ·go_wp2_with fail;go_ret;exact⟨zA1 (by rw[HQ.out];cases fm<;>rfl),HB.out⟩
  ·skip
   rw[hv1] at HQ;go_enter Tryz.func154,Tryz.ntmps154;go_wp2_with fail;have K0:=zh (Blk.new w 31 (trmC 4 a v A n cap f));have HB:=zh (zA0 w (.cells (trmC 4 a v A n cap f) 31));dsimp only[trmC] at K0 HB;generalize w.alloc (.cells #[.int .i64 4,.string a,.string v,.slice A n cap,.string f] 31)=wz at*;have c0:=K0.out.cell 0;have c1:=K0.out.cell 1;have c2:=K0.out.cell 2;have c3:=K0.out.cell 3;have c4:=K0.out.cell 4;have hlt:=K0.out.lt;refine(HN.out _).mono ?_;rintro e w1 ⟨rfl,hb⟩;have HB:=jt HB hb;replace c0:=(hb.cell (p:=⟨w.heap.size,0,none⟩) hlt).trans c0;replace c1:=(hb.cell (p:=⟨w.heap.size,1,none⟩) hlt).trans c1;replace c2:=(hb.cell (p:=⟨w.heap.size,2,none⟩) hlt).trans c2;replace c3:=(hb.cell (p:=⟨w.heap.size,3,none⟩) hlt).trans c3;replace c4:=(hb.cell (p:=⟨w.heap.size,4,none⟩) hlt).trans c4;replace hlt:=Nat.lt_of_lt_of_le hlt hb.size;clear hb;cases nm
   ·go_wp2_with fail;go_ret;exact⟨zA1 (by rw[HQ.out];cases fm<;>rfl),HB.out⟩
   ·go_wp2_with fail;refine(HF.out _).mono ?_;rintro e w1 ⟨rfl,hb⟩;have HB:=jt HB hb;replace c0:=(hb.cell (p:=⟨w.heap.size,0,none⟩) hlt).trans c0;replace c1:=(hb.cell (p:=⟨w.heap.size,1,none⟩) hlt).trans c1;replace c2:=(hb.cell (p:=⟨w.heap.size,2,none⟩) hlt).trans c2;replace c3:=(hb.cell (p:=⟨w.heap.size,3,none⟩) hlt).trans c3;replace c4:=(hb.cell (p:=⟨w.heap.size,4,none⟩) hlt).trans c4;replace hlt:=Nat.lt_of_lt_of_le hlt hb.size;clear hb;go_wp2_with fail;go_ret;exact⟨zA1 (by rw[HQ.out];cases fm<;>rfl),HB.out⟩
set_option maxRecDepth 100000 in
set_option maxHeartbeats 800000 in
theorem yAl (a v f:ByteArray)(n:Nat)(A:Option Addr)(cap:Nat)(w:World)(ha:a.size≤9223372036854775807)(hv:v.size≤9223372036854775807)(hf:f.size≤9223372036854775807)(hn:n≤9223372036854775807):Calls Tryz.prog 154 #[.agg (trmC 5 a v A n cap f)] w fun e w'=>e= .returned (.bool (ownM 5 a.toList v.toList f.toList n))∧Below w.heap.size w w':=by
 have HQ:=zh (show ownM 5 a.toList v.toList f.toList n=((zC9 33 f.toList&&decide (f.toList.length≤16))&&(zAl a.toList&&(idB v.toList&&decide (0<n)))) from rfl);have HN:=zh (fun w=>zPj a w ha);have HI:=zh (fun w=>zKy v w hv);have HF:=zh (fun w=>zIv f 33 16 w hf);generalize (zC9 33 f.toList&&decide (f.toList.length≤16))=fm at*;generalize zAl a.toList=nm at*;generalize idB v.toList=ii at*
 by_cases hn1:n=0
 ·have hn2:((n:Int)==0)=true:=by rw[beq_iff_eq];omega
  have hn3:¬(0:Int)<(n:Int):=by omega
  replace hn1:=zh hn1;cases hv1:v.toList.isEmpty
  ·skip
   rw[show decide (0<n)=false by rw[decide_eq_false (by omega)]] at HQ;go_enter Tryz.func154,Tryz.ntmps154;go_wp2_with fail;have K0:=zh (Blk.new w 31 (trmC 5 a v A n cap f));have HB:=zh (zA0 w (.cells (trmC 5 a v A n cap f) 31));dsimp only[trmC] at K0 HB;generalize w.alloc (.cells #[.int .i64 5,.string a,.string v,.slice A n cap,.string f] 31)=wz at*;have c0:=K0.out.cell 0;have c1:=K0.out.cell 1;have c2:=K0.out.cell 2;have c3:=K0.out.cell 3;have c4:=K0.out.cell 4;have hlt:=K0.out.lt;refine(HN.out _).mono ?_;rintro e w1 ⟨rfl,hb⟩;have HB:=jt HB hb;replace c0:=(hb.cell (p:=⟨w.heap.size,0,none⟩) hlt).trans c0;replace c1:=(hb.cell (p:=⟨w.heap.size,1,none⟩) hlt).trans c1;replace c2:=(hb.cell (p:=⟨w.heap.size,2,none⟩) hlt).trans c2;replace c3:=(hb.cell (p:=⟨w.heap.size,3,none⟩) hlt).trans c3;replace c4:=(hb.cell (p:=⟨w.heap.size,4,none⟩) hlt).trans c4;replace hlt:=Nat.lt_of_lt_of_le hlt hb.size;clear hb;cases nm
   ·go_wp2_with fail;go_ret;exact⟨zA1 (by rw[HQ.out];cases fm<;>rfl),HB.out⟩
   ·go_wp2_with fail;refine(HI.out _).mono ?_;rintro e w1 ⟨rfl,hb⟩;have HB:=jt HB hb;replace c0:=(hb.cell (p:=⟨w.heap.size,0,none⟩) hlt).trans c0;replace c1:=(hb.cell (p:=⟨w.heap.size,1,none⟩) hlt).trans c1;replace c2:=(hb.cell (p:=⟨w.heap.size,2,none⟩) hlt).trans c2;replace c3:=(hb.cell (p:=⟨w.heap.size,3,none⟩) hlt).trans c3;replace c4:=(hb.cell (p:=⟨w.heap.size,4,none⟩) hlt).trans c4;replace hlt:=Nat.lt_of_lt_of_le hlt hb.size;clear hb;cases ii
    ·go_wp2_with fail;go_ret;exact⟨zA1 (by rw[HQ.out];cases fm<;>rfl),HB.out⟩
    ·go_wp2_with fail;refine(HF.out _).mono ?_;rintro e w1 ⟨rfl,hb⟩;have HB:=jt HB hb;replace c0:=(hb.cell (p:=⟨w.heap.size,0,none⟩) hlt).trans c0;replace c1:=(hb.cell (p:=⟨w.heap.size,1,none⟩) hlt).trans c1;replace c2:=(hb.cell (p:=⟨w.heap.size,2,none⟩) hlt).trans c2;replace c3:=(hb.cell (p:=⟨w.heap.size,3,none⟩) hlt).trans c3;replace c4:=(hb.cell (p:=⟨w.heap.size,4,none⟩) hlt).trans c4;replace hlt:=Nat.lt_of_lt_of_le hlt hb.size;clear hb;cases fm
     ·go_wp2_with fail;go_ret;exact⟨zA1 (by rw[HQ.out];rfl),HB.out⟩
     ·go_wp2_with fail;go_ret;exact⟨zA1 (by rw[HQ.out];first|rfl|(simp;omega)),HB.out⟩
  ·cases hf1:f.toList.isEmpty
   ·skip
    rw[show decide (0<n)=false by rw[decide_eq_false (by omega)]] at HQ;go_enter Tryz.func154,Tryz.ntmps154;go_wp2_with fail;have K0:=zh (Blk.new w 31 (trmC 5 a v A n cap f));have HB:=zh (zA0 w (.cells (trmC 5 a v A n cap f) 31));dsimp only[trmC] at K0 HB;generalize w.alloc (.cells #[.int .i64 5,.string a,.string v,.slice A n cap,.string f] 31)=wz at*;have c0:=K0.out.cell 0;have c1:=K0.out.cell 1;have c2:=K0.out.cell 2;have c3:=K0.out.cell 3;have c4:=K0.out.cell 4;have hlt:=K0.out.lt;refine(HN.out _).mono ?_;rintro e w1 ⟨rfl,hb⟩;have HB:=jt HB hb;replace c0:=(hb.cell (p:=⟨w.heap.size,0,none⟩) hlt).trans c0;replace c1:=(hb.cell (p:=⟨w.heap.size,1,none⟩) hlt).trans c1;replace c2:=(hb.cell (p:=⟨w.heap.size,2,none⟩) hlt).trans c2;replace c3:=(hb.cell (p:=⟨w.heap.size,3,none⟩) hlt).trans c3;replace c4:=(hb.cell (p:=⟨w.heap.size,4,none⟩) hlt).trans c4;replace hlt:=Nat.lt_of_lt_of_le hlt hb.size;clear hb;cases nm
    ·go_wp2_with fail;go_ret;exact⟨zA1 (by rw[HQ.out];cases fm<;>rfl),HB.out⟩
    ·go_wp2_with fail;refine(HI.out _).mono ?_;rintro e w1 ⟨rfl,hb⟩;have HB:=jt HB hb;replace c0:=(hb.cell (p:=⟨w.heap.size,0,none⟩) hlt).trans c0;replace c1:=(hb.cell (p:=⟨w.heap.size,1,none⟩) hlt).trans c1;replace c2:=(hb.cell (p:=⟨w.heap.size,2,none⟩) hlt).trans c2;replace c3:=(hb.cell (p:=⟨w.heap.size,3,none⟩) hlt).trans c3;replace c4:=(hb.cell (p:=⟨w.heap.size,4,none⟩) hlt).trans c4;replace hlt:=Nat.lt_of_lt_of_le hlt hb.size;clear hb;cases ii
     ·go_wp2_with fail;go_ret;exact⟨zA1 (by rw[HQ.out];cases fm<;>rfl),HB.out⟩
     ·go_wp2_with fail;refine(HF.out _).mono ?_;rintro e w1 ⟨rfl,hb⟩;have HB:=jt HB hb;replace c0:=(hb.cell (p:=⟨w.heap.size,0,none⟩) hlt).trans c0;replace c1:=(hb.cell (p:=⟨w.heap.size,1,none⟩) hlt).trans c1;replace c2:=(hb.cell (p:=⟨w.heap.size,2,none⟩) hlt).trans c2;replace c3:=(hb.cell (p:=⟨w.heap.size,3,none⟩) hlt).trans c3;replace c4:=(hb.cell (p:=⟨w.heap.size,4,none⟩) hlt).trans c4;replace hlt:=Nat.lt_of_lt_of_le hlt hb.size;clear hb;cases fm
      ·go_wp2_with fail;go_ret;exact⟨zA1 (by rw[HQ.out];rfl),HB.out⟩
      ·go_wp2_with fail;go_ret;exact⟨zA1 (by rw[HQ.out];first|rfl|(simp;omega)),HB.out⟩
   ·skip
    rw[show decide (0<n)=false by rw[decide_eq_false (by omega)]] at HQ;go_enter Tryz.func154,Tryz.ntmps154;go_wp2_with fail;have K0:=zh (Blk.new w 31 (trmC 5 a v A n cap f));have HB:=zh (zA0 w (.cells (trmC 5 a v A n cap f) 31));dsimp only[trmC] at K0 HB;generalize w.alloc (.cells #[.int .i64 5,.string a,.string v,.slice A n cap,.string f] 31)=wz at*;have c0:=K0.out.cell 0;have c1:=K0.out.cell 1;have c2:=K0.out.cell 2;have c3:=K0.out.cell 3;have c4:=K0.out.cell 4;have hlt:=K0.out.lt;refine(HN.out _).mono ?_;rintro e w1 ⟨rfl,hb⟩;have HB:=jt HB hb;replace c0:=(hb.cell (p:=⟨w.heap.size,0,none⟩) hlt).trans c0;replace c1:=(hb.cell (p:=⟨w.heap.size,1,none⟩) hlt).trans c1;replace c2:=(hb.cell (p:=⟨w.heap.size,2,none⟩) hlt).trans c2;replace c3:=(hb.cell (p:=⟨w.heap.size,3,none⟩) hlt).trans c3;replace c4:=(hb.cell (p:=⟨w.heap.size,4,none⟩) hlt).trans c4;replace hlt:=Nat.lt_of_lt_of_le hlt hb.size;clear hb;cases nm
    ·go_wp2_with fail;go_ret;exact⟨zA1 (by rw[HQ.out];cases fm<;>rfl),HB.out⟩
    ·go_wp2_with fail;refine(HI.out _).mono ?_;rintro e w1 ⟨rfl,hb⟩;have HB:=jt HB hb;replace c0:=(hb.cell (p:=⟨w.heap.size,0,none⟩) hlt).trans c0;replace c1:=(hb.cell (p:=⟨w.heap.size,1,none⟩) hlt).trans c1;replace c2:=(hb.cell (p:=⟨w.heap.size,2,none⟩) hlt).trans c2;replace c3:=(hb.cell (p:=⟨w.heap.size,3,none⟩) hlt).trans c3;replace c4:=(hb.cell (p:=⟨w.heap.size,4,none⟩) hlt).trans c4;replace hlt:=Nat.lt_of_lt_of_le hlt hb.size;clear hb;cases ii
     ·go_wp2_with fail;go_ret;exact⟨zA1 (by rw[HQ.out];cases fm<;>rfl),HB.out⟩
     ·go_wp2_with fail;refine(HF.out _).mono ?_;rintro e w1 ⟨rfl,hb⟩;have HB:=jt HB hb;replace c0:=(hb.cell (p:=⟨w.heap.size,0,none⟩) hlt).trans c0;replace c1:=(hb.cell (p:=⟨w.heap.size,1,none⟩) hlt).trans c1;replace c2:=(hb.cell (p:=⟨w.heap.size,2,none⟩) hlt).trans c2;replace c3:=(hb.cell (p:=⟨w.heap.size,3,none⟩) hlt).trans c3;replace c4:=(hb.cell (p:=⟨w.heap.size,4,none⟩) hlt).trans c4;replace hlt:=Nat.lt_of_lt_of_le hlt hb.size;clear hb;cases fm
      ·go_wp2_with fail;go_ret;exact⟨zA1 (by rw[HQ.out];rfl),HB.out⟩
      ·go_wp2_with fail;go_ret;exact⟨zA1 (by rw[HQ.out];first|rfl|(simp;omega)),HB.out⟩
 ·have hn2:((n:Int)==0)=false:=by rw[beq_eq_false_iff_ne];omega
  have hn3:(0:Int)<(n:Int):=by omega
  replace hn1:=zh hn1;rw[show decide (0<n)=true by rw[decide_eq_true (by omega)]] at HQ;go_enter Tryz.func154,Tryz.ntmps154;go_wp2_with fail;have K0:=zh (Blk.new w 31 (trmC 5 a v A n cap f));have HB:=zh (zA0 w (.cells (trmC 5 a v A n cap f) 31));dsimp only[trmC] at K0 HB;generalize w.alloc (.cells #[.int .i64 5,.string a,.string v,.slice A n cap,.string f] 31)=wz at*;have c0:=K0.out.cell 0;have c1:=K0.out.cell 1;have c2:=K0.out.cell 2;have c3:=K0.out.cell 3;have c4:=K0.out.cell 4;have hlt:=K0.out.lt;refine(HN.out _).mono ?_;rintro e w1 ⟨rfl,hb⟩;have HB:=jt HB hb;replace c0:=(hb.cell (p:=⟨w.heap.size,0,none⟩) hlt).trans c0;replace c1:=(hb.cell (p:=⟨w.heap.size,1,none⟩) hlt).trans c1;replace c2:=(hb.cell (p:=⟨w.heap.size,2,none⟩) hlt).trans c2;replace c3:=(hb.cell (p:=⟨w.heap.size,3,none⟩) hlt).trans c3;replace c4:=(hb.cell (p:=⟨w.heap.size,4,none⟩) hlt).trans c4;replace hlt:=Nat.lt_of_lt_of_le hlt hb.size;clear hb;cases nm
  ·go_wp2_with fail;go_ret;exact⟨zA1 (by rw[HQ.out];cases fm<;>rfl),HB.out⟩
  ·go_wp2_with fail;refine(HI.out _).mono ?_;rintro e w1 ⟨rfl,hb⟩;have HB:=jt HB hb;replace c0:=(hb.cell (p:=⟨w.heap.size,0,none⟩) hlt).trans c0;replace c1:=(hb.cell (p:=⟨w.heap.size,1,none⟩) hlt).trans c1;replace c2:=(hb.cell (p:=⟨w.heap.size,2,none⟩) hlt).trans c2;replace c3:=(hb.cell (p:=⟨w.heap.size,3,none⟩) hlt).trans c3;replace c4:=(hb.cell (p:=⟨w.heap.size,4,none⟩) hlt).trans c4;replace hlt:=Nat.lt_of_lt_of_le hlt hb.size;clear hb;cases ii
   ·go_wp2_with fail;go_ret;exact⟨zA1 (by rw[HQ.out];cases fm<;>rfl),HB.out⟩
   ·go_wp2_with fail;refine(HF.out _).mono ?_;rintro e w1 ⟨rfl,hb⟩;have HB:=jt HB hb;replace c0:=(hb.cell (p:=⟨w.heap.size,0,none⟩) hlt).trans c0;replace c1:=(hb.cell (p:=⟨w.heap.size,1,none⟩) hlt).trans c1;replace c2:=(hb.cell (p:=⟨w.heap.size,2,none⟩) hlt).trans c2;replace c3:=(hb.cell (p:=⟨w.heap.size,3,none⟩) hlt).trans c3;replace c4:=(hb.cell (p:=⟨w.heap.size,4,none⟩) hlt).trans c4;replace hlt:=Nat.lt_of_lt_of_le hlt hb.size;clear hb;cases fm
    ·go_wp2_with fail;go_ret;exact⟨zA1 (by rw[HQ.out];rfl),HB.out⟩
    ·go_wp2_with fail;go_ret;exact⟨zA1 (by rw[HQ.out];first|rfl|(simp;omega)),HB.out⟩
set_option maxRecDepth 100000 in
set_option maxHeartbeats 800000 in
theorem yAx (k:Int)(a v f:ByteArray)(n:Nat)(A:Option Addr)(cap:Nat)(w:World)(hn:n≤9223372036854775807)(h1:(k==1)=false)(h2:(k==2)=false)(h3:(k==3)=false)(h4:(k==4)=false)(h5:(k==5)=false):Calls Tryz.prog 154 #[.agg (trmC k a v A n cap f)] w fun e w'=>e= .returned (.bool (ownM k a.toList v.toList f.toList n))∧Below w.heap.size w w':=by
 have HQ:=zh (show ownM k a.toList v.toList f.toList n=false by unfold ownM;rw[if_neg (beq_eq_false_iff_ne.1 h1),if_neg (beq_eq_false_iff_ne.1 h2),if_neg (beq_eq_false_iff_ne.1 h3),if_neg (beq_eq_false_iff_ne.1 h4),if_neg (beq_eq_false_iff_ne.1 h5)])
 by_cases hn1:n=0
 ·have hn2:((n:Int)==0)=true:=by rw[beq_iff_eq];omega
  have hn3:¬(0:Int)<(n:Int):=by omega
  replace hn1:=zh hn1;cases hv1:v.toList.isEmpty
  ·skip
   go_enter Tryz.func154,Tryz.ntmps154;go_wp2_with fail;have K0:=zh (Blk.new w 31 (trmC k a v A n cap f));have HB:=zh (zA0 w (.cells (trmC k a v A n cap f) 31));dsimp only[trmC] at K0 HB;generalize w.alloc (.cells #[.int .i64 k,.string a,.string v,.slice A n cap,.string f] 31)=wz at*;have c0:=K0.out.cell 0;have c1:=K0.out.cell 1;have c2:=K0.out.cell 2;have c3:=K0.out.cell 3;have c4:=K0.out.cell 4;have hlt:=K0.out.lt;go_wp2_with fail;go_ret;exact⟨zA1 (by rw[HQ.out]),HB.out⟩
  ·cases hf1:f.toList.isEmpty
   ·skip
    go_enter Tryz.func154,Tryz.ntmps154;go_wp2_with fail;have K0:=zh (Blk.new w 31 (trmC k a v A n cap f));have HB:=zh (zA0 w (.cells (trmC k a v A n cap f) 31));dsimp only[trmC] at K0 HB;generalize w.alloc (.cells #[.int .i64 k,.string a,.string v,.slice A n cap,.string f] 31)=wz at*;have c0:=K0.out.cell 0;have c1:=K0.out.cell 1;have c2:=K0.out.cell 2;have c3:=K0.out.cell 3;have c4:=K0.out.cell 4;have hlt:=K0.out.lt;go_wp2_with fail;go_ret;exact⟨zA1 (by rw[HQ.out]),HB.out⟩
   ·skip
    go_enter Tryz.func154,Tryz.ntmps154;go_wp2_with fail;have K0:=zh (Blk.new w 31 (trmC k a v A n cap f));have HB:=zh (zA0 w (.cells (trmC k a v A n cap f) 31));dsimp only[trmC] at K0 HB;generalize w.alloc (.cells #[.int .i64 k,.string a,.string v,.slice A n cap,.string f] 31)=wz at*;have c0:=K0.out.cell 0;have c1:=K0.out.cell 1;have c2:=K0.out.cell 2;have c3:=K0.out.cell 3;have c4:=K0.out.cell 4;have hlt:=K0.out.lt;go_wp2_with fail;go_ret;exact⟨zA1 (by rw[HQ.out]),HB.out⟩
 ·have hn2:((n:Int)==0)=false:=by rw[beq_eq_false_iff_ne];omega
  have hn3:(0:Int)<(n:Int):=by omega
  replace hn1:=zh hn1;go_enter Tryz.func154,Tryz.ntmps154;go_wp2_with fail;have K0:=zh (Blk.new w 31 (trmC k a v A n cap f));have HB:=zh (zA0 w (.cells (trmC k a v A n cap f) 31));dsimp only[trmC] at K0 HB;generalize w.alloc (.cells #[.int .i64 k,.string a,.string v,.slice A n cap,.string f] 31)=wz at*;have c0:=K0.out.cell 0;have c1:=K0.out.cell 1;have c2:=K0.out.cell 2;have c3:=K0.out.cell 3;have c4:=K0.out.cell 4;have hlt:=K0.out.lt;go_wp2_with fail;go_ret;exact⟨zA1 (by rw[HQ.out]),HB.out⟩
theorem zSe (t:Trm)(c:Array Value)(w:World)(hM:MAt w t c):Calls Tryz.prog 154 #[.agg c] w fun e w'=>e= .returned (.bool (ownM t.kind t.nam.data.toList t.vr.data.toList t.form.data.toList t.args.length))∧Below w.heap.size w w':=by
 obtain⟨A,cap,rfl,ha,hv,hf,hn,hc,-⟩:=hM.form;obtain⟨k,a,v,f,ts⟩:=t;dsimp only[Trm.kind,Trm.nam,Trm.vr,Trm.form,Trm.args] at ha hv hf hn⊢;rw[←ByteArray.toList_eq,←ByteArray.toList_eq,←ByteArray.toList_eq];have hn:ts.length≤9223372036854775807:=by omega
 by_cases h1:k=1
 ·subst h1;exact yB3 a v f _ A cap w ha hn
 by_cases h2:k=2
 ·subst h2;exact yB5 a v f _ A cap w ha hn
 by_cases h3:k=3
 ·subst h3;exact yB1 a v f _ A cap w ha hn
 by_cases h4:k=4
 ·subst h4;exact yAi a v f _ A cap w ha hf hn
 by_cases h5:k=5
 ·subst h5;exact yAl a v f _ A cap w ha hv hf hn
 exact yAx k a v f _ A cap w hn (beq_eq_false_iff_ne.2 h1) (beq_eq_false_iff_ne.2 h2) (beq_eq_false_iff_ne.2 h3) (beq_eq_false_iff_ne.2 h4) (beq_eq_false_iff_ne.2 h5)
set_option maxRecDepth 100000 in
set_option maxHeartbeats 1600000 in
theorem zV4:∀(z:Nat) (t:Trm) (c:Array Value) (w:World),cntM t≤z→z≤1000000→MAt w t c→Calls Tryz.prog 113 #[.agg c] w fun e w'=>e= .returned (.int .i64 (sizM t))∧Below w.heap.size w w':=by
 intro z
 induction z with
 |zero=>intro t c w h;have:=zEj t;omega
 |succ z ih=>
  intro t c w hz hz2 hM;have IH:=zh (fun t c w h hN=>ih t c w h (by omega) hN);clear ih;obtain⟨A,cap,rfl,ha,hv,hf,hl,hc,hk⟩:=hM.form;have HM:=zh (hM.keep (zA0 w (.cells (trmC t.kind t.nam t.vr A t.args.length cap t.form) 31)));obtain⟨k,a,v,f,ts⟩:=t;dsimp only[Trm.kind,Trm.nam,Trm.vr,Trm.form,Trm.args] at ha hv hf hl hk HM⊢;have HK:=zh (hk.keep (zA0 w (.cells (trmC k a v A ts.length cap f) 31)));have HB:=zh (zA0 w (.cells (trmC k a v A ts.length cap f) 31));have K1:=zh (Blk.new w 31 (trmC k a v A ts.length cap f));have HT:cntM (.mk k a v f ts)=cntL ts+1:=by rw[cntM]
  have HFM:=zh (show zE4 (.mk k a v f ts)=(ownM k a.data.toList v.data.toList f.data.toList ts.length&&zBw ts) by rw[zE4]);have hlc:=zM6 ts;have HZ:=zh (show cntL ts≤z by omega);have HL:ts.length≤1000000:=by omega
  have HQ:=zh (show sizM (.mk k a v f ts)=if zE4 (.mk k a v f ts)=true∧cntL ts+1≤1000 then((cntL ts+1:Nat):Int) else -1 by unfold sizM;rw[HT]);have HLC:=zh hlc;clear hz hM hk HT hlc;dsimp only[trmC] at HK HB K1 HM;go_enter Tryz.func113,Tryz.ntmps113;go_wp2_with fail;refine(zSe _ _ _ HM.out).mono ?_;rintro e w1 ⟨rfl,hb⟩;dsimp only[Trm.kind,Trm.nam,Trm.vr,Trm.form,Trm.args];replace HK:=zh (HK.out.keep hb);replace K1:=kp hb K1;replace HB:=jt HB hb;clear hb HM;have c3:=K1.out.cell 3;cases ho:ownM k a.data.toList v.data.toList f.data.toList ts.length
  ·have HQ2:=zh (show sizM (.mk k a v f ts)= -1 by rw[HQ.out,if_neg (fun h=>by rw[HFM.out,ho] at h;simp at h)]);clear ho;go_wp2_with fail;go_ret;exact⟨zC1 HQ2.out.symm,HB.out⟩
  rw[ho,Bool.true_and] at HFM;clear ho
  by_cases hbig:1000<(ts.length:Int)
  ·have HQ2:=zh (show sizM (.mk k a v f ts)= -1 by rw[HQ.out,if_neg (fun h=>by have:=HLC.out;omega)]);go_wp2_with fail;go_ret;exact⟨zC1 HQ2.out.symm,HB.out⟩
  rw[HFM.out] at HQ;go_wp2_with fail;clear c3
  go_loopw [3,4] (fun v0 i wr=>∃(j x:Nat),j≤ts.length∧i= .int .i64 j∧v0= .int .i64 x∧x≤1000∧Hid (x=cntL (ts.take j)+1)∧Hid (zBw (ts.take j)=true)∧Hid (Blk wr w.heap.size 31 (trmC k a v A ts.length cap f))∧Hid (zDk wr A ts)∧Hid (Below w.heap.size w wr)) (fun _ i _=>ts.length -(intOf i).toNat)
  case atStart=>exact⟨0,1,by omega,rfl,rfl,by omega,rfl,rfl,K1,HK,HB⟩
  case round=>
   clear K1 HK HB;obtain⟨j,x,hj,rfl,rfl,hx,HX,HFJ,K1,HK,HB⟩:=hrel;have c3:=K1.out.cell 3;dsimp only[trmC] at c3
   by_cases hlt:j<ts.length
   ·obtain⟨y,hy⟩:∃y,ts[j]?=some y:=⟨_,gE hlt⟩
    obtain⟨ad,A',cap',rfl,hadl,hp⟩:=HK.out.at_ hy;have HY:=zh hp.whole;obtain⟨-,d0,d1,d2,d3,d4,-⟩:=hp;have HS:=zh (show cntM y≤z by have:=zFb hy;have:=HZ.out;omega);have HSN:=zh (zNt hy);have HFS:=zh (zP9 hy);have HLE:=zh (zU5 ts (j+1));have HFF:=zh (fun h=>zN3 (ks:=ts) (k:=j+1) h);have HYP:=zh (zEj y);clear hy;go_wp2_with fail;refine(IH.out y _ _ HS.out HY.out).mono ?_;rintro e w2 ⟨rfl,hb⟩;replace HK:=zh (HK.out.keep hb);replace K1:=kp hb K1;replace HB:=jt HB hb;clear hb HY d0 d1 d2 d3 d4 c3
    by_cases hgood:zE4 y=true∧cntM y≤1000
    ·rw[show sizM y=(cntM y:Int) by unfold sizM;rw[if_pos hgood]];obtain⟨g1,g2⟩:=hgood;rw[HFJ.out,g1] at HFS;have hyp:=HYP.out
     by_cases hover:1000<x+cntM y
     ·have HQ2:=zh (show sizM (.mk k a v f ts)= -1 by rw[HQ.out,if_neg (fun h=>by have h1:=HSN.out;have h2:=HX.out;have h3:=HLE.out;omega)]);clear g1 HSN HX;generalize cntM y=u at*;go_wp2_with fail;go_ret;exact⟨zC1 HQ2.out.symm,HB.out⟩
     ·have HS2:=zh (show x+cntM y=cntL (ts.take (j+1))+1 by rw[HSN.out,HX.out];omega);clear g1 HSN HX HS;generalize cntM y=u at*;go_wp2_with fail;go_roundw
      case rel=>exact⟨j+1,x+u,by omega,by go_num,by go_num,by omega,HS2,HFS,K1,HK,HB⟩
      case measure=>simp[intOf];omega
    ·rw[show sizM y= -1 by unfold sizM;rw[if_neg hgood]];have HQ2:=zh (show sizM (.mk k a v f ts)= -1 by
      rw[HQ.out,if_neg];rintro⟨h1,h2⟩
      apply hgood
      refine⟨?_,?_⟩
      ·cases hfy:zE4 y
       ·have h3:=HFF.out (by rw[HFS.out,hfy,Bool.and_false]);rw[h3] at h1;cases h1
       ·rfl
      ·have h3:=HSN.out;have h4:=HLE.out;omega)
     clear hgood;go_wp2_with fail;go_ret;exact⟨zC1 HQ2.out.symm,HB.out⟩
   ·obtain rfl:j=ts.length:=by omega
    rw[List.take_length] at HX HFJ;have HQ2:=zh (show sizM (.mk k a v f ts)=(x:Int) by rw[HQ.out,if_pos ⟨HFJ.out,by have:=HX.out;omega⟩,HX.out]);go_wp2_with fail;go_ret;exact⟨zC1 HQ2.out.symm,HB.out⟩
set_option maxRecDepth 100000 in
set_option maxHeartbeats 800000 in
theorem zHr (t:Trm)(c:Array Value)(w:World)(hn:cntM t≤1000000)(hM:MAt w t c):Calls Tryz.prog 59 #[.agg c] w fun e w'=>e= .returned (.bool (zAx t))∧Below w.heap.size w w':=by
 obtain⟨A,cap,rfl,ha,hv,hf,hl,hc,hk⟩:=hM.form;have HM:=zh (hM.keep (zA0 w (.cells (trmC t.kind t.nam t.vr A t.args.length cap t.form) 31)));have HB:=zh (zA0 w (.cells (trmC t.kind t.nam t.vr A t.args.length cap t.form) 31));have K1:=zh (Blk.new w 31 (trmC t.kind t.nam t.vr A t.args.length cap t.form));have HQ:=zh (zTn t);have HN:=zh hn;clear hM hk hn;dsimp only[trmC] at HM HB K1;go_enter Tryz.func59,Tryz.ntmps59;go_wp2_with fail;refine(zV4 (cntM t) t _ _ (Nat.le_refl _) HN.out HM.out).mono ?_;rintro e w2 ⟨rfl,hb⟩;replace HB:=jt HB hb;clear hb;generalize sizM t=sz at*;go_wp2_with fail;go_ret;exact⟨zA1 HQ.out,HB.out⟩
theorem zJg:∀(a b:List Trm) (n:Nat),zCh (a++b) n=if(zCh a n).1=true then zCh b (zCh a n).2 else zCh a n
 |[],b,n=>by rw[List.nil_append,show zCh [] n=(true,n) by rw[zCh],if_pos rfl]
 |x::r,b,n=>by
  rw[List.cons_append,zCh,zCh];cases h:(chkM x n).1
  ·simp
  ·rw[if_pos rfl,if_pos rfl,zJg r b]
theorem zS5 {ks:List Trm}{j n nj:Nat}{y:Trm}(hy:ks[j]?=some y)(h:zCh (ks.take j) n=(true,nj)):zCh (ks.take (j+1)) n=chkM y nj:=by
 rw[List.take_add_one,hy,Option.toList,zJg,h,if_pos rfl,zCh];cases hc:(chkM y nj).1
 ·rw[if_neg (by simp)];rw[←hc]
 ·rw[if_pos rfl,zCh];rw[←hc]
theorem zRu {ks:List Trm}{j n:Nat}(h:(zCh (ks.take j) n).1=false):zCh ks n=zCh (ks.take j) n:=by
 conv=>lhs;rw[←List.take_append_drop j ks]
 rw[zJg,h,if_neg (by simp)]
theorem zZj (t:Trm)(n:Nat)(h:(chkM t n).1=true):(chkM t n).2≤1000:=by
 obtain⟨a,b⟩:=zIb t n;rw[b h];exact(a.1 h).2
set_option maxRecDepth 100000 in
set_option maxHeartbeats 1600000 in
theorem zCe:∀(m:Nat) (t:Trm) (p:Addr) (A:Option Addr) (cap gc n:Nat) (w0 w:World),cntM t≤m→PtM w0 p t A cap→Below w0.heap.size w0 w→Blk w gc 3 #[.int .i64 (n:Int)]→w0.heap.size≤gc→n≤1000→Calls Tryz.prog 133 #[.pointer (some p),.pointer (some ⟨gc,0,none⟩)] w fun e w'=>e= .returned (.bool (chkM t n).1)∧Blk w' gc 3 #[.int .i64 ((chkM t n).2:Int)]∧Below w0.heap.size w0 w':=by
 intro m
 induction m with
 |zero=>intro t p A cap gc n w0 w h;have:=zEj t;omega
 |succ m ih=>
  intro t p A cap gc n w0 w hm hP hB hC hgc hn;have IH:=zh ih;clear ih;obtain⟨k,a,v,f,ts⟩:=t;have HP:=zh hP;have HZ:=zh (show cntL ts≤m by rw[cntM] at hm;omega);have HQ0:=zh (show chkM (.mk k a v f ts) n=if 1000<n+1∨ownM k a.data.toList v.data.toList f.data.toList ts.length=false then(false,n+1) else zCh ts (n+1) by rw[chkM]);have f0:=hC.frozen 0;have f1:=hC.cell 0;have HC1:=zh (show Blk (w.setCell ⟨gc,0,none⟩ (.int .i64 ((n:Int)+1))) gc 3 #[.int .i64 ((n+1:Nat):Int)] from hC.set_ 0 (.int .i64 ((n:Int)+1)));have HB1:=zh (hB.setCell (p:=⟨gc,0,none⟩) hgc (.int .i64 ((n:Int)+1)));have HGC:=zh hgc;clear hP hB hC hm hgc;have f2:=HC1.out.cell 0;go_enter Tryz.func133,Tryz.ntmps133
  by_cases h1:1000<n+1
  ·have HQ:=zh (show chkM (.mk k a v f ts) n=(false,n+1) by rw[HQ0.out,if_pos (.inl h1)]);go_wp2_with fail;go_ret;exact⟨zA1 (by rw[HQ.out]),by rw[HQ.out];exact HC1.out,HB1.out⟩
  go_wp2_with fail;generalize w.setCell ⟨gc,0,none⟩ (.int .i64 ((n:Int)+1))=w1 at*;clear f0 f1 f2;refine(zG3 _ p A cap w1 (HP.out.keep HB1.out)).mono ?_;rintro e w2 ⟨rfl,hb⟩;dsimp only[Trm.kind,Trm.nam,Trm.vr,Trm.form,Trm.args];have HC:=kp hb HC1;have HB:=jt HB1 hb;clear hb HC1 HB1;cases ho:ownM k a.data.toList v.data.toList f.data.toList ts.length
  ·have HQ:=zh (show chkM (.mk k a v f ts) n=(false,n+1) by rw[HQ0.out,if_pos (.inr ho)]);clear ho;go_wp2_with fail;go_ret;exact⟨zA1 (by rw[HQ.out]),by rw[HQ.out];exact HC.out,HB.out⟩
  rw[if_neg (by rintro(h|h);exact h1 h;rw[ho] at h;cases h)] at HQ0;clear ho;obtain⟨-,-,-,-,c3,-,-,-,-,hl,hc,-⟩:=HP.out.keep HB.out;dsimp only[Trm.kind,Trm.nam,Trm.vr,Trm.form,Trm.args] at c3 hl;go_wp2_with fail;clear c3
  go_loopw [25] (fun i wr=>∃(j nj:Nat),j≤ts.length∧i= .int .i64 j∧nj≤1000∧Hid (zCh (ts.take j) (n+1)=(true,nj))∧Hid (Blk wr gc 3 #[.int .i64 (nj:Int)])∧Hid (Below w0.heap.size w0 wr)) (fun i _=>ts.length -(intOf i).toNat)
  case atStart=>exact⟨0,n+1,by omega,rfl,by omega,(by rw[List.take_zero];show zCh [] (n+1)=_;rw[zCh]),HC,HB⟩
  case round=>
   clear HC HB;obtain⟨j,nj,hj,rfl,hnj,HJ,HC,HB⟩:=hrel
   by_cases hlt:j<ts.length
   ·obtain⟨y,hy⟩:∃y,ts[j]?=some y:=⟨_,gE hlt⟩
    obtain⟨-,-,-,-,c3,-,-,-,-,-,-,hka⟩:=HP.out.keep HB.out;dsimp only[Trm.kind,Trm.nam,Trm.vr,Trm.form,Trm.args] at c3 hka;obtain⟨ad,A',cap',rfl,hadl,hp⟩:=hka.at_ hy;have HY:Hid (PtM w0 (ad.add (j*5)) y A' cap'):=by
     obtain⟨-,-,-,-,-,-,-,-,-,-,-,hk0⟩:=HP.out;dsimp only[Trm.args] at hk0;obtain⟨ad',A'',cap'',e1,hadl',hp'⟩:=hk0.at_ hy;obtain rfl:=sj e1;have e3:=hp'.keep HB.out;obtain⟨-,-,-,-,q,-⟩:=e3;obtain⟨-,-,-,-,q',-⟩:=hp;rw[q] at q';injection q' with q';injection q' with q1 _ q2;subst q1;subst q2;exact hp'
    have HS:=zh (show cntM y≤m by have:=zFb hy;have:=HZ.out;omega);have HSN:=zh (zS5 hy HJ.out);have HST:=zh (fun h=>zRu (ks:=ts) (j:=j+1) (n:=n+1) h);have HLE:=zh (zZj y nj);clear hy hka hp;go_wp2_with fail;refine(IH.out y _ A' cap' gc nj w0 wr HS.out HY.out HB.out HC.out HGC.out hnj).mono ?_;rintro e w4 ⟨rfl,hC4,hB4⟩;have HC:=zh hC4;have HB:=zh hB4;clear hC4 hB4 c3;cases hr:(chkM y nj).1
    ·have HQ:=zh (show chkM (.mk k a v f ts) n=(false,(chkM y nj).2) by rw[HQ0.out,HST.out (by rw[HSN.out,hr]),HSN.out,←hr]);clear hr;go_wp2_with fail;go_ret;exact⟨zA1 (by rw[HQ.out]),by rw[HQ.out];exact HC.out,HB.out⟩
    ·have HJ2:=zh (show zCh (ts.take (j+1)) (n+1)=(true,(chkM y nj).2) by rw[HSN.out,←hr]);have hle:=HLE.out hr;clear hr;generalize (chkM y nj).2=n2 at*;go_wp2_with fail;go_roundw
     case rel=>exact⟨j+1,n2,by omega,by go_num,hle,HJ2,HC,HB⟩
     case measure=>simp[intOf];omega
   ·obtain rfl:j=ts.length:=by omega
    rw[List.take_length] at HJ;have HQ:=zh (show chkM (.mk k a v f ts) n=(true,nj) by rw[HQ0.out,HJ.out]);go_wp2_with fail;go_ret;exact⟨zA1 (by rw[HQ.out]),by rw[HQ.out];exact HC.out,HB.out⟩
def cntI (t:Trm):Int:=if zAx t=true then(cntM t:Int) else 0
set_option maxRecDepth 100000 in
set_option maxHeartbeats 800000 in
theorem zV7 (t:Trm)(c:Array Value)(w:World)(hM:MAt w t c):Calls Tryz.prog 79 #[.agg c] w fun e w'=>e= .returned (.int .i64 (cntI t))∧Below w.heap.size w w':=by
 obtain⟨A,cap,rfl,ha,hv,hf,hl,hc,hk⟩:=hM.form;have HB:=zh (zA0 w (.cells (trmC t.kind t.nam t.vr A t.args.length cap t.form) 31));have K1:=zh (Blk.new w 31 (trmC t.kind t.nam t.vr A t.args.length cap t.form));have HP:=zh (PtM.box K1.out ha hv hf hl hc (hk.keep HB.out));have HVC:=zh (zK8 t);have HCC:=zh (@zU3 t);clear hM hk;dsimp only[trmC] at HB K1 HP;go_enter Tryz.func79,Tryz.ntmps79;go_wp2_with fail;have HG:=zh (show(w.alloc (.cells (trmC t.kind t.nam t.vr A t.args.length cap t.form) 31)).heap.size=w.heap.size+1 by simp);dsimp only[trmC] at HG;generalize w.alloc (.cells #[.int .i64 t.kind,.string t.nam,.string t.vr,.slice A t.args.length cap,.string t.form] 31)=w1 at*;have KC:=zh (show Blk (w1.alloc (.cells #[.int .i64 0] 3)) (w.heap.size+1) 3 #[.int .i64 ((0:Nat):Int)] by rw[←HG.out];exact Blk.new w1 3 #[.int .i64 0]);have H1:=zh (zA0 w1 (.cells #[.int .i64 0] 3));have HGE:=zh (show w1.heap.size≤w.heap.size+1 by rw[HG.out];exact Nat.le_refl _);generalize w1.alloc (.cells #[.int .i64 0] 3)=w2 at*;refine(zCe (cntM t) t _ A cap (w.heap.size+1) 0 w1 w2 (Nat.le_refl _) HP.out H1.out KC.out HGE.out (by omega)).mono ?_;rintro e w4 ⟨rfl,hC4,hB4⟩;have HB:=jt HB hB4;have c0:=hC4.cell 0;clear hB4 hC4;rw[HVC.out];cases hval:zAx t
 ·have HE:=zh (show cntI t=0 by unfold cntI;rw[if_neg (by rw[hval];simp)]);clear hval;go_wp2_with fail;go_ret;exact⟨zC1 HE.out.symm,HB.out⟩
 ·rw[HCC.out hval] at c0;have HE:=zh (show cntI t=cntM t by unfold cntI;rw[if_pos hval]);clear hval;go_wp2_with fail;go_ret;exact⟨zC1 HE.out.symm,HB.out⟩
set_option maxRecDepth 100000 in
set_option maxHeartbeats 800000 in
theorem zEf (t:Trm)(c:Array Value)(w:World)(hM:MAt w t c):Calls Tryz.prog 42 #[.agg c] w fun e w'=>e= .returned (.bool (zAx t))∧Below w.heap.size w w':=by
 obtain⟨A,cap,rfl,ha,hv,hf,hl,hc,hk⟩:=hM.form;have HM:=zh (hM.keep (zA0 w (.cells (trmC t.kind t.nam t.vr A t.args.length cap t.form) 31)));have HB:=zh (zA0 w (.cells (trmC t.kind t.nam t.vr A t.args.length cap t.form) 31));have K1:=zh (Blk.new w 31 (trmC t.kind t.nam t.vr A t.args.length cap t.form));have hpos:=zEj t;have HI:=zh (show cntI t=if zAx t=true then(cntM t:Int) else 0 from rfl);clear hM hk;dsimp only[trmC] at HM HB K1;go_enter Tryz.func42,Tryz.ntmps42;go_wp2_with fail;refine(zV7 t _ _ HM.out).mono ?_;rintro e w2 ⟨rfl,hb⟩;have HB:=jt HB hb;clear hb;cases hval:zAx t
 ·have HVV:=zh hval;rw[hval,if_neg (by simp)] at HI;rw[HI.out];clear hval;go_wp2_with fail;go_ret;exact⟨zA1 (by rw[HVV.out]),HB.out⟩
 ·have HVV:=zh hval;rw[hval,if_pos rfl] at HI;rw[HI.out];clear hval HI;generalize cntM t=u at*;go_wp2_with fail;go_ret;exact⟨zA1 (by rw[HVV.out];first|rfl|(simp;omega)),HB.out⟩
end Go.Proofs.YtadcldfbmkfkaaaGreatDoor.Sp
