/- The fields of a term: the reference. -/
import Derived.Test.YtchllommcolijaaGreatDoorH7c778c01
namespace Go.Proofs.YtchllommcolijaaGreatDoor.Sp
open At Go.RowKit
set_option maxRecDepth 100000 in
set_option maxHeartbeats 800000 in
theorem zZx (a v f:ByteArray)(n:Nat)(A:Option Addr)(cap:Nat)(w:World)(ha:a.size≤9223372036854775807)(hn:n≤9223372036854775807):Calls Tryz.prog 97 #[.agg (trmC 1 a v A n cap f)] w fun e w'=>e= .returned (.bool (ownM 1 a.toList v.toList f.toList n))∧Below w.heap.size w w':=by
 have HQ:=zh (show ownM 1 a.toList v.toList f.toList n=((v.toList.isEmpty&&(f.toList.isEmpty&&decide (n=0)))&&numP a.toList) from rfl);have HN:=zh (fun w=>zU0 a w ha);generalize numP a.toList=rr at*
 by_cases hn1:n=0
 ·have hn2:((n:Int)==0)=true:=by rw[beq_iff_eq];omega
  have hn3:¬(0:Int)<(n:Int):=by omega
  replace hn1:=zh hn1;cases hv1:v.toList.isEmpty
  ·skip
   rw[hv1] at HQ;go_enter Tryz.func97,Tryz.ntmps97;go_wp2_with fail;have K0:=zh (Blk.new w 31 (trmC 1 a v A n cap f));have HB:=zh (zA1 w (.cells (trmC 1 a v A n cap f) 31));dsimp only[trmC] at K0 HB;generalize w.alloc (.cells #[.int .i64 1,.string a,.string v,.slice A n cap,.string f] 31)=wz at*;have c0:=K0.out.cell 0;have c1:=K0.out.cell 1;have c2:=K0.out.cell 2;have c3:=K0.out.cell 3;have c4:=K0.out.cell 4;have hlt:=K0.out.lt;go_wp2_with fail;go_ret;exact⟨zA0 (by rw[HQ.out];rfl),HB.out⟩
  ·cases hf1:f.toList.isEmpty
   ·skip
    rw[hv1,hf1] at HQ;go_enter Tryz.func97,Tryz.ntmps97;go_wp2_with fail;have K0:=zh (Blk.new w 31 (trmC 1 a v A n cap f));have HB:=zh (zA1 w (.cells (trmC 1 a v A n cap f) 31));dsimp only[trmC] at K0 HB;generalize w.alloc (.cells #[.int .i64 1,.string a,.string v,.slice A n cap,.string f] 31)=wz at*;have c0:=K0.out.cell 0;have c1:=K0.out.cell 1;have c2:=K0.out.cell 2;have c3:=K0.out.cell 3;have c4:=K0.out.cell 4;have hlt:=K0.out.lt;go_wp2_with fail;go_ret;exact⟨zA0 (by rw[HQ.out];rfl),HB.out⟩
   ·skip
    rw[hv1,hf1,decide_eq_true hn1.out,Bool.true_and,Bool.true_and,Bool.true_and] at HQ;clear hn1;go_enter Tryz.func97,Tryz.ntmps97;go_wp2_with fail;have K0:=zh (Blk.new w 31 (trmC 1 a v A n cap f));have HB:=zh (zA1 w (.cells (trmC 1 a v A n cap f) 31));dsimp only[trmC] at K0 HB;generalize w.alloc (.cells #[.int .i64 1,.string a,.string v,.slice A n cap,.string f] 31)=wz at*;have c0:=K0.out.cell 0;have c1:=K0.out.cell 1;have c2:=K0.out.cell 2;have c3:=K0.out.cell 3;have c4:=K0.out.cell 4;have hlt:=K0.out.lt
    skip
    refine(HN.out _).mono ?_;rintro e w1 ⟨rfl,hb⟩;have HB:=jt HB hb;replace c0:=(hb.cell (p:=⟨w.heap.size,0,none⟩) hlt).trans c0;replace c1:=(hb.cell (p:=⟨w.heap.size,1,none⟩) hlt).trans c1;replace c2:=(hb.cell (p:=⟨w.heap.size,2,none⟩) hlt).trans c2;replace c3:=(hb.cell (p:=⟨w.heap.size,3,none⟩) hlt).trans c3;replace c4:=(hb.cell (p:=⟨w.heap.size,4,none⟩) hlt).trans c4;replace hlt:=Nat.lt_of_lt_of_le hlt hb.size;clear hb;go_wp2_with fail;go_ret;exact⟨zA0 (by rw[HQ.out]),HB.out⟩
 ·have hn2:((n:Int)==0)=false:=by rw[beq_eq_false_iff_ne];omega
  have hn3:(0:Int)<(n:Int):=by omega
  replace hn1:=zh hn1;rw[decide_eq_false hn1.out,Bool.and_false,Bool.and_false] at HQ;clear hn1;go_enter Tryz.func97,Tryz.ntmps97;go_wp2_with fail;have K0:=zh (Blk.new w 31 (trmC 1 a v A n cap f));have HB:=zh (zA1 w (.cells (trmC 1 a v A n cap f) 31));dsimp only[trmC] at K0 HB;generalize w.alloc (.cells #[.int .i64 1,.string a,.string v,.slice A n cap,.string f] 31)=wz at*;have c0:=K0.out.cell 0;have c1:=K0.out.cell 1;have c2:=K0.out.cell 2;have c3:=K0.out.cell 3;have c4:=K0.out.cell 4;have hlt:=K0.out.lt;go_wp2_with fail;go_ret;exact⟨zA0 (by rw[HQ.out];rfl),HB.out⟩
set_option maxRecDepth 100000 in
set_option maxHeartbeats 800000 in
theorem zZq (a v f:ByteArray)(n:Nat)(A:Option Addr)(cap:Nat)(w:World)(ha:a.size≤9223372036854775807)(hn:n≤9223372036854775807):Calls Tryz.prog 97 #[.agg (trmC 2 a v A n cap f)] w fun e w'=>e= .returned (.bool (ownM 2 a.toList v.toList f.toList n))∧Below w.heap.size w w':=by
 have HQ:=zh (show ownM 2 a.toList v.toList f.toList n=((v.toList.isEmpty&&(f.toList.isEmpty&&decide (n=0)))&&idB a.toList) from rfl);have HN:=zh (fun w=>zFm a w ha);generalize idB a.toList=rr at*
 by_cases hn1:n=0
 ·have hn2:((n:Int)==0)=true:=by rw[beq_iff_eq];omega
  have hn3:¬(0:Int)<(n:Int):=by omega
  replace hn1:=zh hn1;cases hv1:v.toList.isEmpty
  ·skip
   rw[hv1] at HQ;go_enter Tryz.func97,Tryz.ntmps97;go_wp2_with fail;have K0:=zh (Blk.new w 31 (trmC 2 a v A n cap f));have HB:=zh (zA1 w (.cells (trmC 2 a v A n cap f) 31));dsimp only[trmC] at K0 HB;generalize w.alloc (.cells #[.int .i64 2,.string a,.string v,.slice A n cap,.string f] 31)=wz at*;have c0:=K0.out.cell 0;have c1:=K0.out.cell 1;have c2:=K0.out.cell 2;have c3:=K0.out.cell 3;have c4:=K0.out.cell 4;have hlt:=K0.out.lt;go_wp2_with fail;go_ret;exact⟨zA0 (by rw[HQ.out];rfl),HB.out⟩
  ·cases hf1:f.toList.isEmpty
   ·skip
    rw[hv1,hf1] at HQ;go_enter Tryz.func97,Tryz.ntmps97;go_wp2_with fail;have K0:=zh (Blk.new w 31 (trmC 2 a v A n cap f));have HB:=zh (zA1 w (.cells (trmC 2 a v A n cap f) 31));dsimp only[trmC] at K0 HB;generalize w.alloc (.cells #[.int .i64 2,.string a,.string v,.slice A n cap,.string f] 31)=wz at*;have c0:=K0.out.cell 0;have c1:=K0.out.cell 1;have c2:=K0.out.cell 2;have c3:=K0.out.cell 3;have c4:=K0.out.cell 4;have hlt:=K0.out.lt;go_wp2_with fail;go_ret;exact⟨zA0 (by rw[HQ.out];rfl),HB.out⟩
   ·skip
    rw[hv1,hf1,decide_eq_true hn1.out,Bool.true_and,Bool.true_and,Bool.true_and] at HQ;clear hn1;go_enter Tryz.func97,Tryz.ntmps97;go_wp2_with fail;have K0:=zh (Blk.new w 31 (trmC 2 a v A n cap f));have HB:=zh (zA1 w (.cells (trmC 2 a v A n cap f) 31));dsimp only[trmC] at K0 HB;generalize w.alloc (.cells #[.int .i64 2,.string a,.string v,.slice A n cap,.string f] 31)=wz at*;have c0:=K0.out.cell 0;have c1:=K0.out.cell 1;have c2:=K0.out.cell 2;have c3:=K0.out.cell 3;have c4:=K0.out.cell 4;have hlt:=K0.out.lt
    skip
    refine(HN.out _).mono ?_;rintro e w1 ⟨rfl,hb⟩;have HB:=jt HB hb;replace c0:=(hb.cell (p:=⟨w.heap.size,0,none⟩) hlt).trans c0;replace c1:=(hb.cell (p:=⟨w.heap.size,1,none⟩) hlt).trans c1;replace c2:=(hb.cell (p:=⟨w.heap.size,2,none⟩) hlt).trans c2;replace c3:=(hb.cell (p:=⟨w.heap.size,3,none⟩) hlt).trans c3;replace c4:=(hb.cell (p:=⟨w.heap.size,4,none⟩) hlt).trans c4;replace hlt:=Nat.lt_of_lt_of_le hlt hb.size;clear hb;go_wp2_with fail;go_ret;exact⟨zA0 (by rw[HQ.out]),HB.out⟩
 ·have hn2:((n:Int)==0)=false:=by rw[beq_eq_false_iff_ne];omega
  have hn3:(0:Int)<(n:Int):=by omega
  replace hn1:=zh hn1;rw[decide_eq_false hn1.out,Bool.and_false,Bool.and_false] at HQ;clear hn1;go_enter Tryz.func97,Tryz.ntmps97;go_wp2_with fail;have K0:=zh (Blk.new w 31 (trmC 2 a v A n cap f));have HB:=zh (zA1 w (.cells (trmC 2 a v A n cap f) 31));dsimp only[trmC] at K0 HB;generalize w.alloc (.cells #[.int .i64 2,.string a,.string v,.slice A n cap,.string f] 31)=wz at*;have c0:=K0.out.cell 0;have c1:=K0.out.cell 1;have c2:=K0.out.cell 2;have c3:=K0.out.cell 3;have c4:=K0.out.cell 4;have hlt:=K0.out.lt;go_wp2_with fail;go_ret;exact⟨zA0 (by rw[HQ.out];rfl),HB.out⟩
set_option maxRecDepth 100000 in
set_option maxHeartbeats 800000 in
theorem zZm (a v f:ByteArray)(n:Nat)(A:Option Addr)(cap:Nat)(w:World)(ha:a.size≤9223372036854775807)(hn:n≤9223372036854775807):Calls Tryz.prog 97 #[.agg (trmC 3 a v A n cap f)] w fun e w'=>e= .returned (.bool (ownM 3 a.toList v.toList f.toList n))∧Below w.heap.size w w':=by
 have HQ:=zh (show ownM 3 a.toList v.toList f.toList n=((v.toList.isEmpty&&(f.toList.isEmpty&&decide (n=0)))&&(zCk 32 a.toList&&decide (a.toList.length≤200))) from rfl);have HN:=zh (fun w=>zIi a 32 200 w ha);generalize (zCk 32 a.toList&&decide (a.toList.length≤200))=rr at*
 by_cases hn1:n=0
 ·have hn2:((n:Int)==0)=true:=by rw[beq_iff_eq];omega
  have hn3:¬(0:Int)<(n:Int):=by omega
  replace hn1:=zh hn1;cases hv1:v.toList.isEmpty
  ·skip
   rw[hv1] at HQ;go_enter Tryz.func97,Tryz.ntmps97;go_wp2_with fail;have K0:=zh (Blk.new w 31 (trmC 3 a v A n cap f));have HB:=zh (zA1 w (.cells (trmC 3 a v A n cap f) 31));dsimp only[trmC] at K0 HB;generalize w.alloc (.cells #[.int .i64 3,.string a,.string v,.slice A n cap,.string f] 31)=wz at*;have c0:=K0.out.cell 0;have c1:=K0.out.cell 1;have c2:=K0.out.cell 2;have c3:=K0.out.cell 3;have c4:=K0.out.cell 4;have hlt:=K0.out.lt;go_wp2_with fail;go_ret;exact⟨zA0 (by rw[HQ.out];rfl),HB.out⟩
  ·cases hf1:f.toList.isEmpty
   ·skip
    rw[hv1,hf1] at HQ;go_enter Tryz.func97,Tryz.ntmps97;go_wp2_with fail;have K0:=zh (Blk.new w 31 (trmC 3 a v A n cap f));have HB:=zh (zA1 w (.cells (trmC 3 a v A n cap f) 31));dsimp only[trmC] at K0 HB;generalize w.alloc (.cells #[.int .i64 3,.string a,.string v,.slice A n cap,.string f] 31)=wz at*;have c0:=K0.out.cell 0;have c1:=K0.out.cell 1;have c2:=K0.out.cell 2;have c3:=K0.out.cell 3;have c4:=K0.out.cell 4;have hlt:=K0.out.lt;go_wp2_with fail;go_ret;exact⟨zA0 (by rw[HQ.out];rfl),HB.out⟩
   ·skip
    rw[hv1,hf1,decide_eq_true hn1.out,Bool.true_and,Bool.true_and,Bool.true_and] at HQ;clear hn1;go_enter Tryz.func97,Tryz.ntmps97;go_wp2_with fail;have K0:=zh (Blk.new w 31 (trmC 3 a v A n cap f));have HB:=zh (zA1 w (.cells (trmC 3 a v A n cap f) 31));dsimp only[trmC] at K0 HB;generalize w.alloc (.cells #[.int .i64 3,.string a,.string v,.slice A n cap,.string f] 31)=wz at*;have c0:=K0.out.cell 0;have c1:=K0.out.cell 1;have c2:=K0.out.cell 2;have c3:=K0.out.cell 3;have c4:=K0.out.cell 4;have hlt:=K0.out.lt
    skip
    refine(HN.out _).mono ?_;rintro e w1 ⟨rfl,hb⟩;have HB:=jt HB hb;replace c0:=(hb.cell (p:=⟨w.heap.size,0,none⟩) hlt).trans c0;replace c1:=(hb.cell (p:=⟨w.heap.size,1,none⟩) hlt).trans c1;replace c2:=(hb.cell (p:=⟨w.heap.size,2,none⟩) hlt).trans c2;replace c3:=(hb.cell (p:=⟨w.heap.size,3,none⟩) hlt).trans c3;replace c4:=(hb.cell (p:=⟨w.heap.size,4,none⟩) hlt).trans c4;replace hlt:=Nat.lt_of_lt_of_le hlt hb.size;clear hb;go_wp2_with fail;go_ret;exact⟨zA0 (by rw[HQ.out]),HB.out⟩
 ·have hn2:((n:Int)==0)=false:=by rw[beq_eq_false_iff_ne];omega
  have hn3:(0:Int)<(n:Int):=by omega
  replace hn1:=zh hn1;rw[decide_eq_false hn1.out,Bool.and_false,Bool.and_false] at HQ;clear hn1;go_enter Tryz.func97,Tryz.ntmps97;go_wp2_with fail;have K0:=zh (Blk.new w 31 (trmC 3 a v A n cap f));have HB:=zh (zA1 w (.cells (trmC 3 a v A n cap f) 31));dsimp only[trmC] at K0 HB;generalize w.alloc (.cells #[.int .i64 3,.string a,.string v,.slice A n cap,.string f] 31)=wz at*;have c0:=K0.out.cell 0;have c1:=K0.out.cell 1;have c2:=K0.out.cell 2;have c3:=K0.out.cell 3;have c4:=K0.out.cell 4;have hlt:=K0.out.lt;go_wp2_with fail;go_ret;exact⟨zA0 (by rw[HQ.out];rfl),HB.out⟩
set_option maxRecDepth 100000 in
set_option maxHeartbeats 800000 in
theorem zZh (a v f:ByteArray)(n:Nat)(A:Option Addr)(cap:Nat)(w:World)(ha:a.size≤9223372036854775807)(hf:f.size≤9223372036854775807)(hn:n≤9223372036854775807):Calls Tryz.prog 97 #[.agg (trmC 4 a v A n cap f)] w fun e w'=>e= .returned (.bool (ownM 4 a.toList v.toList f.toList n))∧Below w.heap.size w w':=by
 have HQ:=zh (show ownM 4 a.toList v.toList f.toList n=((zCk 33 f.toList&&decide (f.toList.length≤16))&&(zAl a.toList&&v.toList.isEmpty)) from rfl);have HN:=zh (fun w=>zPp a w ha);have HF:=zh (fun w=>zIi f 33 16 w hf);generalize (zCk 33 f.toList&&decide (f.toList.length≤16))=fm at*;generalize zAl a.toList=nm at*
 by_cases hn1:n=0
 ·have hn2:((n:Int)==0)=true:=by rw[beq_iff_eq];omega
  have hn3:¬(0:Int)<(n:Int):=by omega
  replace hn1:=zh hn1;cases hv1:v.toList.isEmpty
  ·skip
   rw[hv1] at HQ;go_enter Tryz.func97,Tryz.ntmps97;go_wp2_with fail;have K0:=zh (Blk.new w 31 (trmC 4 a v A n cap f));have HB:=zh (zA1 w (.cells (trmC 4 a v A n cap f) 31));dsimp only[trmC] at K0 HB;generalize w.alloc (.cells #[.int .i64 4,.string a,.string v,.slice A n cap,.string f] 31)=wz at*;have c0:=K0.out.cell 0;have c1:=K0.out.cell 1;have c2:=K0.out.cell 2;have c3:=K0.out.cell 3;have c4:=K0.out.cell 4;have hlt:=K0.out.lt;refine(HN.out _).mono ?_;rintro e w1 ⟨rfl,hb⟩;have HB:=jt HB hb;replace c0:=(hb.cell (p:=⟨w.heap.size,0,none⟩) hlt).trans c0;replace c1:=(hb.cell (p:=⟨w.heap.size,1,none⟩) hlt).trans c1;replace c2:=(hb.cell (p:=⟨w.heap.size,2,none⟩) hlt).trans c2;replace c3:=(hb.cell (p:=⟨w.heap.size,3,none⟩) hlt).trans c3;replace c4:=(hb.cell (p:=⟨w.heap.size,4,none⟩) hlt).trans c4;replace hlt:=Nat.lt_of_lt_of_le hlt hb.size;clear hb;cases nm
   ·go_wp2_with fail;go_ret;exact⟨zA0 (by rw[HQ.out];cases fm<;>rfl),HB.out⟩
   ·go_wp2_with fail;go_ret;exact⟨zA0 (by rw[HQ.out];cases fm<;>rfl),HB.out⟩
  ·cases hf1:f.toList.isEmpty
   ·skip
    rw[hv1] at HQ;go_enter Tryz.func97,Tryz.ntmps97;go_wp2_with fail;have K0:=zh (Blk.new w 31 (trmC 4 a v A n cap f));have HB:=zh (zA1 w (.cells (trmC 4 a v A n cap f) 31));dsimp only[trmC] at K0 HB;generalize w.alloc (.cells #[.int .i64 4,.string a,.string v,.slice A n cap,.string f] 31)=wz at*;have c0:=K0.out.cell 0;have c1:=K0.out.cell 1;have c2:=K0.out.cell 2;have c3:=K0.out.cell 3;have c4:=K0.out.cell 4;have hlt:=K0.out.lt;refine(HN.out _).mono ?_;rintro e w1 ⟨rfl,hb⟩;have HB:=jt HB hb;replace c0:=(hb.cell (p:=⟨w.heap.size,0,none⟩) hlt).trans c0;replace c1:=(hb.cell (p:=⟨w.heap.size,1,none⟩) hlt).trans c1;replace c2:=(hb.cell (p:=⟨w.heap.size,2,none⟩) hlt).trans c2;replace c3:=(hb.cell (p:=⟨w.heap.size,3,none⟩) hlt).trans c3;replace c4:=(hb.cell (p:=⟨w.heap.size,4,none⟩) hlt).trans c4;replace hlt:=Nat.lt_of_lt_of_le hlt hb.size;clear hb;cases nm
    ·go_wp2_with fail;go_ret;exact⟨zA0 (by rw[HQ.out];cases fm<;>rfl),HB.out⟩
    ·go_wp2_with fail;refine(HF.out _).mono ?_;rintro e w1 ⟨rfl,hb⟩;have HB:=jt HB hb;replace c0:=(hb.cell (p:=⟨w.heap.size,0,none⟩) hlt).trans c0;replace c1:=(hb.cell (p:=⟨w.heap.size,1,none⟩) hlt).trans c1;replace c2:=(hb.cell (p:=⟨w.heap.size,2,none⟩) hlt).trans c2;replace c3:=(hb.cell (p:=⟨w.heap.size,3,none⟩) hlt).trans c3;replace c4:=(hb.cell (p:=⟨w.heap.size,4,none⟩) hlt).trans c4;replace hlt:=Nat.lt_of_lt_of_le hlt hb.size;clear hb;go_wp2_with fail;go_ret;exact⟨zA0 (by rw[HQ.out];cases fm<;>rfl),HB.out⟩
   ·skip
    rw[hv1] at HQ;go_enter Tryz.func97,Tryz.ntmps97;go_wp2_with fail;have K0:=zh (Blk.new w 31 (trmC 4 a v A n cap f));have HB:=zh (zA1 w (.cells (trmC 4 a v A n cap f) 31));dsimp only[trmC] at K0 HB;generalize w.alloc (.cells #[.int .i64 4,.string a,.string v,.slice A n cap,.string f] 31)=wz at*;have c0:=K0.out.cell 0;have c1:=K0.out.cell 1;have c2:=K0.out.cell 2;have c3:=K0.out.cell 3;have c4:=K0.out.cell 4;have hlt:=K0.out.lt;refine(HN.out _).mono ?_;rintro e w1 ⟨rfl,hb⟩;have HB:=jt HB hb;replace c0:=(hb.cell (p:=⟨w.heap.size,0,none⟩) hlt).trans c0;replace c1:=(hb.cell (p:=⟨w.heap.size,1,none⟩) hlt).trans c1;replace c2:=(hb.cell (p:=⟨w.heap.size,2,none⟩) hlt).trans c2;replace c3:=(hb.cell (p:=⟨w.heap.size,3,none⟩) hlt).trans c3;replace c4:=(hb.cell (p:=⟨w.heap.size,4,none⟩) hlt).trans c4;replace hlt:=Nat.lt_of_lt_of_le hlt hb.size;clear hb;cases nm
    ·go_wp2_with fail;go_ret;exact⟨zA0 (by rw[HQ.out];cases fm<;>rfl),HB.out⟩
    ·go_wp2_with fail;refine(HF.out _).mono ?_;rintro e w1 ⟨rfl,hb⟩;have HB:=jt HB hb;replace c0:=(hb.cell (p:=⟨w.heap.size,0,none⟩) hlt).trans c0;replace c1:=(hb.cell (p:=⟨w.heap.size,1,none⟩) hlt).trans c1;replace c2:=(hb.cell (p:=⟨w.heap.size,2,none⟩) hlt).trans c2;replace c3:=(hb.cell (p:=⟨w.heap.size,3,none⟩) hlt).trans c3;replace c4:=(hb.cell (p:=⟨w.heap.size,4,none⟩) hlt).trans c4;replace hlt:=Nat.lt_of_lt_of_le hlt hb.size;clear hb;go_wp2_with fail;go_ret;exact⟨zA0 (by rw[HQ.out];cases fm<;>rfl),HB.out⟩
 ·have hn2:((n:Int)==0)=false:=by rw[beq_eq_false_iff_ne];omega
  have hn3:(0:Int)<(n:Int):=by omega
  replace hn1:=zh hn1;cases hv1:v.toList.isEmpty
  ·skip
   rw[hv1] at HQ;go_enter Tryz.func97,Tryz.ntmps97;go_wp2_with fail;have K0:=zh (Blk.new w 31 (trmC 4 a v A n cap f));have HB:=zh (zA1 w (.cells (trmC 4 a v A n cap f) 31));dsimp only[trmC] at K0 HB;generalize w.alloc (.cells #[.int .i64 4,.string a,.string v,.slice A n cap,.string f] 31)=wz at*;have c0:=K0.out.cell 0;have c1:=K0.out.cell 1;have c2:=K0.out.cell 2;have c3:=K0.out.cell 3;have c4:=K0.out.cell 4;have hlt:=K0.out.lt;refine(HN.out _).mono ?_;rintro e w1 ⟨rfl,hb⟩;have HB:=jt HB hb;replace c0:=(hb.cell (p:=⟨w.heap.size,0,none⟩) hlt).trans c0;replace c1:=(hb.cell (p:=⟨w.heap.size,1,none⟩) hlt).trans c1;replace c2:=(hb.cell (p:=⟨w.heap.size,2,none⟩) hlt).trans c2;replace c3:=(hb.cell (p:=⟨w.heap.size,3,none⟩) hlt).trans c3;replace c4:=(hb.cell (p:=⟨w.heap.size,4,none⟩) hlt).trans c4;replace hlt:=Nat.lt_of_lt_of_le hlt hb.size;clear hb;cases nm
   ·go_wp2_with fail;go_ret;exact⟨zA0 (by rw[HQ.out];cases fm<;>rfl),HB.out⟩
   ·go_wp2_with fail;go_ret;exact⟨zA0 (by rw[HQ.out];cases fm<;>rfl),HB.out⟩
  ·skip
   rw[hv1] at HQ;go_enter Tryz.func97,Tryz.ntmps97;go_wp2_with fail;have K0:=zh (Blk.new w 31 (trmC 4 a v A n cap f));have HB:=zh (zA1 w (.cells (trmC 4 a v A n cap f) 31));dsimp only[trmC] at K0 HB;generalize w.alloc (.cells #[.int .i64 4,.string a,.string v,.slice A n cap,.string f] 31)=wz at*;have c0:=K0.out.cell 0;have c1:=K0.out.cell 1;have c2:=K0.out.cell 2;have c3:=K0.out.cell 3;have c4:=K0.out.cell 4;have hlt:=K0.out.lt;refine(HN.out _).mono ?_;rintro e w1 ⟨rfl,hb⟩;have HB:=jt HB hb;replace c0:=(hb.cell (p:=⟨w.heap.size,0,none⟩) hlt).trans c0;replace c1:=(hb.cell (p:=⟨w.heap.size,1,none⟩) hlt).trans c1;replace c2:=(hb.cell (p:=⟨w.heap.size,2,none⟩) hlt).trans c2;replace c3:=(hb.cell (p:=⟨w.heap.size,3,none⟩) hlt).trans c3;replace c4:=(hb.cell (p:=⟨w.heap.size,4,none⟩) hlt).trans c4;replace hlt:=Nat.lt_of_lt_of_le hlt hb.size;clear hb;cases nm
   ·go_wp2_with fail;go_ret;exact⟨zA0 (by rw[HQ.out];cases fm<;>rfl),HB.out⟩
   ·go_wp2_with fail;refine(HF.out _).mono ?_;rintro e w1 ⟨rfl,hb⟩;have HB:=jt HB hb;replace c0:=(hb.cell (p:=⟨w.heap.size,0,none⟩) hlt).trans c0;replace c1:=(hb.cell (p:=⟨w.heap.size,1,none⟩) hlt).trans c1;replace c2:=(hb.cell (p:=⟨w.heap.size,2,none⟩) hlt).trans c2;replace c3:=(hb.cell (p:=⟨w.heap.size,3,none⟩) hlt).trans c3;replace c4:=(hb.cell (p:=⟨w.heap.size,4,none⟩) hlt).trans c4;replace hlt:=Nat.lt_of_lt_of_le hlt hb.size;clear hb;go_wp2_with fail;go_ret;exact⟨zA0 (by rw[HQ.out];cases fm<;>rfl),HB.out⟩
set_option maxRecDepth 100000 in
set_option maxHeartbeats 800000 in
theorem zZl (a v f:ByteArray)(n:Nat)(A:Option Addr)(cap:Nat)(w:World)(ha:a.size≤9223372036854775807)(hv:v.size≤9223372036854775807)(hf:f.size≤9223372036854775807)(hn:n≤9223372036854775807):Calls Tryz.prog 97 #[.agg (trmC 5 a v A n cap f)] w fun e w'=>e= .returned (.bool (ownM 5 a.toList v.toList f.toList n))∧Below w.heap.size w w':=by
 have HQ:=zh (show ownM 5 a.toList v.toList f.toList n=((zCk 33 f.toList&&decide (f.toList.length≤16))&&(zAl a.toList&&(idB v.toList&&decide (0<n)))) from rfl);have HN:=zh (fun w=>zPp a w ha);have HI:=zh (fun w=>zFm v w hv);have HF:=zh (fun w=>zIi f 33 16 w hf);generalize (zCk 33 f.toList&&decide (f.toList.length≤16))=fm at*;generalize zAl a.toList=nm at*;generalize idB v.toList=ii at*
 by_cases hn1:n=0
 ·have hn2:((n:Int)==0)=true:=by rw[beq_iff_eq];omega
  have hn3:¬(0:Int)<(n:Int):=by omega
  replace hn1:=zh hn1;cases hv1:v.toList.isEmpty
  ·skip
   rw[show decide (0<n)=false by rw[decide_eq_false (by omega)]] at HQ;go_enter Tryz.func97,Tryz.ntmps97;go_wp2_with fail;have K0:=zh (Blk.new w 31 (trmC 5 a v A n cap f));have HB:=zh (zA1 w (.cells (trmC 5 a v A n cap f) 31));dsimp only[trmC] at K0 HB;generalize w.alloc (.cells #[.int .i64 5,.string a,.string v,.slice A n cap,.string f] 31)=wz at*;have c0:=K0.out.cell 0;have c1:=K0.out.cell 1;have c2:=K0.out.cell 2;have c3:=K0.out.cell 3;have c4:=K0.out.cell 4;have hlt:=K0.out.lt;refine(HN.out _).mono ?_;rintro e w1 ⟨rfl,hb⟩;have HB:=jt HB hb;replace c0:=(hb.cell (p:=⟨w.heap.size,0,none⟩) hlt).trans c0;replace c1:=(hb.cell (p:=⟨w.heap.size,1,none⟩) hlt).trans c1;replace c2:=(hb.cell (p:=⟨w.heap.size,2,none⟩) hlt).trans c2;replace c3:=(hb.cell (p:=⟨w.heap.size,3,none⟩) hlt).trans c3;replace c4:=(hb.cell (p:=⟨w.heap.size,4,none⟩) hlt).trans c4;replace hlt:=Nat.lt_of_lt_of_le hlt hb.size;clear hb;cases nm
   ·go_wp2_with fail;go_ret;exact⟨zA0 (by rw[HQ.out];cases fm<;>rfl),HB.out⟩
   ·go_wp2_with fail;refine(HI.out _).mono ?_;rintro e w1 ⟨rfl,hb⟩;have HB:=jt HB hb;replace c0:=(hb.cell (p:=⟨w.heap.size,0,none⟩) hlt).trans c0;replace c1:=(hb.cell (p:=⟨w.heap.size,1,none⟩) hlt).trans c1;replace c2:=(hb.cell (p:=⟨w.heap.size,2,none⟩) hlt).trans c2;replace c3:=(hb.cell (p:=⟨w.heap.size,3,none⟩) hlt).trans c3;replace c4:=(hb.cell (p:=⟨w.heap.size,4,none⟩) hlt).trans c4;replace hlt:=Nat.lt_of_lt_of_le hlt hb.size;clear hb;cases ii
    ·go_wp2_with fail;go_ret;exact⟨zA0 (by rw[HQ.out];cases fm<;>rfl),HB.out⟩
    ·go_wp2_with fail;refine(HF.out _).mono ?_;rintro e w1 ⟨rfl,hb⟩;have HB:=jt HB hb;replace c0:=(hb.cell (p:=⟨w.heap.size,0,none⟩) hlt).trans c0;replace c1:=(hb.cell (p:=⟨w.heap.size,1,none⟩) hlt).trans c1;replace c2:=(hb.cell (p:=⟨w.heap.size,2,none⟩) hlt).trans c2;replace c3:=(hb.cell (p:=⟨w.heap.size,3,none⟩) hlt).trans c3;replace c4:=(hb.cell (p:=⟨w.heap.size,4,none⟩) hlt).trans c4;replace hlt:=Nat.lt_of_lt_of_le hlt hb.size;clear hb;cases fm
     ·go_wp2_with fail;go_ret;exact⟨zA0 (by rw[HQ.out];rfl),HB.out⟩
     ·go_wp2_with fail;go_ret;exact⟨zA0 (by rw[HQ.out];first|rfl|(simp;omega)),HB.out⟩
  ·cases hf1:f.toList.isEmpty
   ·skip
    rw[show decide (0<n)=false by rw[decide_eq_false (by omega)]] at HQ;go_enter Tryz.func97,Tryz.ntmps97;go_wp2_with fail;have K0:=zh (Blk.new w 31 (trmC 5 a v A n cap f));have HB:=zh (zA1 w (.cells (trmC 5 a v A n cap f) 31));dsimp only[trmC] at K0 HB;generalize w.alloc (.cells #[.int .i64 5,.string a,.string v,.slice A n cap,.string f] 31)=wz at*;have c0:=K0.out.cell 0;have c1:=K0.out.cell 1;have c2:=K0.out.cell 2;have c3:=K0.out.cell 3;have c4:=K0.out.cell 4;have hlt:=K0.out.lt;refine(HN.out _).mono ?_;rintro e w1 ⟨rfl,hb⟩;have HB:=jt HB hb;replace c0:=(hb.cell (p:=⟨w.heap.size,0,none⟩) hlt).trans c0;replace c1:=(hb.cell (p:=⟨w.heap.size,1,none⟩) hlt).trans c1;replace c2:=(hb.cell (p:=⟨w.heap.size,2,none⟩) hlt).trans c2;replace c3:=(hb.cell (p:=⟨w.heap.size,3,none⟩) hlt).trans c3;replace c4:=(hb.cell (p:=⟨w.heap.size,4,none⟩) hlt).trans c4;replace hlt:=Nat.lt_of_lt_of_le hlt hb.size;clear hb;cases nm
    ·go_wp2_with fail;go_ret;exact⟨zA0 (by rw[HQ.out];cases fm<;>rfl),HB.out⟩
    ·go_wp2_with fail;refine(HI.out _).mono ?_;rintro e w1 ⟨rfl,hb⟩;have HB:=jt HB hb;replace c0:=(hb.cell (p:=⟨w.heap.size,0,none⟩) hlt).trans c0;replace c1:=(hb.cell (p:=⟨w.heap.size,1,none⟩) hlt).trans c1;replace c2:=(hb.cell (p:=⟨w.heap.size,2,none⟩) hlt).trans c2;replace c3:=(hb.cell (p:=⟨w.heap.size,3,none⟩) hlt).trans c3;replace c4:=(hb.cell (p:=⟨w.heap.size,4,none⟩) hlt).trans c4;replace hlt:=Nat.lt_of_lt_of_le hlt hb.size;clear hb;cases ii
     ·go_wp2_with fail;go_ret;exact⟨zA0 (by rw[HQ.out];cases fm<;>rfl),HB.out⟩
     ·go_wp2_with fail;refine(HF.out _).mono ?_;rintro e w1 ⟨rfl,hb⟩;have HB:=jt HB hb;replace c0:=(hb.cell (p:=⟨w.heap.size,0,none⟩) hlt).trans c0;replace c1:=(hb.cell (p:=⟨w.heap.size,1,none⟩) hlt).trans c1;replace c2:=(hb.cell (p:=⟨w.heap.size,2,none⟩) hlt).trans c2;replace c3:=(hb.cell (p:=⟨w.heap.size,3,none⟩) hlt).trans c3;replace c4:=(hb.cell (p:=⟨w.heap.size,4,none⟩) hlt).trans c4;replace hlt:=Nat.lt_of_lt_of_le hlt hb.size;clear hb;cases fm
      ·go_wp2_with fail;go_ret;exact⟨zA0 (by rw[HQ.out];rfl),HB.out⟩
      ·go_wp2_with fail;go_ret;exact⟨zA0 (by rw[HQ.out];first|rfl|(simp;omega)),HB.out⟩
   ·skip
    rw[show decide (0<n)=false by rw[decide_eq_false (by omega)]] at HQ;go_enter Tryz.func97,Tryz.ntmps97;go_wp2_with fail;have K0:=zh (Blk.new w 31 (trmC 5 a v A n cap f));have HB:=zh (zA1 w (.cells (trmC 5 a v A n cap f) 31));dsimp only[trmC] at K0 HB;generalize w.alloc (.cells #[.int .i64 5,.string a,.string v,.slice A n cap,.string f] 31)=wz at*;have c0:=K0.out.cell 0;have c1:=K0.out.cell 1;have c2:=K0.out.cell 2;have c3:=K0.out.cell 3;have c4:=K0.out.cell 4;have hlt:=K0.out.lt;refine(HN.out _).mono ?_;rintro e w1 ⟨rfl,hb⟩;have HB:=jt HB hb;replace c0:=(hb.cell (p:=⟨w.heap.size,0,none⟩) hlt).trans c0;replace c1:=(hb.cell (p:=⟨w.heap.size,1,none⟩) hlt).trans c1;replace c2:=(hb.cell (p:=⟨w.heap.size,2,none⟩) hlt).trans c2;replace c3:=(hb.cell (p:=⟨w.heap.size,3,none⟩) hlt).trans c3;replace c4:=(hb.cell (p:=⟨w.heap.size,4,none⟩) hlt).trans c4;replace hlt:=Nat.lt_of_lt_of_le hlt hb.size;clear hb;cases nm
    ·go_wp2_with fail;go_ret;exact⟨zA0 (by rw[HQ.out];cases fm<;>rfl),HB.out⟩
    ·go_wp2_with fail;refine(HI.out _).mono ?_;rintro e w1 ⟨rfl,hb⟩;have HB:=jt HB hb;replace c0:=(hb.cell (p:=⟨w.heap.size,0,none⟩) hlt).trans c0;replace c1:=(hb.cell (p:=⟨w.heap.size,1,none⟩) hlt).trans c1;replace c2:=(hb.cell (p:=⟨w.heap.size,2,none⟩) hlt).trans c2;replace c3:=(hb.cell (p:=⟨w.heap.size,3,none⟩) hlt).trans c3;replace c4:=(hb.cell (p:=⟨w.heap.size,4,none⟩) hlt).trans c4;replace hlt:=Nat.lt_of_lt_of_le hlt hb.size;clear hb;cases ii
     ·go_wp2_with fail;go_ret;exact⟨zA0 (by rw[HQ.out];cases fm<;>rfl),HB.out⟩
     ·go_wp2_with fail;refine(HF.out _).mono ?_;rintro e w1 ⟨rfl,hb⟩;have HB:=jt HB hb;replace c0:=(hb.cell (p:=⟨w.heap.size,0,none⟩) hlt).trans c0;replace c1:=(hb.cell (p:=⟨w.heap.size,1,none⟩) hlt).trans c1;replace c2:=(hb.cell (p:=⟨w.heap.size,2,none⟩) hlt).trans c2;replace c3:=(hb.cell (p:=⟨w.heap.size,3,none⟩) hlt).trans c3;replace c4:=(hb.cell (p:=⟨w.heap.size,4,none⟩) hlt).trans c4;replace hlt:=Nat.lt_of_lt_of_le hlt hb.size;clear hb;cases fm
      ·go_wp2_with fail;go_ret;exact⟨zA0 (by rw[HQ.out];rfl),HB.out⟩
      ·go_wp2_with fail;go_ret;exact⟨zA0 (by rw[HQ.out];first|rfl|(simp;omega)),HB.out⟩
 ·have hn2:((n:Int)==0)=false:=by rw[beq_eq_false_iff_ne];omega
  have hn3:(0:Int)<(n:Int):=by omega
  replace hn1:=zh hn1;rw[show decide (0<n)=true by rw[decide_eq_true (by omega)]] at HQ;go_enter Tryz.func97,Tryz.ntmps97;go_wp2_with fail;have K0:=zh (Blk.new w 31 (trmC 5 a v A n cap f));have HB:=zh (zA1 w (.cells (trmC 5 a v A n cap f) 31));dsimp only[trmC] at K0 HB;generalize w.alloc (.cells #[.int .i64 5,.string a,.string v,.slice A n cap,.string f] 31)=wz at*;have c0:=K0.out.cell 0;have c1:=K0.out.cell 1;have c2:=K0.out.cell 2;have c3:=K0.out.cell 3;have c4:=K0.out.cell 4;have hlt:=K0.out.lt;refine(HN.out _).mono ?_;rintro e w1 ⟨rfl,hb⟩;have HB:=jt HB hb;replace c0:=(hb.cell (p:=⟨w.heap.size,0,none⟩) hlt).trans c0;replace c1:=(hb.cell (p:=⟨w.heap.size,1,none⟩) hlt).trans c1;replace c2:=(hb.cell (p:=⟨w.heap.size,2,none⟩) hlt).trans c2;replace c3:=(hb.cell (p:=⟨w.heap.size,3,none⟩) hlt).trans c3;replace c4:=(hb.cell (p:=⟨w.heap.size,4,none⟩) hlt).trans c4;replace hlt:=Nat.lt_of_lt_of_le hlt hb.size;clear hb;cases nm
  ·go_wp2_with fail;go_ret;exact⟨zA0 (by rw[HQ.out];cases fm<;>rfl),HB.out⟩
  ·go_wp2_with fail;refine(HI.out _).mono ?_;rintro e w1 ⟨rfl,hb⟩;have HB:=jt HB hb;replace c0:=(hb.cell (p:=⟨w.heap.size,0,none⟩) hlt).trans c0;replace c1:=(hb.cell (p:=⟨w.heap.size,1,none⟩) hlt).trans c1;replace c2:=(hb.cell (p:=⟨w.heap.size,2,none⟩) hlt).trans c2;replace c3:=(hb.cell (p:=⟨w.heap.size,3,none⟩) hlt).trans c3;replace c4:=(hb.cell (p:=⟨w.heap.size,4,none⟩) hlt).trans c4;replace hlt:=Nat.lt_of_lt_of_le hlt hb.size;clear hb;cases ii
   ·go_wp2_with fail;go_ret;exact⟨zA0 (by rw[HQ.out];cases fm<;>rfl),HB.out⟩
   ·go_wp2_with fail;refine(HF.out _).mono ?_;rintro e w1 ⟨rfl,hb⟩;have HB:=jt HB hb;replace c0:=(hb.cell (p:=⟨w.heap.size,0,none⟩) hlt).trans c0;replace c1:=(hb.cell (p:=⟨w.heap.size,1,none⟩) hlt).trans c1;replace c2:=(hb.cell (p:=⟨w.heap.size,2,none⟩) hlt).trans c2;replace c3:=(hb.cell (p:=⟨w.heap.size,3,none⟩) hlt).trans c3;replace c4:=(hb.cell (p:=⟨w.heap.size,4,none⟩) hlt).trans c4;replace hlt:=Nat.lt_of_lt_of_le hlt hb.size;clear hb;cases fm
    ·go_wp2_with fail;go_ret;exact⟨zA0 (by rw[HQ.out];rfl),HB.out⟩
    ·go_wp2_with fail;go_ret;exact⟨zA0 (by rw[HQ.out];first|rfl|(simp;omega)),HB.out⟩
set_option maxRecDepth 100000 in
set_option maxHeartbeats 800000 in
theorem zZo (k:Int)(a v f:ByteArray)(n:Nat)(A:Option Addr)(cap:Nat)(w:World)(hn:n≤9223372036854775807)(h1:(k==1)=false)(h2:(k==2)=false)(h3:(k==3)=false)(h4:(k==4)=false)(h5:(k==5)=false):Calls Tryz.prog 97 #[.agg (trmC k a v A n cap f)] w fun e w'=>e= .returned (.bool (ownM k a.toList v.toList f.toList n))∧Below w.heap.size w w':=by
 have HQ:=zh (show ownM k a.toList v.toList f.toList n=false by unfold ownM;rw[if_neg (beq_eq_false_iff_ne.1 h1),if_neg (beq_eq_false_iff_ne.1 h2),if_neg (beq_eq_false_iff_ne.1 h3),if_neg (beq_eq_false_iff_ne.1 h4),if_neg (beq_eq_false_iff_ne.1 h5)])
 by_cases hn1:n=0
 ·have hn2:((n:Int)==0)=true:=by rw[beq_iff_eq];omega
  have hn3:¬(0:Int)<(n:Int):=by omega
  replace hn1:=zh hn1;cases hv1:v.toList.isEmpty
  ·skip
   go_enter Tryz.func97,Tryz.ntmps97;go_wp2_with fail;have K0:=zh (Blk.new w 31 (trmC k a v A n cap f));have HB:=zh (zA1 w (.cells (trmC k a v A n cap f) 31));dsimp only[trmC] at K0 HB;generalize w.alloc (.cells #[.int .i64 k,.string a,.string v,.slice A n cap,.string f] 31)=wz at*;have c0:=K0.out.cell 0;have c1:=K0.out.cell 1;have c2:=K0.out.cell 2;have c3:=K0.out.cell 3;have c4:=K0.out.cell 4;have hlt:=K0.out.lt;go_wp2_with fail;go_ret;exact⟨zA0 (by rw[HQ.out]),HB.out⟩
  ·cases hf1:f.toList.isEmpty
   ·skip
    go_enter Tryz.func97,Tryz.ntmps97;go_wp2_with fail;have K0:=zh (Blk.new w 31 (trmC k a v A n cap f));have HB:=zh (zA1 w (.cells (trmC k a v A n cap f) 31));dsimp only[trmC] at K0 HB;generalize w.alloc (.cells #[.int .i64 k,.string a,.string v,.slice A n cap,.string f] 31)=wz at*;have c0:=K0.out.cell 0;have c1:=K0.out.cell 1;have c2:=K0.out.cell 2;have c3:=K0.out.cell 3;have c4:=K0.out.cell 4;have hlt:=K0.out.lt;go_wp2_with fail;go_ret;exact⟨zA0 (by rw[HQ.out]),HB.out⟩
   ·skip
    go_enter Tryz.func97,Tryz.ntmps97;go_wp2_with fail;have K0:=zh (Blk.new w 31 (trmC k a v A n cap f));have HB:=zh (zA1 w (.cells (trmC k a v A n cap f) 31));dsimp only[trmC] at K0 HB;generalize w.alloc (.cells #[.int .i64 k,.string a,.string v,.slice A n cap,.string f] 31)=wz at*;have c0:=K0.out.cell 0;have c1:=K0.out.cell 1;have c2:=K0.out.cell 2;have c3:=K0.out.cell 3;have c4:=K0.out.cell 4;have hlt:=K0.out.lt;go_wp2_with fail;go_ret;exact⟨zA0 (by rw[HQ.out]),HB.out⟩
 ·have hn2:((n:Int)==0)=false:=by rw[beq_eq_false_iff_ne];omega
  have hn3:(0:Int)<(n:Int):=by omega
  replace hn1:=zh hn1;go_enter Tryz.func97,Tryz.ntmps97;go_wp2_with fail;have K0:=zh (Blk.new w 31 (trmC k a v A n cap f));have HB:=zh (zA1 w (.cells (trmC k a v A n cap f) 31));dsimp only[trmC] at K0 HB;generalize w.alloc (.cells #[.int .i64 k,.string a,.string v,.slice A n cap,.string f] 31)=wz at*;have c0:=K0.out.cell 0;have c1:=K0.out.cell 1;have c2:=K0.out.cell 2;have c3:=K0.out.cell 3;have c4:=K0.out.cell 4;have hlt:=K0.out.lt;go_wp2_with fail;go_ret;exact⟨zA0 (by rw[HQ.out]),HB.out⟩
theorem zQu (t:Trm)(c:Array Value)(w:World)(hM:MAt w t c):Calls Tryz.prog 97 #[.agg c] w fun e w'=>e= .returned (.bool (ownM t.kind t.nam.data.toList t.vr.data.toList t.form.data.toList t.args.length))∧Below w.heap.size w w':=by
 obtain⟨A,cap,rfl,ha,hv,hf,hn,hc,-⟩:=hM.form;obtain⟨k,a,v,f,ts⟩:=t;dsimp only[Trm.kind,Trm.nam,Trm.vr,Trm.form,Trm.args] at ha hv hf hn⊢;rw[←ByteArray.toList_eq,←ByteArray.toList_eq,←ByteArray.toList_eq];have hn:ts.length≤9223372036854775807:=by omega
 by_cases h1:k=1
 ·subst h1;exact zZx a v f _ A cap w ha hn
 by_cases h2:k=2
 ·subst h2;exact zZq a v f _ A cap w ha hn
 by_cases h3:k=3
 ·subst h3;exact zZm a v f _ A cap w ha hn
 by_cases h4:k=4
 ·subst h4;exact zZh a v f _ A cap w ha hf hn
 by_cases h5:k=5
 ·subst h5;exact zZl a v f _ A cap w ha hv hf hn
 exact zZo k a v f _ A cap w hn (beq_eq_false_iff_ne.2 h1) (beq_eq_false_iff_ne.2 h2) (beq_eq_false_iff_ne.2 h3) (beq_eq_false_iff_ne.2 h4) (beq_eq_false_iff_ne.2 h5)
set_option maxRecDepth 100000 in
set_option maxHeartbeats 1600000 in
theorem zTj:∀(z:Nat) (t:Trm) (c:Array Value) (w:World),cntM t≤z→z≤1000000→MAt w t c→Calls Tryz.prog 71 #[.agg c] w fun e w'=>e= .returned (.int .i64 (sizM t))∧Below w.heap.size w w':=by
 intro z
 induction z with
 |zero=>intro t c w h;have:=zE1 t;omega
 |succ z ih=>
  intro t c w hz hz2 hM;have IH:=zh (fun t c w h hN=>ih t c w h (by omega) hN);clear ih;obtain⟨A,cap,rfl,ha,hv,hf,hl,hc,hk⟩:=hM.form;have HM:=zh (hM.keep (zA1 w (.cells (trmC t.kind t.nam t.vr A t.args.length cap t.form) 31)));obtain⟨k,a,v,f,ts⟩:=t;dsimp only[Trm.kind,Trm.nam,Trm.vr,Trm.form,Trm.args] at ha hv hf hl hk HM⊢;have HK:=zh (hk.keep (zA1 w (.cells (trmC k a v A ts.length cap f) 31)));have HB:=zh (zA1 w (.cells (trmC k a v A ts.length cap f) 31));have K1:=zh (Blk.new w 31 (trmC k a v A ts.length cap f));have HT:cntM (.mk k a v f ts)=cntL ts+1:=by rw[cntM]
  have HFM:=zh (show zGy (.mk k a v f ts)=(ownM k a.data.toList v.data.toList f.data.toList ts.length&&zCn ts) by rw[zGy]);have hlc:=zW4 ts;have HZ:=zh (show cntL ts≤z by omega);have HL:ts.length≤1000000:=by omega
  have HQ:=zh (show sizM (.mk k a v f ts)=if zGy (.mk k a v f ts)=true∧cntL ts+1≤1000 then((cntL ts+1:Nat):Int) else -1 by unfold sizM;rw[HT]);have HLC:=zh hlc;clear hz hM hk HT hlc;dsimp only[trmC] at HK HB K1 HM;go_enter Tryz.func71,Tryz.ntmps71;go_wp2_with fail;refine(zQu _ _ _ HM.out).mono ?_;rintro e w1 ⟨rfl,hb⟩;dsimp only[Trm.kind,Trm.nam,Trm.vr,Trm.form,Trm.args];replace HK:=zh (HK.out.keep hb);replace K1:=kp hb K1;replace HB:=jt HB hb;clear hb HM;have c3:=K1.out.cell 3;cases ho:ownM k a.data.toList v.data.toList f.data.toList ts.length
  ·have HQ2:=zh (show sizM (.mk k a v f ts)= -1 by rw[HQ.out,if_neg (fun h=>by rw[HFM.out,ho] at h;simp at h)]);clear ho;go_wp2_with fail;go_ret;exact⟨zBf HQ2.out.symm,HB.out⟩
  rw[ho,Bool.true_and] at HFM;clear ho
  by_cases hbig:1000<(ts.length:Int)
  ·have HQ2:=zh (show sizM (.mk k a v f ts)= -1 by rw[HQ.out,if_neg (fun h=>by have:=HLC.out;omega)]);go_wp2_with fail;go_ret;exact⟨zBf HQ2.out.symm,HB.out⟩
  rw[HFM.out] at HQ;go_wp2_with fail;clear c3
  go_loopw [3,4] (fun v0 i wr=>∃(j x:Nat),j≤ts.length∧i= .int .i64 j∧v0= .int .i64 x∧x≤1000∧Hid (x=cntL (ts.take j)+1)∧Hid (zCn (ts.take j)=true)∧Hid (Blk wr w.heap.size 31 (trmC k a v A ts.length cap f))∧Hid (zEs wr A ts)∧Hid (Below w.heap.size w wr)) (fun _ i _=>ts.length -(intOf i).toNat)
  case atStart=>exact⟨0,1,by omega,rfl,rfl,by omega,rfl,rfl,K1,HK,HB⟩
  case round=>
   clear K1 HK HB;obtain⟨j,x,hj,rfl,rfl,hx,HX,HFJ,K1,HK,HB⟩:=hrel;have c3:=K1.out.cell 3;dsimp only[trmC] at c3
   by_cases hlt:j<ts.length
   ·obtain⟨y,hy⟩:∃y,ts[j]?=some y:=⟨_,gE hlt⟩
    obtain⟨ad,A',cap',rfl,hadl,hp⟩:=HK.out.at_ hy;have HY:=zh hp.whole;obtain⟨-,d0,d1,d2,d3,d4,-⟩:=hp;have HS:=zh (show cntM y≤z by have:=zL4 hy;have:=HZ.out;omega);have HSN:=zh (zSp hy);have HFS:=zh (zNf hy);have HLE:=zh (zUa ts (j+1));have HFF:=zh (fun h=>zMm (ks:=ts) (k:=j+1) h);have HYP:=zh (zE1 y);clear hy;go_wp2_with fail;refine(IH.out y _ _ HS.out HY.out).mono ?_;rintro e w2 ⟨rfl,hb⟩;replace HK:=zh (HK.out.keep hb);replace K1:=kp hb K1;replace HB:=jt HB hb;clear hb HY d0 d1 d2 d3 d4 c3
    by_cases hgood:zGy y=true∧cntM y≤1000
    ·rw[show sizM y=(cntM y:Int) by unfold sizM;rw[if_pos hgood]];obtain⟨g1,g2⟩:=hgood;rw[HFJ.out,g1] at HFS;have hyp:=HYP.out
     by_cases hover:1000<x+cntM y
     ·have HQ2:=zh (show sizM (.mk k a v f ts)= -1 by rw[HQ.out,if_neg (fun h=>by have h1:=HSN.out;have h2:=HX.out;have h3:=HLE.out;omega)]);clear g1 HSN HX;generalize cntM y=u at*;go_wp2_with fail;go_ret;exact⟨zBf HQ2.out.symm,HB.out⟩
     ·have HS2:=zh (show x+cntM y=cntL (ts.take (j+1))+1 by rw[HSN.out,HX.out];omega);clear g1 HSN HX HS;generalize cntM y=u at*;go_wp2_with fail;go_roundw
      case rel=>exact⟨j+1,x+u,by omega,by go_num,by go_num,by omega,HS2,HFS,K1,HK,HB⟩
      case measure=>simp[intOf];omega
    ·rw[show sizM y= -1 by unfold sizM;rw[if_neg hgood]];have HQ2:=zh (show sizM (.mk k a v f ts)= -1 by
      rw[HQ.out,if_neg];rintro⟨h1,h2⟩
      apply hgood
      refine⟨?_,?_⟩
      ·cases hfy:zGy y
       ·have h3:=HFF.out (by rw[HFS.out,hfy,Bool.and_false]);rw[h3] at h1;cases h1
       ·rfl
      ·have h3:=HSN.out;have h4:=HLE.out;omega)
     clear hgood;go_wp2_with fail;go_ret;exact⟨zBf HQ2.out.symm,HB.out⟩
   ·obtain rfl:j=ts.length:=by omega
    rw[List.take_length] at HX HFJ;have HQ2:=zh (show sizM (.mk k a v f ts)=(x:Int) by rw[HQ.out,if_pos ⟨HFJ.out,by have:=HX.out;omega⟩,HX.out]);go_wp2_with fail;go_ret;exact⟨zBf HQ2.out.symm,HB.out⟩
set_option maxRecDepth 100000 in
set_option maxHeartbeats 800000 in
theorem zBu (t:Trm)(c:Array Value)(w:World)(hn:cntM t≤1000000)(hM:MAt w t c):Calls Tryz.prog 37 #[.agg c] w fun e w'=>e= .returned (.bool (zCp t))∧Below w.heap.size w w':=by
 obtain⟨A,cap,rfl,ha,hv,hf,hl,hc,hk⟩:=hM.form;have HM:=zh (hM.keep (zA1 w (.cells (trmC t.kind t.nam t.vr A t.args.length cap t.form) 31)));have HB:=zh (zA1 w (.cells (trmC t.kind t.nam t.vr A t.args.length cap t.form) 31));have K1:=zh (Blk.new w 31 (trmC t.kind t.nam t.vr A t.args.length cap t.form));have HQ:=zh (zS8 t);have HN:=zh hn;clear hM hk hn;dsimp only[trmC] at HM HB K1;go_enter Tryz.func37,Tryz.ntmps37;go_wp2_with fail;refine(zTj (cntM t) t _ _ (Nat.le_refl _) HN.out HM.out).mono ?_;rintro e w2 ⟨rfl,hb⟩;replace HB:=jt HB hb;clear hb;generalize sizM t=sz at*;go_wp2_with fail;go_ret;exact⟨zA0 HQ.out,HB.out⟩
theorem zIq:∀(a b:List Trm) (n:Nat),zCl (a++b) n=if(zCl a n).1=true then zCl b (zCl a n).2 else zCl a n
 |[],b,n=>by rw[List.nil_append,show zCl [] n=(true,n) by rw[zCl],if_pos rfl]
 |x::r,b,n=>by
  rw[List.cons_append,zCl,zCl];cases h:(chkM x n).1
  ·simp
  ·rw[if_pos rfl,if_pos rfl,zIq r b]
theorem zQz {ks:List Trm}{j n nj:Nat}{y:Trm}(hy:ks[j]?=some y)(h:zCl (ks.take j) n=(true,nj)):zCl (ks.take (j+1)) n=chkM y nj:=by
 rw[List.take_add_one,hy,Option.toList,zIq,h,if_pos rfl,zCl];cases hc:(chkM y nj).1
 ·rw[if_neg (by simp)];rw[←hc]
 ·rw[if_pos rfl,zCl];rw[←hc]
theorem zRg {ks:List Trm}{j n:Nat}(h:(zCl (ks.take j) n).1=false):zCl ks n=zCl (ks.take j) n:=by
 conv=>lhs;rw[←List.take_append_drop j ks]
 rw[zIq,h,if_neg (by simp)]
theorem zZ9 (t:Trm)(n:Nat)(h:(chkM t n).1=true):(chkM t n).2≤1000:=by
 obtain⟨a,b⟩:=zI8 t n;rw[b h];exact(a.1 h).2
set_option maxRecDepth 100000 in
set_option maxHeartbeats 1600000 in
theorem zE6:∀(m:Nat) (t:Trm) (p:Addr) (A:Option Addr) (cap gc n:Nat) (w0 w:World),cntM t≤m→PtM w0 p t A cap→Below w0.heap.size w0 w→Blk w gc 3 #[.int .i64 (n:Int)]→w0.heap.size≤gc→n≤1000→Calls Tryz.prog 59 #[.pointer (some p),.pointer (some ⟨gc,0,none⟩)] w fun e w'=>e= .returned (.bool (chkM t n).1)∧Blk w' gc 3 #[.int .i64 ((chkM t n).2:Int)]∧Below w0.heap.size w0 w':=by
 intro m
 induction m with
 |zero=>intro t p A cap gc n w0 w h;have:=zE1 t;omega
 |succ m ih=>
  intro t p A cap gc n w0 w hm hP hB hC hgc hn;have IH:=zh ih;clear ih;obtain⟨k,a,v,f,ts⟩:=t;have HP:=zh hP;have HZ:=zh (show cntL ts≤m by rw[cntM] at hm;omega);have HQ0:=zh (show chkM (.mk k a v f ts) n=if 1000<n+1∨ownM k a.data.toList v.data.toList f.data.toList ts.length=false then(false,n+1) else zCl ts (n+1) by rw[chkM]);have f0:=hC.frozen 0;have f1:=hC.cell 0;have HC1:=zh (show Blk (w.setCell ⟨gc,0,none⟩ (.int .i64 ((n:Int)+1))) gc 3 #[.int .i64 ((n+1:Nat):Int)] from hC.set_ 0 (.int .i64 ((n:Int)+1)));have HB1:=zh (hB.setCell (p:=⟨gc,0,none⟩) hgc (.int .i64 ((n:Int)+1)));have HGC:=zh hgc;clear hP hB hC hm hgc;have f2:=HC1.out.cell 0;go_enter Tryz.func59,Tryz.ntmps59
  by_cases h1:1000<n+1
  ·have HQ:=zh (show chkM (.mk k a v f ts) n=(false,n+1) by rw[HQ0.out,if_pos (.inl h1)]);go_wp2_with fail;go_ret;exact⟨zA0 (by rw[HQ.out]),by rw[HQ.out];exact HC1.out,HB1.out⟩
  go_wp2_with fail;generalize w.setCell ⟨gc,0,none⟩ (.int .i64 ((n:Int)+1))=w1 at*;clear f0 f1 f2;refine(zG3 _ p A cap w1 (HP.out.keep HB1.out)).mono ?_;rintro e w2 ⟨rfl,hb⟩;dsimp only[Trm.kind,Trm.nam,Trm.vr,Trm.form,Trm.args];have HC:=kp hb HC1;have HB:=jt HB1 hb;clear hb HC1 HB1;cases ho:ownM k a.data.toList v.data.toList f.data.toList ts.length
  ·have HQ:=zh (show chkM (.mk k a v f ts) n=(false,n+1) by rw[HQ0.out,if_pos (.inr ho)]);clear ho;go_wp2_with fail;go_ret;exact⟨zA0 (by rw[HQ.out]),by rw[HQ.out];exact HC.out,HB.out⟩
  rw[if_neg (by rintro(h|h);exact h1 h;rw[ho] at h;cases h)] at HQ0;clear ho;obtain⟨-,-,-,-,c3,-,-,-,-,hl,hc,-⟩:=HP.out.keep HB.out;dsimp only[Trm.kind,Trm.nam,Trm.vr,Trm.form,Trm.args] at c3 hl;go_wp2_with fail;clear c3
  go_loopw [25] (fun i wr=>∃(j nj:Nat),j≤ts.length∧i= .int .i64 j∧nj≤1000∧Hid (zCl (ts.take j) (n+1)=(true,nj))∧Hid (Blk wr gc 3 #[.int .i64 (nj:Int)])∧Hid (Below w0.heap.size w0 wr)) (fun i _=>ts.length -(intOf i).toNat)
  case atStart=>exact⟨0,n+1,by omega,rfl,by omega,(by rw[List.take_zero];show zCl [] (n+1)=_;rw[zCl]),HC,HB⟩
  case round=>
   clear HC HB;obtain⟨j,nj,hj,rfl,hnj,HJ,HC,HB⟩:=hrel
   by_cases hlt:j<ts.length
   ·obtain⟨y,hy⟩:∃y,ts[j]?=some y:=⟨_,gE hlt⟩
    obtain⟨-,-,-,-,c3,-,-,-,-,-,-,hka⟩:=HP.out.keep HB.out;dsimp only[Trm.kind,Trm.nam,Trm.vr,Trm.form,Trm.args] at c3 hka;obtain⟨ad,A',cap',rfl,hadl,hp⟩:=hka.at_ hy;have HY:Hid (PtM w0 (ad.add (j*5)) y A' cap'):=by
     obtain⟨-,-,-,-,-,-,-,-,-,-,-,hk0⟩:=HP.out;dsimp only[Trm.args] at hk0;obtain⟨ad',A'',cap'',e1,hadl',hp'⟩:=hk0.at_ hy;obtain rfl:=sj e1;have e3:=hp'.keep HB.out;obtain⟨-,-,-,-,q,-⟩:=e3;obtain⟨-,-,-,-,q',-⟩:=hp;rw[q] at q';injection q' with q';injection q' with q1 _ q2;subst q1;subst q2;exact hp'
    have HS:=zh (show cntM y≤m by have:=zL4 hy;have:=HZ.out;omega);have HSN:=zh (zQz hy HJ.out);have HST:=zh (fun h=>zRg (ks:=ts) (j:=j+1) (n:=n+1) h);have HLE:=zh (zZ9 y nj);clear hy hka hp;go_wp2_with fail;refine(IH.out y _ A' cap' gc nj w0 wr HS.out HY.out HB.out HC.out HGC.out hnj).mono ?_;rintro e w4 ⟨rfl,hC4,hB4⟩;have HC:=zh hC4;have HB:=zh hB4;clear hC4 hB4 c3;cases hr:(chkM y nj).1
    ·have HQ:=zh (show chkM (.mk k a v f ts) n=(false,(chkM y nj).2) by rw[HQ0.out,HST.out (by rw[HSN.out,hr]),HSN.out,←hr]);clear hr;go_wp2_with fail;go_ret;exact⟨zA0 (by rw[HQ.out]),by rw[HQ.out];exact HC.out,HB.out⟩
    ·have HJ2:=zh (show zCl (ts.take (j+1)) (n+1)=(true,(chkM y nj).2) by rw[HSN.out,←hr]);have hle:=HLE.out hr;clear hr;generalize (chkM y nj).2=n2 at*;go_wp2_with fail;go_roundw
     case rel=>exact⟨j+1,n2,by omega,by go_num,hle,HJ2,HC,HB⟩
     case measure=>simp[intOf];omega
   ·obtain rfl:j=ts.length:=by omega
    rw[List.take_length] at HJ;have HQ:=zh (show chkM (.mk k a v f ts) n=(true,nj) by rw[HQ0.out,HJ.out]);go_wp2_with fail;go_ret;exact⟨zA0 (by rw[HQ.out]),by rw[HQ.out];exact HC.out,HB.out⟩
def cntI (t:Trm):Int:=if zCp t=true then(cntM t:Int) else 0
set_option maxRecDepth 100000 in
set_option maxHeartbeats 800000 in
theorem zTh (t:Trm)(c:Array Value)(w:World)(hM:MAt w t c):Calls Tryz.prog 33 #[.agg c] w fun e w'=>e= .returned (.int .i64 (cntI t))∧Below w.heap.size w w':=by
 obtain⟨A,cap,rfl,ha,hv,hf,hl,hc,hk⟩:=hM.form;have HB:=zh (zA1 w (.cells (trmC t.kind t.nam t.vr A t.args.length cap t.form) 31));have K1:=zh (Blk.new w 31 (trmC t.kind t.nam t.vr A t.args.length cap t.form));have HP:=zh (PtM.box K1.out ha hv hf hl hc (hk.keep HB.out));have HVC:=zh (zK5 t);have HCC:=zh (@zSe t);clear hM hk;dsimp only[trmC] at HB K1 HP;go_enter Tryz.func33,Tryz.ntmps33;go_wp2_with fail;have HG:=zh (show(w.alloc (.cells (trmC t.kind t.nam t.vr A t.args.length cap t.form) 31)).heap.size=w.heap.size+1 by simp);dsimp only[trmC] at HG;generalize w.alloc (.cells #[.int .i64 t.kind,.string t.nam,.string t.vr,.slice A t.args.length cap,.string t.form] 31)=w1 at*;have KC:=zh (show Blk (w1.alloc (.cells #[.int .i64 0] 3)) (w.heap.size+1) 3 #[.int .i64 ((0:Nat):Int)] by rw[←HG.out];exact Blk.new w1 3 #[.int .i64 0]);have H1:=zh (zA1 w1 (.cells #[.int .i64 0] 3));have HGE:=zh (show w1.heap.size≤w.heap.size+1 by rw[HG.out];exact Nat.le_refl _);generalize w1.alloc (.cells #[.int .i64 0] 3)=w2 at*;refine(zE6 (cntM t) t _ A cap (w.heap.size+1) 0 w1 w2 (Nat.le_refl _) HP.out H1.out KC.out HGE.out (by omega)).mono ?_;rintro e w4 ⟨rfl,hC4,hB4⟩;have HB:=jt HB hB4;have c0:=hC4.cell 0;clear hB4 hC4;rw[HVC.out];cases hval:zCp t
 ·have HE:=zh (show cntI t=0 by unfold cntI;rw[if_neg (by rw[hval];simp)]);clear hval;go_wp2_with fail;go_ret;exact⟨zBf HE.out.symm,HB.out⟩
 ·rw[HCC.out hval] at c0;have HE:=zh (show cntI t=cntM t by unfold cntI;rw[if_pos hval]);clear hval;go_wp2_with fail;go_ret;exact⟨zBf HE.out.symm,HB.out⟩
set_option maxRecDepth 100000 in
set_option maxHeartbeats 800000 in
theorem zHg (t:Trm)(c:Array Value)(w:World)(hM:MAt w t c):Calls Tryz.prog 18 #[.agg c] w fun e w'=>e= .returned (.bool (zCp t))∧Below w.heap.size w w':=by
 obtain⟨A,cap,rfl,ha,hv,hf,hl,hc,hk⟩:=hM.form;have HM:=zh (hM.keep (zA1 w (.cells (trmC t.kind t.nam t.vr A t.args.length cap t.form) 31)));have HB:=zh (zA1 w (.cells (trmC t.kind t.nam t.vr A t.args.length cap t.form) 31));have K1:=zh (Blk.new w 31 (trmC t.kind t.nam t.vr A t.args.length cap t.form));have hpos:=zE1 t;have HI:=zh (show cntI t=if zCp t=true then(cntM t:Int) else 0 from rfl);clear hM hk;dsimp only[trmC] at HM HB K1;go_enter Tryz.func18,Tryz.ntmps18;go_wp2_with fail;refine(zTh t _ _ HM.out).mono ?_;rintro e w2 ⟨rfl,hb⟩;have HB:=jt HB hb;clear hb;cases hval:zCp t
 ·have HVV:=zh hval;rw[hval,if_neg (by simp)] at HI;rw[HI.out];clear hval;go_wp2_with fail;go_ret;exact⟨zA0 (by rw[HVV.out]),HB.out⟩
 ·have HVV:=zh hval;rw[hval,if_pos rfl] at HI;rw[HI.out];clear hval HI;generalize cntM t=u at*;go_wp2_with fail;go_ret;exact⟨zA0 (by rw[HVV.out];first|rfl|(simp;omega)),HB.out⟩
mutual
def eqM:Trm→Trm→Bool
 | .mk k a v f ts,u=>(k==u.kind&&(a.toList==u.nam.toList&&(v.toList==u.vr.toList&&(f.toList==u.form.toList&&decide (ts.length=u.args.length)))))&&eqL ts u.args
def eqL:List Trm→List Trm→Bool
 |[],us=>us.isEmpty
 |t::ts,us=>match us with
  |[]=>false
  |u::us=>eqM t u&&eqL ts us
end
theorem zLo {a b:ByteArray}(h:(a.toList==b.toList)=true):a=b:=by
 rw[beq_iff_eq,ByteArray.toList_eq,ByteArray.toList_eq] at h
 apply ByteArray.ext
 exact Array.toList_inj.1 h
mutual
theorem zS1:∀t u:Trm,eqM t u=true↔t=u
 | .mk k a v f ts,.mk k' a' v' f' us=>by
  unfold eqM;simp only[Trm.kind,Trm.nam,Trm.vr,Trm.form,Trm.args,Bool.and_eq_true,beq_iff_eq];constructor
  ·rintro⟨⟨rfl,h1,h2,h3,h4⟩,h5⟩;rw[zLo (beq_iff_eq.2 h1),zLo (beq_iff_eq.2 h2),zLo (beq_iff_eq.2 h3),(zFy ts us).1 h5]
  ·intro e;injection e with e1 e2 e3 e4 e5;subst e1;subst e2;subst e3;subst e4;subst e5;exact⟨⟨rfl,rfl,rfl,rfl,decide_eq_true rfl⟩,(zFy ts ts).2 rfl⟩
theorem zFy:∀ts us:List Trm,eqL ts us=true↔ts=us
 |[],us=>by unfold eqL;rw[List.isEmpty_iff];exact eq_comm
 |t::ts,[]=>by unfold eqL;simp
 |t::ts,u::us=>by
  unfold eqL;simp only[Bool.and_eq_true];rw[zS1 t u,zFy ts us,List.cons.injEq]
end
theorem zWa {ts us:List Trm}{j:Nat}{x y:Trm}(h1:ts[j]?=some x)(h2:us[j]?=some y):eqL (ts.take (j+1)) (us.take (j+1))=(eqL (ts.take j) (us.take j)&&eqM x y):=by
 rw[Bool.eq_iff_iff,Bool.and_eq_true,zFy,zFy,zS1,List.take_add_one,List.take_add_one,h1,h2];have l1:j<ts.length:=(List.getElem?_eq_some_iff.1 h1).1;have l2:j<us.length:=(List.getElem?_eq_some_iff.1 h2).1;constructor
 ·intro e;have:=List.append_inj e (by simp;omega);exact⟨this.1,by simpa using this.2⟩
 ·rintro⟨e,rfl⟩;rw[e]
theorem zU6 {ts us:List Trm}{j:Nat}(h:eqL (ts.take j) (us.take j)=false):eqL ts us=false:=by
 cases hq:eqL ts us
 ·rfl
 ·rw[(zFy ts us).1 hq] at h;rw[(zFy _ _).2 rfl] at h;cases h
set_option maxRecDepth 100000 in
set_option maxHeartbeats 4000000 in
theorem zQh:∀(z:Nat) (t u:Trm) (c d:Array Value) (w:World),cntM t≤z→MAt w t c→MAt w u d→Calls Tryz.prog 10 #[.agg c,.agg d] w fun e w'=>e= .returned (.bool (eqM t u))∧Below w.heap.size w w':=by
 intro z
 induction z with
 |zero=>intro t u c d w h;have:=zE1 t;omega
 |succ z ih=>
  intro t u c d w hz hM hM2;have IH:=zh ih;clear ih;obtain⟨A,cap,rfl,ha,hv,hf,hl,hc,hk⟩:=hM.form;obtain⟨A',cap',rfl,ha',hv',hf',hl',hc',hk'⟩:=hM2.form;obtain⟨k,a,v,f,ts⟩:=t;obtain⟨k',a',v',f',us⟩:=u;dsimp only[Trm.kind,Trm.nam,Trm.vr,Trm.form,Trm.args] at ha hv hf hl hk ha' hv' hf' hl' hk'⊢;have HQ:=zh (show eqM (.mk k a v f ts) (.mk k' a' v' f' us)=((k==k'&&(a.toList==a'.toList&&(v.toList==v'.toList&&(f.toList==f'.toList&&decide (ts.length=us.length)))))&&eqL ts us) by unfold eqM;rfl);have HZ:=zh (show cntL ts≤z by rw[cntM] at hz;omega);have HW:=zh (show(w.alloc (.cells (trmC k a v A ts.length cap f) 31)).heap.size=w.heap.size+1 by simp);have B1:=zA1 w (.cells (trmC k a v A ts.length cap f) 31);have B2:=zA1 (w.alloc (.cells (trmC k a v A ts.length cap f) 31)) (.cells (trmC k' a' v' A' us.length cap' f') 31);have HB:=zh (B1.trans (B2.mono B1.size));have HK:=zh (hk.keep HB.out);have HK':=zh (hk'.keep HB.out);have K0:=zh (keep B2 (Blk.new w 31 (trmC k a v A ts.length cap f)));have K1:Hid (Blk ((w.alloc (.cells (trmC k a v A ts.length cap f) 31)).alloc (.cells (trmC k' a' v' A' us.length cap' f') 31)) (w.heap.size+1) 31 (trmC k' a' v' A' us.length cap' f')):=by
   show Blk _ _ _ _;rw[←HW.out];exact Blk.new _ _ _
  clear hM hM2 hk hk' B1 B2 HW hz;dsimp only[trmC] at HB HK HK' K0 K1;have c0:=K0.out.cell 0;have c1:=K0.out.cell 1;have c2:=K0.out.cell 2;have c3:=K0.out.cell 3;have c4:=K0.out.cell 4;have e0:=K1.out.cell 0;have e1:=K1.out.cell 1;have e2:=K1.out.cell 2;have e3:=K1.out.cell 3;have e4:=K1.out.cell 4;go_enter Tryz.func10,Tryz.ntmps10;cases q0:(k==k')
  ·rw[q0] at HQ;have n0:(k !=k')=true:=by rw[bne,q0];rfl
   go_wp2_with fail;go_ret;exact⟨zA0 (by rw[HQ.out];rfl),HB.out⟩
  have n0:(k !=k')=false:=by rw[bne,q0];rfl
  rw[q0,Bool.true_and] at HQ;replace q0:=zh q0;cases q1:(a.toList==a'.toList)
  ·rw[q1] at HQ;have n1:(!(a.toList==a'.toList))=true:=by rw[q1];rfl
   go_wp2_with fail;go_ret;exact⟨zA0 (by rw[HQ.out];rfl),HB.out⟩
  have n1:(!(a.toList==a'.toList))=false:=by rw[q1];rfl
  rw[q1,Bool.true_and] at HQ;replace q1:=zh q1;cases q2:(v.toList==v'.toList)
  ·rw[q2] at HQ;have n2:(!(v.toList==v'.toList))=true:=by rw[q2];rfl
   go_wp2_with fail;go_ret;exact⟨zA0 (by rw[HQ.out];rfl),HB.out⟩
  have n2:(!(v.toList==v'.toList))=false:=by rw[q2];rfl
  rw[q2,Bool.true_and] at HQ;replace q2:=zh q2;cases q4:(f.toList==f'.toList)
  ·rw[q4] at HQ;have n4:(!(f.toList==f'.toList))=true:=by rw[q4];rfl
   go_wp2_with fail;go_ret;exact⟨zA0 (by rw[HQ.out];rfl),HB.out⟩
  have n4:(!(f.toList==f'.toList))=false:=by rw[q4];rfl
  rw[q4,Bool.true_and] at HQ;replace q4:=zh q4
  by_cases hn:ts.length≠us.length
  ·have n3:((ts.length:Int) !=(us.length:Int))=true:=by rw[bne_iff_ne];omega
   rw[decide_eq_false hn] at HQ;clear hn;go_wp2_with fail;go_ret;exact⟨zA0 (by rw[HQ.out];rfl),HB.out⟩
  have n3:((ts.length:Int) !=(us.length:Int))=false:=by rw[bne_eq_false_iff_eq];omega
  replace hn:ts.length=us.length:=Classical.not_not.1 hn;rw[decide_eq_true hn,Bool.true_and] at HQ;replace hn:=zh hn;go_wp2_with fail;clear c0 c1 c2 c3 c4 e0 e1 e2 e3 e4;generalize (w.alloc (.cells #[.int .i64 k,.string a,.string v,.slice A ts.length cap,.string f] 31)).alloc (.cells #[.int .i64 k',.string a',.string v',.slice A' us.length cap',.string f'] 31)=w1 at*
  go_loopw [5] (fun i wr=>∃j:Nat,j≤ts.length∧i= .int .i64 j∧Hid (eqL (ts.take j) (us.take j)=true)∧Hid (Blk wr w.heap.size 31 #[.int .i64 k,.string a,.string v,.slice A ts.length cap,.string f])∧Hid (Blk wr (w.heap.size+1) 31 #[.int .i64 k',.string a',.string v',.slice A' us.length cap',.string f'])∧Hid (zEs wr A ts)∧Hid (zEs wr A' us)∧Hid (Below w.heap.size w wr)) (fun i _=>ts.length -(intOf i).toNat)
  case atStart=>exact⟨0,by omega,rfl,rfl,K0,K1,HK,HK',HB⟩
  case round=>
   clear K0 K1 HK HK' HB;obtain⟨j,hj,rfl,HJ,K0,K1,HK,HK',HB⟩:=hrel;have c3:=K0.out.cell 3;have e3:=K1.out.cell 3
   by_cases hlt:j<ts.length
   ·obtain⟨x,hx⟩:∃x,ts[j]?=some x:=⟨_,gE hlt⟩
    obtain⟨y,hy⟩:∃y,us[j]?=some y:=⟨_,gE (by have:=hn.out;omega)⟩
    obtain⟨ad,A2,cap2,rfl,hadl,hp⟩:=HK.out.at_ hx;obtain⟨ad',A3,cap3,rfl,hadl',hp'⟩:=HK'.out.at_ hy;have HX:=zh hp.whole;have HY:=zh hp'.whole;obtain⟨hb1,d0,d1,d2,d3,d4,-⟩:=hp;obtain⟨hb2,g0,g1,g2,g3,g4,-⟩:=hp';have HS:=zh (show cntM x≤z by have:=zL4 hx;have:=HZ.out;omega);have HSN:=zh (zWa hx hy);rw[HJ.out,Bool.true_and] at HSN;have HFA:=zh (fun h=>zU6 (ts:=ts) (us:=us) (j:=j+1) h);have hlu:(j:Int)<(us.length:Int):=by have:=hn.out;omega
    clear hx hy;go_wp2_with fail;go_upto_region 6 with(fail)
    refine zCa (by kernel_rfl) (by kernel_rfl) ?_;have EC:=fun e:Ext wr=>(keep e.bel K0.out).cell 3
    have EE:=fun e:Ext wr=>(keep e.bel K1.out).cell 3
    have D0:=fun e:Ext wr=>e.cell hb1 d0
    have D1:=fun e:Ext wr=>e.cell (p:=⟨(ad.add (j*5)).block,(ad.add (j*5)).off+1,none⟩) hb1 d1
    have D2:=fun e:Ext wr=>e.cell (p:=⟨(ad.add (j*5)).block,(ad.add (j*5)).off+2,none⟩) hb1 d2
    have D3:=fun e:Ext wr=>e.cell (p:=⟨(ad.add (j*5)).block,(ad.add (j*5)).off+3,none⟩) hb1 d3
    have D4:=fun e:Ext wr=>e.cell (p:=⟨(ad.add (j*5)).block,(ad.add (j*5)).off+4,none⟩) hb1 d4
    have G0:=fun e:Ext wr=>e.cell hb2 g0
    have G1:=fun e:Ext wr=>e.cell (p:=⟨(ad'.add (j*5)).block,(ad'.add (j*5)).off+1,none⟩) hb2 g1
    have G2:=fun e:Ext wr=>e.cell (p:=⟨(ad'.add (j*5)).block,(ad'.add (j*5)).off+2,none⟩) hb2 g2
    have G3:=fun e:Ext wr=>e.cell (p:=⟨(ad'.add (j*5)).block,(ad'.add (j*5)).off+3,none⟩) hb2 g3
    have G4:=fun e:Ext wr=>e.cell (p:=⟨(ad'.add (j*5)).block,(ad'.add (j*5)).off+4,none⟩) hb2 g4
    have HC:=zh (fun e:Ext wr=>Calls.ext (IH.out x y _ _ e.val HS.out (HX.out.keep e.bel) (HY.out.keep e.bel)));clear c3 e3 d0 d1 d2 d3 d4 g0 g1 g2 g3 g4
    repeat (go_big_quiet_step (fail))
    go_big_quiet_step ((rename_i e;exact HC.out e))
    repeat (go_big_quiet_step (fail))
    refine wpQuiet_nil ?_;intro wq hwq;obtain⟨⟨w9,hb⟩,e9⟩:=hwq;dsimp only at e9;subst e9;replace K0:=kp hb K0;replace K1:=kp hb K1;replace HK:=zh (HK.out.keep hb);replace HK':=zh (HK'.out.keep hb);replace HB:=jt HB hb;clear EC EE D0 D1 D2 D3 D4 G0 G1 G2 G3 G4 HC hb hb1 hb2 HX HY;cases hr:eqM x y
    ·have hq:eqL ts us=false:=HFA.out (by rw[HSN.out,hr]);rw[hq] at HQ;clear hr hq;go_wp2_with fail;go_ret;exact⟨zA0 (by rw[HQ.out]),HB.out⟩
    ·rw[hr] at HSN;clear hr;go_wp2_with fail;go_roundw
     case rel=>exact⟨j+1,by omega,by go_num,HSN,K0,K1,HK,HK',HB⟩
     case measure=>simp[intOf];omega
   ·obtain rfl:j=ts.length:=by omega
    have hq:eqL ts us=true:=by
     have h:=HJ.out;rw[List.take_length,hn.out,List.take_length] at h;exact h
    rw[hq] at HQ;clear hq;go_wp2_with fail;go_ret;exact⟨zA0 (by rw[HQ.out]),HB.out⟩
end Go.Proofs.YtchllommcolijaaGreatDoor.Sp
