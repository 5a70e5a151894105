/- A region that draws its order and ends in a tail that waits for all else: values known. -/
import Derived.Test.YtchllommcolijaaGreatDoorHad74d90f
import Derived.Deep.QuietTactic
import Derived.BigQuiet
import Derived.Deep.RegionWith
import Derived.Deep.RegionHeld3
import Derived.Deep.DeepCutAuto
import Derived.DataElems
namespace Go.Proofs.YtchllommcolijaaGreatDoor
open Go.RowKit
def zAg (w:World)(A:Option Addr)(rs:List Rul):Prop:=∀(k:Nat) (r:Rul),rs[k]?=some r→r.fits∧∃ad:Addr,A=some ad∧ad.block<w.heap.size∧∀(j:Nat) (v:Value),r.c[j]?=some v→w.cell? (ad.add (k*6+j))=some v
theorem add_block (a:Addr)(n:Nat):(a.add n).block=a.block:=by unfold Addr.add;split<;>rfl
theorem zAg.keep {w w':World}{A:Option Addr}{rs:List Rul}(h:zAg w A rs)(hb:Below w.heap.size w w'):zAg w' A rs:=fun k r hk=>by
 obtain⟨hf,ad,hA,hlt,hc⟩:=h k r hk;exact⟨hf,ad,hA,ll hlt hb.size,fun j v hj=>(hb.cell (by rw[add_block];exact hlt)).trans (hc j v hj)⟩
theorem zAg.drew {w:World}{A:Option Addr}{rs:List Rul}(h:zAg w A rs):zAg w.drew A rs:=h
theorem zAg.alloc {w:World}{A:Option Addr}{rs:List Rul}(h:zAg w A rs)(o:Obj):zAg (w.alloc o) A rs:=h.keep (zA1 w o)
theorem zAg.take {w:World}{A:Option Addr}{rs:List Rul}(h:zAg w A rs)(n:Nat):zAg w A (rs.take n):=fun k r hk=>h k r (by
 rw[List.getElem?_take] at hk
 split at hk
 ·exact hk
 ·cases hk)
theorem zEk {w:World}{a:Addr}{n j:Nat}{v:Value}(h:w.cell? (a.add (n+(j+1)))=some v):w.cell? ⟨(a.add n).block,(a.add n).off+(j+1),none⟩=some v:=by
 rw[←Addr.add_add] at h;unfold Addr.add at h⊢
 simpa using h
theorem zAg.at_ {w:World}{A:Option Addr}{rs:List Rul}(h:zAg w A rs){k:Nat}{r:Rul}(hk:rs[k]?=some r):
  r.fits∧∃ad:Addr,A=some ad∧ad.block<w.heap.size∧w.cell? (ad.add (k*6))=some (.int .i64 r.kind)∧w.cell? ⟨(ad.add (k*6)).block,(ad.add (k*6)).off+1,none⟩=some (.string r.sym)∧w.cell? ⟨(ad.add (k*6)).block,(ad.add (k*6)).off+2,none⟩=some (.string r.nam)∧w.cell? ⟨(ad.add (k*6)).block,(ad.add (k*6)).off+3,none⟩=some (.int .i64 r.prec)∧w.cell? ⟨(ad.add (k*6)).block,(ad.add (k*6)).off+4,none⟩=some (.int .i64 r.left)∧w.cell? ⟨(ad.add (k*6)).block,(ad.add (k*6)).off+5,none⟩=some (.int .i64 r.right):=by
 obtain⟨hf,ad,hA,hlt,hc⟩:=h k r hk;exact⟨hf,ad,hA,hlt,hc 0 _ rfl,zEk (j:=0) (hc 1 _ rfl),zEk (j:=1) (hc 2 _ rfl),zEk (j:=2) (hc 3 _ rfl),zEk (j:=3) (hc 4 _ rfl),zEk (j:=4) (hc 5 _ rfl)⟩
def zY5 (os:List Rul)(r:Rul)(w:World)(e:Ending)(w':World):Prop:=∃n:Int,e= .returned (.int .i64 n)∧decide (0≤n)=(os.any fun o=>zB7 o r)∧Below w.heap.size w w'
abbrev clo (g:Nat):Value:=.func (.func 42) #[] #[.pointer (some ⟨g,0,none⟩)]
set_option maxRecDepth 100000 in
set_option maxHeartbeats 800000 in
theorem zSh (A:Option Addr)(cap g:Nat)(os:List Rul)(r:Rul)(w:World)(hR:zAg w A os)(hK:Blk w g 42 r.c)(hn:os.length≤1000000):Calls Tryz.prog 75 #[.slice A os.length cap,clo g] w (zY5 os r w):=by
 have HR:=zh hR;have HK:=zh hK;clear hR hK;go_enter Tryz.func75,Tryz.ntmps75;go_wp2_with fail
 go_loopw [8] (fun i wr=>∃k:Nat,k≤os.length∧i= .int .i64 k∧Hid (∀(j:Nat) x,os[j]?=some x→j<k→zB7 x r=false)∧Hid (zAg wr A os)∧Hid (Blk wr g 42 r.c)∧Hid (Below w.heap.size w wr)) (fun i _=>os.length -(intOf i).toNat)
 case atStart=>exact⟨0,by omega,rfl,(fun j _ _ h=>by omega),HR,HK,Below.refl _ _⟩
 case round=>
  clear HR HK;obtain⟨k,hk,rfl,HJ,HR,HK,H0⟩:=hrel
  by_cases hlt:k<os.length
  ·obtain⟨x,hx⟩:∃x,os[k]?=some x:=⟨_,gE hlt⟩
   obtain⟨hf,ad,rfl,hadl,c0,c1,c2,c3,c4,c5⟩:=HR.out.at_ hx;have HX:=zh hx;clear hx hf;go_wp2_with fail;refine(zV5 x r g _ HK.out).mono ?_;rintro e w1 ⟨rfl,hb⟩;have NR:=zh (HR.out.keep hb);have NK:=kp hb HK;have NB:=jt H0 hb;clear hb HR HK H0 c0 c1 c2 c3 c4 c5;cases hq:zB7 x r
   ·have HQ:=zh hq;clear hq;go_wp2_with fail;go_roundw
    case rel=>exact⟨k+1,by omega,by go_num,(fun j y hj h=>by
     rcases Nat.lt_or_ge j k with h'|h'
     ·exact HJ.out j y hj h'
     ·obtain rfl:j=k:=by omega
      rw[HX.out] at hj;obtain rfl:=sj hj;exact HQ.out),NR,NK,NB⟩
    case measure=>simp[intOf];omega
   ·have HQ:=zh (show(os.any fun o=>zB7 o r)=true from List.any_eq_true.2 ⟨x,List.mem_of_getElem? HX.out,hq⟩);clear hq;go_wp2_with fail;go_ret;exact⟨_,rfl,by rw[HQ.out];simp,NB.out⟩
  ·have HQ:=zh (show(os.any fun o=>zB7 o r)=false by
    rw[List.any_eq_false];intro x hx;obtain⟨j,hj⟩:=List.mem_iff_getElem?.1 hx;have hjl:j<os.length:=(List.getElem?_eq_some_iff.1 hj).1;rw[HJ.out j x hj (by omega)];simp)
   go_wp2_with fail;go_ret;exact⟨_,rfl,by rw[HQ.out];rfl,H0.out⟩
set_option maxRecDepth 100000 in
set_option maxHeartbeats 400000 in
theorem zMt (A:Option Addr)(cap g:Nat)(os:List Rul)(r:Rul)(w:World)(hR:zAg w A os)(hK:Blk w g 42 r.c)(hn:os.length≤1000000):Calls Tryz.prog 41 #[.slice A os.length cap,clo g] w fun e w'=>e= .returned (.bool (os.any fun o=>zB7 o r))∧Below w.heap.size w w':=by
 have HR:=zh hR;have HK:=zh hK;clear hR hK;go_enter Tryz.func41,Tryz.ntmps41;go_wp2_with fail;refine(zSh A cap g os r _ HR.out HK.out hn).mono ?_;rintro e w1 ⟨n,rfl,hq,hb⟩;have HQ:=zh hq;have HB:=zh hb;clear hq hb;go_wp2_with fail;go_ret;exact⟨zA0 HQ.out,HB.out⟩
set_option maxRecDepth 100000 in
set_option maxHeartbeats 400000 in
theorem zM5 (A:Option Addr)(cap:Nat)(os:List Rul)(r:Rul)(w:World)(hR:zAg w A os)(hn:os.length≤1000000):Calls Tryz.prog 21 #[.slice A os.length cap,r.v] w fun e w'=>e= .returned (.bool (!zDx os r))∧Below w.heap.size w w':=by
 have HR:=zh hR;have HN:=zh (show(!zDx os r)=(os.any fun o=>zB7 o r) by unfold zDx;rw[Bool.not_not]);clear hR;go_enter Tryz.func21,Tryz.ntmps21;go_wp2_with fail;refine(zMt A cap w.heap.size os r _ (HR.out.alloc _) (Blk.new w 42 r.c) hn).mono ?_;rintro e w1 ⟨rfl,hb⟩;have HB:=zh ((zA1 w _).trans (hb.mono (by simp)));clear hb;rw[←HN.out];generalize hbe:(!zDx os r)=b;have HBE:=zh hbe;clear hbe;go_wp2_with fail;go_ret;exact⟨zA0 HBE.out.symm,HB.out⟩
theorem zKc (A:Option Addr)(n cap:Nat)(os:List Rul)(r:Rul)(w:World)(hR:zAg w A os)(hl:os.length=n)(hn:n≤1000000):Calls Tryz.prog 21 #[.slice A n cap,r.v] w fun e w'=>e= .returned (.bool (!zDx os r))∧Below w.heap.size w w':=by
 subst hl;exact zM5 A cap os r w hR hn
theorem zTe (rs:List Rul)(h:64<rs.length):zAj rs=false:=by unfold zAj;rw[decide_eq_false (by omega)];rfl
theorem zOo (rs:List Rul)(h:rs.length≤64):zAj rs=zC1 rs rs.length:=by unfold zAj;rw[decide_eq_true h];rfl
set_option maxRecDepth 100000 in
set_option maxHeartbeats 2000000 in
theorem zE6 (A:Option Addr)(cap:Nat)(rs:List Rul)(w:World)(hR:zAg w A rs)(hc:rs.length≤cap)(_hcap:cap≤9223372036854775807):Calls Tryz.prog 14 #[.slice A rs.length cap] w fun e w'=>e= .returned (.bool (zAj rs))∧Below w.heap.size w w':=by
 have HR:=zh hR;clear hR
 by_cases h64:64<rs.length
 ·rw[zTe rs h64];go_enter Tryz.func14,Tryz.ntmps14;go_wp2_with fail;go_ret;exact⟨rfl,Below.refl _ _⟩
 ·rw[zOo rs (by omega)];go_enter Tryz.func14,Tryz.ntmps14;go_wp2_with fail
  go_loopw [10] (fun i wr=>∃k:Nat,k≤rs.length∧i= .int .i64 k∧Hid (zC1 rs k=true)∧Hid (zAg wr A rs)∧Hid (Below w.heap.size w wr)) (fun i _=>rs.length -(intOf i).toNat)
  case atStart=>exact⟨0,by omega,rfl,rfl,HR,Below.refl _ _⟩
  case round=>
   clear HR;obtain⟨k,hk,rfl,HV,HR,H0⟩:=hrel
   by_cases hlt:k<rs.length
   ·obtain⟨x,hx⟩:∃x,rs[k]?=some x:=⟨_,gE hlt⟩
    obtain⟨hf,ad,rfl,hadl,c0,c1,c2,c3,c4,c5⟩:=HR.out.at_ hx;have HX:=zh (zG2 hx);have HF:=zh hf;have HZ:=zh (@zEx rs (k+1) rs.length);have HT:=zh (HR.out.take k);have HTL:=zh (show(rs.take k).length=k by rw[List.length_take];omega);rw[HV.out,Bool.true_and] at HX;clear hx hf;go_upto_region 6 with(fail)
    have K0:=zh (Blk.new wr 42 x.c);have N0:=zh (HR.out.alloc (.cells x.c 42));have NT:=zh (HT.out.alloc (.cells x.c 42));have NB:=zh (H0.out.alloc H0.out.size (.cells x.c 42));clear HR HT H0 c0 c1 c2 c3 c4 c5;generalize wr.alloc (.cells #[.int .i64 x.kind,.string x.sym,.string x.nam,.int .i64 x.prec,.int .i64 x.left,.int .i64 x.right] 42)=w2 at*;generalize wr.heap.size=g at*;have c0:=fun i=>K0.out.cell i
    have l0:=K0.out.lt;cases ho:ownB x
    ·have HOW:=zh ho;rw[ho,Bool.false_and] at HX;clear ho
     go_cut [24] (fun b wc=>b= .bool true∧Hid (zAg wc (some ad) rs)∧Hid (Below w.heap.size w wc))
     case first=>
      refine zA8 (by kernel_rfl) ⟨#[.slice (some ad) rs.length cap,undef,u2,.int .i64 k,.pointer (some ⟨g,0,none⟩),.slice (some ad) rs.length cap,.int .i64 rs.length,.bool (decide (64<(rs.length:Int))),.slice (some ad) rs.length cap,.int .i64 rs.length,.int .i64 k,.bool true,.int .i64 k,.pointer (some (ad.add (k*6))),x.v,x.v,.bool false,.bool true,.bool true,undef,undef,undef,undef,undef,.bool true,u25],[]⟩ [x.v,.bool false,.bool true,.bool true,undef,undef,undef,undef,undef,.bool true] [true,true,true,true,false,false,false,false,false,true] (fun wq=>Hid (Blk wq g 42 x.c)∧Hid (zAg wq (some ad) rs)∧Hid (Below w.heap.size w wq)) (by kernel_rfl) (by kernel_rfl) (by kernel_rfl) ⟨K0.out.drew,N0.out.drew,zA2 NB.out⟩ ?_ ?_
      ·refine⟨fun wq hI=>?_,fun wq hI=>?_,fun wq hI=>?_,fun wq hI=>?_,rfl,rfl,rfl,rfl,rfl,fun wq hI=>?_,trivial⟩
       ·obtain⟨J0,J1,J2⟩:=hI;have cJ:=fun i=>J0.out.cell i
        exact jv (x.v) wq (by simp[execOp,Act.eval,go_sem,cJ]) ⟨rfl,J0,J1,J2⟩
       ·obtain⟨J0,J1,J2⟩:=hI;refine jc 20 (#[x.v]) wq (by kernel_rfl) ((zG3 x _ HF.out).mono ?_);rintro e wa ⟨rfl,hb⟩;exact⟨_,rfl,by rw[HOW.out],keep hb J0.out,J1.out.keep hb,J2.out.trans (hb.mono J2.out.size)⟩
       ·exact jv (.bool true) wq (by kernel_rfl) ⟨rfl,hI⟩
       ·exact jv (.bool true) wq (by kernel_rfl) ⟨rfl,hI⟩
       ·exact jv (.bool true) wq (by kernel_rfl) ⟨rfl,hI⟩
      ·intro wq hI;go_wp2_with fail;go_meet;exact⟨rfl,hI.2.1,hI.2.2⟩
     case rest=>
      clear K0 NT N0 NB c0 l0;obtain⟨rfl,N0,NB⟩:=hcut;go_wp2_with fail;go_ret;exact⟨zA0 (HZ.out HX.out (by omega)).symm,NB.out⟩
    ·have HOW:=zh ho;rw[ho,Bool.true_and] at HX;clear ho;cases hfr:zDx (rs.take k) x
     ·rw[hfr] at HX;have HFR:=zh hfr;clear hfr
      go_cut [24] (fun b wc=>b= .bool true∧Hid (zAg wc (some ad) rs)∧Hid (Below w.heap.size w wc))
      case first=>
       go_region_with (first|(go_at_call 20;refine(zG3 x _ HF.out).mono ?_;rintro e wa ⟨rfl,hb5⟩;have MK:=zh (keep hb5 K0.out.drew);have MR:=zh (N0.out.drew.keep hb5);have MT:=zh (NT.out.drew.keep hb5);have MB:=zh ((zA2 NB.out).trans (hb5.mono NB.out.size));clear hb5;have cM:=fun i=>MK.out.cell i;have lM:=MK.out.lt;rw[HOW.out])|(go_at_call 21;refine(zKc (some ad) k cap (rs.take k) x _ MT.out HTL.out (by omega)).mono ?_;rintro e wb ⟨rfl,hb6⟩;have LR:=zh (MR.out.keep hb6);have LB:=jt MB hb6;clear hb6;rw[HFR.out]))
       all_goals (go_wp2_with fail;go_meet;exact⟨rfl,LR,LB⟩)
      case rest=>
       clear K0 NT N0 NB c0 l0;obtain⟨rfl,N0,NB⟩:=hcut;go_wp2_with fail;go_ret;exact⟨zA0 (HZ.out HX.out (by omega)).symm,NB.out⟩
     ·rw[hfr] at HX;have HFR:=zh hfr;clear hfr
      go_cut [24] (fun b wc=>b= .bool false∧Hid (zAg wc (some ad) rs)∧Hid (Below w.heap.size w wc))
      case first=>
       go_region_with (first|(go_at_call 20;refine(zG3 x _ HF.out).mono ?_;rintro e wa ⟨rfl,hb5⟩;have MK:=zh (keep hb5 K0.out.drew);have MR:=zh (N0.out.drew.keep hb5);have MT:=zh (NT.out.drew.keep hb5);have MB:=zh ((zA2 NB.out).trans (hb5.mono NB.out.size));clear hb5;have cM:=fun i=>MK.out.cell i;have lM:=MK.out.lt;rw[HOW.out])|(go_at_call 21;refine(zKc (some ad) k cap (rs.take k) x _ MT.out HTL.out (by omega)).mono ?_;rintro e wb ⟨rfl,hb6⟩;have LR:=zh (MR.out.keep hb6);have LB:=jt MB hb6;clear hb6;rw[HFR.out]))
       all_goals (go_wp2_with fail;go_meet;exact⟨rfl,LR,LB⟩)
      case rest=>
       clear K0 NT N0 NB c0 l0;obtain⟨rfl,N0,NB⟩:=hcut;go_wp2_with fail;go_roundw
       case rel=>exact⟨k+1,by omega,by go_num,HX.out,N0,NB⟩
       case measure=>simp[intOf];omega
   ·obtain rfl:k=rs.length:=by omega
    go_wp2_with fail;go_ret;exact⟨zA0 HV.out.symm,H0.out⟩
theorem zKf (o r:Rul):zB7 o r=zB7 r o:=by
 unfold zB7;rw[show decide (o.kind=r.kind)=decide (r.kind=o.kind) from decide_eq_decide.2 ⟨Eq.symm,Eq.symm⟩,Bool.beq_comm (a:=o.sym.toList),Bool.beq_comm (a:=o.nam.toList)]
theorem zIj {os:List Rul}{r x:Rul}{j:Nat}(hj:os[j]?=some x)(h:zB7 r x=true):zDx os r=false:=by
 unfold zDx;rw[Bool.not_eq_false',List.any_eq_true];exact⟨x,List.mem_of_getElem? hj,by rw[zKf];exact h⟩
theorem zR4 {os:List Rul}{r:Rul}(h:∀(j:Nat) x,os[j]?=some x→zB7 r x=false):zDx os r=true:=by
 unfold zDx;rw[Bool.not_eq_true',List.any_eq_false];intro x hx;obtain⟨j,hj⟩:=List.mem_iff_getElem?.1 hx;rw[zKf,h j x hj];simp
theorem zSf (rs:List Rul):zAj rs=(zC1 rs rs.length&&decide (rs.length≤64)):=by unfold zAj;rw[Bool.and_comm]
set_option maxRecDepth 100000 in
set_option maxHeartbeats 2000000 in
theorem zBu (A:Option Addr)(cap:Nat)(rs:List Rul)(w:World)(hR:zAg w A rs)(hn:rs.length≤1000000):Calls Tryz.prog 34 #[.slice A rs.length cap] w fun e w'=>e= .returned (.bool (zAj rs))∧Below w.heap.size w w':=by
 have HR:=zh hR;have HVD:=zh (zSf rs);clear hR;go_enter Tryz.func34,Tryz.ntmps34;go_wp2_with fail
 go_loopw [3] (fun i wr=>∃k:Nat,k≤rs.length∧i= .int .i64 k∧Hid (zC1 rs k=true)∧Hid (zAg wr A rs)∧Hid (Below w.heap.size w wr)) (fun i _=>rs.length -(intOf i).toNat)
 case atStart=>exact⟨0,by omega,rfl,rfl,HR,Below.refl _ _⟩
 case round=>
  clear HR;obtain⟨k,hk,rfl,HV,HR,H0⟩:=hrel
  by_cases hlt:k<rs.length
  ·obtain⟨x,hx⟩:∃x,rs[k]?=some x:=⟨_,gE hlt⟩
   obtain⟨hf,ad,rfl,hadl,c0,c1,c2,c3,c4,c5⟩:=HR.out.at_ hx;have HX:=zh (zG2 hx);have HXK:=zh hx;have HZ:=zh (@zEx rs (k+1) rs.length);rw[HV.out,Bool.true_and] at HX;clear hx;go_wp2_with fail;refine(zXh x _ hf).mono ?_;rintro e w1 ⟨rfl,hb⟩;have NR:=zh (HR.out.keep hb);have NB:=jt H0 hb;clear HR H0 hb c0 c1 c2 c3 c4 c5 hf;cases ho:ownB x
   ·rw[ho,Bool.false_and] at HX;clear ho;go_wp2_with fail;go_ret;exact⟨zA0 (by rw[HVD.out,HZ.out HX.out (by omega)];rfl),NB.out⟩
   ·rw[ho,Bool.true_and] at HX;clear ho;go_wp2_with fail
    go_loopw [4] (fun i wr=>∃j:Nat,j≤k∧i= .int .i64 j∧Hid (∀(m:Nat) y,rs[m]?=some y→m<j→zB7 x y=false)∧Hid (zAg wr (some ad) rs)∧Hid (Below w.heap.size w wr)) (fun i _=>k -(intOf i).toNat)
    case atStart=>exact⟨0,by omega,rfl,(fun _ _ _ h=>by omega),NR,NB⟩
    case round=>
     clear NR NB;obtain⟨j,hj,rfl,HJ,HR,H0⟩:=hrel
     by_cases hlj:j<k
     ·obtain⟨y,hy⟩:∃y,rs[j]?=some y:=⟨_,gE (by omega)⟩
      obtain⟨_,ad1,he1,_,c0,c1,c2,c3,c4,c5⟩:=HR.out.at_ HXK.out;obtain rfl:=sj he1;obtain⟨_,ad2,he2,_,d0,d1,d2,d3,d4,d5⟩:=HR.out.at_ hy;obtain rfl:=sj he2;have HY:=zh hy;clear hy he1 he2;cases hq:zB7 x y
      ·have HQ:=zh hq;clear hq;go_upto_region 9 with(fail)
       go_cut [30] (fun b wc=>b= .bool false∧Hid (zAg wc (some ad) rs)∧Hid (Below w.heap.size w wc))
       case first=>
        go_region_with (go_at_call 61;refine(zK9 x y _).mono ?_;rintro e w2 ⟨rfl,hb5⟩;have MR:=zh (HR.out.drew.keep hb5);have MB:=zh ((zA2 H0.out).trans (hb5.mono H0.out.size));clear hb5;rw[HQ.out])
        all_goals (go_wp2_with fail;go_meet;exact⟨rfl,MR,MB⟩)
       case rest=>
        clear HR H0 c0 c1 c2 c3 c4 c5 d0 d1 d2 d3 d4 d5;obtain⟨rfl,HR,H0⟩:=hcut;go_wp2_with fail;go_roundw
        case rel=>exact⟨j+1,by omega,by go_num,(fun m z hm h=>by
         rcases Nat.lt_or_ge m j with h'|h'
         ·exact HJ.out m z hm h'
         ·obtain rfl:m=j:=by omega
          rw[HY.out] at hm;obtain rfl:=sj hm;exact HQ.out),HR,H0⟩
        case measure=>simp[intOf];omega
      ·have HQ:=zh hq;have HFF:=zh (zIj (os:=rs.take k) (r:=x) (j:=j) (x:=y) (by rw[List.getElem?_take,if_pos hlj];exact HY.out) hq);rw[HFF.out] at HX;clear hq;go_upto_region 9 with(fail)
       go_cut [30] (fun b wc=>b= .bool true∧Hid (zAg wc (some ad) rs)∧Hid (Below w.heap.size w wc))
       case first=>
        go_region_with (go_at_call 61;refine(zK9 x y _).mono ?_;rintro e w2 ⟨rfl,hb5⟩;have MR:=zh (HR.out.drew.keep hb5);have MB:=zh ((zA2 H0.out).trans (hb5.mono H0.out.size));clear hb5;rw[HQ.out])
        all_goals (go_wp2_with fail;go_meet;exact⟨rfl,MR,MB⟩)
       case rest=>
        clear HR H0 c0 c1 c2 c3 c4 c5 d0 d1 d2 d3 d4 d5;obtain⟨rfl,HR,H0⟩:=hcut;go_wp2_with fail;go_ret;exact⟨zA0 (by rw[HVD.out,HZ.out HX.out (by omega)];rfl),H0.out⟩
     ·have HFT:=zh (zR4 (os:=rs.take k) (r:=x) fun m y hm=>by
       rw[List.getElem?_take] at hm
       split at hm
       ·exact HJ.out m y hm (by omega)
       ·cases hm)
      rw[HFT.out] at HX;go_wp2_with fail;go_roundw
      case rel=>exact⟨k+1,by omega,by go_num,HX.out,HR,H0⟩
      case measure=>simp[intOf];omega
  ·obtain rfl:k=rs.length:=by omega
   rw[HV.out,Bool.true_and] at HVD;go_wp2_with fail;go_ret;exact⟨zA0 (by rw[HVD.out];exact decide_eq_decide.2 (by omega)),H0.out⟩
end Go.Proofs.YtchllommcolijaaGreatDoor
namespace Go.Proofs.YtchllommcolijaaGreatDoor
section
variable {P : Program} {ops : Array Oper} {Q : Exit → Act → World → Prop}
def reach (ops:Array Oper)(j:Nat):Nat→Nat→Bool
 |0,_=>false
 |fuel+1,i=>match ops[i]? with
  |some o=>o.after.any fun e=>Region.binds .any e&&(e.on==j||reach ops j fuel e.on)
  |none=>false
def zXr (ops:Array Oper)(us:List Nat)(m:Nat):Bool:=(List.range' m (ops.size -m)).all fun i=>(List.range i).all fun j=>us.contains j||reach ops j ops.size i
def Closed (ops:Array Oper)(L:Nat→Bool):Prop:=∀i o,ops[i]?=some o→L i=true→∀e∈o.after,Region.binds .any e=true→L e.on=true
theorem zAx {L:Nat→Bool}(hc:Closed ops L){j:Nat}:∀{fuel i:Nat} {o:Oper},ops[i]?=some o→(∀e∈o.after,Region.binds .any e=true→L e.on=true)→reach ops j fuel i=true→L j=true
 |0,_,_,_,_,h=>by cases h
 |fuel+1,i,o,ho,hL,h=>by
  rw[reach,ho] at h;obtain⟨e,he,h2⟩:=Array.any_eq_true'.1 h;rw[Bool.and_eq_true,Bool.or_eq_true,beq_iff_eq] at h2;have h3:=hL e he h2.1;rcases h2.2 with h4|h4
  ·rw[←h4];exact h3
  ·cases ho2:ops[e.on]? with
   |none=>
    cases fuel with
    |zero=>cases h4
    |succ f=>rw[reach,ho2] at h4;cases h4
   |some o2=>exact zAx hc ho2 (hc e.on o2 ho2 h3) h4
abbrev zBt (ops:Array Oper)(m:Nat):Array Oper:=ops.extract 0 m
theorem zXj {m i:Nat}(hi:i<m):(zBt ops m)[i]?=ops[i]?:=by
 rw[Array.getElem?_extract]
 split
 ·simp
 ·rename_i h
  rw[Array.getElem?_eq_none (by omega)]
theorem zP6 {m:Nat}(h:m≤ops.size):(zBt ops m).size=m:=by rw[Array.size_extract];omega
theorem zTt {m g:Nat}(hg:g<m)(t:Array Value):yielded (zBt ops m) t g=yielded ops t g:=by unfold yielded;rw[zXj hg]
def zKs (ops:Array Oper):Bool:=(List.range ops.size).all fun i=>match ops[i]? with
 |some o=>o.after.all fun e=> !Region.binds .any e||decide (e.on<i)
 |none=>true
def zLe (ops:Array Oper)(m:Nat):Bool:=Region.noSelect ops&&zEy (zBt ops m)&&((zBt ops m).all (zDy (zBt ops m)))&&zKs ops
theorem zJz {m i:Nat}{o:Oper}(he:zKs ops=true)(hi:i<m)(ho:ops[i]?=some o)(hop:zDy (zBt ops m) o=true)(t:Array Value):Region.wanted o (yielded (zBt ops m) t)=Region.wanted o (yielded ops t):=by
 unfold Region.wanted;cases hg:o.guard with
 |none=>rfl
 |some gw=>
  obtain⟨g,want⟩:=gw;unfold zDy at hop;rw[Bool.and_eq_true,hg] at hop;obtain⟨e,hee,h2⟩:=Array.any_eq_true'.1 hop.2;simp only[Bool.and_eq_true,beq_iff_eq] at h2;have h3:=List.all_eq_true.1 he i (List.mem_range.2 (Array.getElem?_eq_some_iff.1 ho).1);rw[ho] at h3;have h4:=Array.all_eq_true'.1 h3 e hee;rw[h2.2] at h4;have h5:e.on<i:=by simpa using h4
  simp only[zTt (ops:=ops) (m:=m) (g:=g) (by omega)]
theorem zFl {L:Nat→Bool}{listed:Array Bool}(hL:L=fun j=>listed.getD j false)(hs:listed.size=ops.size)(hedge:zKs ops=true)(hr:∀i,i∉Region.ready .any ops listed):∀i,i<ops.size→L i=true:=by
 intro i;subst hL
 induction i using Nat.strongRecOn with
 |_ i ih=>
  intro hi;refine Classical.byContradiction fun hn=>hr i ?_
  rw[mem_ready];refine⟨?_,ops[i],Array.getElem?_eq_getElem hi,fun e he hb=>?_⟩
  ·have hil:i<listed.size:=by omega
   simp only[Array.getD_eq_getD_getElem?,Array.getElem?_eq_getElem hil,Option.getD_some] at hn⊢
   simpa using hn
  ·have h1:=List.all_eq_true.1 hedge i (List.mem_range.2 hi);rw[Array.getElem?_eq_getElem hi] at h1;have h2:=Array.all_eq_true'.1 h1 e he;rw[hb] at h2;have h3:e.on<i:=by simpa using h2
   exact ih e.on h3 (by omega)
theorem zCr {L:Nat→Bool}{i:Nat}{o:Oper}(hc:Closed ops L)(ho:ops[i]?=some o)(hb:∀e∈o.after,Region.binds .any e=true→L e.on=true):Closed ops fun j=>L j||j==i:=by
 intro k o' hk hL e he hbe
 by_cases hki:k=i
 ·subst hki;obtain rfl:=Option.some.inj (ho.symm.trans hk);show(L e.on||e.on==k)=true;rw[hb e he hbe];rfl
 ·show(L e.on||e.on==i)=true;rw[hc k o' hk (by simpa [hki] using hL) e he hbe];rfl
theorem zR8 {vals:Nat→Value}{a0:Act}{Inv:World→Prop}{m:Nat}{us:List Nat}(hok:zLe ops m=true)(htail:zXr ops us m=true)(hmn:m≤ops.size)
  (hstep:∀(i:Nat) (o:Oper) (w:World),i<m→ops[i]?=some o→Inv w→
   if Region.wanted o (yielded ops (fin (zBt ops m) vals a0).tmps)=true then Gives P (execOp (fin (zBt ops m) vals a0).eval o) w (fun v w'=>v=vals i∧Inv w') else vals i=undef∧Inv w)
  (hend:∀w:World,Inv w→wpOps P ops Q (List.range' m (ops.size -m)) (fin (zBt ops m) vals a0) w):
  ∀(fuel:Nat) (listed:Array Bool) (a:Act) (w:World),listed.size=ops.size→(listed.toList.countP (·==false))≤fuel→Closed ops (fun j=>listed.getD j false)→(∀u∈us,listed.getD u false=true)→
   ((zDs (zBt ops m) vals a0 (fun j=>listed.getD j false) a∧Inv w∧∀i,m≤i→listed.getD i false=false)∨
    ∃q,m≤q∧q≤ops.size∧(∀i,i<ops.size→listed.getD i false=decide (i<q))∧wpOps P ops Q (List.range' q (ops.size -q)) a w)→
   wpAny P .any ops Q fuel listed a w:=by
 simp only[zLe,Bool.and_eq_true] at hok;have hcs:=zP6 (ops:=ops) hmn;obtain⟨⟨⟨hsel,hd⟩,hall⟩,hedge⟩:=hok
 --the tail waits for all that is ahead of it
 have wait:∀(listed:Array Bool) (i:Nat) (o:Oper),Closed ops (fun j=>listed.getD j false)→(∀u∈us,listed.getD u false=true)→m≤i→ops[i]?=some o→(∀e∈o.after,Region.binds .any e=true→listed.getD e.on false=true)→∀j,j<i→listed.getD j false=true:=by
  intro listed i o hc hus hmi ho hb j hj;have hi:i<ops.size:=(Array.getElem?_eq_some_iff.1 ho).1;have h1:=List.all_eq_true.1 htail i (List.mem_range'_1.2 ⟨hmi,by omega⟩);have h2:=List.all_eq_true.1 h1 j (List.mem_range.2 hj);rw[Bool.or_eq_true] at h2;rcases h2 with h2|h2
  ·exact hus j (by simpa using h2)
  ·exact zAx (L:=fun j=>listed.getD j false) hc ho hb h2
 intro fuel
 induction fuel with
 |zero=>
  intro listed a w hs hcnt hc hus hph;have hr:∀i,i∉Region.ready .any ops listed:=by
   intro j hj;rw[mem_ready] at hj;obtain⟨h0,o,hoj,_⟩:=hj;have hjl:j<listed.size:=by rw[hs];exact(Array.getElem?_eq_some_iff.1 hoj).1
   have hf:listed[j]=false:=by simpa [Array.getD_eq_getD_getElem?,Array.getElem?_eq_getElem hjl] using h0
   have:0<listed.toList.countP (·==false):=List.countP_pos_iff.2 ⟨false,by rw[←hf];simp,rfl⟩;omega
  have hL:=zFl (ops:=ops) (listed:=listed) rfl hs hedge hr;refine⟨List.eq_nil_iff_forall_not_mem.2 hr,?_⟩;rcases hph with⟨ho,hI,hno⟩|⟨q,hq1,hq2,hq3,hq⟩
  ·have hm2:m=ops.size:=by
    rcases Nat.lt_or_ge m ops.size with h|h
    ·have h1:=hL m h;rw[hno m (Nat.le_refl _)] at h1;cases h1
    ·omega
   have:=hend w hI;rw[show ops.size -m=0 by omega] at this;rw[ho.end (fun i hi=>hL i (by omega))];exact this
  ·have hq4:q=ops.size:=by
    rcases Nat.lt_or_ge q ops.size with h|h
    ·have h1:=hL q h;rw[hq3 q h] at h1;simp at h1
    ·omega
   subst hq4;rw[Nat.sub_self] at hq;exact hq
 |succ fuel ih=>
  intro listed a w hs hcnt hc hus hph
  --a first part that is all done is the tail's beginning
  have hph:(∃j0,j0<m∧listed.getD j0 false=false∧zDs (zBt ops m) vals a0 (fun j=>listed.getD j false) a∧Inv w∧∀i,m≤i→listed.getD i false=false)∨
    ∃q,m≤q∧q≤ops.size∧(∀i,i<ops.size→listed.getD i false=decide (i<q))∧wpOps P ops Q (List.range' q (ops.size -q)) a w:=by
   rcases hph with⟨ho,hI,hno⟩|h
   ·by_cases hex:∃j0,j0<m∧listed.getD j0 false=false
    ·obtain⟨j0,h1,h2⟩:=hex;exact .inl ⟨j0,h1,h2,ho,hI,hno⟩
    ·have hal:∀i,i<m→listed.getD i false=true:=fun i hi=>by
      cases h:listed.getD i false with
      |true=>rfl
      |false=>exact absurd ⟨i,hi,h⟩ hex
     refine .inr ⟨m,Nat.le_refl _,hmn,fun i hi=>?_,?_⟩
     ·by_cases him:i<m
      ·rw[hal i him,decide_eq_true him]
      ·rw[hno i (by omega),decide_eq_false him]
     ·rw[ho.end (fun i hi=>hal i (by omega))];exact hend w hI
   ·exact .inr h
  refine⟨fun hr=>?_,fun i hi=>?_⟩
  ·have hL:=zFl (ops:=ops) (listed:=listed) rfl hs hedge (fun i hi=>by rw[hr] at hi;cases hi);rcases hph with⟨j0,h1,h2,_⟩|⟨q,hq1,hq2,hq3,hq⟩
   ·have:=hL j0 (by omega);rw[h2] at this;cases this
   ·have hq4:q=ops.size:=by
     rcases Nat.lt_or_ge q ops.size with h|h
     ·have h1:=hL q h;rw[hq3 q h] at h1;simp at h1
     ·omega
    subst hq4;rw[Nat.sub_self] at hq;exact hq
  ·rw[mem_ready] at hi;obtain⟨h0,o,hoi,hb⟩:=hi;have hil:i<ops.size:=(Array.getElem?_eq_some_iff.1 hoi).1;have hil':i<listed.size:=by omega
   have hf:listed[i]=false:=by simpa [Array.getD_eq_getD_getElem?,Array.getElem?_eq_getElem hil'] using h0
   have hLi:listed.getD i false=false:=by simp[Array.getD_eq_getD_getElem?,Array.getElem?_eq_getElem hil',hf]
   have hL':(fun j=>(listed.setIfInBounds i true).getD j false)=fun j=>listed.getD j false||j==i:=by
    funext j
    by_cases hij:j=i
    ·subst hij;simp[Array.getD_eq_getD_getElem?,hil']
    ·rw[getD_set_ne false (Ne.symm hij)];simp[hij]
   have hcount:(listed.setIfInBounds i true).toList.countP (·==false)≤fuel:=by
    rw[Array.toList_setIfInBounds];have hl:i<listed.toList.length:=by simpa using hil'
    have hs1:listed.toList.countP (·==false)=(listed.toList.set i true).countP (·==false)+1:=
     zE8 _ _ (by rw[List.getElem?_eq_getElem hl];simpa using hf)
    omega
   have hclosed:Closed ops (fun j=>(listed.setIfInBounds i true).getD j false):=by
    rw[hL'];exact zCr hc hoi hb
   have hsize:(listed.setIfInBounds i true).size=ops.size:=by simpa using hs
   have hus':∀u∈us,(listed.setIfInBounds i true).getD u false=true:=fun u hu=>getD_set_true (hus u hu)
   rcases hph with⟨j0,h1,h2,ho,hI,hno⟩|⟨q,hq1,hq2,hq3,hq⟩
   ·have him:i<m:=by
     rcases Nat.lt_or_ge i m with h|h
     ·exact h
     ·have:=wait listed i o hc hus h hoi hb j0 (by omega);rw[h2] at this;cases this
    have hoi':(zBt ops m)[i]?=some o:=(zXj him).trans hoi;have hoOk:zDy (zBt ops m) o=true:=by
     obtain⟨_,hx⟩:=Array.getElem?_eq_some_iff.1 hoi';exact Array.all_eq_true'.1 hall o (by rw[←hx];exact Array.getElem_mem _)
    obtain⟨hev,hwant⟩:=ho.eval hoOk hb;rw[zJz hedge him hoi hoOk,zJz hedge him hoi hoOk] at hwant;have hexec:execOp a.eval o=execOp (fin (zBt ops m) vals a0).eval o:=execOp_congr o (fun cs b=>Region.noSelect_spec hsel i o cs b hoi) hev;have hst:=hstep i o w him hoi hI;have hdst:o.dst=zA7 (zBt ops m) i:=by unfold zA7;rw[hoi'];rfl
    have next:∀w',Inv w'→wpAny P .any ops Q fuel (listed.setIfInBounds i true) (a.put o.dst (vals i)) w':=by
     intro w' hI';refine ih _ _ w' hsize hcount hclosed hus' (.inl ⟨?_,hI',fun k hk=>?_⟩)
     ·rw[hL',hdst];exact ho.put hd i (by omega) hLi
     ·rw[getD_set_ne false (by omega)];exact hno k hk
    unfold wpOp;simp only[hoi];rw[hwant]
    by_cases hw:Region.wanted o (yielded ops (fin (zBt ops m) vals a0).tmps)=true
    ·rw[if_pos hw] at hst⊢;refine .inl (Gives.wp (R:=fun v w'=>v=vals i∧Inv w') (by rw[hexec];exact hst) ?_);rintro v w' ⟨rfl,hI'⟩;exact next w' hI'
    ·rw[if_neg hw] at hst⊢;rw[←hst.1];exact next w hst.2
   ·have hiq:i=q:=by
     have hq5:=hq3 i hil;rw[hLi] at hq5;have hge:q≤i:=by
      have:=of_decide_eq_false hq5.symm;omega
     rcases Nat.lt_or_ge q i with h|h
     ·have h3:=wait listed i o hc hus (by omega) hoi hb q h;rw[hq3 q (by omega)] at h3;simp at h3
     ·omega
    subst hiq;rw[show ops.size -i=(ops.size -(i+1))+1 by omega,List.range'_succ,wpOps_cons] at hq;refine wpOp_mono (fun a' w' h=>?_) hq;refine ih _ a' w' hsize hcount hclosed hus' (.inr ⟨i+1,by omega,by omega,fun k hk=>?_,h⟩);have e:(listed.setIfInBounds i true).getD k false=(listed.getD k false||k==i):=congrFun hL' k;rw[e,hq3 k hk]
    by_cases hki:k=i
    ·subst hki;simp
    ·by_cases hlt:k<i
     ·rw[decide_eq_true hlt,decide_eq_true (by omega)];rfl
     ·rw[decide_eq_false hlt,decide_eq_false (by omega)];simp[hki]
def zZb (P:Program)(ops:Array Oper):List (Nat×Value)→Array Bool→Act→Prop
 |[],_,_=>True
 |(i,v)::us,listed,a=>(∃o,ops[i]?=some o∧Region.free .any ops listed i=true∧(Region.ready .any ops listed).contains i=true∧Yields P ops o v a)∧zZb P ops us (listed.setIfInBounds i true) (a.put (zA7 ops i) v)
def zIn:List (Nat×Value)→Array Bool→Array Bool
 |[],listed=>listed
 |(i,_)::us,listed=>zIn us (listed.setIfInBounds i true)
def zZ7 (ops:Array Oper):List (Nat×Value)→Act→Act
 |[],a=>a
 |(i,v)::us,a=>zZ7 ops us (a.put (zA7 ops i) v)
theorem zIv (hsel:Region.noSelect ops=true)(hQ:∀c a w d v,Q (.panic c) (Act.put a d v) w→Q (.panic c) a w):∀(us:List (Nat×Value)) (fuel:Nat) (listed:Array Bool) (a:Act) (w:World),zZb P ops us listed a→wpAny P .any ops Q fuel (zIn us listed) (zZ7 ops us a) w→wpAny P .any ops Q (fuel+us.length) listed a w
 |[],_,_,_,_,_,h=>h
 |(i,v)::us,fuel,_,_,w,⟨⟨o,h1,h2,h3,h4⟩,h5⟩,h=>by
  have hd:o.dst=zA7 ops i:=by unfold zA7;rw[h1];rfl
  exact wpAny_take (fuel:=fuel+us.length) h1 hsel h2 h3 (fun c a w=>hQ c a w o.dst v) h4 (by rw[hd];exact zIv hsel hQ us fuel _ _ w h5 h)
theorem zNm {id:Nat}{a0:Act}{w0:World}(hm:P.follows .mixedOrders=true)(hQ:∀c a w d v,Q (.panic c) (Act.put a d v) w→Q (.panic c) a w)(us:List (Nat×Value))(m:Nat)(F:Act)(vs:List Value)(bs:List Bool)(Inv:World→Prop)(hok:zLe ops m=true)(hT:zZb P ops us (Array.replicate ops.size false) a0)
  (htail:zXr ops (us.map (·.1)) m=true) (hmn:decide (m≤ops.size)=true)
  (hstart:((List.range ops.size).all fun i=>(zIn us (Array.replicate ops.size false)).getD i false==(us.map (·.1)).contains i)=true)
  (hus:(us.all fun u=>decide (u.1<m))=true) (hfree:((List.range ops.size).all fun i=> !(us.map (·.1)).contains i||((ops[i]?).map fun o=>o.after.isEmpty).getD true)=true)
  (hlen:decide (us.length≤ops.size)=true) (hcount:decide ((zIn us (Array.replicate ops.size false)).toList.countP (·==false)≤ops.size -us.length)=true)
  (hA:zZ7 ops us a0=zAi (zBt ops m) (fun i=>vs.getD i undef) a0 (us.map (·.1)))
  (hF:fin (zBt ops m) (fun i=>vs.getD i undef) a0=F)
  (hw:((List.range m).map fun i=>((ops[i]?).map fun o=>Region.wanted o (yielded ops F.tmps)).getD true)=bs) (h0:Inv w0.drew) (hE:Each P F Inv (ops.toList.take m) vs bs) (hend:∀w:World,Inv w→wpOps P ops Q (List.range' m (ops.size -m)) F w):(Code.region id ops true).wp P Q a0 w0:=by
 subst hF;have hok':=hok;simp only[zLe,Bool.and_eq_true] at hok';obtain⟨⟨⟨hsel,hd⟩,_⟩,_⟩:=hok';have hmn':m≤ops.size:=of_decide_eq_true hmn;have hcs:=zP6 (ops:=ops) hmn';have hlen':us.length≤ops.size:=of_decide_eq_true hlen;have hum:∀u∈us.map (·.1),u<m:=by
  intro u hu;obtain⟨x,hx,rfl⟩:=List.mem_map.1 hu;exact of_decide_eq_true (List.all_eq_true.1 hus x hx)
 have hsz:∀(us:List (Nat×Value)) (l:Array Bool),(zIn us l).size=l.size:=by
  intro us
  induction us with
  |nil=>intro l;rfl
  |cons u us ih=>intro l;obtain⟨i,v⟩:=u;rw[zIn,ih];simp
 have hsize:(zIn us (Array.replicate ops.size false)).size=ops.size:=by rw[hsz];simp
 have hL:∀i,(zIn us (Array.replicate ops.size false)).getD i false=(us.map (·.1)).contains i:=by
  intro i;rcases Nat.lt_or_ge i ops.size with h|h
  ·simpa using List.all_eq_true.1 hstart i (List.mem_range.2 h)
  ·rw[Array.getD_eq_getD_getElem?,Array.getElem?_eq_none (by omega)]
   symm
   rw[Option.getD_none,Bool.eq_false_iff];intro hc;have:=hum i (by simpa using hc);omega
 refine wp_region_any hm ?_;have key:=zIv (P:=P) (Q:=Q) hsel hQ us (ops.size -us.length) (Array.replicate ops.size false) a0 {w0 with drawn:=w0.drawn+1} hT;rw[show(ops.size -us.length)+us.length=ops.size by omega] at key;refine key ?_;refine zR8 (vals:=fun i=>vs.getD i undef) (a0:=a0) (Inv:=Inv) (us:=us.map (·.1)) hok htail hmn' (fun i o w him ho hI=>?_) hend _ _ _ _ hsize (of_decide_eq_true hcount) ?_ (fun u hu=>?_) (.inl ⟨?_,h0,fun i hi=>?_⟩)
 ·obtain⟨b,hb,hh⟩:=hE.at_ (i:=i) (o:=o) (by rw[List.getElem?_take,if_pos him,Array.getElem?_toList];exact ho);rw[←hw,List.getElem?_map,List.getElem?_range him] at hb;simp only[Option.map_some,ho,Option.getD_some,Option.some.injEq] at hb;have:=hh w hI;rw[←hb] at this;exact this
 ·intro i o ho h e he;have h:(zIn us (Array.replicate ops.size false)).getD i false=true:=h;rw[hL i] at h;have hi:i<ops.size:=(Array.getElem?_eq_some_iff.1 ho).1;have h2:=List.all_eq_true.1 hfree i (List.mem_range.2 hi);rw[h,ho] at h2;have h3:o.after.isEmpty=true:=by simpa using h2
  rw[Array.isEmpty_iff] at h3;rw[h3] at he;simp at he
 ·rw[hL u]
  simpa using hu
 ·rw[hA];refine⟨(zBa _ _ a0).1,(zBa _ _ a0).2,fun i t hit hi=>?_,fun t ht=>?_⟩
  ·have hi:(zIn us (Array.replicate ops.size false)).getD i false=true:=hi;rw[hL i] at hi;have hmem:i∈us.map (·.1):=by simpa using hi
   by_cases hl:t<a0.tmps.size
   ·rw[fin_at hd hit hl,zL5 _ hd t i hit _ a0 hmem (fun j hj=>by have:=hum j hj;omega) hl]
   ·rw[Array.getElem?_eq_none (by rw[(zBa _ _ a0).1];exact Nat.le_of_not_lt hl)];exact(Array.getElem?_eq_none (show(zAi (zBt ops m) _ a0 (List.range (zBt ops m).size)).tmps.size≤t by rw[(zBa _ _ a0).1];exact Nat.le_of_not_lt hl)).symm
  ·refine zC4 _ t _ a0 fun i hi=>ht i ?_
   show(zIn us (Array.replicate ops.size false)).getD i false=true;rw[hL i]
   simpa using hi
 ·rw[hL i,Bool.eq_false_iff];intro hc;have:=hum i (by simpa using hc);omega
theorem zDl {i:Nat}{l:List Nat}{o:Oper}{a:Act}{w:World}(ho:ops[i]?=some o)(hg:o.guard=none)(h:o.wp P a w (wpOps P ops Q l) Q):wpOps P ops Q (i::l) a w:=by
 rw[wpOps_cons];unfold wpOp;simp only[ho];rw[if_pos (by simp[Region.wanted,hg])];exact .inl h
end
section
variable {P : Program} {ops : Array Oper} {Q : Exit → Act → World → Prop}
def zNy (P:Program)(F:Act)(ops:Array Oper)(tr:List Nat)(Inv:List Bool→World→Prop):Nat→List Oper→List Value→List Bool→Prop
 |i,o::os,v::vs,true::bs=>(∀(L:Nat→Bool) (w:World),L i=false→(∀j,reach ops j ops.size i=true→L j=true)→(∀j,reach ops i ops.size j=true→L j=false)→Inv (tr.map L) w→Gives P (execOp F.eval o) w fun u w'=>u=v∧Inv (tr.map fun j=>j==i||L j) w')∧zNy P F ops tr Inv (i+1) os vs bs
 |i,_::os,v::vs,false::bs=>(v=undef∧∀(L:Nat→Bool) (w:World),Inv (tr.map L) w→Inv (tr.map fun j=>j==i||L j) w)∧zNy P F ops tr Inv (i+1) os vs bs
 |_,[],[],[]=>True
 |_,_,_,_=>False
theorem zNy.at_ {F:Act}{tr:List Nat}{Inv:List Bool→World→Prop}:∀{n:Nat} {os:List Oper} {vs:List Value} {bs:List Bool},zNy P F ops tr Inv n os vs bs→∀{i:Nat} {o:Oper},os[i]?=some o→∃b,bs[i]?=some b∧
  if b=true then(∀(L:Nat→Bool) (w:World),L (n+i)=false→(∀j,reach ops j ops.size (n+i)=true→L j=true)→(∀j,reach ops (n+i) ops.size j=true→L j=false)→Inv (tr.map L) w→Gives P (execOp F.eval o) w fun u w'=>u=vs.getD i undef∧Inv (tr.map fun j=>j==(n+i)||L j) w')
  else vs.getD i undef=undef∧∀(L:Nat→Bool) (w:World),Inv (tr.map L) w→Inv (tr.map fun j=>j==(n+i)||L j) w
 |n,[],[],[],_,i,o,h=>by simp at h
 |n,o::os,v::vs,true::bs,⟨h1,h2⟩,0,o',h=>by
  obtain rfl:o=o':=by simpa using h
  exact⟨true,rfl,by rw[if_pos rfl];exact h1⟩
 |n,o::os,v::vs,false::bs,⟨h1,h2⟩,0,o',h=>⟨false,rfl,by rw[if_neg (by simp)];exact h1⟩
 |n,o::os,v::vs,true::bs,⟨h1,h2⟩,i+1,o',h=>by
  obtain⟨b,hb,hh⟩:=zNy.at_ h2 (i:=i) (o:=o') (by simpa using h);rw[show n+1+i=n+(i+1) by omega] at hh;exact⟨b,by simpa using hb,by simpa using hh⟩
 |n,o::os,v::vs,false::bs,⟨h1,h2⟩,i+1,o',h=>by
  obtain⟨b,hb,hh⟩:=zNy.at_ h2 (i:=i) (o:=o') (by simpa using h);rw[show n+1+i=n+(i+1) by omega] at hh;exact⟨b,by simpa using hb,by simpa using hh⟩
 |_,[],[],_::_,h,_,_,_=>h.elim
 |_,[],_::_,_,h,_,_,_=>h.elim
 |_,_::_,[],_,h,_,_,_=>h.elim
 |_,_::_,_::_,[],h,_,_,_=>h.elim
theorem zF3 (tr:List Nat)(L:Nat→Bool)(i:Nat):(tr.map fun j=>L j||j==i)=tr.map fun j=>j==i||L j:=by
 congr 1;funext j;rw[Bool.or_comm]
theorem zF9 {ops:Array Oper}{j:Nat}:∀{fuel i:Nat},reach ops j fuel i=true→∃o,ops[i]?=some o
 |0,_,h=>by cases h
 |fuel+1,i,h=>by
  rw[reach] at h;cases ho:ops[i]? with
  |none=>rw[ho] at h;cases h
  |some o=>exact⟨o,rfl⟩
theorem zHs {id:Nat}{a0:Act}{w0:World}(hm:P.follows .mixedOrders=true)(F:Act)(vs:List Value)(bs:List Bool)(tr:List Nat)(Inv:List Bool→World→Prop)(hok:zHn ops=true)(hF:fin ops (fun i=>vs.getD i undef) a0=F)
  (hw:((List.range ops.size).map fun i=>((ops[i]?).map fun o=>Region.wanted o (yielded ops F.tmps)).getD true)=bs) (htr:(tr.all fun i=>decide (i<ops.size))=true) (h0:Inv (tr.map fun _=>false) w0.drew) (hE:zNy P F ops tr Inv 0 ops.toList vs bs) (hend:∀w:World,Inv (tr.map fun _=>true) w→Q .normal F w):(Code.region id ops true).wp P Q a0 w0:=by
 subst hF;refine wp_region_any hm ?_;refine zKp (vals:=fun i=>vs.getD i undef) (a0:=a0) (Inv:=fun L w=>Closed ops L∧Inv (tr.map L) w) hok (fun i o L w ho hLi hb hI=>?_) (fun L w hL hI=>?_) ops.size (Array.replicate ops.size false) a0 _ (by simp) (by
  refine Nat.le_trans (List.countP_le_length) ?_;simp) ⟨rfl,rfl,fun i t _ h=>?_,fun _ _=>rfl⟩ ⟨fun i o _ h=>?_,?_⟩
 ·obtain⟨hc,hI⟩:=hI;have hi:i<ops.size:=(Array.getElem?_eq_some_iff.1 ho).1;obtain⟨b,hb2,hh⟩:=hE.at_ (i:=i) (o:=o) (by rw[Array.getElem?_toList];exact ho);rw[Nat.zero_add] at hh;rw[←hw,List.getElem?_map,List.getElem?_range hi] at hb2;simp only[Option.map_some,ho,Option.getD_some,Option.some.injEq] at hb2;have hca:=zCr hc ho hb;rw[hb2]
  split
  ·rename_i hbt
   rw[if_pos hbt] at hh;have hg:=hh L w hLi (fun j hj=>zAx hc ho hb hj) (fun j hj=>by
    cases hLj:L j with
    |false=>rfl
    |true=>
     obtain⟨oj,hoj⟩:=zF9 hj;have:=zAx hc hoj (hc j oj hoj hLj) hj;rw[hLi] at this;cases this) hI
   unfold Gives at hg⊢;revert hg;generalize (execOp (fin ops (fun i=>vs.getD i undef) a0).eval o).run P w=x;cases x with
   |halt e w'=>exact fun h=>h
   |ok n w'=>
    cases n with
    |value v=>exact fun h=>⟨h.1,hca,by rw[zF3];exact h.2⟩
    |skip=>exact fun h=>⟨h.1,hca,by rw[zF3];exact h.2⟩
    |enter f args=>exact fun h=>Calls.mono h fun e w'' ⟨v,h1,h2,h3⟩=>⟨v,h1,h2,hca,by rw[zF3];exact h3⟩
    |_=>exact fun h=>h
  ·rename_i hbt
   rw[if_neg hbt] at hh;exact⟨hh.1,hca,by rw[zF3];exact hh.2 L w hI⟩
 ·have e:tr.map L=tr.map fun _=>true:=List.map_congr_left fun i hi=>by
   have:=List.all_eq_true.1 htr i hi;exact hL i (by simpa using this)
  rw[←e] at hend;exact hend w hI.2
 ·rw[Array.getD_eq_getD_getElem?,Array.getElem?_replicate] at h
  split at h<;>simp at h
 ·dsimp only at h;rw[Array.getD_eq_getD_getElem?,Array.getElem?_replicate] at h
  split at h<;>simp at h
 ·have e:(fun j=>(Array.replicate ops.size false).getD j false)=fun _=>false:=by
   funext j
   rw[Array.getD_eq_getD_getElem?,Array.getElem?_replicate]
   split<;>rfl
  rw[e];exact h0
end
section
variable {P : Program} {ops : Array Oper} {Q : Exit → Act → World → Prop} {X : Type}
theorem zDs.swap {v v':Nat→Value}{a0:Act}{L:Nat→Bool}{a:Act}(hd:zEy ops=true)(h:zDs ops v a0 L a)(he:∀i,L i=true→v' i=v i):zDs ops v' a0 L a:=
 ⟨h.size,h.defers,fun i t hi hL=>by
  rw[h.done i t hi hL]
  by_cases ht:t<a0.tmps.size
  ·rw[fin_at hd hi ht,fin_at hd hi ht,he i hL]
  ·have e1:(fin ops v a0).tmps[t]?=none:=Array.getElem?_eq_none (show(zAi ops v a0 (List.range ops.size)).tmps.size≤t by rw[(zBa v _ a0).1];exact Nat.le_of_not_lt ht);have e2:(fin ops v' a0).tmps[t]?=none:=Array.getElem?_eq_none (show(zAi ops v' a0 (List.range ops.size)).tmps.size≤t by rw[(zBa v' _ a0).1];exact Nat.le_of_not_lt ht);rw[e1,e2],h.rest⟩
theorem zNw {vals:X→Nat→Value}{a0:Act}{Inv:(Nat→Bool)→X→World→Prop}(hok:zHn ops=true)
  (hstep:∀(i:Nat) (o:Oper) (L:Nat→Bool) (x:X) (w:World),ops[i]?=some o→L i=false→(∀e∈o.after,Region.binds .any e=true→L e.on=true)→Inv L x w→
   if Region.wanted o (yielded ops (fin ops (vals x) a0).tmps)=true then Gives P (execOp (fin ops (vals x) a0).eval o) w (fun v w'=>∃x',v=vals x' i∧(∀j,L j=true→vals x' j=vals x j)∧Inv (fun j=>L j||j==i) x' w') else vals x i=undef∧Inv (fun j=>L j||j==i) x w)
  (hend:∀(L:Nat→Bool) (x:X) (w:World),(∀i,i<ops.size→L i=true)→Inv L x w→Q .normal (fin ops (vals x) a0) w):
  ∀(fuel:Nat) (listed:Array Bool) (x:X) (a:Act) (w:World),listed.size=ops.size→(listed.toList.countP (·==false))≤fuel→zDs ops (vals x) a0 (fun j=>listed.getD j false) a→Inv (fun j=>listed.getD j false) x w→wpAny P .any ops Q fuel listed a w:=by
 simp only[zHn,Bool.and_eq_true] at hok;obtain⟨⟨⟨hsel,hd⟩,hall⟩,hedge⟩:=hok;have fini:∀(listed:Array Bool) (x:X) (a:Act) (w:World),listed.size=ops.size→zDs ops (vals x) a0 (fun j=>listed.getD j false) a→Inv (fun j=>listed.getD j false) x w→Region.ready .any ops listed=[]→Q .normal a w:=by
  intro listed x a w hs ho hI hr;have hL:∀i,i<ops.size→listed.getD i false=true:=by
   intro i
   induction i using Nat.strongRecOn with
   |_ i ih=>
    intro hi;refine Classical.byContradiction fun hn=>?_
    have hm:i∈Region.ready .any ops listed:=by
     rw[mem_ready];refine⟨?_,ops[i],Array.getElem?_eq_getElem hi,fun e he hb=>?_⟩
     ·have hil:i<listed.size:=by omega
      simp only[Array.getD_eq_getD_getElem?,Array.getElem?_eq_getElem hil,Option.getD_some] at hn⊢
      simpa using hn
     ·have h1:=List.all_eq_true.1 hedge i (List.mem_range.2 hi);rw[Array.getElem?_eq_getElem hi] at h1;have h2:=Array.all_eq_true'.1 h1 e he;rw[hb] at h2;have h3:e.on<i:=by simpa using h2
      exact ih e.on h3 (by omega)
    rw[hr] at hm;cases hm
  rw[ho.end hL];exact hend _ x w hL hI
 intro fuel
 induction fuel with
 |zero=>
  intro listed x a w hs hc ho hI;have hr:Region.ready .any ops listed=[]:=by
   rw[List.eq_nil_iff_forall_not_mem];intro j hj;rw[mem_ready] at hj;obtain⟨h0,o,hoj,_⟩:=hj;have hjl:j<listed.size:=by rw[hs];exact(Array.getElem?_eq_some_iff.1 hoj).1
   have hf:listed[j]=false:=by simpa [Array.getD_eq_getD_getElem?,Array.getElem?_eq_getElem hjl] using h0
   have:0<listed.toList.countP (·==false):=List.countP_pos_iff.2 ⟨false,by rw[←hf];simp,rfl⟩;omega
  exact⟨hr,fini listed x a w hs ho hI hr⟩
 |succ fuel ih=>
  intro listed x a w hs hc ho hI;refine⟨fini listed x a w hs ho hI,fun i hi=>?_⟩;rw[mem_ready] at hi;obtain⟨h0,o,hoi,hb⟩:=hi;have hil:i<ops.size:=(Array.getElem?_eq_some_iff.1 hoi).1;have hil':i<listed.size:=by omega
  have hf:listed[i]=false:=by simpa [Array.getD_eq_getD_getElem?,Array.getElem?_eq_getElem hil'] using h0
  have hLi:listed.getD i false=false:=by simp[Array.getD_eq_getD_getElem?,Array.getElem?_eq_getElem hil',hf]
  have hL':(fun j=>(listed.setIfInBounds i true).getD j false)=fun j=>listed.getD j false||j==i:=by
   funext j
   by_cases hij:j=i
   ·subst hij;simp[Array.getD_eq_getD_getElem?,hil']
   ·rw[getD_set_ne false (Ne.symm hij)];simp[hij]
  have hcount:(listed.setIfInBounds i true).toList.countP (·==false)≤fuel:=by
   rw[Array.toList_setIfInBounds];have hl:i<listed.toList.length:=by simpa using hil'
   have hs1:listed.toList.countP (·==false)=(listed.toList.set i true).countP (·==false)+1:=by
    exact zE8 _ _ (by rw[List.getElem?_eq_getElem hl];simpa using hf)
   omega
  have hoOk:zDy ops o=true:=by
   obtain⟨_,hx⟩:=Array.getElem?_eq_some_iff.1 hoi;exact Array.all_eq_true'.1 hall o (by rw[←hx];exact Array.getElem_mem _)
  obtain⟨hev,hwant⟩:=ho.eval hoOk hb;have hexec:execOp a.eval o=execOp (fin ops (vals x) a0).eval o:=execOp_congr o (fun cs b=>Region.noSelect_spec hsel i o cs b hoi) hev;have hst:=hstep i o _ x w hoi hLi hb hI;have hdst:o.dst=zA7 ops i:=by unfold zA7;rw[hoi];rfl
  have next:∀x' w',(∀j,listed.getD j false=true→vals x' j=vals x j)→Inv (fun j=>listed.getD j false||j==i) x' w'→wpAny P .any ops Q fuel (listed.setIfInBounds i true) (a.put o.dst (vals x' i)) w':=by
   intro x' w' hv hI';refine ih _ x' _ w' (by simpa using hs) hcount ?_ (by rw[hL'];exact hI');rw[hL',hdst];exact(ho.swap hd hv).put hd i hil hLi
  unfold wpOp;simp only[hoi];rw[hwant]
  by_cases hw:Region.wanted o (yielded ops (fin ops (vals x) a0).tmps)=true
  ·rw[if_pos hw] at hst⊢;refine .inl (Gives.wp (R:=fun v w'=>∃x',v=vals x' i∧(∀j,listed.getD j false=true→vals x' j=vals x j)∧Inv (fun j=>listed.getD j false||j==i) x' w') (by rw[hexec];exact hst) ?_);rintro v w' ⟨x',rfl,hv,hI'⟩;exact next x' w' hv hI'
  ·rw[if_neg hw] at hst⊢;rw[←hst.1];exact next x w (fun _ _=>rfl) hst.2
def zA5 (ops:Array Oper)(i:Nat)(l l':List Value):Prop:=∀j,j≠i→reach ops i ops.size j=false→l'.getD j undef=l.getD j undef
theorem zA5.same {i:Nat}{l:List Value}:zA5 ops i l l:=fun _ _ _=>rfl
def zNh (P:Program)(F:X→Act)(ops:Array Oper)(tr:List Nat)(vs:X→List Value)(Inv:List Bool→X→World→Prop):Nat→List Oper→List Bool→Prop
 |i,o::os,true::bs=>(∀(L:Nat→Bool) (x:X) (w:World),L i=false→(∀j,reach ops j ops.size i=true→L j=true)→(∀j,reach ops i ops.size j=true→L j=false)→Inv (tr.map L) x w→Gives P (execOp (F x).eval o) w fun u w'=>∃x',u=(vs x').getD i undef∧zA5 ops i (vs x) (vs x')∧Inv (tr.map fun j=>j==i||L j) x' w')∧zNh P F ops tr vs Inv (i+1) os bs
 |i,_::os,false::bs=>((∀x,(vs x).getD i undef=undef)∧∀(L:Nat→Bool) (x:X) (w:World),Inv (tr.map L) x w→Inv (tr.map fun j=>j==i||L j) x w)∧zNh P F ops tr vs Inv (i+1) os bs
 |_,[],[]=>True
 |_,_,_=>False
theorem zNh.at_ {F:X→Act}{tr:List Nat}{vs:X→List Value}{Inv:List Bool→X→World→Prop}:∀{n:Nat} {os:List Oper} {bs:List Bool},zNh P F ops tr vs Inv n os bs→∀{i:Nat} {o:Oper},os[i]?=some o→∃b,bs[i]?=some b∧
  if b=true then(∀(L:Nat→Bool) (x:X) (w:World),L (n+i)=false→(∀j,reach ops j ops.size (n+i)=true→L j=true)→(∀j,reach ops (n+i) ops.size j=true→L j=false)→Inv (tr.map L) x w→Gives P (execOp (F x).eval o) w fun u w'=>∃x',u=(vs x').getD (n+i) undef∧zA5 ops (n+i) (vs x) (vs x')∧Inv (tr.map fun j=>j==(n+i)||L j) x' w')
  else(∀x,(vs x).getD (n+i) undef=undef)∧∀(L:Nat→Bool) (x:X) (w:World),Inv (tr.map L) x w→Inv (tr.map fun j=>j==(n+i)||L j) x w
 |n,[],[],_,i,o,h=>by simp at h
 |n,o::os,true::bs,⟨h1,h2⟩,0,o',h=>by
  obtain rfl:o=o':=by simpa using h
  exact⟨true,rfl,by rw[if_pos rfl];exact h1⟩
 |n,o::os,false::bs,⟨h1,h2⟩,0,o',h=>⟨false,rfl,by rw[if_neg (by simp)];exact h1⟩
 |n,o::os,true::bs,⟨h1,h2⟩,i+1,o',h=>by
  obtain⟨b,hb,hh⟩:=zNh.at_ h2 (i:=i) (o:=o') (by simpa using h);rw[show n+1+i=n+(i+1) by omega] at hh;exact⟨b,by simpa using hb,hh⟩
 |n,o::os,false::bs,⟨h1,h2⟩,i+1,o',h=>by
  obtain⟨b,hb,hh⟩:=zNh.at_ h2 (i:=i) (o:=o') (by simpa using h);rw[show n+1+i=n+(i+1) by omega] at hh;exact⟨b,by simpa using hb,hh⟩
 |_,[],_::_,h,_,_,_=>h.elim
 |_,_::_,[],h,_,_,_=>h.elim
theorem zAq {id:Nat}{a0:Act}{w0:World}(hm:P.follows .mixedOrders=true)(F:X→Act)(vs:X→List Value)(bs:List Bool)(tr:List Nat)(Inv:List Bool→X→World→Prop)(x0:X)(hok:zHn ops=true)(hF:∀x,fin ops (fun i=>(vs x).getD i undef) a0=F x)
  (hw:∀x,((List.range ops.size).map fun i=>((ops[i]?).map fun o=>Region.wanted o (yielded ops (F x).tmps)).getD true)=bs) (htr:(tr.all fun i=>decide (i<ops.size))=true) (h0:Inv (tr.map fun _=>false) x0 w0.drew) (hE:zNh P F ops tr vs Inv 0 ops.toList bs) (hend:∀(x:X) (w:World),Inv (tr.map fun _=>true) x w→Q .normal (F x) w):(Code.region id ops true).wp P Q a0 w0:=by
 refine wp_region_any hm ?_;refine zNw (vals:=fun x i=>(vs x).getD i undef) (a0:=a0) (Inv:=fun L x w=>Closed ops L∧Inv (tr.map L) x w) hok (fun i o L x w ho hLi hb hI=>?_) (fun L x w hL hI=>?_) ops.size (Array.replicate ops.size false) x0 a0 _ (by simp) (by
  refine Nat.le_trans (List.countP_le_length) ?_;simp) ⟨rfl,rfl,fun i t _ h=>?_,fun _ _=>rfl⟩ ⟨fun i o _ h=>?_,?_⟩
 ·obtain⟨hc,hI⟩:=hI;have hi:i<ops.size:=(Array.getElem?_eq_some_iff.1 ho).1;obtain⟨b,hb2,hh⟩:=hE.at_ (i:=i) (o:=o) (by rw[Array.getElem?_toList];exact ho);rw[Nat.zero_add] at hh;rw[←hw x,List.getElem?_map,List.getElem?_range hi] at hb2;simp only[Option.map_some,ho,Option.getD_some,Option.some.injEq] at hb2;have hca:=zCr hc ho hb;have hFx:fin ops (fun i=>(vs x).getD i undef) a0=F x:=hF x;rw[hFx,hb2];have hno:∀j,reach ops i ops.size j=true→L j=false:=fun j hj=>by
   cases hLj:L j with
   |false=>rfl
   |true=>
    obtain⟨oj,hoj⟩:=zF9 hj;have:=zAx hc hoj (hc j oj hoj hLj) hj;rw[hLi] at this;cases this
  split
  ·rename_i hbt
   rw[if_pos hbt] at hh;have hg:=hh L x w hLi (fun j hj=>zAx hc ho hb hj) hno hI;unfold Gives at hg⊢;revert hg;have key:∀u w',(∃x',u=(vs x').getD i undef∧zA5 ops i (vs x) (vs x')∧Inv (tr.map fun j=>j==i||L j) x' w')→∃x',u=(vs x').getD i undef∧(∀j,L j=true→(vs x').getD j undef=(vs x).getD j undef)∧Closed ops (fun j=>L j||j==i)∧Inv (tr.map fun j=>L j||j==i) x' w':=by
    rintro u w' ⟨x',h1,h2,h3⟩;refine⟨x',h1,fun j hj=>h2 j (fun e=>by subst e;rw[hLi] at hj;cases hj) ?_,hca,by rw[zF3];exact h3⟩;cases hr:reach ops i ops.size j with
    |false=>rfl
    |true=>rw[hno j hr] at hj;cases hj
   generalize (execOp (F x).eval o).run P w=r;cases r with
   |halt e w'=>exact fun h=>h
   |ok n w'=>
    cases n with
    |value v=>exact fun h=>key _ _ h
    |skip=>exact fun h=>key _ _ h
    |enter f args=>exact fun h=>Calls.mono h fun e w'' ⟨v,h1,h2⟩=>⟨v,h1,key _ _ h2⟩
    |_=>exact fun h=>h
  ·rename_i hbt
   rw[if_neg hbt] at hh;exact⟨hh.1 x,hca,by rw[zF3];exact hh.2 L x w hI⟩
 ·have e:tr.map L=tr.map fun _=>true:=List.map_congr_left fun i hi=>by
   have:=List.all_eq_true.1 htr i hi;exact hL i (by simpa using this)
  rw[←e] at hend;have hFx:fin ops (fun i=>(vs x).getD i undef) a0=F x:=hF x;show Q .normal (fin ops (fun i=>(vs x).getD i undef) a0) w;rw[hFx];exact hend x w hI.2
 ·rw[Array.getD_eq_getD_getElem?,Array.getElem?_replicate] at h
  split at h<;>simp at h
 ·dsimp only at h;rw[Array.getD_eq_getD_getElem?,Array.getElem?_replicate] at h
  split at h<;>simp at h
 ·have e:(fun j=>(Array.replicate ops.size false).getD j false)=fun _=>false:=by
   funext j
   rw[Array.getD_eq_getD_getElem?,Array.getElem?_replicate]
   split<;>rfl
  rw[e];exact h0
def zUu (ops:Array Oper)(i:Nat):Nat→List Value→List Value→Prop
 |k,v::l,v'::l'=>(k=i∨reach ops i ops.size k=true∨v'=v)∧zUu ops i (k+1) l l'
 |_,[],[]=>True
 |_,_,_=>False
theorem zUu.at_ {i:Nat}:∀{k:Nat} {l l':List Value},zUu ops i k l l'→∀j,k+j≠i→reach ops i ops.size (k+j)=false→l'.getD j undef=l.getD j undef
 |k,v::l,v'::l',⟨h1,h2⟩,0,hj,hr=>by
  rcases h1 with h|h|h
  ·exact(hj h).elim
  ·rw[Nat.add_zero,h] at hr;cases hr
  ·exact h
 |k,v::l,v'::l',⟨h1,h2⟩,j+1,hj,hr=>by
  rw[List.getD_cons_succ,List.getD_cons_succ];exact zUu.at_ h2 j (by omega) (by rw[show k+1+j=k+(j+1) by omega];exact hr)
 |_,[],[],_,_,_,_=>rfl
 |_,[],_::_,h,_,_,_=>h.elim
 |_,_::_,[],h,_,_,_=>h.elim
theorem zA5.of_same {i:Nat}{l l':List Value}(h:zUu ops i 0 l l'):zA5 ops i l l':=fun j hj hr=>h.at_ j (by omega) (by rw[Nat.zero_add];exact hr)
theorem Gives.plain {s:Sem Next}{w w':World}{v:Value}{i:Nat}{x:X}{vs:X→List Value}{I:X→World→Prop}(h:s.run P w= .ok (.value v) w')(hv:v=(vs x).getD i undef)(hI:I x w'):Gives P s w fun u w''=>∃x',u=(vs x').getD i undef∧zA5 ops i (vs x) (vs x')∧I x' w'':=
 Gives.value h ⟨x,hv,zA5.same,hI⟩
end
theorem jq {P:Program}{ops:Array Oper}{X:Type}{s:Sem Next}{w:World}{i:Nat}{x:X}{vs:X→List Value}{I:X→World→Prop}(v:Value)(w':World)(h:s.run P w= .ok (.value v) w')(hv:v=(vs x).getD i undef)(hI:I x w'):Gives P s w fun u w''=>∃x',u=(vs x').getD i undef∧zA5 ops i (vs x) (vs x')∧I x' w'':=Gives.plain h hv hI
end Go.Proofs.YtchllommcolijaaGreatDoor
