/- Valid, of the program and of the reference: whether rules are valid. -/
import Derived.Test.YtadcldfbmkfkaaaGreatDoorHea5257d5
import Derived.Deep.QuietTactic
import Derived.BigQuiet
import Derived.Deep.RegionWith
import Derived.Deep.RegionHeld3
import Derived.Deep.DeepCutAuto
import Derived.DataElems
import Derived.Laws.EntriesVeiled
import Derived.Maps.AppendAt
import Derived.Deep.AppendLies
import Derived.RegionTactic
namespace Go.Proofs.YtadcldfbmkfkaaaGreatDoor
open Go.RowKit
def zAi (w:World)(A:Option Addr)(rs:List Rul):Prop:=∀(k:Nat) (r:Rul),rs[k]?=some r→r.fits∧∃ad:Addr,A=some ad∧ad.block<w.heap.size∧∀(j:Nat) (v:Value),r.c[j]?=some v→w.cell? (ad.add (k*6+j))=some v
theorem add_block (a:Addr)(n:Nat):(a.add n).block=a.block:=by unfold Addr.add;split<;>rfl
theorem zAi.keep {w w':World}{A:Option Addr}{rs:List Rul}(h:zAi w A rs)(hb:Below w.heap.size w w'):zAi w' A rs:=fun k r hk=>by
 obtain⟨hf,ad,hA,hlt,hc⟩:=h k r hk;exact⟨hf,ad,hA,ll hlt hb.size,fun j v hj=>(hb.cell (by rw[add_block];exact hlt)).trans (hc j v hj)⟩
theorem zAi.drew {w:World}{A:Option Addr}{rs:List Rul}(h:zAi w A rs):zAi w.drew A rs:=h
theorem zAi.alloc {w:World}{A:Option Addr}{rs:List Rul}(h:zAi w A rs)(o:Obj):zAi (w.alloc o) A rs:=h.keep (zA0 w o)
theorem zAi.take {w:World}{A:Option Addr}{rs:List Rul}(h:zAi w A rs)(n:Nat):zAi w A (rs.take n):=fun k r hk=>h k r (by
 rw[List.getElem?_take] at hk
 split at hk
 ·exact hk
 ·cases hk)
theorem zEl {w:World}{a:Addr}{n j:Nat}{v:Value}(h:w.cell? (a.add (n+(j+1)))=some v):w.cell? ⟨(a.add n).block,(a.add n).off+(j+1),none⟩=some v:=by
 rw[←Addr.add_add] at h;unfold Addr.add at h⊢
 simpa using h
theorem zAi.at_ {w:World}{A:Option Addr}{rs:List Rul}(h:zAi w A rs){k:Nat}{r:Rul}(hk:rs[k]?=some r):
  r.fits∧∃ad:Addr,A=some ad∧ad.block<w.heap.size∧w.cell? (ad.add (k*6))=some (.int .i64 r.kind)∧w.cell? ⟨(ad.add (k*6)).block,(ad.add (k*6)).off+1,none⟩=some (.string r.sym)∧w.cell? ⟨(ad.add (k*6)).block,(ad.add (k*6)).off+2,none⟩=some (.string r.nam)∧w.cell? ⟨(ad.add (k*6)).block,(ad.add (k*6)).off+3,none⟩=some (.int .i64 r.prec)∧w.cell? ⟨(ad.add (k*6)).block,(ad.add (k*6)).off+4,none⟩=some (.int .i64 r.left)∧w.cell? ⟨(ad.add (k*6)).block,(ad.add (k*6)).off+5,none⟩=some (.int .i64 r.right):=by
 obtain⟨hf,ad,hA,hlt,hc⟩:=h k r hk;exact⟨hf,ad,hA,hlt,hc 0 _ rfl,zEl (j:=0) (hc 1 _ rfl),zEl (j:=1) (hc 2 _ rfl),zEl (j:=2) (hc 3 _ rfl),zEl (j:=3) (hc 4 _ rfl),zEl (j:=4) (hc 5 _ rfl)⟩
def zZt (os:List Rul)(r:Rul)(w:World)(e:Ending)(w':World):Prop:=∃n:Int,e= .returned (.int .i64 n)∧decide (0≤n)=(os.any fun o=>zB6 o r)∧Below w.heap.size w w'
abbrev clo (g:Nat):Value:=.func (.func 121) #[] #[.pointer (some ⟨g,0,none⟩)]
set_option maxRecDepth 100000 in
set_option maxHeartbeats 800000 in
theorem zV5 (A:Option Addr)(cap g:Nat)(os:List Rul)(r:Rul)(w:World)(hR:zAi w A os)(hK:Blk w g 64 r.c)(hn:os.length≤1000000):Calls Tryz.prog 167 #[.slice A os.length cap,clo g] w (zZt os r w):=by
 have HR:=zh hR;have HK:=zh hK;clear hR hK;go_enter Tryz.func167,Tryz.ntmps167;go_wp2_with fail
 go_loopw [8] (fun i wr=>∃k:Nat,k≤os.length∧i= .int .i64 k∧Hid (∀(j:Nat) x,os[j]?=some x→j<k→zB6 x r=false)∧Hid (zAi wr A os)∧Hid (Blk wr g 64 r.c)∧Hid (Below w.heap.size w wr)) (fun i _=>os.length -(intOf i).toNat)
 case atStart=>exact⟨0,by omega,rfl,(fun j _ _ h=>by omega),HR,HK,Below.refl _ _⟩
 case round=>
  clear HR HK;obtain⟨k,hk,rfl,HJ,HR,HK,H0⟩:=hrel
  by_cases hlt:k<os.length
  ·obtain⟨x,hx⟩:∃x,os[k]?=some x:=⟨_,gE hlt⟩
   obtain⟨hf,ad,rfl,hadl,c0,c1,c2,c3,c4,c5⟩:=HR.out.at_ hx;have HX:=zh hx;clear hx hf;go_wp2_with fail;refine(zXe x r g _ HK.out).mono ?_;rintro e w1 ⟨rfl,hb⟩;have NR:=zh (HR.out.keep hb);have NK:=kp hb HK;have NB:=jt H0 hb;clear hb HR HK H0 c0 c1 c2 c3 c4 c5;cases hq:zB6 x r
   ·have HQ:=zh hq;clear hq;go_wp2_with fail;go_roundw
    case rel=>exact⟨k+1,by omega,by go_num,(fun j y hj h=>by
     rcases Nat.lt_or_ge j k with h'|h'
     ·exact HJ.out j y hj h'
     ·obtain rfl:j=k:=by omega
      rw[HX.out] at hj;obtain rfl:=sj hj;exact HQ.out),NR,NK,NB⟩
    case measure=>simp[intOf];omega
   ·have HQ:=zh (show(os.any fun o=>zB6 o r)=true from List.any_eq_true.2 ⟨x,List.mem_of_getElem? HX.out,hq⟩);clear hq;go_wp2_with fail;go_ret;exact⟨_,rfl,by rw[HQ.out];simp,NB.out⟩
  ·have HQ:=zh (show(os.any fun o=>zB6 o r)=false by
    rw[List.any_eq_false];intro x hx;obtain⟨j,hj⟩:=List.mem_iff_getElem?.1 hx;have hjl:j<os.length:=(List.getElem?_eq_some_iff.1 hj).1;rw[HJ.out j x hj (by omega)];simp)
   go_wp2_with fail;go_ret;exact⟨_,rfl,by rw[HQ.out];rfl,H0.out⟩
set_option maxRecDepth 100000 in
set_option maxHeartbeats 400000 in
theorem zMu (A:Option Addr)(cap g:Nat)(os:List Rul)(r:Rul)(w:World)(hR:zAi w A os)(hK:Blk w g 64 r.c)(hn:os.length≤1000000):Calls Tryz.prog 120 #[.slice A os.length cap,clo g] w fun e w'=>e= .returned (.bool (os.any fun o=>zB6 o r))∧Below w.heap.size w w':=by
 have HR:=zh hR;have HK:=zh hK;clear hR hK;go_enter Tryz.func120,Tryz.ntmps120;go_wp2_with fail;refine(zV5 A cap g os r _ HR.out HK.out hn).mono ?_;rintro e w1 ⟨n,rfl,hq,hb⟩;have HQ:=zh hq;have HB:=zh hb;clear hq hb;go_wp2_with fail;go_ret;exact⟨zA1 HQ.out,HB.out⟩
set_option maxRecDepth 100000 in
set_option maxHeartbeats 400000 in
theorem zN5 (A:Option Addr)(cap:Nat)(os:List Rul)(r:Rul)(w:World)(hR:zAi w A os)(hn:os.length≤1000000):Calls Tryz.prog 69 #[.slice A os.length cap,r.v] w fun e w'=>e= .returned (.bool (!zDn os r))∧Below w.heap.size w w':=by
 have HR:=zh hR;have HN:=zh (show(!zDn os r)=(os.any fun o=>zB6 o r) by unfold zDn;rw[Bool.not_not]);clear hR;go_enter Tryz.func69,Tryz.ntmps69;go_wp2_with fail;refine(zMu A cap w.heap.size os r _ (HR.out.alloc _) (Blk.new w 64 r.c) hn).mono ?_;rintro e w1 ⟨rfl,hb⟩;have HB:=zh ((zA0 w _).trans (hb.mono (by simp)));clear hb;rw[←HN.out];generalize hbe:(!zDn os r)=b;have HBE:=zh hbe;clear hbe;go_wp2_with fail;go_ret;exact⟨zA1 HBE.out.symm,HB.out⟩
theorem zKt (A:Option Addr)(n cap:Nat)(os:List Rul)(r:Rul)(w:World)(hR:zAi w A os)(hl:os.length=n)(hn:n≤1000000):Calls Tryz.prog 69 #[.slice A n cap,r.v] w fun e w'=>e= .returned (.bool (!zDn os r))∧Below w.heap.size w w':=by
 subst hl;exact zN5 A cap os r w hR hn
theorem zTx (rs:List Rul)(h:64<rs.length):zAg rs=false:=by unfold zAg;rw[decide_eq_false (by omega)];rfl
theorem zO8 (rs:List Rul)(h:rs.length≤64):zAg rs=zBt rs rs.length:=by unfold zAg;rw[decide_eq_true h];rfl
set_option maxRecDepth 100000 in
set_option maxHeartbeats 2000000 in
theorem zCe (A:Option Addr)(cap:Nat)(rs:List Rul)(w:World)(hR:zAi w A rs)(hc:rs.length≤cap)(_hcap:cap≤9223372036854775807):Calls Tryz.prog 38 #[.slice A rs.length cap] w fun e w'=>e= .returned (.bool (zAg rs))∧Below w.heap.size w w':=by
 have HR:=zh hR;clear hR
 by_cases h64:64<rs.length
 ·rw[zTx rs h64];go_enter Tryz.func38,Tryz.ntmps38;go_wp2_with fail;go_ret;exact⟨rfl,Below.refl _ _⟩
 ·rw[zO8 rs (by omega)];go_enter Tryz.func38,Tryz.ntmps38;go_wp2_with fail
  go_loopw [10] (fun i wr=>∃k:Nat,k≤rs.length∧i= .int .i64 k∧Hid (zBt rs k=true)∧Hid (zAi wr A rs)∧Hid (Below w.heap.size w wr)) (fun i _=>rs.length -(intOf i).toNat)
  case atStart=>exact⟨0,by omega,rfl,rfl,HR,Below.refl _ _⟩
  case round=>
   clear HR;obtain⟨k,hk,rfl,HV,HR,H0⟩:=hrel
   by_cases hlt:k<rs.length
   ·obtain⟨x,hx⟩:∃x,rs[k]?=some x:=⟨_,gE hlt⟩
    obtain⟨hf,ad,rfl,hadl,c0,c1,c2,c3,c4,c5⟩:=HR.out.at_ hx;have HX:=zh (zG9 hx);have HF:=zh hf;have HZ:=zh (@zF0 rs (k+1) rs.length);have HT:=zh (HR.out.take k);have HTL:=zh (show(rs.take k).length=k by rw[List.length_take];omega);rw[HV.out,Bool.true_and] at HX;clear hx hf;go_upto_region 6 with(fail)
    have K0:=zh (Blk.new wr 64 x.c);have N0:=zh (HR.out.alloc (.cells x.c 64));have NT:=zh (HT.out.alloc (.cells x.c 64));have NB:=zh (H0.out.alloc H0.out.size (.cells x.c 64));clear HR HT H0 c0 c1 c2 c3 c4 c5;generalize wr.alloc (.cells #[.int .i64 x.kind,.string x.sym,.string x.nam,.int .i64 x.prec,.int .i64 x.left,.int .i64 x.right] 64)=w2 at*;generalize wr.heap.size=g at*;have c0:=fun i=>K0.out.cell i
    have l0:=K0.out.lt;cases ho:ownB x
    ·have HOW:=zh ho;rw[ho,Bool.false_and] at HX;clear ho
     go_cut [24] (fun b wc=>b= .bool true∧Hid (zAi wc (some ad) rs)∧Hid (Below w.heap.size w wc))
     case first=>
      refine zAa (by kernel_rfl) ⟨#[.slice (some ad) rs.length cap,undef,u2,.int .i64 k,.pointer (some ⟨g,0,none⟩),.slice (some ad) rs.length cap,.int .i64 rs.length,.bool (decide (64<(rs.length:Int))),.slice (some ad) rs.length cap,.int .i64 rs.length,.int .i64 k,.bool true,.int .i64 k,.pointer (some (ad.add (k*6))),x.v,x.v,.bool false,.bool true,.bool true,undef,undef,undef,undef,undef,.bool true,u25],[]⟩ [x.v,.bool false,.bool true,.bool true,undef,undef,undef,undef,undef,.bool true] [true,true,true,true,false,false,false,false,false,true] (fun wq=>Hid (Blk wq g 64 x.c)∧Hid (zAi wq (some ad) rs)∧Hid (Below w.heap.size w wq)) (by kernel_rfl) (by kernel_rfl) (by kernel_rfl) ⟨K0.out.drew,N0.out.drew,zA2 NB.out⟩ ?_ ?_
      ·refine⟨fun wq hI=>?_,fun wq hI=>?_,fun wq hI=>?_,fun wq hI=>?_,rfl,rfl,rfl,rfl,rfl,fun wq hI=>?_,trivial⟩
       ·obtain⟨J0,J1,J2⟩:=hI;have cJ:=fun i=>J0.out.cell i
        exact jv (x.v) wq (by simp[execOp,Act.eval,go_sem,cJ]) ⟨rfl,J0,J1,J2⟩
       ·obtain⟨J0,J1,J2⟩:=hI;refine jc 68 (#[x.v]) wq (by kernel_rfl) ((zG3 x _ HF.out).mono ?_);rintro e wa ⟨rfl,hb⟩;exact⟨_,rfl,by rw[HOW.out],keep hb J0.out,J1.out.keep hb,J2.out.trans (hb.mono J2.out.size)⟩
       ·exact jv (.bool true) wq (by kernel_rfl) ⟨rfl,hI⟩
       ·exact jv (.bool true) wq (by kernel_rfl) ⟨rfl,hI⟩
       ·exact jv (.bool true) wq (by kernel_rfl) ⟨rfl,hI⟩
      ·intro wq hI;go_wp2_with fail;go_meet;exact⟨rfl,hI.2.1,hI.2.2⟩
     case rest=>
      clear K0 NT N0 NB c0 l0;obtain⟨rfl,N0,NB⟩:=hcut;go_wp2_with fail;go_ret;exact⟨zA1 (HZ.out HX.out (by omega)).symm,NB.out⟩
    ·have HOW:=zh ho;rw[ho,Bool.true_and] at HX;clear ho;cases hfr:zDn (rs.take k) x
     ·rw[hfr] at HX;have HFR:=zh hfr;clear hfr
      go_cut [24] (fun b wc=>b= .bool true∧Hid (zAi wc (some ad) rs)∧Hid (Below w.heap.size w wc))
      case first=>
       go_region_with (first|(go_at_call 68;refine(zG3 x _ HF.out).mono ?_;rintro e wa ⟨rfl,hb5⟩;have MK:=zh (keep hb5 K0.out.drew);have MR:=zh (N0.out.drew.keep hb5);have MT:=zh (NT.out.drew.keep hb5);have MB:=zh ((zA2 NB.out).trans (hb5.mono NB.out.size));clear hb5;have cM:=fun i=>MK.out.cell i;have lM:=MK.out.lt;rw[HOW.out])|(go_at_call 69;refine(zKt (some ad) k cap (rs.take k) x _ MT.out HTL.out (by omega)).mono ?_;rintro e wb ⟨rfl,hb6⟩;have LR:=zh (MR.out.keep hb6);have LB:=jt MB hb6;clear hb6;rw[HFR.out]))
       all_goals (go_wp2_with fail;go_meet;exact⟨rfl,LR,LB⟩)
      case rest=>
       clear K0 NT N0 NB c0 l0;obtain⟨rfl,N0,NB⟩:=hcut;go_wp2_with fail;go_ret;exact⟨zA1 (HZ.out HX.out (by omega)).symm,NB.out⟩
     ·rw[hfr] at HX;have HFR:=zh hfr;clear hfr
      go_cut [24] (fun b wc=>b= .bool false∧Hid (zAi wc (some ad) rs)∧Hid (Below w.heap.size w wc))
      case first=>
       go_region_with (first|(go_at_call 68;refine(zG3 x _ HF.out).mono ?_;rintro e wa ⟨rfl,hb5⟩;have MK:=zh (keep hb5 K0.out.drew);have MR:=zh (N0.out.drew.keep hb5);have MT:=zh (NT.out.drew.keep hb5);have MB:=zh ((zA2 NB.out).trans (hb5.mono NB.out.size));clear hb5;have cM:=fun i=>MK.out.cell i;have lM:=MK.out.lt;rw[HOW.out])|(go_at_call 69;refine(zKt (some ad) k cap (rs.take k) x _ MT.out HTL.out (by omega)).mono ?_;rintro e wb ⟨rfl,hb6⟩;have LR:=zh (MR.out.keep hb6);have LB:=jt MB hb6;clear hb6;rw[HFR.out]))
       all_goals (go_wp2_with fail;go_meet;exact⟨rfl,LR,LB⟩)
      case rest=>
       clear K0 NT N0 NB c0 l0;obtain⟨rfl,N0,NB⟩:=hcut;go_wp2_with fail;go_roundw
       case rel=>exact⟨k+1,by omega,by go_num,HX.out,N0,NB⟩
       case measure=>simp[intOf];omega
   ·obtain rfl:k=rs.length:=by omega
    go_wp2_with fail;go_ret;exact⟨zA1 HV.out.symm,H0.out⟩
theorem zKx (o r:Rul):zB6 o r=zB6 r o:=by
 unfold zB6;rw[show decide (o.kind=r.kind)=decide (r.kind=o.kind) from decide_eq_decide.2 ⟨Eq.symm,Eq.symm⟩,Bool.beq_comm (a:=o.sym.toList),Bool.beq_comm (a:=o.nam.toList)]
theorem zOo {os:List Rul}{r x:Rul}{j:Nat}(hj:os[j]?=some x)(h:zB6 r x=true):zDn os r=false:=by
 unfold zDn;rw[Bool.not_eq_false',List.any_eq_true];exact⟨x,List.mem_of_getElem? hj,by rw[zKx];exact h⟩
theorem zRm {os:List Rul}{r:Rul}(h:∀(j:Nat) x,os[j]?=some x→zB6 r x=false):zDn os r=true:=by
 unfold zDn;rw[Bool.not_eq_true',List.any_eq_false];intro x hx;obtain⟨j,hj⟩:=List.mem_iff_getElem?.1 hx;rw[zKx,h j x hj];simp
theorem zU9 (rs:List Rul):zAg rs=(zBt rs rs.length&&decide (rs.length≤64)):=by unfold zAg;rw[Bool.and_comm]
set_option maxRecDepth 100000 in
set_option maxHeartbeats 2000000 in
theorem zHr (A:Option Addr)(cap:Nat)(rs:List Rul)(w:World)(hR:zAi w A rs)(hn:rs.length≤1000000):Calls Tryz.prog 48 #[.slice A rs.length cap] w fun e w'=>e= .returned (.bool (zAg rs))∧Below w.heap.size w w':=by
 have HR:=zh hR;have HVD:=zh (zU9 rs);clear hR;go_enter Tryz.func48,Tryz.ntmps48;go_wp2_with fail
 go_loopw [3] (fun i wr=>∃k:Nat,k≤rs.length∧i= .int .i64 k∧Hid (zBt rs k=true)∧Hid (zAi wr A rs)∧Hid (Below w.heap.size w wr)) (fun i _=>rs.length -(intOf i).toNat)
 case atStart=>exact⟨0,by omega,rfl,rfl,HR,Below.refl _ _⟩
 case round=>
  clear HR;obtain⟨k,hk,rfl,HV,HR,H0⟩:=hrel
  by_cases hlt:k<rs.length
  ·obtain⟨x,hx⟩:∃x,rs[k]?=some x:=⟨_,gE hlt⟩
   obtain⟨hf,ad,rfl,hadl,c0,c1,c2,c3,c4,c5⟩:=HR.out.at_ hx;have HX:=zh (zG9 hx);have HXK:=zh hx;have HZ:=zh (@zF0 rs (k+1) rs.length);rw[HV.out,Bool.true_and] at HX;clear hx;go_wp2_with fail;refine(zX0 x _ hf).mono ?_;rintro e w1 ⟨rfl,hb⟩;have NR:=zh (HR.out.keep hb);have NB:=jt H0 hb;clear HR H0 hb c0 c1 c2 c3 c4 c5 hf;cases ho:ownB x
   ·rw[ho,Bool.false_and] at HX;clear ho;go_wp2_with fail;go_ret;exact⟨zA1 (by rw[HVD.out,HZ.out HX.out (by omega)];rfl),NB.out⟩
   ·rw[ho,Bool.true_and] at HX;clear ho;go_wp2_with fail
    go_loopw [4] (fun i wr=>∃j:Nat,j≤k∧i= .int .i64 j∧Hid (∀(m:Nat) y,rs[m]?=some y→m<j→zB6 x y=false)∧Hid (zAi wr (some ad) rs)∧Hid (Below w.heap.size w wr)) (fun i _=>k -(intOf i).toNat)
    case atStart=>exact⟨0,by omega,rfl,(fun _ _ _ h=>by omega),NR,NB⟩
    case round=>
     clear NR NB;obtain⟨j,hj,rfl,HJ,HR,H0⟩:=hrel
     by_cases hlj:j<k
     ·obtain⟨y,hy⟩:∃y,rs[j]?=some y:=⟨_,gE (by omega)⟩
      obtain⟨_,ad1,he1,_,c0,c1,c2,c3,c4,c5⟩:=HR.out.at_ HXK.out;obtain rfl:=sj he1;obtain⟨_,ad2,he2,_,d0,d1,d2,d3,d4,d5⟩:=HR.out.at_ hy;obtain rfl:=sj he2;have HY:=zh hy;clear hy he1 he2;cases hq:zB6 x y
      ·have HQ:=zh hq;clear hq;go_upto_region 9 with(fail)
       go_cut [30] (fun b wc=>b= .bool false∧Hid (zAi wc (some ad) rs)∧Hid (Below w.heap.size w wc))
       case first=>
        go_region_with (go_at_call 89;refine(zL4 x y _).mono ?_;rintro e w2 ⟨rfl,hb5⟩;have MR:=zh (HR.out.drew.keep hb5);have MB:=zh ((zA2 H0.out).trans (hb5.mono H0.out.size));clear hb5;rw[HQ.out])
        all_goals (go_wp2_with fail;go_meet;exact⟨rfl,MR,MB⟩)
       case rest=>
        clear HR H0 c0 c1 c2 c3 c4 c5 d0 d1 d2 d3 d4 d5;obtain⟨rfl,HR,H0⟩:=hcut;go_wp2_with fail;go_roundw
        case rel=>exact⟨j+1,by omega,by go_num,(fun m z hm h=>by
         rcases Nat.lt_or_ge m j with h'|h'
         ·exact HJ.out m z hm h'
         ·obtain rfl:m=j:=by omega
          rw[HY.out] at hm;obtain rfl:=sj hm;exact HQ.out),HR,H0⟩
        case measure=>simp[intOf];omega
      ·have HQ:=zh hq;have HFF:=zh (zOo (os:=rs.take k) (r:=x) (j:=j) (x:=y) (by rw[List.getElem?_take,if_pos hlj];exact HY.out) hq);rw[HFF.out] at HX;clear hq;go_upto_region 9 with(fail)
       go_cut [30] (fun b wc=>b= .bool true∧Hid (zAi wc (some ad) rs)∧Hid (Below w.heap.size w wc))
       case first=>
        go_region_with (go_at_call 89;refine(zL4 x y _).mono ?_;rintro e w2 ⟨rfl,hb5⟩;have MR:=zh (HR.out.drew.keep hb5);have MB:=zh ((zA2 H0.out).trans (hb5.mono H0.out.size));clear hb5;rw[HQ.out])
        all_goals (go_wp2_with fail;go_meet;exact⟨rfl,MR,MB⟩)
       case rest=>
        clear HR H0 c0 c1 c2 c3 c4 c5 d0 d1 d2 d3 d4 d5;obtain⟨rfl,HR,H0⟩:=hcut;go_wp2_with fail;go_ret;exact⟨zA1 (by rw[HVD.out,HZ.out HX.out (by omega)];rfl),H0.out⟩
     ·have HFT:=zh (zRm (os:=rs.take k) (r:=x) fun m y hm=>by
       rw[List.getElem?_take] at hm
       split at hm
       ·exact HJ.out m y hm (by omega)
       ·cases hm)
      rw[HFT.out] at HX;go_wp2_with fail;go_roundw
      case rel=>exact⟨k+1,by omega,by go_num,HX.out,HR,H0⟩
      case measure=>simp[intOf];omega
  ·obtain rfl:k=rs.length:=by omega
   rw[HV.out,Bool.true_and] at HVD;go_wp2_with fail;go_ret;exact⟨zA1 (by rw[HVD.out];exact decide_eq_decide.2 (by omega)),H0.out⟩
end Go.Proofs.YtadcldfbmkfkaaaGreatDoor
namespace Go.Proofs.YtadcldfbmkfkaaaGreatDoor
section
variable {P : Program} {ops : Array Oper} {Q : Exit → Act → World → Prop}
def reach (ops:Array Oper)(j:Nat):Nat→Nat→Bool
 |0,_=>false
 |fuel+1,i=>match ops[i]? with
  |some o=>o.after.any fun e=>Region.binds .any e&&(e.on==j||reach ops j fuel e.on)
  |none=>false
def Closed (ops:Array Oper)(L:Nat→Bool):Prop:=∀i o,ops[i]?=some o→L i=true→∀e∈o.after,Region.binds .any e=true→L e.on=true
theorem zB8 {L:Nat→Bool}(hc:Closed ops L){j:Nat}:∀{fuel i:Nat} {o:Oper},ops[i]?=some o→(∀e∈o.after,Region.binds .any e=true→L e.on=true)→reach ops j fuel i=true→L j=true
 |0,_,_,_,_,h=>by cases h
 |fuel+1,i,o,ho,hL,h=>by
  rw[reach,ho] at h;obtain⟨e,he,h2⟩:=Array.any_eq_true'.1 h;rw[Bool.and_eq_true,Bool.or_eq_true,beq_iff_eq] at h2;have h3:=hL e he h2.1;rcases h2.2 with h4|h4
  ·rw[←h4];exact h3
  ·cases ho2:ops[e.on]? with
   |none=>
    cases fuel with
    |zero=>cases h4
    |succ f=>rw[reach,ho2] at h4;cases h4
   |some o2=>exact zB8 hc ho2 (hc e.on o2 ho2 h3) h4
def zV1 (ops:Array Oper):Bool:=(List.range ops.size).all fun i=>match ops[i]? with
 |some o=>o.after.all fun e=> !Region.binds .any e||decide (e.on<i)
 |none=>true
theorem zK5 {L:Nat→Bool}{listed:Array Bool}(hL:L=fun j=>listed.getD j false)(hs:listed.size=ops.size)(hedge:zV1 ops=true)(hr:∀i,i∉Region.ready .any ops listed):∀i,i<ops.size→L i=true:=by
 intro i;subst hL
 induction i using Nat.strongRecOn with
 |_ i ih=>
  intro hi;refine Classical.byContradiction fun hn=>hr i ?_
  rw[mem_ready];refine⟨?_,ops[i],Array.getElem?_eq_getElem hi,fun e he hb=>?_⟩
  ·have hil:i<listed.size:=by omega
   simp only[Array.getD_eq_getD_getElem?,Array.getElem?_eq_getElem hil,Option.getD_some] at hn⊢
   simpa using hn
  ·have h1:=List.all_eq_true.1 hedge i (List.mem_range.2 hi);rw[Array.getElem?_eq_getElem hi] at h1;have h2:=Array.all_eq_true'.1 h1 e he;rw[hb] at h2;have h3:e.on<i:=by simpa using h2
   exact ih e.on h3 (by omega)
theorem zE3 {L:Nat→Bool}{i:Nat}{o:Oper}(hc:Closed ops L)(ho:ops[i]?=some o)(hb:∀e∈o.after,Region.binds .any e=true→L e.on=true):Closed ops fun j=>L j||j==i:=by
 intro k o' hk hL e he hbe
 by_cases hki:k=i
 ·subst hki;obtain rfl:=Option.some.inj (ho.symm.trans hk);show(L e.on||e.on==k)=true;rw[hb e he hbe];rfl
 ·show(L e.on||e.on==i)=true;rw[hc k o' hk (by simpa [hki] using hL) e he hbe];rfl
theorem zRz {i:Nat}{l:List Nat}{o:Oper}{a:Act}{w:World}(ho:ops[i]?=some o)(hg:o.guard=none)(h:o.wp P a w (wpOps P ops Q l) Q):wpOps P ops Q (i::l) a w:=by
 rw[wpOps_cons];unfold wpOp;simp only[ho];rw[if_pos (by simp[Region.wanted,hg])];exact .inl h
end
section
variable {P : Program} {ops : Array Oper} {Q : Exit → Act → World → Prop}
def zOy (P:Program)(F:Act)(ops:Array Oper)(tr:List Nat)(Inv:List Bool→World→Prop):Nat→List Oper→List Value→List Bool→Prop
 |i,o::os,v::vs,true::bs=>(∀(L:Nat→Bool) (w:World),L i=false→(∀j,reach ops j ops.size i=true→L j=true)→(∀j,reach ops i ops.size j=true→L j=false)→Inv (tr.map L) w→Gives P (execOp F.eval o) w fun u w'=>u=v∧Inv (tr.map fun j=>j==i||L j) w')∧zOy P F ops tr Inv (i+1) os vs bs
 |i,_::os,v::vs,false::bs=>(v=undef∧∀(L:Nat→Bool) (w:World),Inv (tr.map L) w→Inv (tr.map fun j=>j==i||L j) w)∧zOy P F ops tr Inv (i+1) os vs bs
 |_,[],[],[]=>True
 |_,_,_,_=>False
theorem zOy.at_ {F:Act}{tr:List Nat}{Inv:List Bool→World→Prop}:∀{n:Nat} {os:List Oper} {vs:List Value} {bs:List Bool},zOy P F ops tr Inv n os vs bs→∀{i:Nat} {o:Oper},os[i]?=some o→∃b,bs[i]?=some b∧
  if b=true then(∀(L:Nat→Bool) (w:World),L (n+i)=false→(∀j,reach ops j ops.size (n+i)=true→L j=true)→(∀j,reach ops (n+i) ops.size j=true→L j=false)→Inv (tr.map L) w→Gives P (execOp F.eval o) w fun u w'=>u=vs.getD i undef∧Inv (tr.map fun j=>j==(n+i)||L j) w')
  else vs.getD i undef=undef∧∀(L:Nat→Bool) (w:World),Inv (tr.map L) w→Inv (tr.map fun j=>j==(n+i)||L j) w
 |n,[],[],[],_,i,o,h=>by simp at h
 |n,o::os,v::vs,true::bs,⟨h1,h2⟩,0,o',h=>by
  obtain rfl:o=o':=by simpa using h
  exact⟨true,rfl,by rw[if_pos rfl];exact h1⟩
 |n,o::os,v::vs,false::bs,⟨h1,h2⟩,0,o',h=>⟨false,rfl,by rw[if_neg (by simp)];exact h1⟩
 |n,o::os,v::vs,true::bs,⟨h1,h2⟩,i+1,o',h=>by
  obtain⟨b,hb,hh⟩:=zOy.at_ h2 (i:=i) (o:=o') (by simpa using h);rw[show n+1+i=n+(i+1) by omega] at hh;exact⟨b,by simpa using hb,by simpa using hh⟩
 |n,o::os,v::vs,false::bs,⟨h1,h2⟩,i+1,o',h=>by
  obtain⟨b,hb,hh⟩:=zOy.at_ h2 (i:=i) (o:=o') (by simpa using h);rw[show n+1+i=n+(i+1) by omega] at hh;exact⟨b,by simpa using hb,by simpa using hh⟩
 |_,[],[],_::_,h,_,_,_=>h.elim
 |_,[],_::_,_,h,_,_,_=>h.elim
 |_,_::_,[],_,h,_,_,_=>h.elim
 |_,_::_,_::_,[],h,_,_,_=>h.elim
theorem zHb (tr:List Nat)(L:Nat→Bool)(i:Nat):(tr.map fun j=>L j||j==i)=tr.map fun j=>j==i||L j:=by
 congr 1;funext j;rw[Bool.or_comm]
theorem zHi {ops:Array Oper}{j:Nat}:∀{fuel i:Nat},reach ops j fuel i=true→∃o,ops[i]?=some o
 |0,_,h=>by cases h
 |fuel+1,i,h=>by
  rw[reach] at h;cases ho:ops[i]? with
  |none=>rw[ho] at h;cases h
  |some o=>exact⟨o,rfl⟩
theorem zI0 {id:Nat}{a0:Act}{w0:World}(hm:P.follows .mixedOrders=true)(F:Act)(vs:List Value)(bs:List Bool)(tr:List Nat)(Inv:List Bool→World→Prop)(hok:zHv ops=true)(hF:fin ops (fun i=>vs.getD i undef) a0=F)
  (hw:((List.range ops.size).map fun i=>((ops[i]?).map fun o=>Region.wanted o (yielded ops F.tmps)).getD true)=bs) (htr:(tr.all fun i=>decide (i<ops.size))=true) (h0:Inv (tr.map fun _=>false) w0.drew) (hE:zOy P F ops tr Inv 0 ops.toList vs bs) (hend:∀w:World,Inv (tr.map fun _=>true) w→Q .normal F w):(Code.region id ops true).wp P Q a0 w0:=by
 subst hF;refine wp_region_any hm ?_;refine zKj (vals:=fun i=>vs.getD i undef) (a0:=a0) (Inv:=fun L w=>Closed ops L∧Inv (tr.map L) w) hok (fun i o L w ho hLi hb hI=>?_) (fun L w hL hI=>?_) ops.size (Array.replicate ops.size false) a0 _ (by simp) (by
  refine Nat.le_trans (List.countP_le_length) ?_;simp) ⟨rfl,rfl,fun i t _ h=>?_,fun _ _=>rfl⟩ ⟨fun i o _ h=>?_,?_⟩
 ·obtain⟨hc,hI⟩:=hI;have hi:i<ops.size:=(Array.getElem?_eq_some_iff.1 ho).1;obtain⟨b,hb2,hh⟩:=hE.at_ (i:=i) (o:=o) (by rw[Array.getElem?_toList];exact ho);rw[Nat.zero_add] at hh;rw[←hw,List.getElem?_map,List.getElem?_range hi] at hb2;simp only[Option.map_some,ho,Option.getD_some,Option.some.injEq] at hb2;have hca:=zE3 hc ho hb;rw[hb2]
  split
  ·rename_i hbt
   rw[if_pos hbt] at hh;have hg:=hh L w hLi (fun j hj=>zB8 hc ho hb hj) (fun j hj=>by
    cases hLj:L j with
    |false=>rfl
    |true=>
     obtain⟨oj,hoj⟩:=zHi hj;have:=zB8 hc hoj (hc j oj hoj hLj) hj;rw[hLi] at this;cases this) hI
   unfold Gives at hg⊢;revert hg;generalize (execOp (fin ops (fun i=>vs.getD i undef) a0).eval o).run P w=x;cases x with
   |halt e w'=>exact fun h=>h
   |ok n w'=>
    cases n with
    |value v=>exact fun h=>⟨h.1,hca,by rw[zHb];exact h.2⟩
    |skip=>exact fun h=>⟨h.1,hca,by rw[zHb];exact h.2⟩
    |enter f args=>exact fun h=>Calls.mono h fun e w'' ⟨v,h1,h2,h3⟩=>⟨v,h1,h2,hca,by rw[zHb];exact h3⟩
    |_=>exact fun h=>h
  ·rename_i hbt
   rw[if_neg hbt] at hh;exact⟨hh.1,hca,by rw[zHb];exact hh.2 L w hI⟩
 ·have e:tr.map L=tr.map fun _=>true:=List.map_congr_left fun i hi=>by
   have:=List.all_eq_true.1 htr i hi;exact hL i (by simpa using this)
  rw[←e] at hend;exact hend w hI.2
 ·rw[Array.getD_eq_getD_getElem?,Array.getElem?_replicate] at h
  split at h<;>simp at h
 ·dsimp only at h;rw[Array.getD_eq_getD_getElem?,Array.getElem?_replicate] at h
  split at h<;>simp at h
 ·have e:(fun j=>(Array.replicate ops.size false).getD j false)=fun _=>false:=by
   funext j
   rw[Array.getD_eq_getD_getElem?,Array.getElem?_replicate]
   split<;>rfl
  rw[e];exact h0
end
section
variable {P : Program} {ops : Array Oper} {Q : Exit → Act → World → Prop} {X : Type}
theorem zEn.swap {v v':Nat→Value}{a0:Act}{L:Nat→Bool}{a:Act}(hd:zFw ops=true)(h:zEn ops v a0 L a)(he:∀i,L i=true→v' i=v i):zEn ops v' a0 L a:=
 ⟨h.size,h.defers,fun i t hi hL=>by
  rw[h.done i t hi hL]
  by_cases ht:t<a0.tmps.size
  ·rw[fin_at hd hi ht,fin_at hd hi ht,he i hL]
  ·have e1:(fin ops v a0).tmps[t]?=none:=Array.getElem?_eq_none (show(zAm ops v a0 (List.range ops.size)).tmps.size≤t by rw[(zC3 v _ a0).1];exact Nat.le_of_not_lt ht);have e2:(fin ops v' a0).tmps[t]?=none:=Array.getElem?_eq_none (show(zAm ops v' a0 (List.range ops.size)).tmps.size≤t by rw[(zC3 v' _ a0).1];exact Nat.le_of_not_lt ht);rw[e1,e2],h.rest⟩
theorem zOb {vals:X→Nat→Value}{a0:Act}{Inv:(Nat→Bool)→X→World→Prop}(hok:zHv ops=true)
  (hstep:∀(i:Nat) (o:Oper) (L:Nat→Bool) (x:X) (w:World),ops[i]?=some o→L i=false→(∀e∈o.after,Region.binds .any e=true→L e.on=true)→Inv L x w→
   if Region.wanted o (yielded ops (fin ops (vals x) a0).tmps)=true then Gives P (execOp (fin ops (vals x) a0).eval o) w (fun v w'=>∃x',v=vals x' i∧(∀j,L j=true→vals x' j=vals x j)∧Inv (fun j=>L j||j==i) x' w') else vals x i=undef∧Inv (fun j=>L j||j==i) x w)
  (hend:∀(L:Nat→Bool) (x:X) (w:World),(∀i,i<ops.size→L i=true)→Inv L x w→Q .normal (fin ops (vals x) a0) w):
  ∀(fuel:Nat) (listed:Array Bool) (x:X) (a:Act) (w:World),listed.size=ops.size→(listed.toList.countP (·==false))≤fuel→zEn ops (vals x) a0 (fun j=>listed.getD j false) a→Inv (fun j=>listed.getD j false) x w→wpAny P .any ops Q fuel listed a w:=by
 simp only[zHv,Bool.and_eq_true] at hok;obtain⟨⟨⟨hsel,hd⟩,hall⟩,hedge⟩:=hok;have fini:∀(listed:Array Bool) (x:X) (a:Act) (w:World),listed.size=ops.size→zEn ops (vals x) a0 (fun j=>listed.getD j false) a→Inv (fun j=>listed.getD j false) x w→Region.ready .any ops listed=[]→Q .normal a w:=by
  intro listed x a w hs ho hI hr;have hL:∀i,i<ops.size→listed.getD i false=true:=by
   intro i
   induction i using Nat.strongRecOn with
   |_ i ih=>
    intro hi;refine Classical.byContradiction fun hn=>?_
    have hm:i∈Region.ready .any ops listed:=by
     rw[mem_ready];refine⟨?_,ops[i],Array.getElem?_eq_getElem hi,fun e he hb=>?_⟩
     ·have hil:i<listed.size:=by omega
      simp only[Array.getD_eq_getD_getElem?,Array.getElem?_eq_getElem hil,Option.getD_some] at hn⊢
      simpa using hn
     ·have h1:=List.all_eq_true.1 hedge i (List.mem_range.2 hi);rw[Array.getElem?_eq_getElem hi] at h1;have h2:=Array.all_eq_true'.1 h1 e he;rw[hb] at h2;have h3:e.on<i:=by simpa using h2
      exact ih e.on h3 (by omega)
    rw[hr] at hm;cases hm
  rw[ho.end hL];exact hend _ x w hL hI
 intro fuel
 induction fuel with
 |zero=>
  intro listed x a w hs hc ho hI;have hr:Region.ready .any ops listed=[]:=by
   rw[List.eq_nil_iff_forall_not_mem];intro j hj;rw[mem_ready] at hj;obtain⟨h0,o,hoj,_⟩:=hj;have hjl:j<listed.size:=by rw[hs];exact(Array.getElem?_eq_some_iff.1 hoj).1
   have hf:listed[j]=false:=by simpa [Array.getD_eq_getD_getElem?,Array.getElem?_eq_getElem hjl] using h0
   have:0<listed.toList.countP (·==false):=List.countP_pos_iff.2 ⟨false,by rw[←hf];simp,rfl⟩;omega
  exact⟨hr,fini listed x a w hs ho hI hr⟩
 |succ fuel ih=>
  intro listed x a w hs hc ho hI;refine⟨fini listed x a w hs ho hI,fun i hi=>?_⟩;rw[mem_ready] at hi;obtain⟨h0,o,hoi,hb⟩:=hi;have hil:i<ops.size:=(Array.getElem?_eq_some_iff.1 hoi).1;have hil':i<listed.size:=by omega
  have hf:listed[i]=false:=by simpa [Array.getD_eq_getD_getElem?,Array.getElem?_eq_getElem hil'] using h0
  have hLi:listed.getD i false=false:=by simp[Array.getD_eq_getD_getElem?,Array.getElem?_eq_getElem hil',hf]
  have hL':(fun j=>(listed.setIfInBounds i true).getD j false)=fun j=>listed.getD j false||j==i:=by
   funext j
   by_cases hij:j=i
   ·subst hij;simp[Array.getD_eq_getD_getElem?,hil']
   ·rw[getD_set_ne false (Ne.symm hij)];simp[hij]
  have hcount:(listed.setIfInBounds i true).toList.countP (·==false)≤fuel:=by
   rw[Array.toList_setIfInBounds];have hl:i<listed.toList.length:=by simpa using hil'
   have hs1:listed.toList.countP (·==false)=(listed.toList.set i true).countP (·==false)+1:=by
    exact zGg _ _ (by rw[List.getElem?_eq_getElem hl];simpa using hf)
   omega
  have hoOk:zG1 ops o=true:=by
   obtain⟨_,hx⟩:=Array.getElem?_eq_some_iff.1 hoi;exact Array.all_eq_true'.1 hall o (by rw[←hx];exact Array.getElem_mem _)
  obtain⟨hev,hwant⟩:=ho.eval hoOk hb;have hexec:execOp a.eval o=execOp (fin ops (vals x) a0).eval o:=execOp_congr o (fun cs b=>Region.noSelect_spec hsel i o cs b hoi) hev;have hst:=hstep i o _ x w hoi hLi hb hI;have hdst:o.dst=zAb ops i:=by unfold zAb;rw[hoi];rfl
  have next:∀x' w',(∀j,listed.getD j false=true→vals x' j=vals x j)→Inv (fun j=>listed.getD j false||j==i) x' w'→wpAny P .any ops Q fuel (listed.setIfInBounds i true) (a.put o.dst (vals x' i)) w':=by
   intro x' w' hv hI';refine ih _ x' _ w' (by simpa using hs) hcount ?_ (by rw[hL'];exact hI');rw[hL',hdst];exact(ho.swap hd hv).put hd i hil hLi
  unfold wpOp;simp only[hoi];rw[hwant]
  by_cases hw:Region.wanted o (yielded ops (fin ops (vals x) a0).tmps)=true
  ·rw[if_pos hw] at hst⊢;refine .inl (Gives.wp (R:=fun v w'=>∃x',v=vals x' i∧(∀j,listed.getD j false=true→vals x' j=vals x j)∧Inv (fun j=>listed.getD j false||j==i) x' w') (by rw[hexec];exact hst) ?_);rintro v w' ⟨x',rfl,hv,hI'⟩;exact next x' w' hv hI'
  ·rw[if_neg hw] at hst⊢;rw[←hst.1];exact next x w (fun _ _=>rfl) hst.2
def zA5 (ops:Array Oper)(i:Nat)(l l':List Value):Prop:=∀j,j≠i→reach ops i ops.size j=false→l'.getD j undef=l.getD j undef
theorem zA5.same {i:Nat}{l:List Value}:zA5 ops i l l:=fun _ _ _=>rfl
def zO5 (P:Program)(F:X→Act)(ops:Array Oper)(tr:List Nat)(vs:X→List Value)(Inv:List Bool→X→World→Prop):Nat→List Oper→List Bool→Prop
 |i,o::os,true::bs=>(∀(L:Nat→Bool) (x:X) (w:World),L i=false→(∀j,reach ops j ops.size i=true→L j=true)→(∀j,reach ops i ops.size j=true→L j=false)→Inv (tr.map L) x w→Gives P (execOp (F x).eval o) w fun u w'=>∃x',u=(vs x').getD i undef∧zA5 ops i (vs x) (vs x')∧Inv (tr.map fun j=>j==i||L j) x' w')∧zO5 P F ops tr vs Inv (i+1) os bs
 |i,_::os,false::bs=>((∀x,(vs x).getD i undef=undef)∧∀(L:Nat→Bool) (x:X) (w:World),Inv (tr.map L) x w→Inv (tr.map fun j=>j==i||L j) x w)∧zO5 P F ops tr vs Inv (i+1) os bs
 |_,[],[]=>True
 |_,_,_=>False
theorem zO5.at_ {F:X→Act}{tr:List Nat}{vs:X→List Value}{Inv:List Bool→X→World→Prop}:∀{n:Nat} {os:List Oper} {bs:List Bool},zO5 P F ops tr vs Inv n os bs→∀{i:Nat} {o:Oper},os[i]?=some o→∃b,bs[i]?=some b∧
  if b=true then(∀(L:Nat→Bool) (x:X) (w:World),L (n+i)=false→(∀j,reach ops j ops.size (n+i)=true→L j=true)→(∀j,reach ops (n+i) ops.size j=true→L j=false)→Inv (tr.map L) x w→Gives P (execOp (F x).eval o) w fun u w'=>∃x',u=(vs x').getD (n+i) undef∧zA5 ops (n+i) (vs x) (vs x')∧Inv (tr.map fun j=>j==(n+i)||L j) x' w')
  else(∀x,(vs x).getD (n+i) undef=undef)∧∀(L:Nat→Bool) (x:X) (w:World),Inv (tr.map L) x w→Inv (tr.map fun j=>j==(n+i)||L j) x w
 |n,[],[],_,i,o,h=>by simp at h
 |n,o::os,true::bs,⟨h1,h2⟩,0,o',h=>by
  obtain rfl:o=o':=by simpa using h
  exact⟨true,rfl,by rw[if_pos rfl];exact h1⟩
 |n,o::os,false::bs,⟨h1,h2⟩,0,o',h=>⟨false,rfl,by rw[if_neg (by simp)];exact h1⟩
 |n,o::os,true::bs,⟨h1,h2⟩,i+1,o',h=>by
  obtain⟨b,hb,hh⟩:=zO5.at_ h2 (i:=i) (o:=o') (by simpa using h);rw[show n+1+i=n+(i+1) by omega] at hh;exact⟨b,by simpa using hb,hh⟩
 |n,o::os,false::bs,⟨h1,h2⟩,i+1,o',h=>by
  obtain⟨b,hb,hh⟩:=zO5.at_ h2 (i:=i) (o:=o') (by simpa using h);rw[show n+1+i=n+(i+1) by omega] at hh;exact⟨b,by simpa using hb,hh⟩
 |_,[],_::_,h,_,_,_=>h.elim
 |_,_::_,[],h,_,_,_=>h.elim
theorem zB1 {id:Nat}{a0:Act}{w0:World}(hm:P.follows .mixedOrders=true)(F:X→Act)(vs:X→List Value)(bs:List Bool)(tr:List Nat)(Inv:List Bool→X→World→Prop)(x0:X)(hok:zHv ops=true)(hF:∀x,fin ops (fun i=>(vs x).getD i undef) a0=F x)
  (hw:∀x,((List.range ops.size).map fun i=>((ops[i]?).map fun o=>Region.wanted o (yielded ops (F x).tmps)).getD true)=bs) (htr:(tr.all fun i=>decide (i<ops.size))=true) (h0:Inv (tr.map fun _=>false) x0 w0.drew) (hE:zO5 P F ops tr vs Inv 0 ops.toList bs) (hend:∀(x:X) (w:World),Inv (tr.map fun _=>true) x w→Q .normal (F x) w):(Code.region id ops true).wp P Q a0 w0:=by
 refine wp_region_any hm ?_;refine zOb (vals:=fun x i=>(vs x).getD i undef) (a0:=a0) (Inv:=fun L x w=>Closed ops L∧Inv (tr.map L) x w) hok (fun i o L x w ho hLi hb hI=>?_) (fun L x w hL hI=>?_) ops.size (Array.replicate ops.size false) x0 a0 _ (by simp) (by
  refine Nat.le_trans (List.countP_le_length) ?_;simp) ⟨rfl,rfl,fun i t _ h=>?_,fun _ _=>rfl⟩ ⟨fun i o _ h=>?_,?_⟩
 ·obtain⟨hc,hI⟩:=hI;have hi:i<ops.size:=(Array.getElem?_eq_some_iff.1 ho).1;obtain⟨b,hb2,hh⟩:=hE.at_ (i:=i) (o:=o) (by rw[Array.getElem?_toList];exact ho);rw[Nat.zero_add] at hh;rw[←hw x,List.getElem?_map,List.getElem?_range hi] at hb2;simp only[Option.map_some,ho,Option.getD_some,Option.some.injEq] at hb2;have hca:=zE3 hc ho hb;have hFx:fin ops (fun i=>(vs x).getD i undef) a0=F x:=hF x;rw[hFx,hb2];have hno:∀j,reach ops i ops.size j=true→L j=false:=fun j hj=>by
   cases hLj:L j with
   |false=>rfl
   |true=>
    obtain⟨oj,hoj⟩:=zHi hj;have:=zB8 hc hoj (hc j oj hoj hLj) hj;rw[hLi] at this;cases this
  split
  ·rename_i hbt
   rw[if_pos hbt] at hh;have hg:=hh L x w hLi (fun j hj=>zB8 hc ho hb hj) hno hI;unfold Gives at hg⊢;revert hg;have key:∀u w',(∃x',u=(vs x').getD i undef∧zA5 ops i (vs x) (vs x')∧Inv (tr.map fun j=>j==i||L j) x' w')→∃x',u=(vs x').getD i undef∧(∀j,L j=true→(vs x').getD j undef=(vs x).getD j undef)∧Closed ops (fun j=>L j||j==i)∧Inv (tr.map fun j=>L j||j==i) x' w':=by
    rintro u w' ⟨x',h1,h2,h3⟩;refine⟨x',h1,fun j hj=>h2 j (fun e=>by subst e;rw[hLi] at hj;cases hj) ?_,hca,by rw[zHb];exact h3⟩;cases hr:reach ops i ops.size j with
    |false=>rfl
    |true=>rw[hno j hr] at hj;cases hj
   generalize (execOp (F x).eval o).run P w=r;cases r with
   |halt e w'=>exact fun h=>h
   |ok n w'=>
    cases n with
    |value v=>exact fun h=>key _ _ h
    |skip=>exact fun h=>key _ _ h
    |enter f args=>exact fun h=>Calls.mono h fun e w'' ⟨v,h1,h2⟩=>⟨v,h1,key _ _ h2⟩
    |_=>exact fun h=>h
  ·rename_i hbt
   rw[if_neg hbt] at hh;exact⟨hh.1 x,hca,by rw[zHb];exact hh.2 L x w hI⟩
 ·have e:tr.map L=tr.map fun _=>true:=List.map_congr_left fun i hi=>by
   have:=List.all_eq_true.1 htr i hi;exact hL i (by simpa using this)
  rw[←e] at hend;have hFx:fin ops (fun i=>(vs x).getD i undef) a0=F x:=hF x;show Q .normal (fin ops (fun i=>(vs x).getD i undef) a0) w;rw[hFx];exact hend x w hI.2
 ·rw[Array.getD_eq_getD_getElem?,Array.getElem?_replicate] at h
  split at h<;>simp at h
 ·dsimp only at h;rw[Array.getD_eq_getD_getElem?,Array.getElem?_replicate] at h
  split at h<;>simp at h
 ·have e:(fun j=>(Array.replicate ops.size false).getD j false)=fun _=>false:=by
   funext j
   rw[Array.getD_eq_getD_getElem?,Array.getElem?_replicate]
   split<;>rfl
  rw[e];exact h0
def zTg (ops:Array Oper)(i:Nat):Nat→List Value→List Value→Prop
 |k,v::l,v'::l'=>(k=i∨reach ops i ops.size k=true∨v'=v)∧zTg ops i (k+1) l l'
 |_,[],[]=>True
 |_,_,_=>False
theorem zTg.at_ {i:Nat}:∀{k:Nat} {l l':List Value},zTg ops i k l l'→∀j,k+j≠i→reach ops i ops.size (k+j)=false→l'.getD j undef=l.getD j undef
 |k,v::l,v'::l',⟨h1,h2⟩,0,hj,hr=>by
  rcases h1 with h|h|h
  ·exact(hj h).elim
  ·rw[Nat.add_zero,h] at hr;cases hr
  ·exact h
 |k,v::l,v'::l',⟨h1,h2⟩,j+1,hj,hr=>by
  rw[List.getD_cons_succ,List.getD_cons_succ];exact zTg.at_ h2 j (by omega) (by rw[show k+1+j=k+(j+1) by omega];exact hr)
 |_,[],[],_,_,_,_=>rfl
 |_,[],_::_,h,_,_,_=>h.elim
 |_,_::_,[],h,_,_,_=>h.elim
theorem zA5.of_same {i:Nat}{l l':List Value}(h:zTg ops i 0 l l'):zA5 ops i l l':=fun j hj hr=>h.at_ j (by omega) (by rw[Nat.zero_add];exact hr)
theorem Gives.plain {s:Sem Next}{w w':World}{v:Value}{i:Nat}{x:X}{vs:X→List Value}{I:X→World→Prop}(h:s.run P w= .ok (.value v) w')(hv:v=(vs x).getD i undef)(hI:I x w'):Gives P s w fun u w''=>∃x',u=(vs x').getD i undef∧zA5 ops i (vs x) (vs x')∧I x' w'':=
 Gives.value h ⟨x,hv,zA5.same,hI⟩
end
theorem jq {P:Program}{ops:Array Oper}{X:Type}{s:Sem Next}{w:World}{i:Nat}{x:X}{vs:X→List Value}{I:X→World→Prop}(v:Value)(w':World)(h:s.run P w= .ok (.value v) w')(hv:v=(vs x).getD i undef)(hI:I x w'):Gives P s w fun u w''=>∃x',u=(vs x').getD i undef∧zA5 ops i (vs x) (vs x')∧I x' w'':=Gives.plain h hv hI
end Go.Proofs.YtadcldfbmkfkaaaGreatDoor
namespace Go.Proofs.YtadcldfbmkfkaaaGreatDoor.Ch
open Go.RowKit
theorem own_below {w w':World}{base:Nat}{e:TypeId}{size:Nat}{v:Value}{n:Nat}{xs:List Value}(h:w.ownsRow base e size v n xs)(hb:Below w.heap.size w w'):w'.ownsRow base e size v n xs:=
 h.kept (row:=none) ⟨hb.os,hb.tape,hb.output,hb.size,fun i hi _=>hb.block i hi⟩ (by cases v.ownBlock<;>simp)
theorem zFi {w:World}{base base':Nat}{e:TypeId}{size:Nat}{v:Value}{n:Nat}{xs:List Value}(h:w.ownsRow base e size v n xs)(hB:base'≤base):w.ownsRow base' e size v n xs:=
 ⟨h.1,h.2.imp id fun⟨g,cap,cur,h1,h2,h3⟩=>⟨g,cap,cur,h1,Nat.le_trans hB h2,h3⟩⟩
theorem zF8 (w:World)(cs:List Value)(t:TypeId):∀j u,cs[j]?=some u→(w.alloc (.cells cs.toArray t)).cell? ((⟨w.heap.size,0,none⟩:Addr).add j)=some u:=by
 intro j u hj;rw[show(⟨w.heap.size,0,none⟩:Addr).add j=⟨w.heap.size,j,none⟩ by unfold Addr.add;simp;omega,Blk.cell (Blk.new w t _)]
 simpa using hj
theorem zC1 {k:IntKind}{a b:Int}(h:a=b):Ending.returned (.int k a)= .returned (.int k b):=by rw[h]
def zCj (w:World)(A:Option Addr)(ts:List ByteArray):Prop:=∀(j:Nat) (s:ByteArray),ts[j]?=some s→s.size≤9223372036854775807∧∃ad:Addr,A=some ad∧ad.block<w.heap.size∧w.cell? (ad.add j)=some (.string s)
theorem zCj.keep {w w':World}{A:Option Addr}{ts:List ByteArray}(h:zCj w A ts)(hb:Below w.heap.size w w'):zCj w' A ts:=fun j s hj=>by
 obtain⟨hf,ad,hA,hlt,hc⟩:=h j s hj;exact⟨hf,ad,hA,ll hlt hb.size,(hb.cell (by rw[add_block];exact hlt)).trans hc⟩
theorem zCj.drew {w:World}{A:Option Addr}{ts:List ByteArray}(h:zCj w A ts):zCj w.drew A ts:=h
theorem zCj.alloc {w:World}{A:Option Addr}{ts:List ByteArray}(h:zCj w A ts)(o:Obj):zCj (w.alloc o) A ts:=h.keep (zA0 w o)
def OwnI (w:World)(B:Nat)(v:Value)(xs:List Int):Prop:=w.ownsRow B 3 1 v xs.length (xs.map (Value.int .i64))
theorem OwnI.keep {w w':World}{B:Nat}{v:Value}{xs:List Int}(h:OwnI w B v xs)(hb:Below w.heap.size w w'):OwnI w' B v xs:=own_below h hb
theorem OwnI.more {w:World}{B B':Nat}{v:Value}{xs:List Int}(h:OwnI w B v xs)(hB:B'≤B):OwnI w B' v xs:=zFi h hB
theorem OwnI.nil (w:World)(B:Nat):OwnI w B (.slice none 0 0) []:=World.ownsRow_nil _ _ _ _
def zF9 (w:World)(A:Option Addr)(xs:List Int):Prop:=∀(j:Nat) (x:Int),xs[j]?=some x→∃g:Nat,A=some ⟨g,0,none⟩∧(∃cs,Blk w g 3 cs)∧w.cell? ⟨g,j,none⟩=some (.int .i64 x)
theorem OwnI.form {w:World}{B:Nat}{v:Value}{xs:List Int}(h:OwnI w B v xs):∃A cap,v= .slice A xs.length cap∧xs.length≤cap∧cap≤9223372036854775807∧zF9 w A xs:=by
 obtain⟨h1,h2⟩:=h;rcases h2 with⟨rfl,h0⟩|⟨g,cap,cur,rfl,hg,hb,hn,hc,hs,ht⟩
 ·obtain rfl:xs=[]:=List.length_eq_zero_iff.1 h0;exact⟨none,0,rfl,by simp,by omega,fun j p hj=>by simp at hj⟩
 ·have hb':Blk w g 3 cur:=hb;refine⟨_,cap,rfl,hn,by unfold maxLen at hc;omega,fun j p hj=>⟨g,rfl,⟨_,hb'⟩,?_⟩⟩;rw[hb'.cell];have h3:(xs.map (Value.int .i64))[j]?=some (.int .i64 p):=by simp[hj]
  rw[←ht,List.getElem?_take] at h3
  split at h3
  ·simpa using h3
  ·cases h3
theorem zF9.keep {w w':World}{A:Option Addr}{xs:List Int}(h:zF9 w A xs)(hb:Below w.heap.size w w'):zF9 w' A xs:=fun j p hj=>by
 obtain⟨g,h1,⟨cs,h2⟩,h3⟩:=h j p hj;exact⟨g,h1,⟨cs,_root_.Go.Proofs.YtadcldfbmkfkaaaGreatDoor.keep hb h2⟩,(hb.cell (p:=⟨g,j,none⟩) h2.lt).trans h3⟩
theorem zJh {w:World}{B n:Nat}{v:Value}{xs:List Int}{c:Int}(hn:xs.length=n)(h:w.ownsRow B 3 1 v (n+1) ((xs.map (Value.int .i64))++[.int .i64 c])):OwnI w B v (xs++[c]):=by
 unfold OwnI;rw[List.length_append,hn,List.map_append,List.map_cons,List.map_nil];exact h
theorem zGp:(Tryz.prog.info? 3).map (fun i=>(i.zero,i.size,i.bytes))=some (some (.int .i64 0),1,8):=by kernel_rfl
theorem zIi:(Tryz.prog.info? 140).map (fun i=>(i.zero,i.size,i.bytes))=some (some (.pointer none),1,8):=by kernel_rfl
abbrev ptrV (g:Nat):Value:=.pointer (some ⟨g,0,none⟩)
abbrev shC (rs:List Rul)(r a:Int)(k0 k1:Value):Array Value:= #[.int .i64 r,.int .i64 a,.int .i64 (zEz rs r),k0,k1]
inductive ShAt (rs:List Rul) (w:World):Nat→Rd→Prop
 |leaf (g:Nat) (r a:Int) (hb:Blk w g 185 (shC rs r a (.pointer none) (.pointer none))):ShAt rs w g (.mk r a [])
 |one (g:Nat) (r a:Int) (g0:Nat) (x:Rd) (hb:Blk w g 185 (shC rs r a (ptrV g0) (.pointer none))) (hx:ShAt rs w g0 x):ShAt rs w g (.mk r a [x])
 |two (g:Nat) (r a:Int) (g0 g1:Nat) (x y:Rd) (hb:Blk w g 185 (shC rs r a (ptrV g0) (ptrV g1))) (hx:ShAt rs w g0 x) (hy:ShAt rs w g1 y):ShAt rs w g (.mk r a [x,y])
theorem ShAt.map {rs:List Rul}{w w':World}(hk:∀g cs,Blk w g 185 cs→Blk w' g 185 cs){g:Nat}{x:Rd}(h:ShAt rs w g x):ShAt rs w' g x:=by
 induction h with
 |leaf g r a hb=>exact .leaf g r a (hk _ _ hb)
 |one g r a g0 x hb _ ih=>exact .one g r a g0 x (hk _ _ hb) ih
 |two g r a g0 g1 x y hb _ _ ih1 ih2=>exact .two g r a g0 g1 x y (hk _ _ hb) ih1 ih2
theorem ShAt.keep {rs:List Rul}{w w':World}{g:Nat}{x:Rd}(h:ShAt rs w g x)(hb:Below w.heap.size w w'):ShAt rs w' g x:=h.map fun _ _ h=>_root_.Go.Proofs.YtadcldfbmkfkaaaGreatDoor.keep hb h
theorem ShAt.blk {rs:List Rul}{w:World}{g:Nat}{x:Rd}(h:ShAt rs w g x):∃k0 k1,Blk w g 185 (shC rs x.rule x.at_ k0 k1):=by
 cases h with
 |leaf _ r a hb=>exact⟨_,_,hb⟩
 |one _ r a g0 x hb _=>exact⟨_,_,hb⟩
 |two _ r a g0 g1 x y hb _ _=>exact⟨_,_,hb⟩
theorem zCr {w:World}{g:Nat}{t t':TypeId}{cs cs':Array Value}(h:Blk w g t cs)(h':Blk w g t' cs'):t=t':=by
 unfold Blk at h h';rw[h] at h';simp only[Option.some.injEq,Obj.cells.injEq] at h';exact h'.2.1
theorem ShAt.grown {rs:List Rul}{w w':World}{row:Option Nat}{g:Nat}{x:Rd}(h:ShAt rs w g x)(hg:w.grownBy w' row)(hr:∀b,row=some b→∃t cs,Blk w b t cs∧t≠185):ShAt rs w' g x:=
 h.map fun b cs hb=>hb.grown hg fun e=>by
  obtain⟨t,cs',h1,h2⟩:=hr b e.symm;exact h2 (zCr h1 hb)
def Shs (rs:List Rul)(w:World)(bs:List Nat)(xs:List Rd):Prop:=bs.length=xs.length∧∀(j b:Nat) (x:Rd),bs[j]?=some b→xs[j]?=some x→ShAt rs w b x
theorem Shs.keep {rs:List Rul}{w w':World}{bs:List Nat}{xs:List Rd}(h:Shs rs w bs xs)(hb:Below w.heap.size w w'):Shs rs w' bs xs:=⟨h.1,fun j b x h1 h2=>(h.2 j b x h1 h2).keep hb⟩
theorem Shs.map {rs:List Rul}{w w':World}{bs:List Nat}{xs:List Rd}(h:Shs rs w bs xs)(hk:∀g cs,Blk w g 185 cs→Blk w' g 185 cs):Shs rs w' bs xs:=⟨h.1,fun j b x h1 h2=>(h.2 j b x h1 h2).map hk⟩
theorem Shs.nil {rs:List Rul}{w:World}:Shs rs w [] []:=⟨rfl,fun j b x h=>by simp at h⟩
theorem Shs.snoc {rs:List Rul}{w:World}{bs:List Nat}{xs:List Rd}{b:Nat}{x:Rd}(h:Shs rs w bs xs)(hx:ShAt rs w b x):Shs rs w (bs++[b]) (xs++[x]):=by
 refine⟨by simp[h.1],fun j b' x' h1 h2=>?_⟩;rcases Nat.lt_or_ge j bs.length with hj|hj
 ·rw[List.getElem?_append_left hj] at h1;rw[List.getElem?_append_left (by rw[←h.1];exact hj)] at h2;exact h.2 j b' x' h1 h2
 ·rw[List.getElem?_append_right hj] at h1;rw[List.getElem?_append_right (by rw[←h.1];exact hj),←h.1] at h2
  by_cases e:j -bs.length=0
  ·rw[e] at h1 h2;obtain rfl:b=b':=by simpa using h1
   obtain rfl:x=x':=by simpa using h2
   exact hx
  ·rw[List.getElem?_eq_none (by simp;omega)] at h1;cases h1
theorem Shs.append {rs:List Rul}{w:World}{bs cs:List Nat}{xs ys:List Rd}(h:Shs rs w bs xs)(h':Shs rs w cs ys):Shs rs w (bs++cs) (xs++ys):=by
 refine⟨by simp[h.1,h'.1],fun j b' x' h1 h2=>?_⟩;rcases Nat.lt_or_ge j bs.length with hj|hj
 ·rw[List.getElem?_append_left hj] at h1;rw[List.getElem?_append_left (by rw[←h.1];exact hj)] at h2;exact h.2 j b' x' h1 h2
 ·rw[List.getElem?_append_right hj] at h1;rw[List.getElem?_append_right (by rw[←h.1];exact hj),←h.1] at h2;exact h'.2 _ b' x' h1 h2
theorem Shs.take {rs:List Rul}{w:World}{bs:List Nat}{xs:List Rd}(h:Shs rs w bs xs)(n:Nat):Shs rs w (bs.take n) (xs.take n):=by
 refine⟨by simp[h.1],fun j b x h1 h2=>?_⟩;rw[List.getElem?_take] at h1 h2
 split at h1
 ·rw[if_pos ‹_›] at h2;exact h.2 j b x h1 h2
 ·cases h1
def OwnP (w:World)(B:Nat)(v:Value)(bs:List Nat):Prop:=w.ownsRow B 140 1 v bs.length (bs.map ptrV)
theorem OwnP.keep {w w':World}{B:Nat}{v:Value}{bs:List Nat}(h:OwnP w B v bs)(hb:Below w.heap.size w w'):OwnP w' B v bs:=own_below h hb
theorem OwnP.more {w:World}{B B':Nat}{v:Value}{bs:List Nat}(h:OwnP w B v bs)(hB:B'≤B):OwnP w B' v bs:=zFi h hB
theorem OwnP.nil (w:World)(B:Nat):OwnP w B (.slice none 0 0) []:=World.ownsRow_nil _ _ _ _
theorem zGu {w:World}{B n:Nat}{v:Value}{bs:List Nat}{b:Nat}(hn:bs.length=n)(h:w.ownsRow B 140 1 v (n+1) ((bs.map ptrV)++[ptrV b])):OwnP w B v (bs++[b]):=by
 unfold OwnP;rw[List.length_append,hn,List.map_append,List.map_cons,List.map_nil];exact h
def zEr (w:World)(A:Option Addr)(bs:List Nat):Prop:=∀(j b:Nat),bs[j]?=some b→∃g:Nat,A=some ⟨g,0,none⟩∧(∃cs,Blk w g 140 cs)∧w.cell? ⟨g,j,none⟩=some (ptrV b)
theorem OwnP.form {w:World}{B:Nat}{v:Value}{bs:List Nat}(h:OwnP w B v bs):∃A cap,v= .slice A bs.length cap∧bs.length≤cap∧cap≤9223372036854775807∧zEr w A bs:=by
 obtain⟨h1,h2⟩:=h;rcases h2 with⟨rfl,h0⟩|⟨g,cap,cur,rfl,hg,hb,hn,hc,hs,ht⟩
 ·obtain rfl:bs=[]:=List.length_eq_zero_iff.1 h0;exact⟨none,0,rfl,by simp,by omega,fun j p hj=>by simp at hj⟩
 ·have hb':Blk w g 140 cur:=hb;refine⟨_,cap,rfl,hn,by unfold maxLen at hc;omega,fun j p hj=>⟨g,rfl,⟨_,hb'⟩,?_⟩⟩;rw[hb'.cell];have h3:(bs.map ptrV)[j]?=some (ptrV p):=by simp[hj]
  rw[←ht,List.getElem?_take] at h3
  split at h3
  ·simpa using h3
  ·cases h3
theorem zEr.keep {w w':World}{A:Option Addr}{bs:List Nat}(h:zEr w A bs)(hb:Below w.heap.size w w'):zEr w' A bs:=fun j p hj=>by
 obtain⟨g,h1,⟨cs,h2⟩,h3⟩:=h j p hj;exact⟨g,h1,⟨cs,_root_.Go.Proofs.YtadcldfbmkfkaaaGreatDoor.keep hb h2⟩,(hb.cell (p:=⟨g,j,none⟩) h2.lt).trans h3⟩
theorem zEr.set_ {w:World}{A:Option Addr}{bs:List Nat}(h:zEr w A bs){p:Addr}{t:TypeId}{cs:Array Value}(hp:Blk w p.block t cs)(ht:t≠140)(u:Value):zEr (w.setCell p u) A bs:=fun j b hj=>by
 obtain⟨g,h1,⟨cs',h2⟩,h3⟩:=h j b hj;have hne:g≠p.block:=fun e=>by rw[e] at h2;exact ht (zCr hp h2)
 exact⟨g,h1,⟨cs',h2.far hne u⟩,(World.cell?_setCell_other w p ⟨g,j,none⟩ u (fun e=>hne (by rw[e]))).trans h3⟩
theorem Shs.set_ {rs:List Rul}{w:World}{bs:List Nat}{xs:List Rd}(h:Shs rs w bs xs){p:Addr}{t:TypeId}{cs:Array Value}(hp:Blk w p.block t cs)(ht:t≠185)(u:Value):Shs rs (w.setCell p u) bs xs:=
 h.map fun g cs' hb=>hb.far (fun e=>by rw[e] at hb;exact ht (zCr hp hb)) u
theorem zF9.set_ {w:World}{A:Option Addr}{xs:List Int}(h:zF9 w A xs){p:Addr}{t:TypeId}{cs:Array Value}(hp:Blk w p.block t cs)(ht:t≠3)(u:Value):zF9 (w.setCell p u) A xs:=fun j b hj=>by
 obtain⟨g,h1,⟨cs',h2⟩,h3⟩:=h j b hj;have hne:g≠p.block:=fun e=>by rw[e] at h2;exact ht (zCr hp h2)
 exact⟨g,h1,⟨cs',h2.far hne u⟩,(World.cell?_setCell_other w p ⟨g,j,none⟩ u (fun e=>hne (by rw[e]))).trans h3⟩
structure Fin where
 R:Option Addr
 cR:Nat
 T:Option Addr
 cT:Nat
 I:Option Addr
 cI:Nat
 P:Option Addr
 cP:Nat
 Q:Option Addr
 cQ:Nat
abbrev Fin.c (F:Fin)(n m:Nat)(jx:Int):Array Value:= #[.slice F.R n F.cR,.slice F.T m F.cT,.slice F.I m F.cI,.slice F.P m F.cP,.slice F.Q m F.cQ,.int .i64 jx]
def zD1 (rs:List Rul)(ts:List ByteArray)(kind:Int):List Int:=ts.map fun t=>zAc rs kind t.toList
theorem zGo {rs:List Rul}{ts:List ByteArray}{kind:Int}:(zD1 rs ts kind).length=ts.length:=by unfold zD1;simp
theorem zGy {rs:List Rul}{ts:List ByteArray}{kind:Int}{k:Nat}(hk:k<ts.length):(zD1 rs ts kind)[k]?=some (zAc rs kind (tokL ts k)):=by
 unfold zD1 tokL;rw[List.getElem?_map,List.getD_eq_getElem?_getD,gE hk];rfl
structure zI5 (w:World)(F:Fin)(rs:List Rul)(ts:List ByteArray):Prop where
 rules:zAi w F.R rs
 toks:zCj w F.T ts
 inf:zF9 w F.I (zD1 rs ts 1)
 pre:zF9 w F.P (zD1 rs ts 2)
 post:zF9 w F.Q (zD1 rs ts 3)
theorem zI5.keep {w w':World}{F:Fin}{rs:List Rul}{ts:List ByteArray}(h:zI5 w F rs ts)(hb:Below w.heap.size w w'):zI5 w' F rs ts:=⟨h.rules.keep hb,h.toks.keep hb,h.inf.keep hb,h.pre.keep hb,h.post.keep hb⟩
theorem zI5.drew {w:World}{F:Fin}{rs:List Rul}{ts:List ByteArray}(h:zI5 w F rs ts):zI5 w.drew F rs ts:=⟨h.rules,h.toks,h.inf,h.pre,h.post⟩
theorem zF9.num {w:World}{A:Option Addr}{xs:List Int}(h:zF9 w A xs){k:Nat}{x:Int}(hx:xs[k]?=some x):∃g:Nat,A=some ⟨g,0,none⟩∧w.cell? ⟨g,k,none⟩=some (.int .i64 x):=by
 obtain⟨g,h1,_,h2⟩:=h k x hx;exact⟨g,h1,h2⟩
theorem zA6 (a:Addr)(n:Nat):(a.add n).block=a.block:=by unfold Addr.add;split<;>rfl
theorem zRw (a:Addr)(i j:Nat):(a.add i).add j=a.add (i+j):=by
 unfold Addr.add
 by_cases hi:i=0<;>by_cases hj:j=0<;>simp[hi,hj,Nat.add_assoc]
def Reads (w:World)(B size:Nat)(A:Option Addr)(n:Nat)(xs:List Value):Prop:=
 xs.length=n*size∧(0<n→∃ad,A=some ad∧ad.block<B∧∀j u,xs[j]?=some u→w.cell? (ad.add j)=some u)
section
variable {w w' : World} {B B' size n : Nat} {A : Option Addr} {xs : List Value}
theorem Reads.at_ {k:Nat}(h:Reads w B 1 A n xs)(hk:k<n):∃ad u,A=some ad∧ad.block<B∧xs[k]?=some u∧w.cell? (ad.add k)=some u:=by
 obtain⟨ad,e,hb,hc⟩:=h.2 (by omega);have hl:k<xs.length:=by have:=h.1;omega
 exact⟨ad,xs[k],e,hb,gE hl,hc k _ (gE hl)⟩
theorem Reads.keep (h:Reads w B size A n xs)(hk:∀p:Addr,p.block<B→w'.cell? p=w.cell? p):Reads w' B size A n xs:=
 ⟨h.1,fun hn=>by
  obtain⟨ad,e,hb,hc⟩:=h.2 hn;exact⟨ad,e,hb,fun j u hu=>(hk _ (by rw[zA6];exact hb)).trans (hc j u hu)⟩⟩
theorem Reads.more (h:Reads w B size A n xs)(hB:B≤B'):Reads w B' size A n xs:=
 ⟨h.1,fun hn=>by
  obtain⟨ad,e,hb,hc⟩:=h.2 hn;exact⟨ad,e,by omega,hc⟩⟩
theorem Reads.below (h:Reads w B size A n xs)(hb:Below B w w'):Reads w' B size A n xs:=h.keep fun _ hp=>hb.cell hp
theorem Reads.drew (h:Reads w B size A n xs):Reads w.drew B size A n xs:=h
theorem Reads.drewN (h:Reads w B size A n xs)(k:Nat):Reads (w.drewN k) B size A n xs:=h
theorem Reads.alloc (h:Reads w B size A n xs)(hB:B≤w.heap.size)(o:Obj):Reads (w.alloc o) B size A n xs:=h.keep fun p hp=>World.cell?_alloc_lt w o p (by omega)
theorem Reads.setCell (h:Reads w B size A n xs){p:Addr}(hB:B≤p.block)(u:Value):Reads (w.setCell p u) B size A n xs:=
 h.keep fun q hq=>World.cell?_setCell_other w p q u (fun e=>by subst e;omega)
theorem Reads.grown (h:Reads w B size A n xs){row:Option Nat}(hg:w.grownBy w' row)(hB:B≤w.heap.size)(hr:∀g,row=some g→B≤g):Reads w' B size A n xs:=
 h.keep fun p hp=>World.cell?_of_block (hg.block p.block (by omega) (fun e=>by have:=hr _ e.symm;omega))
theorem Reads.zK6 {base:Nat}{e:TypeId}{c:Nat}(h:w.ownsRow base e size (.slice A n c) n xs):Reads w w.heap.size size A n xs:=by
 refine⟨h.1,fun hn=>?_⟩;obtain⟨g,cap,hv,_,hlt⟩:=h.form hn;have hA:A=some ⟨g,0,none⟩:=by injection hv
 subst hA;exact⟨_,rfl,hlt,h.cells (g:=g) rfl⟩
end
section
variable {P : Program} (w : World)
theorem zH5 (base:Nat)(t ty e:TypeId)(i:TypeInfo)(size:Nat)(ht:P.underlying t=some (.slice e))(hi:P.info? e=some i)
  (v:Value) (n:Nat) (xs:List Value) (hown:w.ownsRow base e size v n xs) (c:Nat):(Builtin.append_ #[t,t] ty #[v,.slice none 0 c]).run P w= .ok v w:=by
 rcases hown.2 with⟨rfl,rfl⟩|⟨g,cap,cur,rfl,_,_,hnc,_⟩
 ·simp[Builtin.append_,run_underlying ht,sizeOf,typeInfo,hi,Builtin.lenOf,Builtin.firstCells]
 ·simp[Builtin.append_,run_underlying ht,sizeOf,typeInfo,hi,Builtin.lenOf,Builtin.firstCells,hnc,storeCells]
theorem zFv (base:Nat)(t ty e:TypeId)(i:TypeInfo)(z:Value)(size bytes:Nat)(ht:P.underlying t=some (.slice e))(hi:P.info? e=some i)(hz:i.zero=some z)
  (hsize:i.size=size) (hby:i.bytes=bytes) (hzs:z.cells.size=size) (hsz:0<size)
  (v:Value) (n:Nat) (xs:List Value) (hown:w.ownsRow base e size v n xs)
  (B:Nat) (A:Option Addr) (m c:Nat) (news:List Value) (hr:Reads w B size A m news) (h1:∀u∈news,u.oneCell'=true)
  (h63:n+m≤maxLen) (hbytes:(n+m)*bytes≤140737488355328) (hbase:base≤w.heap.size):
  ∃v' w',(Builtin.append_ #[t,t] ty #[v,.slice A m c]).run P w= .ok v' w'∧w'.ownsRow base e size v' (n+m) (xs++news)∧w.grownBy w' v.ownBlock∧
   (v'.ownBlock=v.ownBlock∨v'.ownBlock=some w.heap.size):=by
 rcases A with _|ad
 ·have hm:m=0:=by
   rcases Nat.eq_zero_or_pos m with h0|h0
   ·exact h0
   ·obtain⟨ad,h,_⟩:=hr.2 h0;cases h
  subst hm;have hn:news=[]:=List.eq_nil_of_length_eq_zero (by simpa using hr.1);subst hn;exact⟨v,w,zH5 w base t ty e i size ht hi v n xs hown c,by simpa using hown,World.grownBy.refl w _,.inl rfl⟩
 ·have hcells:∀j u,news[j]?=some u→w.cell? (ad.add j)=some u:=by
   intro j u hu;rcases Nat.eq_zero_or_pos m with h0|h0
   ·subst h0;have hn:news=[]:=List.eq_nil_of_length_eq_zero (by simpa using hr.1);subst hn;simp at hu
   ·obtain⟨ad',h,_,hc⟩:=hr.2 h0;injection h with h;subst h;exact hc j u hu
  obtain⟨v',w',hrun,h2,h3,_,h5⟩:=run_append_own_at (P:=P) w base t ty e i z size bytes ht hi hz hsize hby hzs hsz v n xs hown ad m c news hr.1 hcells h1 h63 hbytes hbase;exact⟨v',w',hrun,h2,h3,h5⟩
theorem zMa {o:Oper}{a:Act}{K:Act→World→Prop}{Q:Exit→Act→World→Prop}(s x:Operand)(t:TypeId)
  (ho:o.op= .call {callee:=.builtin .append,args:= #[s,x],argTypes:= #[t,t]})
  (base:Nat) (e:TypeId) (i:TypeInfo) (z:Value) (size bytes:Nat) (ht:P.underlying t=some (.slice e)) (hi:P.info? e=some i) (hz:i.zero=some z)
  (hsize:i.size=size) (hby:i.bytes=bytes) (hzs:z.cells.size=size) (hsz:0<size)
  (v:Value) (n:Nat) (xs:List Value) (hs:a.eval s=v) (hown:w.ownsRow base e size v n xs)
  (B:Nat) (A:Option Addr) (m c:Nat) (news:List Value) (hx:a.eval x= .slice A m c) (hr:Reads w B size A m news) (h1:∀u∈news,u.oneCell'=true)
  (h63:n+m≤maxLen) (hbytes:(n+m)*bytes≤140737488355328) (hbase:base≤w.heap.size)
  (h:∀v' w',w'.ownsRow base e size v' (n+m) (xs++news)→w.grownBy w' v.ownBlock→(v'.ownBlock=v.ownBlock∨v'.ownBlock=some w.heap.size)→K (a.put o.dst v') w'):o.wp P a w K Q:=by
 obtain⟨v',w',hrun,h2,h3,h4⟩:=zFv (P:=P) w base t o.type e i z size bytes ht hi hz hsize hby hzs hsz v n xs hown B A m c news hr h1 h63 hbytes hbase;unfold Oper.wp execOp;simp only[ho,resolve,invoke,builtin,Sem.run_bind,Sem.run_pure,Result.andThen_ok,List.map_toArray,List.map_cons,List.map_nil,hs,hx,hrun];exact h v' w' h2 h3 h4
theorem zAo {ops:Array Oper}{rest:List Oper}{o:Oper}{a:Act}{Q:Exit→Act→World→Prop}(hgd:o.guard=none)(s x:Operand)(t:TypeId)
  (ho:o.op= .call {callee:=.builtin .append,args:= #[s,x],argTypes:= #[t,t]})
  (base:Nat) (e:TypeId) (i:TypeInfo) (z:Value) (size bytes:Nat) (ht:P.underlying t=some (.slice e)) (hi:P.info? e=some i) (hz:i.zero=some z)
  (hsize:i.size=size) (hby:i.bytes=bytes) (hzs:z.cells.size=size) (hsz:0<size)
  (v:Value) (n:Nat) (xs:List Value) (hs:a.eval s=v) (hown:w.ownsRow base e size v n xs)
  (B:Nat) (A:Option Addr) (m c:Nat) (news:List Value) (hx:a.eval x= .slice A m c) (hr:Reads w B size A m news) (h1:∀u∈news,u.oneCell'=true)
  (h63:n+m≤maxLen) (hbytes:(n+m)*bytes≤140737488355328) (hbase:base≤w.heap.size)
  (h:∀v' w',w'.ownsRow base e size v' (n+m) (xs++news)→w.grownBy w' v.ownBlock→(v'.ownBlock=v.ownBlock∨v'.ownBlock=some w.heap.size)→wpList P ops Q rest (a.put o.dst v') w'):wpList P ops Q (o::rest) a w:=
 wpList_plain hgd fun _ hK=>zMa w s x t ho base e i z size bytes ht hi hz hsize hby hzs hsz v n xs hs hown B A m c news hx hr h1 h63 hbytes hbase fun v' w' h2 h3 h4=>hK _ _ (h v' w' h2 h3 h4)
end
section
variable {P : Program}
theorem zBg {w:World}{F:Act}{o:Oper}{R:Value→World→Prop}(s x:Operand)(t:TypeId)
  (ho:o.op= .call {callee:=.builtin .append,args:= #[s,x],argTypes:= #[t,t]})
  (base:Nat) (e:TypeId) (i:TypeInfo) (z:Value) (size bytes:Nat) (ht:P.underlying t=some (.slice e)) (hi:P.info? e=some i) (hz:i.zero=some z)
  (hsize:i.size=size) (hby:i.bytes=bytes) (hzs:z.cells.size=size) (hsz:0<size)
  (v:Value) (n:Nat) (xs:List Value) (hs:F.eval s=v) (hown:w.ownsRow base e size v n xs)
  (B:Nat) (A:Option Addr) (m c:Nat) (news:List Value) (hx:F.eval x= .slice A m c) (hr:Reads w B size A m news) (h1:∀u∈news,u.oneCell'=true)
  (h63:n+m≤maxLen) (hbytes:(n+m)*bytes≤140737488355328) (hbase:base≤w.heap.size)
  (h:∀v' w',w'.ownsRow base e size v' (n+m) (xs++news)→w.grownBy w' v.ownBlock→(v'.ownBlock=v.ownBlock∨v'.ownBlock=some w.heap.size)→R v' w'):Gives P (execOp F.eval o) w R:=by
 obtain⟨v',w',hrun,h2,h3,h4⟩:=zFv (P:=P) w base t o.type e i z size bytes ht hi hz hsize hby hzs hsz v n xs hown B A m c news hr h1 h63 hbytes hbase;refine Gives.value (v:=v') (w':=w') ?_ (h v' w' h2 h3 h4);unfold execOp;simp only[ho,resolve,invoke,builtin,Sem.run_bind,Sem.run_pure,Result.andThen_ok,List.map_toArray,List.map_cons,List.map_nil,hs,hx,hrun]
theorem zH4 {w:World}{g:Nat}{t:TypeId}{u:Value}(h:Blk w g t #[u]):Reads w w.heap.size 1 (some ⟨g,0,none⟩) 1 [u]:=
 ⟨rfl,fun _=>⟨⟨g,0,none⟩,rfl,h.lt,fun j v hj=>by
  have e:(⟨g,0,none⟩:Addr).add j=⟨g,j,none⟩:=by unfold Addr.add;split<;>simp_all
  rw[e,h.cell]
  simpa using hj⟩⟩
end
end Go.Proofs.YtadcldfbmkfkaaaGreatDoor.Ch
