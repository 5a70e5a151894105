/- Paths: slices.Grow and slices.Concat of integers; fail. -/
import Derived.Test.YtchllommcolijaaGreatDoorH8613a6bb
import Derived.Lib.AppendZerosOnto
namespace Go.Proofs.YtchllommcolijaaGreatDoor.El
open At Ch Sp Sy Go.RowKit
theorem zFd:(Tryz.prog.info? 3).map (fun i=>(i.zero,i.size,i.bytes))=some (some (.int .i64 0),1,8):=by kernel_rfl
theorem zM1 (v:Value)(n:Nat):(Builtin.zeroCells #[v] n).size=n:=by
 simp[Builtin.zeroCells]
set_option maxRecDepth 100000 in
set_option maxHeartbeats 1600000 in
theorem zVy (n:Nat)(w:World)(h1:0<n)(h2:n≤1000000):Calls Tryz.prog 55 #[.slice none 0 0,.int .i64 n] w fun e w'=>∃v,e= .returned v∧w'.ownsRow w.heap.size 3 1 v 0 []∧Below w.heap.size w w':=by
 obtain⟨i0,hi,hz0,hz1,hz2⟩:=info_parts zFd;have hrz:=Go.Lib.run_append_grow_zeros (P:=Tryz.prog) w 32 3 32 3 i0 (.int .i64 0) .i64 .i64 Tryz.underlying32 Tryz.underlying3 hi hz0 none 0 0 [] (run_firstCells_none w.drew i0.size 0 0 0) n h1 (by omega) (by omega) (by omega) (by rw[hz2];omega) (growslice_fits (by omega) (by rw[hz2];omega));have hGn:0+n≤grownCap w (0+n) 0 3:=grownCap_ge w _ _ _;have hG63:grownCap w (0+n) 0 3≤maxLen:=grownCap_le_maxLen w (0+n) 0 3 (by unfold maxLen;omega);generalize grownCap w (0+n) 0 3=G at*;rw[Nat.zero_add] at hrz hGn;have hG:G≤9223372036854775807:=by unfold maxLen at hG63;omega
 have q1:¬((n:Int)<0):=by omega
 have q2:(n:Int)>0:=by omega
 have q3:(0:Int)<(n:Int):=by omega
 have W1:wrap64 (n:Int)=(n:Int):=by unfold wrap64;omega
 go_enter Tryz.func55,Tryz.ntmps55;go_wp2_with (at_builtin;refine Lib.wpList_append_run _ rfl _ _ _ _ rfl _ _ rfl rfl _ _ hrz ?_)
 go_ret;refine⟨_,rfl,⟨rfl,.inr ⟨w.heap.size,G,Builtin.zeroCells #[.int .i64 0] n++Builtin.zeroCells #[.int .i64 0] (G -n),rfl,Nat.le_refl _,?_,Nat.zero_le _,hG63,?_,by simp⟩⟩,?_⟩
 ·exact Blk.new w 3 _
 ·rw[Array.size_append,zM1,zM1];omega
 ·exact zA2 (zA1 w _)
def sz2 (n m k:Nat):Nat:=if k=0 then 0 else if k=1 then n else n+m
def up2 (xs ys:List Value)(k:Nat):List Value:=if k=0 then[] else if k=1 then xs else xs++ys
set_option maxRecDepth 100000 in
set_option maxHeartbeats 4000000 in
theorem zRq (g:Nat)(A1 A2:Option Addr)(n m c1 c2:Nat)(xs ys:List Value)(w:World)(hb:Blk w g 32 #[.slice A1 n c1,.slice A2 m c2])(h1:Reads w w.heap.size 1 A1 n xs)(h2:Reads w w.heap.size 1 A2 m ys)(o1:∀u∈xs,u.oneCell'=true)(o2:∀u∈ys,u.oneCell'=true)(hn:0<n+m)(hm:n+m≤1000000):
  Calls Tryz.prog 29 #[.slice (some ⟨g,0,none⟩) 2 2] w fun e w'=>∃v,e= .returned v∧w'.ownsRow w.heap.size 3 1 v (n+m) (xs++ys)∧Below w.heap.size w w':=by
 obtain⟨i0,hi,hz0,hz1,hz2⟩:=info_parts zFd;have K0:=zh hb;have H1:=zh h1;have H2:=zh h2;have O1:=zh o1;have O2:=zh o2;clear hb h1 h2 o1 o2;go_enter Tryz.func29,Tryz.ntmps29;go_wp2_with fail
 go_loopw [3,11] (fun s i wr=>∃k:Nat,k≤2∧i= .int .i64 k∧s= .int .i64 (sz2 n m k:Nat)∧wr=w) (fun _ i _=>2 -(intOf i).toNat)
 case atStart=>exact⟨0,by omega,rfl,rfl,rfl⟩
 case round=>
  obtain⟨k,hk,rfl,rfl,rfl⟩:=hrel;have k0:wr.cell? ⟨g,0,none⟩=some (.slice A1 n c1):=K0.out.cell 0;have k1:wr.cell? ⟨g,1,none⟩=some (.slice A2 m c2):=K0.out.cell 1;rcases(show k=0∨k=1∨k=2 by omega) with rfl|rfl|rfl
  ·have q:¬((n:Int)<0):=by omega
   have W1:wrap64 (n:Int)=(n:Int):=by unfold wrap64;omega
   unfold sz2;go_wp2_with fail;go_roundw
   case rel=>exact⟨1,by omega,by go_num,rfl,trivial⟩
   case measure=>simp[intOf]
  ·have q:¬((n:Int)+(m:Int)<0):=by omega
   have W1:wrap64 ((n:Int)+(m:Int))=(n:Int)+(m:Int):=by unfold wrap64;omega
   unfold sz2;go_wp2_with fail;go_roundw
   case rel=>exact⟨2,by omega,by go_num,by simp,trivial⟩
   case measure=>simp[intOf]
  ·have HS:=zh (show sz2 n m 2=n+m from rfl);rw[HS.out];clear k0 k1;obtain⟨wo,hwo⟩:∃wo,wo=wr:=⟨_,rfl⟩
   subst hwo;go_wp2_with fail;refine(zVy (n+m) wo hn hm).mono ?_;rintro e w1 ⟨v,rfl,ho,hb⟩;have HO:=zh ho;have HB:=zh hb;clear ho hb;go_wp2_with fail
   go_loopw [6,27] (fun v i wr=>∃k:Nat,k≤2∧i= .int .i64 k∧Hid (wr.ownsRow wo.heap.size 3 1 v (sz2 n m k) (up2 xs ys k))∧Hid (Below wo.heap.size wo wr)) (fun _ i _=>2 -(intOf i).toNat)
   case atStart=>exact⟨0,by omega,rfl,HO,HB⟩
   case round=>
    clear HO HB;obtain⟨k,hk,rfl,HO,HB⟩:=hrel;rcases(show k=0∨k=1∨k=2 by omega) with rfl|rfl|rfl
    ·have HO1:=zh (show wr.ownsRow wo.heap.size 3 1 u6 0 [] from HO.out);have HBL:=zh (World.ownsRow.lt HO1.out);have HR:=zh (H1.out.below HB.out);have hsz:=HB.out.size;have kk:wr.cell? ⟨g,0,none⟩=some (.slice A1 n c1):=(keep HB.out K0.out).cell 0;clear HO;go_wp2_with (at_builtin;refine zAb _ rfl (.tmp 31) (.tmp 32) 32 rfl wo.heap.size 3 i0 (.int .i64 0) 1 8 Tryz.underlying32 hi hz0 hz1 hz2 rfl (by decide) _ _ _ rfl HO1.out wo.heap.size A1 n c1 xs rfl HR.out O1.out ?c63 ?cby hsz ?_)
     case c63=>unfold maxLen;omega
     case cby=>omega
     intro v' w' ho' hgr _;have NO:=zh (show w'.ownsRow wo.heap.size 3 1 v' (sz2 n m 1) (up2 xs ys 1) by simpa [sz2,up2] using ho');have NB:=zh (HB.out.grown hgr hsz (fun j hj=>(HBL.out j hj).1));clear ho' hgr HO1 HB kk;go_wp2_with fail;go_roundw
     case rel=>exact⟨1,by omega,by go_num,NO,NB⟩
     case measure=>simp[intOf]
    ·have HO1:=zh (show wr.ownsRow wo.heap.size 3 1 u6 n xs from HO.out);have HBL:=zh (World.ownsRow.lt HO1.out);have HR:=zh (H2.out.below HB.out);have hsz:=HB.out.size;have kk:wr.cell? ⟨g,1,none⟩=some (.slice A2 m c2):=(keep HB.out K0.out).cell 1;clear HO;go_wp2_with (at_builtin;refine zAb _ rfl (.tmp 31) (.tmp 32) 32 rfl wo.heap.size 3 i0 (.int .i64 0) 1 8 Tryz.underlying32 hi hz0 hz1 hz2 rfl (by decide) _ _ _ rfl HO1.out wo.heap.size A2 m c2 ys rfl HR.out O2.out ?c63 ?cby hsz ?_)
     case c63=>unfold maxLen;omega
     case cby=>omega
     intro v' w' ho' hgr _;have NO:=zh (show w'.ownsRow wo.heap.size 3 1 v' (sz2 n m 2) (up2 xs ys 2) by simpa [sz2,up2] using ho');have NB:=zh (HB.out.grown hgr hsz (fun j hj=>(HBL.out j hj).1));clear ho' hgr HO1 HB kk;go_wp2_with fail;go_roundw
     case rel=>exact⟨2,by omega,by go_num,NO,NB⟩
     case measure=>simp[intOf]
    ·have HO1:=zh (show wr.ownsRow wo.heap.size 3 1 u6 (n+m) (xs++ys) from HO.out);clear HO;go_wp2_with fail;go_ret;exact⟨_,rfl,HO1.out,HB.out⟩
def ints (p:List Int):List Value:=p.map (.int .i64)
theorem zI0 (p:List Int):∀u∈ints p,u.oneCell'=true:=by
 intro u hu;obtain⟨x,_,rfl⟩:=List.mem_map.1 hu;rfl
def zAo (w:World)(A:Option Addr)(p:List Int):Prop:=Reads w w.heap.size 1 A p.length (ints p)
theorem zAo.keep {w w':World}{A:Option Addr}{p:List Int}(h:zAo w A p)(hb:Below w.heap.size w w'):zAo w' A p:=(h.below hb).more hb.size
theorem zIa (g h:Nat)(A:Option Addr)(p:List Int)(c:Nat)(i:Int)(w:World)(hb:Blk w g 32 #[.slice A p.length c,.slice (some ⟨h,0,none⟩) 1 1])(hi:Blk w h 3 #[.int .i64 i])(hp:zAo w A p)(hn:p.length≤999999):
  Calls Tryz.prog 29 #[.slice (some ⟨g,0,none⟩) 2 2] w fun e w'=>(∃q A' c',q=p++[i]∧e= .returned (.slice A' q.length c')∧q.length≤c'∧c'≤9223372036854775807∧zAo w' A' q∧∀ad,A'=some ad→w.heap.size≤ad.block)∧Below w.heap.size w w':=by
 have hr:Reads w w.heap.size 1 (some ⟨h,0,none⟩) 1 (ints [i]):=⟨rfl,fun _=>⟨⟨h,0,none⟩,rfl,hi.lt,fun j u hj=>by
  cases j with
  |succ j=>simp[ints] at hj
  |zero=>
   simp only[ints,List.map_cons,List.map_nil,List.getElem?_cons_zero,Option.some.injEq] at hj;rw[←hj];exact hi.cell 0⟩⟩
 refine(zRq g A (some ⟨h,0,none⟩) p.length 1 c 1 (ints p) (ints [i]) w hb hp hr (zI0 p) (zI0 [i]) (by omega) (by omega)).mono ?_;rintro e w' ⟨v,rfl,ho,hb⟩;refine⟨?_,hb⟩;obtain⟨gv,cap,hv,_,hlt⟩:=ho.form (by omega);obtain⟨_,h2⟩:=ho;rcases h2 with⟨_,h0⟩|⟨gq,cap',cur,e1,hg,hk,hnc,hcm,hs,ht⟩
 ·omega
 ·refine⟨_,some ⟨gq,0,none⟩,cap',rfl,by rw[e1,List.length_append];rfl,by rw[List.length_append];exact hnc,by unfold maxLen at hcm;omega,?_,fun ad ha=>by rw[←sj ha];exact hg⟩;have hxs:ints p++ints [i]=ints (p++[i]):=by simp[ints]
  rw[hxs] at ht;have hlen:(p++[i]).length=p.length+1:=by simp
  have hown:w'.ownsRow w.heap.size 3 1 (.slice (some ⟨gq,0,none⟩) (p.length+1) cap') (p.length+1) (ints (p++[i])):=⟨by simp[ints],.inr ⟨gq,cap',cur,rfl,hg,hk,hnc,hcm,hs,ht⟩⟩
  unfold zAo;rw[hlen];exact Reads.zH3 hown
def zDo (ok:Nat→Prop)(w:World)(g:Nat)(e:Int)(p:List Int):Prop:=∃A c,Blk w g 51 #[.slice A p.length c,.int .i64 e]∧p.length≤c∧c≤9223372036854775807∧zAo w A p∧ok g∧∀ad,A=some ad→0<p.length→ok ad.block
theorem zDo.keep {ok:Nat→Prop}{w w':World}{g:Nat}{e:Int}{p:List Int}(h:zDo ok w g e p)(hb:Below w.heap.size w w'):zDo ok w' g e p:=by
 obtain⟨A,c,h1,h2,h3,h4,h5⟩:=h;exact⟨A,c,jL hb h1,h2,h3,h4.keep hb,h5⟩
theorem zDo.any {ok ok':Nat→Prop}{w:World}{g:Nat}{e:Int}{p:List Int}(h:zDo ok w g e p)(hl:∀b,b<w.heap.size→ok b→ok' b):zDo ok' w g e p:=by
 obtain⟨A,c,h1,h2,h3,h4,h5,h6⟩:=h;refine⟨A,c,h1,h2,h3,h4,hl _ h1.lt h5,fun ad ha hp=>hl _ ?_ (h6 ad ha hp)⟩;obtain⟨_,r2⟩:=h4;obtain⟨ad',r3,r4,_⟩:=r2 hp;rw[ha] at r3;rw[sj r3];exact r4
theorem zDo.grown {ok:Nat→Prop}{w w':World}{g:Nat}{e:Int}{p:List Int}{q:Nat}(h:zDo ok w g e p)(hg:w.grownBy w' (some q))(hq:¬ok q):zDo ok w' g e p:=by
 obtain⟨A,c,h1,h2,h3,h4,h5,h6⟩:=h;refine⟨A,c,h1.grown hg (fun e=>hq (by rw[←sj e];exact h5)),h2,h3,?_,h5,h6⟩;obtain⟨r1,r2⟩:=h4;refine⟨r1,fun hn=>?_⟩;obtain⟨ad,r3,r4,r5⟩:=r2 hn;refine⟨ad,r3,ll r4 hg.size,fun j u hj=>?_⟩;rw[←r5 j u hj];refine World.cell?_of_block (hg.block _ (by rw[zA3];exact r4) fun e=>?_);have e9:=sj e;rw[zA3] at e9;exact hq (by rw[←e9];exact h6 ad r3 hn)
set_option maxRecDepth 100000 in
set_option maxHeartbeats 1600000 in
theorem zGm (A:Option Addr)(p:List Int)(c:Nat)(i e:Int)(w:World)(hp:zAo w A p)(hn:p.length≤999999):
  Calls Tryz.prog 25 #[.slice A p.length c,.int .i64 i,.int .i64 e] w fun en w'=>∃g,en= .returned (.pointer (some ⟨g,0,none⟩))∧zDo (fun b=>w.heap.size≤b) w' g e (p++[i])∧Below w.heap.size w w':=by
 have s1:(w.alloc (.cells #[.int .i64 i] 3)).heap.size=w.heap.size+1:=by simp
 have b1:=zA1 w (.cells #[.int .i64 i] 3);have b2:=zA1 (w.alloc (.cells #[.int .i64 i] 3)) (.cells #[.slice A p.length c,.slice (some ⟨w.heap.size,0,none⟩) 1 1] 32);have K1:=zh (keep b2 (Blk.new w 3 #[.int .i64 i]));have K2:=zh (Blk.new (w.alloc (.cells #[.int .i64 i] 3)) 32 #[.slice A p.length c,.slice (some ⟨w.heap.size,0,none⟩) 1 1]);rw[s1] at K2;have HP:=zh ((hp.keep b1).keep b2);have HB:=zh (b1.trans (b2.mono b1.size));clear hp b1 b2 s1;go_enter Tryz.func25,Tryz.ntmps25;go_wp2_with fail;refine(zIa (w.heap.size+1) w.heap.size A p c i _ K2.out K1.out HP.out hn).mono ?_;rintro en w2 ⟨⟨q,A',c',hq,rfl,hc1,hc2,hpa,hlo⟩,hb⟩;have HQ:=zh hq;clear hq;have HLO:=zh hlo;have HSZ:=zh HB.out.size;replace HB:=jt HB hb;have b3:=zA1 w2 (.cells #[.slice A' q.length c',.int .i64 e] 51);have K3:=zh (Blk.new w2 51 #[.slice A' q.length c',.int .i64 e]);have HP2:=zh (hpa.keep b3);replace HB:=jt HB b3;have HW:=zh (show w.heap.size≤w2.heap.size from Nat.le_trans HSZ.out hb.size);clear hpa hb b3 hlo;go_wp2_with fail;go_ret;rw[←HQ.out];exact⟨w2.heap.size,rfl,⟨A',c',K3.out,hc1,hc2,HP2.out,HW.out,fun ad ha _=>Nat.le_trans HSZ.out (HLO.out ad ha)⟩,HB.out⟩
end Go.Proofs.YtchllommcolijaaGreatDoor.El
