/- The reference's pairs. -/
import Derived.Test.YtchllommcolijaaGreatDoorH44cb4187
namespace Go.Proofs.YtchllommcolijaaGreatDoor.Ch
open Go.RowKit
theorem zZ5 {P:Nat→Prop}{w:World}{g:Nat}{x y:Rd}{cx cy:Array Value}(hx:RdAt P w x cx)(hy:RdAt P w y cy)(hg:P g)(hb:Blk w g 83 (cx++cy)):zAp P w (some ⟨g,0,none⟩) [x,y]:=fun i z hi=>by
 have sx:=hx.size;have sy:=hy.size;refine⟨⟨g,0,none⟩,rfl,hb.lt,hg,?_⟩
 match i,hi with
 |0,hi=>
  obtain rfl:x=z:=by simpa using hi
  refine⟨cx,hx,fun j hj=>?_⟩;rw[show(⟨g,0,none⟩:Addr).add (0*3+j)=⟨g,j,none⟩ by unfold Addr.add;split<;>simp_all,hb.cell,Array.getElem?_append_left (by omega)]
 |1,hi=>
  obtain rfl:y=z:=by simpa using hi
  refine⟨cy,hy,fun j hj=>?_⟩;rw[show(⟨g,0,none⟩:Addr).add (1*3+j)=⟨g,3+j,none⟩ by unfold Addr.add;split<;>simp_all,hb.cell,Array.getElem?_append_right (by omega)]
  congr 1
  omega
theorem zRe {r a:Int}{l:List Rd}{i:Nat}{x:Rd}(m:List Rd)(hx:l[i]?=some x):zAm r a (l.take (i+1)) m=zAm r a (l.take i) m++m.map fun y=>.mk r a [x,y]:=by
 rw[List.take_add_one,hx];unfold zAm;rw[List.flatMap_append];simp
def midP (r a:Int)(l m:List Rd)(i k:Nat):List Rd:=zAm r a (l.take i) m++(match l[i]? with
 |none=>[]
 |some x=>(m.take k).map fun y=>.mk r a [x,y])
theorem mid_zero {r a:Int}{l m:List Rd}{i:Nat}:midP r a l m i 0=zAm r a (l.take i) m:=by
 unfold midP;cases l[i]?<;>simp
theorem zWr {r a:Int}{l m:List Rd}{i k:Nat}{x y:Rd}(hx:l[i]?=some x)(hy:m[k]?=some y):midP r a l m i (k+1)=midP r a l m i k++[.mk r a [x,y]]:=by
 unfold midP;rw[hx,List.append_assoc]
 congr 1
 show(m.take (k+1)).map _=(m.take k).map _++_;rw[List.take_add_one,hy,List.map_append];rfl
theorem zWx {r a:Int}{l m:List Rd}{i:Nat}{x:Rd}(hx:l[i]?=some x):midP r a l m i m.length=zAm r a (l.take (i+1)) m:=by
 unfold midP;rw[zRe m hx,hx,List.take_of_length_le (Nat.le_refl _)]
theorem zJq {r a:Int}{l m:List Rd}{i k:Nat}:(midP r a l m i k).length≤l.length*m.length+m.length:=by
 unfold midP;rw[List.length_append,zMq,List.length_take];have h1:min i l.length*m.length≤l.length*m.length:=Nat.mul_le_mul_right _ (by omega);cases l[i]? with
 |none=>simp;omega
 |some x=>simp only[List.length_map,List.length_take];omega
set_option maxRecDepth 100000 in
set_option maxHeartbeats 4000000 in
theorem zMe (ok:Nat→Prop)(L M:Option Addr)(cl cm:Nat)(r a:Int)(l m:List Rd)(w:World)(hL:zAp ok w L l)(hM:zAp ok w M m)(hn:l.length*m.length+m.length≤3000000000000)(hl1:l.length≤100000000):Calls Tryz.prog 122 #[.int .i64 r,.int .i64 a,.slice L l.length cl,.slice M m.length cm] w fun e w'=>∃v,e= .returned v∧AppR (fun b=>(ok b∧b<w.heap.size)∨w.heap.size≤b) w' w.heap.size v (zAm r a l m)∧Below w.heap.size w w':=by
 obtain⟨i0,hi,hz0,hz1,hz2⟩:=info_parts zJm;have HL0:=zh (hL.any (ok':=fun b=>ok b∧b<w.heap.size) fun b h1 h2=>⟨h2,h1⟩);have HM0:=zh (hM.any (ok':=fun b=>ok b∧b<w.heap.size) fun b h1 h2=>⟨h2,h1⟩);have HN:=zh hn;have hm1:m.length≤3000000000000:=by omega
 clear hL hM hn;go_enter Tryz.func122,Tryz.ntmps122;go_wp2_with fail
 go_loopw [9,10] (fun v j wr=>∃i:Nat,i≤l.length∧j= .int .i64 i∧Hid (AppR (fun b=>(ok b∧b<w.heap.size)∨w.heap.size≤b) wr w.heap.size v (zAm r a (l.take i) m))∧Hid (Below w.heap.size w wr)) (fun _ j _=>l.length -(intOf j).toNat)
 case atStart=>exact⟨0,by omega,rfl,by rw[List.take_zero];exact AppR.nil (fun b=>(ok b∧b<w.heap.size)∨w.heap.size≤b) _ _,Below.refl _ _⟩
 case round=>
  obtain⟨i,hi9,rfl,HO,HB⟩:=hrel
  by_cases hlt:i<l.length
  ·obtain⟨x,hx⟩:∃x,l[i]?=some x:=⟨_,gE hlt⟩
   have HXI:=zh hx;have HMF:=zh (zWx (r:=r) (a:=a) (m:=m) hx);rw[←mid_zero] at HO;clear hx;go_wp2_with fail
   go_loopw [9,11] (fun v j wr=>∃k:Nat,k≤m.length∧j= .int .i64 k∧Hid (AppR (fun b=>(ok b∧b<w.heap.size)∨w.heap.size≤b) wr w.heap.size v (midP r a l m i k))∧Hid (Below w.heap.size w wr)) (fun _ j _=>m.length -(intOf j).toNat)
   case atStart=>exact⟨0,by omega,rfl,HO,HB⟩
   case round=>
    clear HO HB;obtain⟨k,hk9,rfl,HO,HB⟩:=hrel
    by_cases hlk:k<m.length
    ·obtain⟨y,hy⟩:∃y,m[k]?=some y:=⟨_,gE hlk⟩
     obtain⟨ad,A1,k1,rfl,had,hxc,_,_,_,d0,d1,d2⟩:=(HL0.out.keep HB.out).at_ HXI.out;obtain⟨bd,B1,k2,rfl,hbd,hyc,_,_,_,f0,f1,f2⟩:=(HM0.out.keep HB.out).at_ hy;have HMN:=zh (zWr (r:=r) (a:=a) HXI.out hy);have HXC:=zh hxc;have HYC:=zh hyc;have Had:=zh had;have Hbd:=zh hbd;have HOL:=zh HO.out;have HLN:=zh (show(midP r a l m i k).length≤3000000000000 from Nat.le_trans zJq HN.out);have j1:(0:Int)≤(i:Int):=by omega
     have j2:(i:Int)<(l.length:Int):=by omega
     have j3:(0:Int)≤(k:Int):=by omega
     have j4:(k:Int)<(m.length:Int):=by omega
     clear hy hxc hyc had hbd;go_upto_region 8 with(fail)
     refine zNm (by kernel_rfl) (fun _ _ _ d _ h=>by cases d<;>exact h) [(0,u9),(1,.int .i64 r),(2,.int .i64 a)] 11 _ [u9,.int .i64 r,.int .i64 a,.slice (some ad) l.length cl,.int .i64 (↑i),.pointer (some (ad.add (i*3))),.agg (rdC x.rule x.at_ A1 x.kids.length k1),.slice (some bd) m.length cm,.int .i64 (↑k),.pointer (some (bd.add (k*3))),.agg (rdC y.rule y.at_ B1 y.kids.length k2)] [true,true,true,true,true,true,true,true,true,true,true] (fun wq=>True∧Below wr.heap.size wr wq) (by kernel_rfl) ⟨⟨_,rfl,by kernel_rfl,by kernel_rfl,.inl ⟨by kernel_rfl,fun _=>by kernel_rfl⟩⟩,⟨⟨_,rfl,by kernel_rfl,by kernel_rfl,.inl ⟨by kernel_rfl,fun _=>by kernel_rfl⟩⟩,⟨⟨_,rfl,by kernel_rfl,by kernel_rfl,.inl ⟨by kernel_rfl,fun _=>by kernel_rfl⟩⟩,trivial⟩⟩⟩ (by kernel_rfl) (by kernel_rfl) (by kernel_rfl) (by kernel_rfl) (by kernel_rfl) (by kernel_rfl) (by kernel_rfl) (by kernel_rfl) (by simp[zBt,fin,zAi,zA7,List.range,List.range.loop,Act.put];rfl) (by kernel_rfl) ⟨trivial,zA2 (Below.refl _ _)⟩ ?_ ?_
     ·refine⟨fun wq hI=>?_,fun wq hI=>?_,fun wq hI=>?_,fun wq hI=>?_,fun wq hI=>?_,fun wq hI=>?_,fun wq hI=>?_,fun wq hI=>?_,fun wq hI=>?_,fun wq hI=>?_,fun wq hI=>?_,trivial⟩
      ·exact jv u9 wq (by kernel_rfl) ⟨rfl,hI⟩
      ·exact jv (.int .i64 r) wq (by kernel_rfl) ⟨rfl,hI⟩
      ·exact jv (.int .i64 a) wq (by kernel_rfl) ⟨rfl,hI⟩
      ·exact jv (.slice (some ad) l.length cl) wq (by kernel_rfl) ⟨rfl,hI⟩
      ·exact jv (.int .i64 (↑i)) wq (by kernel_rfl) ⟨rfl,hI⟩
      ·skip
       exact jv (.pointer (some (ad.add (i*3)))) wq (by simp[go_sem,j1,j2];try omega) ⟨rfl,hI⟩
      ·have e0:=(hI.2.cell (p:=ad.add (i*3)) (by rw[add_block];exact Had.out)).trans d0;have e1:=(hI.2.cell (p:=⟨(ad.add (i*3)).block,(ad.add (i*3)).off+1,none⟩) (by show(ad.add (i*3)).block<_;rw[add_block];exact Had.out)).trans d1;have e2:=(hI.2.cell (p:=⟨(ad.add (i*3)).block,(ad.add (i*3)).off+2,none⟩) (by show(ad.add (i*3)).block<_;rw[add_block];exact Had.out)).trans d2;exact jv (.agg (rdC x.rule x.at_ A1 x.kids.length k1)) wq (by simp[go_sem,e0,e1,e2]) ⟨rfl,hI⟩
      ·exact jv (.slice (some bd) m.length cm) wq (by kernel_rfl) ⟨rfl,hI⟩
      ·exact jv (.int .i64 (↑k)) wq (by kernel_rfl) ⟨rfl,hI⟩
      ·skip
       exact jv (.pointer (some (bd.add (k*3)))) wq (by simp[go_sem,j3,j4];try omega) ⟨rfl,hI⟩
      ·have e0:=(hI.2.cell (p:=bd.add (k*3)) (by rw[add_block];exact Hbd.out)).trans f0;have e1:=(hI.2.cell (p:=⟨(bd.add (k*3)).block,(bd.add (k*3)).off+1,none⟩) (by show(bd.add (k*3)).block<_;rw[add_block];exact Hbd.out)).trans f1;have e2:=(hI.2.cell (p:=⟨(bd.add (k*3)).block,(bd.add (k*3)).off+2,none⟩) (by show(bd.add (k*3)).block<_;rw[add_block];exact Hbd.out)).trans f2;exact jv (.agg (rdC y.rule y.at_ B1 y.kids.length k2)) wq (by simp[go_sem,e0,e1,e2]) ⟨rfl,hI⟩
     ·intro wq hI;have h1:=hI.2;clear hI;show wpOps _ _ _ [11,12,13,14,15] _ _;refine zDl rfl rfl (Gives.wp (R:=fun v w'=>v= .slice (some ⟨wq.heap.size,0,none⟩) 2 2∧w'=wq.alloc (.cells #[.int .i64 x.rule,.int .i64 x.at_,.slice A1 x.kids.length k1,.int .i64 y.rule,.int .i64 y.at_,.slice B1 y.kids.length k2] 83)) (Gives.value (v:=.slice (some ⟨wq.heap.size,0,none⟩) 2 2) (w':=wq.alloc (.cells #[.int .i64 x.rule,.int .i64 x.at_,.slice A1 x.kids.length k1,.int .i64 y.rule,.int .i64 y.at_,.slice B1 y.kids.length k2] 83)) (by simp[execOp,Act.eval,go_sem]) ⟨rfl,rfl⟩) ?_);rintro v w' ⟨rfl,rfl⟩;refine zDl rfl rfl (Gives.wp (R:=fun v w'=>v= .agg #[.int .i64 r,.int .i64 a,.slice (some ⟨wq.heap.size,0,none⟩) 2 2]∧w'=wq.alloc (.cells #[.int .i64 x.rule,.int .i64 x.at_,.slice A1 x.kids.length k1,.int .i64 y.rule,.int .i64 y.at_,.slice B1 y.kids.length k2] 83)) (Gives.value (v:=.agg #[.int .i64 r,.int .i64 a,.slice (some ⟨wq.heap.size,0,none⟩) 2 2]) (w':=wq.alloc (.cells #[.int .i64 x.rule,.int .i64 x.at_,.slice A1 x.kids.length k1,.int .i64 y.rule,.int .i64 y.at_,.slice B1 y.kids.length k2] 83)) (by simp[execOp,Act.eval,go_sem]) ⟨rfl,rfl⟩) ?_);rintro v w' ⟨rfl,rfl⟩;refine zDl rfl rfl (Gives.wp (R:=fun v w'=>v= .slice (some ⟨wq.heap.size+1,0,none⟩) 1 1∧w'=(wq.alloc (.cells #[.int .i64 x.rule,.int .i64 x.at_,.slice A1 x.kids.length k1,.int .i64 y.rule,.int .i64 y.at_,.slice B1 y.kids.length k2] 83)).alloc (.cells #[.int .i64 r,.int .i64 a,.slice (some ⟨wq.heap.size,0,none⟩) 2 2] 83)) (Gives.value (v:=.slice (some ⟨wq.heap.size+1,0,none⟩) 1 1) (w':=(wq.alloc (.cells #[.int .i64 x.rule,.int .i64 x.at_,.slice A1 x.kids.length k1,.int .i64 y.rule,.int .i64 y.at_,.slice B1 y.kids.length k2] 83)).alloc (.cells #[.int .i64 r,.int .i64 a,.slice (some ⟨wq.heap.size,0,none⟩) 2 2] 83)) (by simp[execOp,Act.eval,go_sem]) ⟨rfl,rfl⟩) ?_);rintro v w' ⟨rfl,rfl⟩;have hg:=h1.size;have hba:=zA1 wq (.cells #[.int .i64 x.rule,.int .i64 x.at_,.slice A1 x.kids.length k1,.int .i64 y.rule,.int .i64 y.at_,.slice B1 y.kids.length k2] 83);have hbb:=zA1 (wq.alloc (.cells #[.int .i64 x.rule,.int .i64 x.at_,.slice A1 x.kids.length k1,.int .i64 y.rule,.int .i64 y.at_,.slice B1 y.kids.length k2] 83)) (.cells #[.int .i64 r,.int .i64 a,.slice (some ⟨wq.heap.size,0,none⟩) 2 2] 83);have hsz:(wq.alloc (.cells #[.int .i64 x.rule,.int .i64 x.at_,.slice A1 x.kids.length k1,.int .i64 y.rule,.int .i64 y.at_,.slice B1 y.kids.length k2] 83)).heap.size=wq.heap.size+1:=World.size_alloc _ _;have hb2:=(h1.trans (hba.mono h1.size)).trans (hbb.mono (Nat.le_trans h1.size hba.size));have HOa:=zh (HO.out.keep hb2);have KX:=keep hbb (Blk.new wq 83 #[.int .i64 x.rule,.int .i64 x.at_,.slice A1 x.kids.length k1,.int .i64 y.rule,.int .i64 y.at_,.slice B1 y.kids.length k2]);have KE:Blk ((wq.alloc (.cells #[.int .i64 x.rule,.int .i64 x.at_,.slice A1 x.kids.length k1,.int .i64 y.rule,.int .i64 y.at_,.slice B1 y.kids.length k2] 83)).alloc (.cells #[.int .i64 r,.int .i64 a,.slice (some ⟨wq.heap.size,0,none⟩) 2 2] 83)) (wq.heap.size+1) 83 #[.int .i64 r,.int .i64 a,.slice (some ⟨wq.heap.size,0,none⟩) 2 2]:=by have:=Blk.new (wq.alloc (.cells #[.int .i64 x.rule,.int .i64 x.at_,.slice A1 x.kids.length k1,.int .i64 y.rule,.int .i64 y.at_,.slice B1 y.kids.length k2] 83)) 83 #[.int .i64 r,.int .i64 a,.slice (some ⟨wq.heap.size,0,none⟩) 2 2];rw[hsz] at this;exact this
      have hfar:∀b,u9.ownBlock=some b→w.heap.size≤b∧b<wr.heap.size:=fun b hb=>HOL.out.lt b hb
      have hP:∀b,b<wr.heap.size→(ok b∧b<w.heap.size)→u9.ownBlock≠some b∧((ok b∧b<w.heap.size)∨w.heap.size≤b):=fun b _ h=>⟨fun h'=>by have:=(hfar b h').1;omega,.inl h⟩
      have hx1:=(HXC.out.any (ok':=fun b=>u9.ownBlock≠some b∧((ok b∧b<w.heap.size)∨w.heap.size≤b)) hP).keep hb2;have hy1:=(HYC.out.any (ok':=fun b=>u9.ownBlock≠some b∧((ok b∧b<w.heap.size)∨w.heap.size≤b)) hP).keep hb2;have hE:=RdAt.of (r:=r) (a:=a) (ks:=[x,y]) (A:=some ⟨wq.heap.size,0,none⟩) (cap:=2) (Nat.le_refl _) (by omega) (zZ5 hx1 hy1 ⟨fun h'=>by have:=(hfar _ h').2;omega,.inr (by have:=HB.out.size;omega)⟩ KX);obtain⟨css,ho,hl,hrr⟩:=HOa.out;have hln:=HLN.out;have hbase:w.heap.size≤((wq.alloc (.cells #[.int .i64 x.rule,.int .i64 x.at_,.slice A1 x.kids.length k1,.int .i64 y.rule,.int .i64 y.at_,.slice B1 y.kids.length k2] 83)).alloc (.cells #[.int .i64 r,.int .i64 a,.slice (some ⟨wq.heap.size,0,none⟩) 2 2] 83)).heap.size:=Nat.le_trans HB.out.size (hb2.size);refine zDl rfl rfl (zGi _ (.tmp 24) (.tmp 37) 56 rfl w.heap.size 83 i0 (.agg #[.int .i64 0,.int .i64 0,.slice none 0 0]) 3 40 Tryz.underlying56 hi hz0 hz1 hz2 rfl (by decide) u9 _ _ rfl ho _ (some ⟨wq.heap.size+1,0,none⟩) 1 1 #[.int .i64 r,.int .i64 a,.slice (some ⟨wq.heap.size,0,none⟩) 2 2].toList rfl (zBb KE rfl) (zGj hE) (by unfold maxLen;omega) (by omega) hbase ?_);intro v' w' g2 g3 g4;refine zDl rfl rfl (Gives.wp (R:=fun v w2=>v=v'∧w2=w') (Gives.value (v:=v') (w':=w') (by simp[execOp,Act.eval,go_sem]) ⟨rfl,rfl⟩) ?_);rintro v w2 ⟨rfl,rfl⟩;have HOb:=zh (AppR.push hl hrr hE g2 g3 g4);rw[←HMN.out] at HOb;have HBb:=zh ((HB.out.trans (hb2.mono HB.out.size)).grown g3 hbase fun b hb=>(hfar b hb).1);clear ho hl hrr g2 g3 g4 hE KE KX hba hbb hsz hb2 hx1 hy1 hP hbase hg h1 hfar d0 d1 d2 f0 f1 f2 HO HB HOa
      rename_i hK
      refine hK _ _ ?_;clear hK;go_wp2_with fail;go_roundw
      case rel=>exact⟨k+1,by omega,by go_num,HOb,HBb⟩
      case measure=>simp[intOf];omega
    ·obtain rfl:k=m.length:=by omega
     rw[HMF.out] at HO;go_wp2_with fail;go_roundw
     case rel=>exact⟨i+1,by omega,by go_num,HO,HB⟩
     case measure=>simp[intOf];omega
  ·obtain rfl:i=l.length:=by omega
   rw[List.take_of_length_le (Nat.le_refl _)] at HO;go_wp2_with fail;go_ret;exact⟨_,rfl,HO.out,HB.out⟩
end Go.Proofs.YtchllommcolijaaGreatDoor.Ch
namespace Go.Proofs.YtchllommcolijaaGreatDoor.Ch
theorem zEd {g:Nat→List Rd}(a t:Nat):(List.range' a (t+1)).flatMap g=(List.range' a t).flatMap g++g (a+t):=by
 rw[List.range'_1_concat,List.flatMap_append];simp
def inG (rs:List Rul)(ts:List ByteArray)(i j n:Nat)(u:Rul)(k:Nat):List Rd:=if tokB ts k u.sym.toList=true then zAm n i (zA4 rs (allR rs ts i k) u.left) (zA4 rs (allR rs ts (k+1) j) u.right) else[]
def juxG (rs:List Rul)(ts:List ByteArray)(i j n:Nat)(u:Rul)(k:Nat):List Rd:=zAm n i (zA4 rs (allR rs ts i k) u.left) (zA4 rs (allR rs ts k j) u.right)
theorem zYl {rs:List Rul}{ts:List ByteArray}{i j n:Nat}{u:Rul}(hu:rs[n]?=some u)(hk:u.kind=1):zB3 rs ts (allR rs ts) i j n=(List.range' (i+1) (j -1 -(i+1))).flatMap (inG rs ts i j n u):=by
 unfold zB3;rw[hu];simp only[hk,if_true];rfl
theorem zVs {rs:List Rul}{ts:List ByteArray}{i j n:Nat}{u:Rul}(hu:rs[n]?=some u)(hk:u.kind=2):zB3 rs ts (allR rs ts) i j n=if tokB ts i u.sym.toList=true then zBc n i (zA4 rs (allR rs ts (i+1) j) u.right) else[]:=by
 unfold zB3;rw[hu];simp[hk]
theorem zUi {rs:List Rul}{ts:List ByteArray}{i j n:Nat}{u:Rul}(hu:rs[n]?=some u)(hk:u.kind=3):zB3 rs ts (allR rs ts) i j n=if tokB ts (j -1) u.sym.toList=true then zBc n i (zA4 rs (allR rs ts i (j -1)) u.left) else[]:=by
 unfold zB3;rw[hu];simp[hk]
theorem zXe {rs:List Rul}{ts:List ByteArray}{i j n:Nat}{u:Rul}(hu:rs[n]?=some u)(hk:u.kind=4):zB3 rs ts (allR rs ts) i j n=(List.range' (i+1) (j -(i+1))).flatMap (juxG rs ts i j n u):=by
 unfold zB3;rw[hu];simp only[hk];rfl
theorem zTn {rs:List Rul}{ts:List ByteArray}{i j n:Nat}{u:Rul}(hu:rs[n]?=some u)(h1:u.kind≠1)(h2:u.kind≠2)(h3:u.kind≠3)(h4:u.kind≠4):zB3 rs ts (allR rs ts) i j n=[]:=by
 unfold zB3;rw[hu];simp[h1,h2,h3,h4]
theorem zMd {r a:Int}{l:List Rd}{k:Nat}{x:Rd}(hx:l[k]?=some x):zBc r a (l.take (k+1))=zBc r a (l.take k)++[.mk r a [x]]:=by
 unfold zBc;rw[List.take_add_one,hx,List.map_append];rfl
end Go.Proofs.YtchllommcolijaaGreatDoor.Ch
namespace Go.Proofs.YtchllommcolijaaGreatDoor.Ch
open Go.RowKit
theorem AppR.any {P Q:Nat→Prop}{w:World}{B:Nat}{v:Value}{xs:List Rd}(h:AppR P w B v xs)(hok:∀b,b<w.heap.size→P b→Q b):AppR Q w B v xs:=OwnR.any h fun b hb h=>⟨h.1,hok b hb h.2⟩
theorem AppR.more {P:Nat→Prop}{w:World}{B B':Nat}{v:Value}{xs:List Rd}(h:AppR P w B v xs)(hB:B'≤B):AppR P w B' v xs:=OwnR.more h hB
theorem AppR.lt {P:Nat→Prop}{w:World}{B:Nat}{v:Value}{xs:List Rd}(h:AppR P w B v xs):∀r,v.ownBlock=some r→B≤r∧r<w.heap.size:=OwnR.lt h
theorem AppR.zFx {P:Nat→Prop}{w w':World}{B:Nat}{v v':Value}{xs ys:List Rd}{css dss:List (Array Value)}(hl:css.length=xs.length)(h:∀(j:Nat) c x,css[j]?=some c→xs[j]?=some x→RdAt (fun b=>v.ownBlock≠some b∧P b) w x c)(hl2:dss.length=ys.length)(h2:∀(j:Nat) c x,dss[j]?=some c→ys[j]?=some x→RdAt (fun b=>v.ownBlock≠some b∧P b) w x c)(ho:w'.ownsRow B 83 3 v' (xs.length+ys.length) (css.flatMap (·.toList)++dss.flatMap (·.toList)))(hg:w.grownBy w' v.ownBlock)(hv:v'.ownBlock=v.ownBlock∨v'.ownBlock=some w.heap.size):AppR P w' B v' (xs++ys):=by
 have hok:∀b,b<w.heap.size→(v.ownBlock≠some b∧P b)→(v'.ownBlock≠some b∧P b):=fun b hb hok=>⟨by
  rcases hv with e|e
  ·rw[e];exact hok.1
  ·rw[e];intro h2;have:=sj h2;omega,hok.2⟩
 have hr:∀b,b<w.heap.size→(v.ownBlock≠some b∧P b)→some b≠v.ownBlock:=fun b _ hb e=>hb.1 e.symm
 refine⟨css++dss,?_,by simp[hl,hl2],fun j d y hj hy=>?_⟩
 ·rw[List.length_append,List.flatMap_append];exact ho
 ·rcases Nat.lt_or_ge j css.length with hlt|hge
  ·rw[List.getElem?_append_left hlt] at hj;rw[List.getElem?_append_left (by omega)] at hy;exact(h j d y hj hy).grown hg hr hok
  ·rw[List.getElem?_append_right hge] at hj;rw[List.getElem?_append_right (by omega),←hl] at hy;exact(h2 _ d y hj hy).grown hg hr hok
theorem zXu {ok:Nat→Prop}{w:World}{css:List (Array Value)}{xs:List Rd}(hl:css.length=xs.length)(h:∀(j:Nat) c x,css[j]?=some c→xs[j]?=some x→RdAt ok w x c):∀u∈css.flatMap (·.toList),u.oneCell'=true:=by
 intro u hu;obtain⟨c,hc,hu⟩:=List.mem_flatMap.1 hu;obtain⟨j,hj⟩:=List.mem_iff_getElem?.1 hc;have hj2:=(List.getElem?_eq_some_iff.1 hj).1;exact zGj (h j c xs[j] hj (gE (by omega))) u hu
structure GA where
 a:Value
 b:Value
 c:Value
 d:Value
 e:Value
 f:Value
def InvA (w0 w5:World)(u9:Value)(X1 X2 X3 X4 X5 X0:List Rd)(L:List Bool)(g:GA)(wq:World):Prop:=
 (L[5]?=some false→Below w5.heap.size w5 wq∧(L[0]?=some true→AppR (fun b=>w5.heap.size≤b) wq w5.heap.size g.a X1)∧(L[1]?=some true→AppR (fun b=>w5.heap.size≤b) wq w5.heap.size g.b X2)∧(L[2]?=some true→AppR (fun b=>w5.heap.size≤b) wq w5.heap.size g.c X3)∧(L[3]?=some true→AppR (fun b=>w5.heap.size≤b) wq w5.heap.size g.d X4)∧(L[4]?=some true→AppR (fun b=>w5.heap.size≤b) wq w5.heap.size g.e X5))∧
 (L[5]?=some true→AppR (fun b=>w0.heap.size≤b) wq w0.heap.size g.f (X0++X5)∧Below w0.heap.size w0 wq∧∀b t c,Blk w5 b t c→u9.ownBlock≠some b→Blk wq b t c∧g.f.ownBlock≠some b)
section
variable {w0 w5 wq wa : World} {X1 X2 X3 X4 X5 X0 : List Rd} {l0 l1 l2 l3 l4 l5 : Bool} {g : GA} {v u9 : Value}
theorem InvA.start:InvA w0 w5 u9 X1 X2 X3 X4 X5 X0 [false,false,false,false,false,false] g w5.drew:=
 ⟨fun _=>⟨zA2 (Below.refl _ _),fun h=>(by cases h),fun h=>(by cases h),fun h=>(by cases h),fun h=>(by cases h),fun h=>(by cases h)⟩,fun h=>by cases h⟩
theorem InvA.below {L:List Bool}(h:InvA w0 w5 u9 X1 X2 X3 X4 X5 X0 L g wq)(h5:L[5]?=some false):Below w5.heap.size w5 wq:=(h.1 h5).1
theorem InvA.s0 (e5:l5=false)(h:InvA w0 w5 u9 X1 X2 X3 X4 X5 X0 [l0,l1,l2,l3,l4,l5] g wq)(hb:Below wq.heap.size wq wa)(ho:AppR (fun b=>wq.heap.size≤b) wa wq.heap.size v X1):InvA w0 w5 u9 X1 X2 X3 X4 X5 X0 [true,l1,l2,l3,l4,l5] {g with a:=v} wa:=by
 subst e5;obtain⟨h0,_,h2,h3,h4,h5⟩:=h.1 rfl;have hs:=h0.size;exact⟨fun _=>⟨h0.trans (hb.mono hs),fun _=>(ho.any fun b _ h=>Nat.le_trans hs h).more hs,fun e=>(h2 e).keep hb,fun e=>(h3 e).keep hb,fun e=>(h4 e).keep hb,fun e=>(h5 e).keep hb⟩,fun e=>by cases e⟩
theorem InvA.s1 (e5:l5=false)(h:InvA w0 w5 u9 X1 X2 X3 X4 X5 X0 [l0,l1,l2,l3,l4,l5] g wq)(hb:Below wq.heap.size wq wa)(ho:AppR (fun b=>w5.heap.size≤b∧b<wq.heap.size) wa wq.heap.size v X2):InvA w0 w5 u9 X1 X2 X3 X4 X5 X0 [l0,true,l2,l3,l4,l5] {g with b:=v} wa:=by
 subst e5;obtain⟨h0,h1,_,h3,h4,h5⟩:=h.1 rfl;have hs:=h0.size;exact⟨fun _=>⟨h0.trans (hb.mono hs),fun e=>(h1 e).keep hb,fun _=>(ho.any fun b _ h=>h.1).more hs,fun e=>(h3 e).keep hb,fun e=>(h4 e).keep hb,fun e=>(h5 e).keep hb⟩,fun e=>by cases e⟩
theorem InvA.s2 (e5:l5=false)(h:InvA w0 w5 u9 X1 X2 X3 X4 X5 X0 [l0,l1,l2,l3,l4,l5] g wq)(hb:Below wq.heap.size wq wa)(ho:AppR (fun b=>wq.heap.size≤b) wa wq.heap.size v X3):InvA w0 w5 u9 X1 X2 X3 X4 X5 X0 [l0,l1,true,l3,l4,l5] {g with c:=v} wa:=by
 subst e5;obtain⟨h0,h1,h2,_,h4,h5⟩:=h.1 rfl;have hs:=h0.size;exact⟨fun _=>⟨h0.trans (hb.mono hs),fun e=>(h1 e).keep hb,fun e=>(h2 e).keep hb,fun _=>(ho.any fun b _ h=>Nat.le_trans hs h).more hs,fun e=>(h4 e).keep hb,fun e=>(h5 e).keep hb⟩,fun e=>by cases e⟩
theorem InvA.s3 (e5:l5=false)(h:InvA w0 w5 u9 X1 X2 X3 X4 X5 X0 [l0,l1,l2,l3,l4,l5] g wq)(hb:Below wq.heap.size wq wa)(ho:AppR (fun b=>w5.heap.size≤b∧b<wq.heap.size) wa wq.heap.size v X4):InvA w0 w5 u9 X1 X2 X3 X4 X5 X0 [l0,l1,l2,true,l4,l5] {g with d:=v} wa:=by
 subst e5;obtain⟨h0,h1,h2,h3,_,h5⟩:=h.1 rfl;have hs:=h0.size;exact⟨fun _=>⟨h0.trans (hb.mono hs),fun e=>(h1 e).keep hb,fun e=>(h2 e).keep hb,fun e=>(h3 e).keep hb,fun _=>(ho.any fun b _ h=>h.1).more hs,fun e=>(h5 e).keep hb⟩,fun e=>by cases e⟩
theorem InvA.s4 (e5:l5=false)(h:InvA w0 w5 u9 X1 X2 X3 X4 X5 X0 [l0,l1,l2,l3,l4,l5] g wq)(hb:Below wq.heap.size wq wa)(ho:AppR (fun b=>(w5.heap.size≤b∧b<wq.heap.size)∨wq.heap.size≤b) wa wq.heap.size v X5):InvA w0 w5 u9 X1 X2 X3 X4 X5 X0 [l0,l1,l2,l3,true,l5] {g with e:=v} wa:=by
 subst e5;obtain⟨h0,h1,h2,h3,h4,_⟩:=h.1 rfl;have hs:=h0.size;exact⟨fun _=>⟨h0.trans (hb.mono hs),fun e=>(h1 e).keep hb,fun e=>(h2 e).keep hb,fun e=>(h3 e).keep hb,fun e=>(h4 e).keep hb,fun _=>(ho.any fun b _ h=>h.elim (·.1) (Nat.le_trans hs)).more hs⟩,fun e=>by cases e⟩
theorem InvA.list {g':Value}{X:List Rd}{B:Nat}{ok:Nat→Prop}(h:AppR ok wq B g' X)(hB:∀b,B≤b→ok b):∃A cap,g'= .slice A X.length cap∧zAp ok wq A X:=by
 obtain⟨A,cap,h1,_,_,h2⟩:=h.form hB;exact⟨A,cap,h1,h2⟩
theorem InvA.append {F:Act}{o:Oper}{R:Value→World→Prop}{i0:TypeInfo}(s x:Operand)(ho':o.op= .call {callee:=.builtin .append,args:= #[s,x],argTypes:= #[56,56]})
  (hi:Tryz.prog.info? 83=some i0) (hz0:i0.zero=some (.agg #[.int .i64 0,.int .i64 0,.slice none 0 0])) (hz1:i0.size=3) (hz2:i0.bytes=40)
  (hs:F.eval s=u9) (hx:F.eval x=g.e)
  (h:InvA w0 w5 u9 X1 X2 X3 X4 X5 X0 [true,true,true,true,true,false] g wq) (hO:AppR (fun b=>w0.heap.size≤b) w5 w0.heap.size u9 X0) (hB:Below w0.heap.size w0 w5) (hn:X0.length+X5.length≤3000000000000)
  (hR:∀v' w',InvA w0 w5 u9 X1 X2 X3 X4 X5 X0 [true,true,true,true,true,true] {g with f:=v'} w'→R v' w'):Gives Tryz.prog (execOp F.eval o) wq R:=by
 obtain⟨h0,_,_,_,_,h5⟩:=h.1 rfl;have hO5:=h5 rfl;obtain⟨A,cap,he,hcap,hcap2,_⟩:=hO5.form (fun b h=>h);obtain⟨dss,hd,hld,hrd⟩:=hO5;obtain⟨css,hc,hlc,hrc⟩:=hO.keep h0;have hs5:=hB.size;have hsq:=h0.size;have hlt:=hO.lt;rw[he] at hx hd;refine zAy s x 56 ho' w0.heap.size 83 i0 (.agg #[.int .i64 0,.int .i64 0,.slice none 0 0]) 3 40 Tryz.underlying56 hi hz0 hz1 hz2 rfl (by decide) u9 _ _ hs hc wq.heap.size A X5.length cap _ hx (Reads.zH3 hd) (zXu hld hrd) (by unfold maxLen;omega) (by omega) (by omega) ?_;intro v' w' g2 g3 g4;refine hR v' w' ⟨fun e=>(by cases e),fun _=>⟨AppR.zFx hlc hrc hld (fun j c y hj hy=>(hrd j c y hj hy).any fun b hb h=>⟨fun e=>?_,?_⟩) g2 g3 g4,(hB.trans (h0.mono hs5)).grown g3 (by omega) fun b hb=>(hlt b hb).1,fun b t c hbk hne=>⟨(keep h0 hbk).grown g3 (fun e=>hne e.symm),fun e=>?_⟩⟩⟩
 ·have:=(hlt b e).2;have:=h.2;omega
 ·have:=h.2;omega
 ·rcases g4 with e4|e4
  ·rw[e4] at e;exact hne e
  ·rw[e4] at e;have:=sj e;have:=hbk.lt;omega
end
theorem zKi {a b:Nat}(ha:a≤1376256)(hb:b≤1376256):a*b+b≤3000000000000:=by
 have:=Nat.mul_le_mul ha hb;omega
theorem zPs {g:Nat→List Rd}{a t N:Nat}(h:t≤N):((List.range' a t).flatMap g).length≤((List.range' a N).flatMap g).length:=by
 obtain⟨d,rfl⟩:∃d,N=t+d:=⟨N -t,by omega⟩
 induction d with
 |zero=>simp
 |succ d ih=>
  rw[←Nat.add_assoc,zEd,List.length_append];have:=ih (by omega);omega
theorem zAp.one {P:Nat→Prop}{w:World}{ad:Addr}{l:List Rd}{k:Nat}{x:Rd}(h:zAp P w (some ad) l)(hx:l[k]?=some x):zAp P w (some (ad.add (k*3))) [x]:=fun i z hi=>by
 obtain⟨ad',e,h1,h2,c,h3,h4⟩:=h k x hx;obtain rfl:=sj e
 match i,hi with
 |0,hi=>
  obtain rfl:x=z:=by simpa using hi
  refine⟨_,rfl,by rw[add_block];exact h1,by rw[add_block];exact h2,c,h3,fun j hj=>?_⟩;rw[zKo,Nat.zero_mul,Nat.zero_add];exact h4 j hj
theorem zAp.push {P:Nat→Prop}{w w':World}{v v':Value}{A:Option Addr}{l:List Rd}(h:zAp (fun b=>v.ownBlock≠some b∧P b) w A l)(hg:w.grownBy w' v.ownBlock)(hv:v'.ownBlock=v.ownBlock∨v'.ownBlock=some w.heap.size):zAp (fun b=>v'.ownBlock≠some b∧P b) w' A l:=
 h.map hg.size (fun b hb hok=>⟨by
  rcases hv with e|e
  ·rw[e];exact hok.1
  ·rw[e];intro h2;have:=sj h2;omega,hok.2⟩) fun p hp ho=>World.cell?_of_block (hg.block _ hp fun e=>ho.1 e.symm)
end Go.Proofs.YtchllommcolijaaGreatDoor.Ch
