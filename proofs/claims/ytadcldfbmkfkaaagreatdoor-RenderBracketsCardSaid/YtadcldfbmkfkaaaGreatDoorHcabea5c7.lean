/- operator of the writer. -/
import Derived.Test.YtadcldfbmkfkaaaGreatDoorH4f3c44cc
namespace Go.Proofs.YtadcldfbmkfkaaaGreatDoor.Rn
open At Ch Sp Sy El Go.RowKit
theorem zPd (x:World)(g:Nat)(c0 c1 c2 c3:Value):x.grownBy ((((x.setCell ⟨g,0,none⟩ c0).setCell ⟨g,1,none⟩ c1).setCell ⟨g,2,none⟩ c2).setCell ⟨g,3,none⟩ c3) (some g):=
 zB4 (zB4 (zB4 (zA9 x ⟨g,0,none⟩ c0) (zA9 _ ⟨g,1,none⟩ c1)) (zA9 _ ⟨g,2,none⟩ c2)) (zA9 _ ⟨g,3,none⟩ c3)
theorem fin4 {B:Nat}{w x:World}{g:Nat}{t:TypeId}{d0 d1 d2 d3:Value}(h:Blk x g t #[d0,d1,d2,d3])(hb:Below B w x)(hg:B≤g)(c0 c1 c2 c3:Value):∃w9,(((x.setCell ⟨g,0,none⟩ c0).setCell ⟨g,1,none⟩ c1).setCell ⟨g,2,none⟩ c2).setCell ⟨g,3,none⟩ c3=w9∧Hid (Blk w9 g t #[c0,c1,c2,c3])∧Hid (Below B w w9)∧Hid (x.grownBy w9 (some g)):=
 ⟨_,rfl,zh ((((h.set_ 0 c0).set_ 1 c1).set_ 2 c2).set_ 3 c3),zh (hb.grown (zPd x g c0 c1 c2 c3) (Nat.le_trans hg (Nat.le_of_lt h.lt)) fun r e=>by have:=sj e;omega),zh (zPd x g c0 c1 c2 c3)⟩
theorem sjj {a b:Nat}(h:some a=some b):a=b:=sj h
def opK (e:Nat)(sym:ByteArray)(g:Nat):Array Value:=if e=0 then #[.int .i64 2,.string sym,.int .i64 0,.slice none 0 0] else #[.int .i64 e,.string ⟨#[]⟩,.int .i64 0,.slice (some ⟨g,0,none⟩) 1 1]
def OpP (o:Option (Tre×List (List Tre)))(w:World)(e:Ending)(w':World):Prop:=(match o with
 |none=>e= .returned (.tuple #[.agg zerD,.slice none 0 0,.bool false])
 |some (t,R)=>∃v A cap,e= .returned (.tuple #[.agg #[.int .i64 t.kind,.string t.text,.int .i64 t.cols,v],.slice A R.length cap,.bool true])∧t.text.size≤9223372036854775807∧AppN (fun b=>w.heap.size≤b) w' w.heap.size v t.kids∧R.length≤cap∧cap≤9223372036854775807∧zAn (fun b=>w.heap.size≤b∧v.ownBlock≠some b) w' A (R.map rowT))∧Below w.heap.size w w'
theorem zWd {cs:Array Value}{i:Nat}{v:Value}(hv:cs[i]?=some v):cs.setIfInBounds i v=cs:=by
 refine Array.ext_getElem? fun k=>?_
 rw[Array.getElem?_setIfInBounds]
 split
 ·next e=>
  subst e
  split
  ·exact hv.symm
  ·next hn=>rw[Array.getElem?_eq_none (Nat.le_of_not_lt hn)] at hv;cases hv
 ·rfl
theorem zDx {w:World}{g:Nat}{t:TypeId}{cs:Array Value}(h:Blk w g t cs)(i:Nat)(v:Value)(hv:cs[i]?=some v):w.setCell ⟨g,i,none⟩ v=w:=by
 have e:(w.setCell ⟨g,i,none⟩ v).heap=w.heap:=by
  unfold World.setCell;refine Array.ext_getElem? fun k=>?_
  rw[Array.getElem?_modify]
  split
  ·next e=>
   subst e;have h':w.heap[g]?=some (.cells cs t (0,0)):=h;dsimp only;rw[h'];simp[zWd hv]
  ·rfl
 cases w;simp only[World.setCell] at e⊢;rw[e]
theorem zUc {w:World}{g:Nat}{t:TypeId}{a b c d:Value}(h:Blk w g t #[a,b,c,d]):(((w.setCell ⟨g,0,none⟩ a).setCell ⟨g,1,none⟩ b).setCell ⟨g,2,none⟩ c).setCell ⟨g,3,none⟩ d=w:=by
 rw[zDx h 0 a rfl,zDx h 1 b rfl,zDx h 2 c rfl,zDx h 3 d rfl]
theorem zAn.off {ok:Nat→Prop}{w w':World}{row:Option Nat}{A:Option Addr}{ks:List Tre}(h:zAn ok w A ks)(hg:w.grownBy w' row)(hr:∀b,ok b→some b≠row):zAn ok w' A ks:=
 h.map hg.size (fun _ _ h=>h) fun _ hp ho=>World.cell?_of_block (hg.block _ hp (hr _ ho))
theorem zXz {ok:Nat→Prop}{w:World}{ad:Addr}{ks:List Tre}(h:zAn ok w (some ad) ks)(s:Nat):zAn ok w (some (ad.add (s*4))) (ks.drop s):=fun i t hi=>by
 rw[List.getElem?_drop] at hi;obtain⟨ad',h1,h2,h3,c,h4,h5⟩:=h _ t hi;obtain rfl:=sj h1;refine⟨_,rfl,by rw[zA6];exact h2,by rw[zA6];exact h3,c,h4,fun j hj=>?_⟩;rw[Addr.add_add,show s*4+(i*4+j)=(s+i)*4+j by omega];exact h5 j hj
theorem zW3 {lo q:Nat}{w3 w6 wc:World}(hx:Below w3.heap.size w3 w6)(hg:w6.grownBy wc (some q))(hq:q<lo){A:Option Addr}{ks:List Tre}(h:zAn (fun b=>lo≤b) w3 A ks):zAn (fun b=>lo≤b∧b<w3.heap.size) wc A ks:=
 ((h.any (ok':=fun b=>lo≤b∧b<w3.heap.size) fun b hb h=>⟨h,hb⟩).keep hx).map hg.size (fun _ _ h=>h) fun p hp ho=>World.cell?_of_block (hg.block _ hp fun e=>by have h9:p.block=q:=sj e;omega)
theorem AppN.zZw {P:Nat→Prop}{w w':World}{B:Nat}{v v':Value}{xs ys:List Tre}{css dss:List (Array Value)}(hl:css.length=xs.length)(h:∀(j:Nat) c x,css[j]?=some c→xs[j]?=some x→NdAt (fun b=>v.ownBlock≠some b∧P b) w x c)(hl2:dss.length=ys.length)(h2:∀(j:Nat) c x,dss[j]?=some c→ys[j]?=some x→NdAt (fun b=>v.ownBlock≠some b∧P b) w x c)
  (ho:w'.ownsRow B 25 4 v' (xs.length+ys.length) (css.flatMap (·.toList)++dss.flatMap (·.toList))) (hg:w.grownBy w' v.ownBlock) (hv:v'.ownBlock=v.ownBlock∨v'.ownBlock=some w.heap.size):AppN P w' B v' (xs++ys):=by
 have mv:∀{x:Tre} {c:Array Value},NdAt (fun b=>v.ownBlock≠some b∧P b) w x c→NdAt (fun b=>v'.ownBlock≠some b∧P b) w' x c:=fun hx=>hx.grown hg (fun b _ hb e=>hb.1 e.symm) fun b hb ho=>⟨by
  rcases hv with e|e
  ·rw[e];exact ho.1
  ·rw[e];intro h2;have:=sj h2;omega,ho.2⟩
 refine⟨css++dss,by rw[List.length_append,List.flatMap_append];exact ho,by simp[hl,hl2],fun j d y hj hy=>?_⟩;rcases Nat.lt_or_ge j css.length with hlt|hge
 ·rw[List.getElem?_append_left hlt] at hj;rw[List.getElem?_append_left (by omega)] at hy;exact mv (h j d y hj hy)
 ·rw[List.getElem?_append_right hge] at hj;rw[List.getElem?_append_right (by omega),←hl] at hy;exact mv (h2 _ d y hj hy)
theorem zAn.take {ok:Nat→Prop}{w:World}{A:Option Addr}{ts:List Tre}(h:zAn ok w A ts)(n:Nat):zAn ok w A (ts.take n):=fun i t hi=>by
 rw[List.getElem?_take] at hi
 split at hi
 ·exact h i t hi
 ·cases hi
theorem zVv {e:Nat}(he:e=0∨e=7∨e=8∨e=9){sym:ByteArray}{x:World}{B g5 gb:Nat}(hs:sym.size≤9223372036854775807)(h8:Blk x gb 25 (opK e sym (g5+1)))(h5:Blk x g5 25 #[.int .i64 2,.string sym,.int .i64 0,.slice none 0 0])(h6:Blk x (g5+1) 25 #[.int .i64 1,.string ⟨#[]⟩,.int .i64 0,.slice (some ⟨g5,0,none⟩) 1 1])(hB:B+2≤g5):
  ∃(ke:Int) (tx:ByteArray) (v0:Value) (ks0:List Tre),Blk x gb 25 #[.int .i64 ke,.string tx,.int .i64 0,v0]∧AppN (fun b=>B+2≤b) x (B+2) v0 ks0∧ks0.length≤1∧(∀b,v0.ownBlock=some b→b=g5+1)∧tx.size≤9223372036854775807∧
   ∀R:List (List Tre),(if e=0 then symT sym else .mk e ⟨#[]⟩ 0 (rowT [symT sym]::(R.take (scrN e)).map rowT))= .mk ke tx 0 (ks0++(R.take (scrN e)).map rowT):=by
 unfold opK at h8
 by_cases h0:e=0
 ·subst h0;exact⟨2,sym,.slice none 0 0,[],h8,AppN.nil _ _ _,by simp,(fun b h=>by cases h),hs,fun R=>rfl⟩
 ·rw[if_neg h0] at h8;refine⟨e,⟨#[]⟩,_,[rowT [symT sym]],h8,?_,by simp,(fun b h=>(sj h).symm),by decide,fun R=>by rw[if_neg h0];rfl⟩;have hk:=zD8 (ok:=fun b=>(Value.slice (some ⟨g5+1,0,none⟩) 1 1).ownBlock≠some b∧B+2≤b) (ks:=[]) h5 hs (Nat.le_refl _) (by omega) (fun i x h=>by simp at h) ⟨fun h=>by have h9:g5+1=g5:=sjj h;omega,hB⟩;exact⟨[#[.int .i64 1,.string ⟨#[]⟩,.int .i64 0,.slice (some ⟨g5,0,none⟩) 1 1]],⟨rfl,.inr ⟨g5+1,1,_,rfl,by omega,h6,Nat.le_refl _,by decide,rfl,rfl⟩⟩,rfl,fun j c y hj hy=>by
   match j,hj,hy with
   |0,hj,hy=>
    obtain rfl:=sj hj;obtain rfl:=sj hy;exact NdAt.of (k:=1) (s:=⟨#[]⟩) (c:=0) (ks:=[symT sym]) (by decide) (Nat.le_refl _) (by omega) hk
   |j+1,hj,hy=>simp at hj⟩
theorem zSk (A:Option Addr)(cap:Nat)(rs:List Rul)(kind:Int)(s:ByteArray)(w:World)(io:Option Nat)(h:rs.findIdx? (namP kind s)=io)(hR:zAi w A rs)(hn:rs.length≤1000000):Calls Tryz.prog 189 #[.slice A rs.length cap,.int .i64 kind,.string s] w fun e w'=>e= .returned (.tuple #[.int .i64 (idxV io),.bool io.isSome])∧Below w.heap.size w w':=h▸zRf A cap rs kind s w hR hn
set_option maxRecDepth 100000 in
set_option maxHeartbeats 8000000 in
theorem zC4 (W:WrB)(A:Option Addr)(cap:Nat)(rs:List Rul)(f:Nat)(HI:zBo W A cap rs f)(kd:Int)(e:Nat)(he:e=0∨e=7∨e=8∨e=9)(es:ByteArray)(hes:es=endW (eJ e))(n:Nat)(hn1:1≤n)(hn:n≤10)(m:Trm)(c:Array Value)(w:World)(hm:szM m≤f)(hf:f≤100000)(hrn:rs.length≤1000000)(hW:zCn w W A cap rs)(hM:MAt w m c):
  Calls Tryz.prog 151 #[.pointer (some ⟨W.gw,0,none⟩),.int .i64 kd,.agg c,.string es,.int .i64 (n:Int)] w (OpP ((zA4 rs m.args).bind fun R=>opW rs kd m.nam e R n) w):=by
 obtain⟨i0,hi,hz0,hz1,hz2⟩:=zGl;obtain⟨A2,cap2,rfl,_,_,_,hl,hc,hk⟩:=hM.form;have B1:=zA0 w (.cells (trmC m.kind m.nam m.vr A2 m.args.length cap2 m.form) 31);have s1:(w.alloc (.cells (trmC m.kind m.nam m.vr A2 m.args.length cap2 m.form) 31)).heap.size=w.heap.size+1:=by simp
 have B2:=zA0 (w.alloc (.cells (trmC m.kind m.nam m.vr A2 m.args.length cap2 m.form) 31)) (.cells zerD 25);have HB:=zh (B1.trans (B2.mono B1.size));have K0:=zh (keep B2 (Blk.new w 31 (trmC m.kind m.nam m.vr A2 m.args.length cap2 m.form)));have K1:=zh (Blk.new (w.alloc (.cells (trmC m.kind m.nam m.vr A2 m.args.length cap2 m.form) 31)) 25 zerD);rw[s1] at K1;have HW1:=zh (hW.keep HB.out);have HK1:=zh (hk.keep HB.out);have HC:=zh (show szL m.args<f by have:=zDi hm hf;omega);have HES:=zh hes;clear hW hM hk B1 B2 s1 hm hes;go_enter Tryz.func151,Tryz.ntmps151;go_upto_region 1 with(fail)
 generalize (w.alloc (.cells (trmC m.kind m.nam m.vr A2 m.args.length cap2 m.form) 31)).alloc (.cells zerD 25)=w1 at*;refine zBh (by kernel_rfl) (by kernel_rfl) ?_;have C1:=fun e:Ext w1=>(keep e.bel HW1.out.box).cell 0
 have C2:=fun e:Ext w1=>(keep e.bel K0.out).cell 1
 obtain⟨io,hio⟩:∃io,rs.findIdx? (namP kd m.nam)=io:=⟨_,rfl⟩
 have HCC:=zh (fun e:Ext w1=>Calls.ext (zSk A cap rs kd m.nam e.val io hio (HW1.out.rules.keep e.bel) hrn));have HIO:=zh hio;clear hio
 repeat (go_big_quiet_step (fail))
 go_big_quiet_step ((rename_i e;exact HCC.out e))
 repeat (go_big_quiet_step (fail))
 refine wpQuiet_nil ?_;intro wq hwq;obtain⟨⟨w9,hb⟩,e9⟩:=hwq;dsimp only at e9;subst e9;have HB2:=jt HB hb;have K02:=kp hb K0;have K12:=kp hb K1;have HW2:=zh (HW1.out.keep hb);have HK2:=zh (HK1.out.keep hb);clear C1 C2 HCC hb HB K0 K1 HW1 HK1;cases io with
 |none=>
  have HQ:=zh (show((zA4 rs m.args).bind fun R=>opW rs kd m.nam e R n)=none by
   cases zA4 rs m.args with
   |none=>rfl
   |some R=>show opW rs kd m.nam e R n=none;unfold opW;rw[zMg,HIO.out])
  have k1c:=fun i=>K12.out.cell i
  have k1f:=fun i=>K12.out.frozen i
  go_wp2_with fail;obtain⟨w5,e5,K5,HB5,_⟩:=fin4 K12.out HB2.out (by omega) (.int .i64 0) (.string ⟨#[]⟩) (.int .i64 0) (.slice none 0 0);rw[e5];have r0:=K5.out.cell 0;have r1:=K5.out.cell 1;have r2:=K5.out.cell 2;have r3:=K5.out.cell 3;exact bodyPost_ret (v:=.tuple #[.agg zerD,.slice none 0 0,.bool false]) (by simp[results,Tryz.results151,go_sem,r0,r1,r2,r3]) rfl (show OpP _ _ _ _ by rw[HQ.out];exact⟨rfl,HB5.out⟩)
 |some i=>
  obtain⟨u,hu⟩:∃u,rs[i]?=some u:=⟨_,gE (List.findIdx?_eq_some_iff_getElem.1 HIO.out).1⟩
  have HU:=zh hu;rw[show idxV (some i)=(i:Int) from rfl];have k03:=K02.out.cell 3;go_wp2_with fail;refine(zIk W A cap rs f HI m.args A2 cap2 wq HC.out hf HW2.out HK2.out).mono ?_;rintro r w3 ⟨hres,hb⟩;obtain⟨A3,n3,c3,b,rfl,hbt,hbf⟩:∃A3 n3 c3 b,r= .returned (.tuple #[.slice A3 n3 c3,.bool b])∧(b=true→∃R,zA4 rs m.args=some R∧R.length=n3∧n3≤c3∧c3≤9223372036854775807∧zAn (fun b=>wq.heap.size≤b) w3 A3 (R.map rowT))∧(b=false→zA4 rs m.args=none):=by
   cases hR:zA4 rs m.args with
   |none=>rw[hR] at hres;exact⟨none,0,0,false,hres,(fun h=>by cases h),fun _=>rfl⟩
   |some R=>
    rw[hR] at hres;obtain⟨A3,c3,e3,hl3,hc3,hn3⟩:=hres;rw[List.length_map] at e3 hl3;exact⟨A3,R.length,c3,true,e3,fun _=>⟨R,rfl,rfl,hl3,hc3,hn3⟩,fun h=>by cases h⟩
  have HBT:=zh hbt;have HBF:=zh hbf;have HSQ:=zh (show w.heap.size+1<wq.heap.size from K12.out.lt);have HB3:=jt HB2 hb;have K13:=kp hb K12;have HW3:=zh (HW2.out.keep hb);clear hres hb hbt hbf k03 HB2 K02 K12 HW2 HK2 hu;obtain⟨hfit,adr,hA,hadl,_,d1,_⟩:=HW3.out.rules.at_ HU.out;subst hA;have hil:(i:Int)<(rs.length:Int):=by have:=(List.getElem?_eq_some_iff.1 HU.out).1;omega
  have hb0:=HW3.out.box.cell 0;have HFT:=zh (show u.sym.size≤9223372036854775807 from hfit.1);have ba:=zA0 w3 (.cells #[.int .i64 2,.string u.sym,.int .i64 0,.slice none 0 0] 25);have K4:=zh (Blk.new w3 25 #[.int .i64 2,.string u.sym,.int .i64 0,.slice none 0 0]);have HB4:=jt HB3 ba;have K14:=kp ba K13;have HSZ:=zh (show w.heap.size+1<w3.heap.size from K13.out.lt);have HX4:=zh (show Below w3.heap.size w3 _ from ba);have HZ4:=zh (show(w3.alloc (.cells #[.int .i64 2,.string u.sym,.int .i64 0,.slice none 0 0] 25)).heap.size=w3.heap.size+1 by simp);clear ba;go_upto_region 6 with(fail)
  generalize w3.alloc (.cells #[.int .i64 2,.string u.sym,.int .i64 0,.slice none 0 0] 25)=w4 at*;generalize hg4:w3.heap.size=g4 at*;have HG4:=zh hg4;clear d1 hb0 hg4;have q0:=K4.out.cell 0;have q1:=K4.out.cell 1;have q2:=K4.out.cell 2;have q3:=K4.out.cell 3;have b5:=zA0 w4 (.cells #[.int .i64 2,.string u.sym,.int .i64 0,.slice none 0 0] 25);have s5:(w4.alloc (.cells #[.int .i64 2,.string u.sym,.int .i64 0,.slice none 0 0] 25)).heap.size=w4.heap.size+1:=by simp
  have b6:=zA0 (w4.alloc (.cells #[.int .i64 2,.string u.sym,.int .i64 0,.slice none 0 0] 25)) (.cells #[.int .i64 1,.string ⟨#[]⟩,.int .i64 0,.slice (some ⟨w4.heap.size,0,none⟩) 1 1] 25);have hbb:=b5.trans (b6.mono b5.size);have HB6:=jt HB4 hbb;have K46:=kp hbb K4;have K16:=kp hbb K14;have K5:=zh (keep b6 (Blk.new w4 25 #[.int .i64 2,.string u.sym,.int .i64 0,.slice none 0 0]));have K6:=zh (Blk.new (w4.alloc (.cells #[.int .i64 2,.string u.sym,.int .i64 0,.slice none 0 0] 25)) 25 #[.int .i64 1,.string ⟨#[]⟩,.int .i64 0,.slice (some ⟨w4.heap.size,0,none⟩) 1 1]);rw[s5] at K6;have HX6:=zh (HX4.out.trans (hbb.mono (by have:=HZ4.out;omega)));have k1c:=fun i=>K16.out.cell i
  have k1f:=fun i=>K16.out.frozen i
  clear b5 b6 hbb s5 HB4 K14 K4 HX4;go_upto_region 7 with(fail)
  clear q0 q1 q2 q3 k1c k1f;obtain⟨w7,e7,K7,HB7,HG7⟩:=fin4 K16.out HB6.out (by omega) (.int .i64 0) (.string ⟨#[]⟩) (.int .i64 0) (.slice (some ⟨w4.heap.size+1,0,none⟩) 1 1);rw[e7];have K47:=zh (K46.out.grown HG7.out fun e=>by have:=sjj e;have:=HSZ.out;omega);have K57:=zh (K5.out.grown HG7.out fun e=>by have:=sjj e;have:=HSZ.out;have:=HZ4.out;omega);have K67:=zh (K6.out.grown HG7.out fun e=>by have:=sjj e;have:=HSZ.out;have:=HZ4.out;omega);clear e7 K46 K5 K6 K16 HB6
  go_upto_block 0 with(fail)
  go_cut [16] (fun s wc=>s= .int .i64 (scrN e:Nat)∧Hid (Blk wc (w.heap.size+1) 25 (opK e u.sym (w4.heap.size+1)))∧Hid (Below w.heap.size w wc)∧Hid (w7.grownBy wc (some (w.heap.size+1))))
  case first=>
   have k1c:=fun i=>K7.out.cell i
   have k1f:=fun i=>K7.out.frozen i
   have q0:=K47.out.cell 0;have q1:=K47.out.cell 1;have q2:=K47.out.cell 2;have q3:=K47.out.cell 3;rcases he with rfl|rfl|rfl|rfl
   ·have t1:es.toList.isEmpty=true:=by rw[HES.out];decide+kernel
    go_wp2_with fail;obtain⟨w8,e8,K8,HB8,HG8⟩:=fin4 K7.out HB7.out (by omega) (.int .i64 2) (.string u.sym) (.int .i64 0) (.slice none 0 0);rw[e8];go_meet;exact⟨rfl,K8,HB8,HG8⟩
   ·have t1:es.toList.isEmpty=false:=by rw[HES.out];decide+kernel
    have t2:(es.toList==[115,117,98])=true:=by rw[HES.out];decide+kernel
    go_wp2_with fail;go_meet;exact⟨rfl,zh (K7.out.set_ 0 (.int .i64 7)),zh (HB7.out.grown (zA9 w7 ⟨w.heap.size+1,0,none⟩ (.int .i64 7)) HB7.out.size fun r e=>by have h9:w.heap.size+1=r:=sjj e;omega),zh (zA9 w7 ⟨w.heap.size+1,0,none⟩ (.int .i64 7))⟩
   ·have t1:es.toList.isEmpty=false:=by rw[HES.out];decide+kernel
    have t2:(es.toList==[115,117,98])=false:=by rw[HES.out];decide+kernel
    have t3:(es.toList==[115,117,112])=true:=by rw[HES.out];decide+kernel
    go_wp2_with fail;go_meet;exact⟨rfl,zh (K7.out.set_ 0 (.int .i64 8)),zh (HB7.out.grown (zA9 w7 ⟨w.heap.size+1,0,none⟩ (.int .i64 8)) HB7.out.size fun r e=>by have h9:w.heap.size+1=r:=sjj e;omega),zh (zA9 w7 ⟨w.heap.size+1,0,none⟩ (.int .i64 8))⟩
   ·have t1:es.toList.isEmpty=false:=by rw[HES.out];decide+kernel
    have t2:(es.toList==[115,117,98])=false:=by rw[HES.out];decide+kernel
    have t3:(es.toList==[115,117,112])=false:=by rw[HES.out];decide+kernel
    go_wp2_with fail;go_meet;exact⟨rfl,zh (K7.out.set_ 0 (.int .i64 9)),zh (HB7.out.grown (zA9 w7 ⟨w.heap.size+1,0,none⟩ (.int .i64 9)) HB7.out.size fun r e=>by have h9:w.heap.size+1=r:=sjj e;omega),zh (zA9 w7 ⟨w.heap.size+1,0,none⟩ (.int .i64 9))⟩
  case rest=>
   obtain⟨rfl,K8',HB8,HG8⟩:=hcut;have K48:=zh (K57.out.grown HG8.out fun e=>by have:=sjj e;have:=HSZ.out;have:=HZ4.out;omega);have K58:=zh (K67.out.grown HG8.out fun e=>by have:=sjj e;have:=HSZ.out;have:=HZ4.out;omega);obtain⟨ke,tx,v0,ks0,hk8,hap0,hl0,hv0,htx,hsh⟩:=zVv (B:=w.heap.size) he HFT.out K8'.out K48.out K58.out (by have:=HSZ.out;have:=HZ4.out;omega);have K8:=zh hk8;have HAP:=zh hap0;have HSH:=zh hsh;have HLZ:=zh hl0;have HTX:=zh htx;have HVO:=zh hv0;have hs2:scrN e≤2:=by unfold scrN;split<;>(try split)<;>omega
   have HSC:=zh (show scrN e=scrN e from rfl);obtain⟨s,hs⟩:∃s,s=scrN e:=⟨_,rfl⟩
   have HSE:=zh hs;rw[←hs] at HSC hs2⊢;clear hs;have hx6:=HX6.out;rw[←HG4.out] at hx6;have hg9:=zB4 HG7.out HG8.out;have HXM:=zh (show ∀(A:Option Addr) (ks:List Tre),zAn (fun b=>wq.heap.size≤b) w3 A ks→zAn (fun b=>wq.heap.size≤b∧b<w3.heap.size) wc A ks from fun A ks h=>zW3 (q:=w.heap.size+1) hx6 hg9 HSQ.out h);clear hx6 hg9;have HGQ:=zh (show w3.heap.size+2≤w4.heap.size+1 by have:=HG4.out;have:=HZ4.out;omega);have HGW:=zh (show w4.heap.size+1<wc.heap.size from K58.out.lt);clear K8' hk8 hap0 hsh hl0 htx hv0 K57 K67 K48 K58 K7 HB7 K47;have k1c:=fun i=>K8.out.cell i
   have k1f:=fun i=>K8.out.frozen i
   cases b with
   |false=>
    have HQ:=zh (show((zA4 rs m.args).bind fun R=>opW rs kd m.nam e R n)=none by rw[HBF.out rfl];rfl);go_wp2_with fail;obtain⟨w5,e5,K5,HB5,_⟩:=fin4 K8.out HB8.out (Nat.le_succ _) (.int .i64 0) (.string ⟨#[]⟩) (.int .i64 0) (.slice none 0 0);rw[e5];have r0:=K5.out.cell 0;have r1:=K5.out.cell 1;have r2:=K5.out.cell 2;have r3:=K5.out.cell 3;exact bodyPost_ret (v:=.tuple #[.agg zerD,.slice none 0 0,.bool false]) (by simp[results,Tryz.results151,go_sem,r0,r1,r2,r3]) rfl (show OpP _ _ _ _ by rw[HQ.out];exact⟨rfl,HB5.out⟩)
   |true=>
    obtain⟨R,hR,hRn,hn3,hc3,hnd⟩:=HBT.out rfl
    by_cases hq:n3=s+n
    ·have HN8:=zh (HXM.out _ _ hnd);have q1:((n3:Int) !=(s:Int)+(n:Int))=false:=by rw[hq];simp
     have hne:0<(R.map rowT).length:=by rw[List.length_map,hRn,hq];exact ll hn1 (Nat.le_add_left n s)
     obtain⟨a0,ha0⟩:∃a,(R.map rowT)[0]?=some a:=⟨_,gE hne⟩
     obtain⟨ad3,hA3,_⟩:=HN8.out 0 a0 ha0;rw[hA3] at HN8;rw[hA3];clear hA3;have HRN:=zh hRn;have HR:=zh hR;have HNS:=zh hq;have hsn:s≤n3:=by rw[hq];exact Nat.le_add_right s n
     have hsl:s≤c3:=Nat.le_trans hsn hn3;have hcs:¬(c3=s):=fun h=>by rw[h,hq] at hn3;omega
     clear ha0 hR hRn hnd hq HBT HBF;go_upto_region 18 with(fail)
     refine zAh (X:=Gh) (by kernel_rfl) [2,1,2,2,2,3,2,3] [false,false,false,false,false,false,false,false] _ (fun gx=>[.pointer (some ⟨w.heap.size+1,3,none⟩),v0,.slice (some ad3) n3 c3,.int .i64 (↑s),.slice (some ad3) s c3,undef,.pointer (some ⟨w.heap.size+1,3,none⟩),undef]) [] (fun _ _=>True) Gh.zero (by kernel_rfl) (fun gx=>by simp[fin,zAm,zAb,List.range,List.range.loop,Act.put];rfl) (fun _=>by kernel_rfl) zA8.nil (trivial) ?_ (by kernel_rfl) ?_
     ·refine⟨fun gx wq=>jp (.pointer (some ⟨w.heap.size+1,3,none⟩)) (by simp[go_sem,evAct]) rfl,fun gx wq hB hJ hf=>?_,fun gx wq=>jp (.slice (some ad3) n3 c3) (by kernel_rfl) rfl,fun gx wq=>jp (.int .i64 (↑s)) (by kernel_rfl) rfl,fun gx wq=>jp (.slice (some ad3) s c3) (by simp[go_sem,evAct,hsl]) rfl,fun gx wq=>jp (.pointer (some ⟨w.heap.size+1,3,none⟩)) (by simp[go_sem,evAct]) rfl,trivial⟩
      ·have cJ:=(keep hB K8.out).cell 3;exact gs v0 hJ (by kernel_rfl) (by simp[go_sem,evAct,cJ]) rfl
     ·refine fun gx wq hB hJ hf=>?_
      dsimp only[zAu] at hf;change wpOps _ _ _ [5,7] _ _;have HB9:=jt HB8 hB;have HN9:=zh (HN8.out.keep hB);have K9:=kp hB K8;have HAP9:=zh (HAP.out.keep hB);have HSW:=zh (show w3.heap.size+2≤wq.heap.size from Nat.le_trans (Nat.le_trans HGQ.out (Nat.le_of_lt HGW.out)) hB.size);clear hB hf hJ gx HN8 K8 HAP HB8 HXM;generalize wq=wv at*;obtain⟨css0,ho,hl5,hr5⟩:=HAP9.out;obtain⟨css,hcl,hct,hcr⟩:=zNv (HN9.out.take s);have hks:((R.map rowT).take s).length=s:=by rw[List.length_take,List.length_map,HRN.out];omega
      rw[hks] at hcl hcr;have hone:∀u∈css.flatMap (·.toList),u.oneCell'=true:=fun u hu=>by
       obtain⟨c,hc,hr⟩:=List.mem_flatMap.1 hu;obtain⟨j,hj⟩:=List.mem_iff_getElem?.1 hc;have hj2:=(List.getElem?_eq_some_iff.1 hj).1;exact zUs (hct j c _ hj (gE (by rw[hks];omega))) u hr
      have hkl:=HLZ.out;refine zDp (o:=_) (R:=fun v' w'=>w'.ownsRow (w.heap.size+2) 25 4 v' (ks0.length+s) (css0.flatMap (·.toList)++css.flatMap (·.toList))∧wv.grownBy w' v0.ownBlock∧(v'.ownBlock=v0.ownBlock∨v'.ownBlock=some wv.heap.size)) rfl rfl (zBg (.tmp 75) (.tmp 78) 23 rfl (w.heap.size+2) 25 i0 (.agg zerD) 4 56 Tryz.underlying23 hi hz0 hz1 hz2 rfl (by decide) v0 ks0.length (css0.flatMap (·.toList)) rfl ho wv.heap.size (some ad3) s c3 (css.flatMap (·.toList)) rfl hcr hone (by unfold maxLen;omega) (by omega) (by have:=HSW.out;have:=HSQ.out;have:=HG4.out;omega) fun v' w' q2 q3 q4=>⟨q2,q3,q4⟩) ?_;rintro v' wz ⟨q2,q3,q4⟩;have HAPZ:=AppN.zZw (P:=fun b=>w.heap.size+2≤b) (v:=v0) (xs:=ks0) (ys:=(R.map rowT).take s) (dss:=css) hl5 hr5 (hcl.trans hks.symm) (fun j c x hj hx=>(hct j c x hj hx).any fun b _ hb=>⟨fun h=>by have h9:=HVO.out b h;have:=HGQ.out;omega,by have:=HSQ.out;omega⟩) (by rw[hks];exact q2) q3 q4;obtain⟨A5,c5,e9,h51,h52,_⟩:=HAPZ.form (fun b hb=>hb);rw[List.length_append,hks] at e9 h51;obtain⟨kn,hkn⟩:∃kn,kn=ks0.length+s:=⟨_,rfl⟩
      rw[←hkn] at e9 h51;have HKN:=zh hkn;subst e9;have hvo:∀b,v0.ownBlock=some b→w3.heap.size+2≤b:=fun b h=>by have h9:=HVO.out b h;have:=HGQ.out;omega
      have KZ:=K9.out.grown q3 fun e=>by have:=hvo _ e.symm;have:=HSQ.out;have:=HG4.out;have:=HSZ.out;omega
      have HBZ:=HB9.out.grown q3 HB9.out.size fun r e=>by have:=hvo r e;have:=HG4.out;have:=HSZ.out;omega
      have HNZ:=HN9.out.off q3 fun b hb e=>by have:=hvo b e.symm;omega
      have k3:=KZ.cell 3;have f3:=KZ.frozen 3;have hg9:wz.grownBy (wz.setCell ⟨w.heap.size+1,3,none⟩ (.slice A5 kn c5)) (some (w.heap.size+1)):=zA9 wz ⟨w.heap.size+1,3,none⟩ _;have KY:=zh (show Blk (wz.setCell ⟨w.heap.size+1,3,none⟩ (.slice A5 kn c5)) (w.heap.size+1) 25 #[.int .i64 ke,.string tx,.int .i64 0,.slice A5 kn c5] from KZ.set_ 3 (.slice A5 kn c5));have HBY:=zh (HBZ.grown hg9 HBZ.size fun r e=>by have h9:w.heap.size+1=r:=sj e;omega);have HNY:=zh (HNZ.off hg9 fun b hb e=>by have h9:b=w.heap.size+1:=sj e;have:=HSQ.out;omega);have HAPY:=zh (HAPZ.set_ (p:=⟨w.heap.size+1,3,none⟩) (by show ¬(w.heap.size+2≤w.heap.size+1);omega) (by show w.heap.size+1<w.heap.size+2;omega) (.slice A5 kn c5));refine zAw (o:=_) rfl rfl (w':=wz.setCell ⟨w.heap.size+1,3,none⟩ (.slice A5 kn c5)) (by simp[go_sem,k3,f3]) ?_;refine zAe ?_;have HVN:=zh (show ∀b,(Value.slice A5 kn c5).ownBlock=some b→w3.heap.size≤b from fun b h=>by
       rcases q4 with e|e
       ·rw[e] at h;have:=hvo b h;omega
       ·rw[e] at h;have h9:wv.heap.size=b:=sj h;have:=HSW.out;omega)
      clear k3 f3 HAPZ hcl hct hcr hone q2 q3 q4 hg9 KZ HBZ HNZ hvo ho hl5 hr5 hkn hks hkl HAP9 HN9 HB9 K9;generalize wz.setCell ⟨w.heap.size+1,3,none⟩ (.slice A5 kn c5)=wy at*;go_upto_region 19 with(fail)
      refine zAh (X:=Gh) (by kernel_rfl) [1,2,2,2,3,2,2] [false,false,false,false,false,false,false] _ (fun gx=>[.agg #[.int .i64 ke,.string tx,.int .i64 0,.slice A5 kn c5],.slice (some ad3) n3 c3,.int .i64 (↑s),.slice (some (ad3.add (s*4))) (n3 -s) (c3 -s),undef,.slice (some (ad3.add (s*4))) (n3 -s) (c3 -s),.bool true]) [] (fun _ _=>True) Gh.zero (by kernel_rfl) (fun gx=>by simp[fin,zAm,zAb,List.range,List.range.loop,Act.put];rfl) (fun _=>by kernel_rfl) zA8.nil (trivial) ?_ (by kernel_rfl) ?_
      ·refine⟨fun gx wq hB hJ hf=>?_,fun gx wq=>jp (.slice (some ad3) n3 c3) (by kernel_rfl) rfl,fun gx wq=>jp (.int .i64 (↑s)) (by kernel_rfl) rfl,fun gx wq=>jp (.slice (some (ad3.add (s*4))) (n3 -s) (c3 -s)) (by simp[go_sem,evAct,hsn,hcs]) rfl,fun gx wq=>jp (.slice (some (ad3.add (s*4))) (n3 -s) (c3 -s)) (by kernel_rfl) rfl,fun gx wq=>jp (.bool true) (by kernel_rfl) rfl,trivial⟩
       ·have c0:=(keep hB KY.out).cell 0;have c1:=(keep hB KY.out).cell 1;have c2:=(keep hB KY.out).cell 2;have c3:=(keep hB KY.out).cell 3;exact gs (.agg #[.int .i64 ke,.string tx,.int .i64 0,.slice A5 kn c5]) hJ (by kernel_rfl) (by simp[go_sem,evAct,c0,c1,c2,c3]) rfl
      ·refine fun gx wq hB hJ hf=>?_
       dsimp only[zAu] at hf;change wpOps _ _ _ [4] _ _;have HKB:=kp hB KY;have HBB:=jt HBY hB;have HNB:=zh (zXz (HNY.out.keep hB) s);have HAB:=zh (HAPY.out.keep hB);have kc:=fun i=>HKB.out.cell i
       have kf:=fun i=>HKB.out.frozen i
       clear hB hf hJ gx KY HBY HNY HAPY;refine zAw (o:=_) rfl rfl (w':=(((wq.setCell ⟨w.heap.size+1,0,none⟩ (.int .i64 ke)).setCell ⟨w.heap.size+1,1,none⟩ (.string tx)).setCell ⟨w.heap.size+1,2,none⟩ (.int .i64 0)).setCell ⟨w.heap.size+1,3,none⟩ (.slice A5 kn c5)) (by simp[go_sem,kc,kf]) ?_;rw[zUc HKB.out];refine zAe ?_;clear kc kf;go_wp2_with fail;have r0:=HKB.out.cell 0;have r1:=HKB.out.cell 1;have r2:=HKB.out.cell 2;have r3:=HKB.out.cell 3;have HQ:((zA4 rs m.args).bind fun R=>opW rs kd m.nam e R n)=some (.mk ke tx 0 (ks0++(R.take s).map rowT),R.drop s):=by
        rw[HR.out];show opW rs kd m.nam e R n=_;unfold opW;rw[zMg,HIO.out];dsimp only;rw[HU.out];dsimp only;rw[if_pos (by rw[HRN.out,HNS.out,HSE.out]),HSH.out R,←HSE.out]
       have hl1:(R.drop s).length=n3 -s:=by rw[List.length_drop,HRN.out]
       have hl2:(ks0++(R.take s).map rowT).length=kn:=by rw[HKN.out,List.length_append,List.length_map,List.length_take,HRN.out,Nat.min_eq_left hsn]
       exact bodyPost_ret (v:=.tuple #[.agg #[.int .i64 ke,.string tx,.int .i64 0,.slice A5 kn c5],.slice (some (ad3.add (s*4))) (n3 -s) (c3 -s),.bool true]) (by simp[results,Tryz.results151,go_sem,r0,r1,r2,r3]) rfl (show OpP _ _ _ _ by
        rw[HQ];refine⟨⟨.slice A5 kn c5,some (ad3.add (s*4)),c3 -s,by rw[hl1];rfl,HTX.out,?_,by rw[hl1];omega,by omega,?_⟩,HBB.out⟩
        ·have h:=HAB.out;rw[←List.map_take] at h;exact OwnN.more (OwnN.any h fun b _ hb=>⟨hb.1,by have:=hb.2;omega⟩) (by omega)
        ·rw[List.map_drop];exact HNB.out.any fun b _ hb=>⟨by have:=hb.1;have:=HSQ.out;omega,fun e=>by have:=HVN.out b e;have:=hb.2;omega⟩)
    ·have q1:((n3:Int) !=(s:Int)+(n:Int))=true:=bne_iff_ne.2 fun h=>hq (Int.ofNat.inj (h.trans (Int.natCast_add s n).symm))
     have HQ:=zh (show((zA4 rs m.args).bind fun R=>opW rs kd m.nam e R n)=none by
      rw[hR];show opW rs kd m.nam e R n=none;unfold opW;rw[zMg,HIO.out];dsimp only;rw[HU.out];dsimp only;rw[if_neg (by rw[←HSE.out,hRn];exact hq)])
     clear hR hRn hnd hq;go_wp2_with fail;obtain⟨w5,e5,K5,HB5,_⟩:=fin4 K8.out HB8.out (Nat.le_succ _) (.int .i64 0) (.string ⟨#[]⟩) (.int .i64 0) (.slice none 0 0);rw[e5];have r0:=K5.out.cell 0;have r1:=K5.out.cell 1;have r2:=K5.out.cell 2;have r3:=K5.out.cell 3;exact bodyPost_ret (v:=.tuple #[.agg zerD,.slice none 0 0,.bool false]) (by simp[results,Tryz.results151,go_sem,r0,r1,r2,r3]) rfl (show OpP _ _ _ _ by rw[HQ.out];exact⟨rfl,HB5.out⟩)
end Go.Proofs.YtadcldfbmkfkaaaGreatDoor.Rn
