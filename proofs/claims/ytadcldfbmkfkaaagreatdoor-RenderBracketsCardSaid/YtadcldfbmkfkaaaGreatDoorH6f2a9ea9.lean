/- infix, prefix, postfix and juxtapose of the writer. -/
import Derived.Test.YtadcldfbmkfkaaaGreatDoorHcabea5c7
namespace Go.Proofs.YtadcldfbmkfkaaaGreatDoor.Rn
open At Ch Sp Sy El Go.RowKit
theorem zNy (P:Nat→Prop)(g:Nat)(A1 A2:Option Addr)(c1 c2:Nat)(a b:List Tre)(w:World)(hb:Blk w g 23 #[.slice A1 a.length c1,.slice A2 b.length c2])(h1:zAn P w A1 a)(h2:zAn P w A2 b)(hP:∀b,w.heap.size≤b→P b)(hn:a.length+b.length≤1000000):
  Calls Tryz.prog 150 #[.slice (some ⟨g,0,none⟩) 2 2] w fun e w'=>(∃A cap l,l=a++b∧e= .returned (.slice A l.length cap)∧l.length≤cap∧cap≤9223372036854775807∧zAn P w' A l)∧Below w.heap.size w w':=by
 have e0:zGf [⟨A1,c1,a⟩,⟨A2,c2,b⟩]=a++b:=by simp[zGf]
 refine(zN1 P g [⟨A1,c1,a⟩,⟨A2,c2,b⟩] w (fun k s hk=>?_) hb.lt (fun s hs=>?_) hP (by show 2≤_;omega) (by rw[e0,List.length_append];exact hn)).mono ?_
 ·match k,hk with
  |0,hk=>obtain rfl:=sj hk;exact hb.cell 0
  |1,hk=>obtain rfl:=sj hk;exact hb.cell 1
  |k+2,hk=>simp at hk
 ·rcases List.mem_cons.1 hs with rfl|hs
  ·exact h1
  ·rw[List.mem_singleton.1 hs];exact h2
 ·rintro e w' ⟨⟨A,cap,rfl,k1,k2,k3⟩,hb⟩;rw[e0] at k1 k3;exact⟨⟨A,cap,a++b,rfl,by rw[e0],k1,k2,k3⟩,hb⟩
theorem zVo (P:Nat→Prop)(g:Nat)(A1 A2 A3:Option Addr)(c1 c2 c3:Nat)(a b c:List Tre)(w:World)(hb:Blk w g 23 #[.slice A1 a.length c1,.slice A2 b.length c2,.slice A3 c.length c3])(h1:zAn P w A1 a)(h2:zAn P w A2 b)(h3:zAn P w A3 c)(hP:∀b,w.heap.size≤b→P b)(hn:a.length+b.length+c.length≤1000000):
  Calls Tryz.prog 150 #[.slice (some ⟨g,0,none⟩) 3 3] w fun e w'=>(∃A cap l,l=a++b++c∧e= .returned (.slice A l.length cap)∧l.length≤cap∧cap≤9223372036854775807∧zAn P w' A l)∧Below w.heap.size w w':=by
 have e0:zGf [⟨A1,c1,a⟩,⟨A2,c2,b⟩,⟨A3,c3,c⟩]=a++b++c:=by simp[zGf]
 refine(zN1 P g [⟨A1,c1,a⟩,⟨A2,c2,b⟩,⟨A3,c3,c⟩] w (fun k s hk=>?_) hb.lt (fun s hs=>?_) hP (by show 3≤_;omega) (by rw[e0,List.length_append,List.length_append];exact hn)).mono ?_
 ·match k,hk with
  |0,hk=>obtain rfl:=sj hk;exact hb.cell 0
  |1,hk=>obtain rfl:=sj hk;exact hb.cell 1
  |2,hk=>obtain rfl:=sj hk;exact hb.cell 2
  |k+3,hk=>simp at hk
 ·rcases List.mem_cons.1 hs with rfl|hs
  ·exact h1
  ·rcases List.mem_cons.1 hs with rfl|hs
   ·exact h2
   ·rw[List.mem_singleton.1 hs];exact h3
 ·rintro e w' ⟨⟨A,cap,rfl,k1,k2,k3⟩,hb⟩;rw[e0] at k1 k3;exact⟨⟨A,cap,a++b++c,rfl,by rw[e0],k1,k2,k3⟩,hb⟩
theorem zIo (lo g:Nat)(A1 A2:Option Addr)(c1 c2:Nat)(a b:List Tre)(w:World)(hb:Blk w g 23 #[.slice A1 a.length c1,.slice A2 b.length c2])(h1:zAn (fun b=>lo≤b) w A1 a)(h2:zAn (fun b=>lo≤b) w A2 b)(hlo:lo≤w.heap.size)(hn:a.length+b.length≤1000000):
  Calls Tryz.prog 150 #[.slice (some ⟨g,0,none⟩) 2 2] w fun e w'=>(∃A cap l,l=a++b∧e= .returned (.slice A l.length cap)∧l.length≤cap∧cap≤9223372036854775807∧zAn (fun b=>lo≤b) w' A l)∧Below w.heap.size w w':=
 zNy _ g A1 A2 c1 c2 a b w hb h1 h2 (fun _ h=>Nat.le_trans hlo h) hn
theorem zXx (lo g:Nat)(A1 A2 A3:Option Addr)(c1 c2 c3:Nat)(a b c:List Tre)(w:World)(hb:Blk w g 23 #[.slice A1 a.length c1,.slice A2 b.length c2,.slice A3 c.length c3])(h1:zAn (fun b=>lo≤b) w A1 a)(h2:zAn (fun b=>lo≤b) w A2 b)(h3:zAn (fun b=>lo≤b) w A3 c)(hlo:lo≤w.heap.size)(hn:a.length+b.length+c.length≤1000000):
  Calls Tryz.prog 150 #[.slice (some ⟨g,0,none⟩) 3 3] w fun e w'=>(∃A cap l,l=a++b++c∧e= .returned (.slice A l.length cap)∧l.length≤cap∧cap≤9223372036854775807∧zAn (fun b=>lo≤b) w' A l)∧Below w.heap.size w w':=
 zVo _ g A1 A2 A3 c1 c2 c3 a b c w hb h1 h2 h3 (fun _ h=>Nat.le_trans hlo h) hn
theorem zC6 {rs:List Rul}{ts:List Trm}{R:List (List Tre)}(h:zA4 rs ts=some R):∀a∈R,a.length≤8*szL ts:=by
 intro a ha;have h1:=zJw ts R h;obtain⟨i,hi⟩:=List.mem_iff_getElem?.1 (List.mem_map_of_mem (f:=rowT) ha);have h2:=zE7 hi;have h3:zA7 (rowT a)=zA3 a+1:=zBf a;have h4:=zJr a;have h5:=zSo ts;omega
theorem zMe {rs:List Rul}{kd:Int}{nam:ByteArray}{e:Nat}{R R2:List (List Tre)}{n:Nat}{t:Tre}(h:opW rs kd nam e R n=some (t,R2)):R2.length=n∧∀a∈R2,a∈R:=by
 unfold opW at h
 split at h
 ·cases h
 ·split at h
  ·cases h
  ·split at h
   ·next hq=>
    injection h with h;injection h with h1 h2;rw[←h2];exact⟨by rw[List.length_drop];omega,fun a ha=>List.mem_of_mem_drop ha⟩
   ·cases h
set_option maxRecDepth 100000 in
set_option maxHeartbeats 8000000 in
theorem zMb (W:WrB)(A:Option Addr)(cap:Nat)(rs:List Rul)(f:Nat)(HI:zBo W A cap rs f)(m:Trm)(c:Array Value)(w:World)(hm:szM m≤f)(hf:f≤10000)(hW:zCn w W A cap rs)(hM:MAt w m c):
  Calls Tryz.prog 102 #[.pointer (some ⟨W.gw,0,none⟩),.agg c] w (ItmP ((zA4 rs m.args).bind fun R=>fixW rs m.nam m.vr R .jux) w):=by
 obtain⟨A2,cap2,rfl,_,_,_,hl,hc,hk⟩:=hM.form;have B1:=zA0 w (.cells (trmC m.kind m.nam m.vr A2 m.args.length cap2 m.form) 31);have K0:=zh (Blk.new w 31 (trmC m.kind m.nam m.vr A2 m.args.length cap2 m.form));have HW1:=zh (hW.keep B1);have HK1:=zh (hk.keep B1);have HB:=zh B1;have HC:=zh (show szL m.args+1≤f by have:=zDi hm (by omega);omega);clear hW hM hk B1 hm;go_enter Tryz.func102,Tryz.ntmps102;go_upto_region 1 with(fail)
 generalize w.alloc (.cells (trmC m.kind m.nam m.vr A2 m.args.length cap2 m.form) 31)=w1 at*;have k3:=K0.out.cell 3;go_wp2_with fail;refine(zIk W A cap rs f HI m.args A2 cap2 w1 (by have:=HC.out;omega) (by omega) HW1.out HK1.out).mono ?_;rintro r w3 ⟨hres,hb⟩;have HB2:=jt HB hb;have HS:=zh HB.out.size;clear hb HB K0 k3;have HX:=zh (show ∀(o:Option (List Tre)),o=none→ItmP o w (.returned (.tuple #[.slice none 0 0,.bool false])) w3 from fun o e=>by subst e;exact⟨rfl,HB2.out⟩);cases hR:zA4 rs m.args with
 |none=>
  rw[hR] at hres;obtain rfl:r= .returned (.tuple #[.slice none 0 0,.bool false]):=hres;have HR:=zh hR;clear hR;go_wp2_with fail
  go_ret2
  exact HX.out _ (by rw[HR.out];rfl)
 |some R=>
  rw[hR] at hres;obtain⟨A3,c3,e3,hl3,hc3,hn3⟩:=hres;rw[List.length_map] at e3 hl3;have HN3:=zh (hn3.any (ok':=fun b=>w.heap.size≤b) fun b _ hb=>Nat.le_trans HS.out hb);have HR:=zh hR;clear hR hn3
  by_cases hq:R.length=2
  ·match R,hq,e3,HN3,HR with
   |[a,b],_,e3,HN3,HR=>
   obtain rfl:r= .returned (.tuple #[.slice A3 2 c3,.bool true]):=e3;have HQ:=zh (show((zA4 rs m.args).bind fun R=>fixW rs m.nam m.vr R .jux)=some (a++b) by rw[HR.out];rfl);have HLN:=zh (show a.length+b.length≤160000 by
    have h1:=zC6 HR.out a (by simp);have h2:=zC6 HR.out b (by simp);have:=HC.out;omega)
   have HLO:=zh HB2.out.size;obtain⟨adr,A6,c6,rfl,hadl,_,hl6,hc6,ha6,d0,d1,d2,d3⟩:=HN3.out.at0 (t:=rowT a) rfl;have HA6:=zh ha6;have HAD:=zh hadl;have d3:w3.cell? ⟨adr.block,adr.off+3,none⟩=some (.slice A6 a.length c6):=d3;clear d0 d1 d2 hadl ha6;obtain⟨adr',A7,c7,hA,_,_,hl7,hc7,ha7,_,_,_,e3⟩:=HN3.out.at_ (i:=1) (t:=rowT b) rfl;obtain rfl:=sj hA;have HA7:=zh ha7;have e3:w3.cell? ⟨(adr.add 4).block,(adr.add 4).off+3,none⟩=some (.slice A7 b.length c7):=e3;clear ha7 hA;have HB:=HB2;clear HB2 HX;obtain⟨lx,hlx⟩:∃lx,lx=a++b:=⟨_,rfl⟩
   have HLX:=zh hlx;rw[←hlx] at HQ;clear hlx;go_upto_region 4 with(fail)
   refine zAh (X:=Gh) (by kernel_rfl) [2,2,2,1,2,2,2,1,1,1,2,2] [false,false,false,false,false,false,false,false,false,false,false,false] _ (fun gx=>[.slice (some adr) 2 c3,.pointer (some adr),.pointer (some ⟨adr.block,adr.off+3,none⟩),.slice A6 a.length c6,.slice (some adr) 2 c3,.pointer (some (adr.add 4)),.pointer (some ⟨(adr.add 4).block,(adr.add 4).off+3,none⟩),.slice A7 b.length c7,.slice (some ⟨gx.n 30,0,none⟩) 2 2,gx.v 31,gx.v 31,.bool true]) [(8,fun gx wx=>Blk wx (gx.n 30) 23 #[.slice A6 a.length c6,.slice A7 b.length c7]),(9,fun gx wx=>∃A8 c8,gx.v 31= .slice A8 lx.length c8∧lx.length≤c8∧c8≤9223372036854775807∧zAn (fun b=>w.heap.size≤b) wx A8 lx)] (fun _ _=>True) Gh.zero (by kernel_rfl) (fun gx=>by simp[fin,zAm,zAb,List.range,List.range.loop,Act.put];rfl) (fun _=>by kernel_rfl) (zA8.cons (fun gx wx w2 h hb=>keep hb h) (zA8.cons (fun gx wx w2 ⟨A8,c8,h1,h2,h3,h4⟩ hb=>⟨A8,c8,h1,h2,h3,h4.keep hb⟩) zA8.nil)) (trivial) ?_ (by kernel_rfl) ?_
   ·refine⟨fun gx wq=>jp (.slice (some adr) 2 c3) (by kernel_rfl) rfl,fun gx wq=>jp (.pointer (some adr)) (by simp[go_sem,evAct,zF6]) rfl,fun gx wq=>jp (.pointer (some ⟨adr.block,adr.off+3,none⟩)) (by simp[go_sem,evAct]) rfl,fun gx wq hB hJ hf=>?_,fun gx wq=>jp (.slice (some adr) 2 c3) (by kernel_rfl) rfl,fun gx wq=>jp (.pointer (some (adr.add 4))) (by simp[go_sem,evAct]) rfl,fun gx wq=>jp (.pointer (some ⟨(adr.add 4).block,(adr.add 4).off+3,none⟩)) (by simp[go_sem,evAct]) rfl,fun gx wq hB hJ hf=>?_,fun gx wq hB hJ hf=>?_,fun gx wq hB hJ hf=>?_,fun gx wq=>jp (gx.v 31) (by kernel_rfl) rfl,fun gx wq=>jp (.bool true) (by kernel_rfl) rfl,trivial⟩
    ·have cJ:=(hB.cell (p:=⟨adr.block,adr.off+3,none⟩) HAD.out).trans d3;exact gs (.slice A6 a.length c6) hJ (by kernel_rfl) (by simp[go_sem,evAct,cJ]) rfl
    ·have cJ:wq.cell? ⟨adr.block,adr.off+4+3,none⟩=some (.slice A7 b.length c7):=by have h:=(hB.cell (p:=⟨(adr.add 4).block,(adr.add 4).off+3,none⟩) (by rw[zA6];exact HAD.out)).trans e3;simpa [go_sem] using h
     exact gs (.slice A7 b.length c7) hJ (by kernel_rfl) (by simp[go_sem,evAct,cJ]) rfl
    ·exact jv (.slice (some ⟨wq.heap.size,0,none⟩) 2 2) (wq.alloc (.cells #[.slice A6 a.length c6,.slice A7 b.length c7] 23)) (by simp[go_sem,evAct]) ⟨gx.setN 30 wq.heap.size,rfl,(by refine zA5.of_same ⟨?_,?_,?_,?_,?_,?_,?_,?_,?_,?_,?_,?_,trivial⟩<;>first|exact jK|exact .inl rfl|exact .inr (.inl (by kernel_rfl))),zA0 wq _,⟨Blk.new wq _ _,.inl (by kernel_rfl),trivial⟩,trivial⟩
    ·have f30:=hf.1 (by kernel_rfl);refine jc 150 (#[.slice (some ⟨gx.n 30,0,none⟩) 2 2]) wq (by kernel_rfl) ((zIo w.heap.size (gx.n 30) A6 A7 c6 c7 a b wq f30 (HA6.out.keep hB) (HA7.out.keep hB) (Nat.le_trans HLO.out hB.size) (by have:=HLN.out;first|omega|(simp only[List.length_cons,List.length_nil];omega))).mono ?_);rintro e wz ⟨⟨A8,c8,l8,hl8,rfl,k1,k2,k3⟩,hb⟩;rw[←HLX.out] at hl8;subst hl8;exact⟨_,rfl,gx.setV 31 (.slice A8 l8.length c8),rfl,(by refine zA5.of_same ⟨?_,?_,?_,?_,?_,?_,?_,?_,?_,?_,?_,?_,trivial⟩<;>first|exact jK|exact .inl rfl|exact .inr (.inl (by kernel_rfl))),hb,⟨.inr fun h=>h,⟨A8,c8,rfl,k1,k2,k3⟩,trivial⟩,trivial⟩
   ·refine fun gx wq hB hJ hf=>?_
    dsimp only[zAu] at hf;change wpOps _ _ _ [] _ _;refine zAe ?_;obtain⟨A8,c8,e8,k1,k2,k3⟩:=hf.2.1;have HBZ:=jt HB hB;have HN8:=zh k3;rw[e8];clear hf hJ k3 e8;generalize gx.n 30=n30 at*;clear gx;go_wp2_with fail
    go_ret2
    rw[HQ.out];exact⟨⟨A8,c8,rfl,k1,k2,HN8.out⟩,HBZ.out⟩
  ·subst e3;have q1:((R.length:Int) !=2)=true:=bne_iff_ne.2 (by omega);have HQ:=zh (show((zA4 rs m.args).bind fun R=>fixW rs m.nam m.vr R .jux)=none by
    rw[HR.out];show fixW rs m.nam m.vr R .jux=none;unfold fixW;dsimp only
    split
    ·exact absurd rfl hq
    ·rfl)
   clear hq;go_wp2_with fail
   go_ret2
   exact HX.out _ HQ.out
set_option maxRecDepth 100000 in
set_option maxHeartbeats 8000000 in
theorem zRr (W:WrB)(A:Option Addr)(cap:Nat)(rs:List Rul)(f:Nat)(HI:zBo W A cap rs f)(e:Nat)(he:e=0∨e=7∨e=8∨e=9)(es:ByteArray)(hes:es=endW (eJ e))(m:Trm)(c:Array Value)(w:World)(hm:szM m≤f)(hf:f≤10000)(hrn:rs.length≤1000000)(hW:zCn w W A cap rs)(hM:MAt w m c):
  Calls Tryz.prog 106 #[.pointer (some ⟨W.gw,0,none⟩),.agg c,.string es] w (ItmP ((zA4 rs m.args).bind fun R=>fixW rs m.nam m.vr R (.pre e)) w):=by
 obtain⟨A2,cap2,rfl,hs1,hs2,hs3,hl,hc,hk⟩:=hM.form;have B1:=zA0 w (.cells (trmC m.kind m.nam m.vr A2 m.args.length cap2 m.form) 31);have K0:=zh (Blk.new w 31 (trmC m.kind m.nam m.vr A2 m.args.length cap2 m.form));have HW1:=zh (hW.keep B1);have HM1:=zh (hM.keep B1);have HB:=zh B1;have HC:=zh (show szL m.args+1≤f by have:=zDi hm (by omega);omega);have HMF:=zh hm;have HES:=zh hes;have HEE:=zh he;clear hW hM hk B1 hm hes he;go_enter Tryz.func106,Tryz.ntmps106;go_upto_region 1 with(fail)
 generalize w.alloc (.cells (trmC m.kind m.nam m.vr A2 m.args.length cap2 m.form) 31)=w1 at*;have q0:=K0.out.cell 0;have q1:=K0.out.cell 1;have q2:=K0.out.cell 2;have q3:=K0.out.cell 3;have q4:=K0.out.cell 4;go_wp2_with fail;refine(zC4 W A cap rs f HI 2 e HEE.out es HES.out 1 (by omega) (by omega) m _ w1 HMF.out (by omega) hrn HW1.out HM1.out).mono ?_;rintro r w2 ⟨hres,hb⟩;have HB2:=jt HB hb;have HS:=zh HB.out.size;clear q0 q1 q2 q3 q4 hb HB K0 HW1 HM1;cases hO:((zA4 rs m.args).bind fun R=>opW rs 2 m.nam e R 1) with
 |none=>
  rw[hO] at hres;obtain rfl:r= .returned (.tuple #[.agg zerD,.slice none 0 0,.bool false]):=hres;have HQ:=zh (show((zA4 rs m.args).bind fun R=>fixW rs m.nam m.vr R (.pre e))=none by
   cases hR:zA4 rs m.args with
   |none=>rfl
   |some R=>
    rw[hR] at hO;show fixW rs m.nam m.vr R (.pre e)=none;unfold fixW;dsimp only;rw[show opW rs 2 m.nam e R 1=none from hO])
  have HB3:=zh (HB2.out.trans ((zA0 w2 (.cells zerD 25)).mono HB2.out.size));clear hO;go_wp2_with fail
  go_ret2
  rw[HQ.out];exact⟨rfl,HB3.out⟩
 |some p=>
  obtain⟨t,R2⟩:=p;rw[hO] at hres;obtain⟨v,A3,c3,rfl,htx,hap,hl3,hc3,hn3⟩:=hres;obtain⟨R,hR,hO2⟩:∃R,zA4 rs m.args=some R∧opW rs 2 m.nam e R 1=some (t,R2):=by
   cases hR:zA4 rs m.args with
   |none=>rw[hR] at hO;cases hO
   |some R=>rw[hR] at hO;exact⟨R,rfl,hO⟩
  obtain⟨hln,hmem⟩:=zMe hO2
  match R2,hln,hmem,hO2,hl3,hn3 with
  |[a],_,hmem,hO2,hl3,hn3=>
  have HQ:=zh (show((zA4 rs m.args).bind fun R=>fixW rs m.nam m.vr R (.pre e))=some ([t]++a) by
   rw[hR];show fixW rs m.nam m.vr R (.pre e)=_;unfold fixW;dsimp only;rw[hO2];rfl)
  have HLN:=zh (show a.length≤160000 by
   have h1:=zC6 hR a (hmem a (by simp));have:=HC.out;omega)
  obtain⟨A5,c5,rfl,hl5,hc5,hk5⟩:=hap.form fun b hb=>hb
  have HTX:=zh htx;have HT5:=zh (And.intro hl5 hc5);have hba:=zA0 w2 (.cells #[.int .i64 t.kind,.string t.text,.int .i64 t.cols,.slice A5 t.kids.length c5] 25);have KO:=zh (Blk.new w2 25 #[.int .i64 t.kind,.string t.text,.int .i64 t.cols,.slice A5 t.kids.length c5]);have HB3:=jt HB2 hba;have HAP:=zh ((hk5.any (ok':=fun b=>w.heap.size≤b) fun b _ hb=>Nat.le_trans HS.out hb).keep hba);have HN3:=zh ((hn3.any (ok':=fun b=>w.heap.size≤b) fun b _ hb=>Nat.le_trans HS.out hb.1).keep hba);have HLO:=zh HB3.out.size;clear hR hO hO2 hmem hln htx hap hn3 hk5 hba hl5 hc5 HB2;go_upto_region 4 with(fail)
  generalize w2.alloc (.cells #[.int .i64 t.kind,.string t.text,.int .i64 t.cols,.slice A5 t.kids.length c5] 25)=w3 at*;obtain⟨adr,A6,c6,rfl,hadl,_,hl6,hc6,ha6,d0,d1,d2,d3⟩:=HN3.out.at0 (t:=rowT a) rfl;have HA6:=zh ha6;have HAD:=zh hadl;have d3:w3.cell? ⟨adr.block,adr.off+3,none⟩=some (.slice A6 a.length c6):=d3;clear d0 d1 d2 hadl ha6;have HB:=HB3;clear HB3;obtain⟨lx,hlx⟩:∃lx,lx=[t]++a:=⟨_,rfl⟩
  have HLX:=zh hlx;rw[←hlx] at HQ;clear hlx;refine zAh (X:=Gh) (by kernel_rfl) [1,1,2,2,2,1,1,1,2,2] [false,false,false,false,false,false,false,false,false,false] _ (fun gx=>[.agg #[.int .i64 t.kind,.string t.text,.int .i64 t.cols,.slice A5 t.kids.length c5],.slice (some ⟨gx.n 22,0,none⟩) 1 1,.slice (some adr) 1 c3,.pointer (some adr),.pointer (some ⟨adr.block,adr.off+3,none⟩),.slice A6 a.length c6,.slice (some ⟨gx.n 27,0,none⟩) 2 2,gx.v 28,gx.v 28,.bool true]) [(1,fun gx wx=>Blk wx (gx.n 22) 25 #[.int .i64 t.kind,.string t.text,.int .i64 t.cols,.slice A5 t.kids.length c5]∧w3.heap.size≤gx.n 22),(6,fun gx wx=>Blk wx (gx.n 27) 23 #[.slice (some ⟨gx.n 22,0,none⟩) 1 1,.slice A6 a.length c6]),(7,fun gx wx=>∃A8 c8,gx.v 28= .slice A8 lx.length c8∧lx.length≤c8∧c8≤9223372036854775807∧zAn (fun b=>w.heap.size≤b) wx A8 lx)] (fun _ _=>True) Gh.zero (by kernel_rfl) (fun gx=>by simp[fin,zAm,zAb,List.range,List.range.loop,Act.put];rfl) (fun _=>by kernel_rfl) (zA8.cons (fun gx wx w2 h hb=>⟨keep hb h.1,h.2⟩) (zA8.cons (fun gx wx w2 h hb=>keep hb h) (zA8.cons (fun gx wx w2 ⟨A8,c8,h1,h2,h3,h4⟩ hb=>⟨A8,c8,h1,h2,h3,h4.keep hb⟩) zA8.nil))) (trivial) ?_ (by kernel_rfl) ?_
  ·refine⟨fun gx wq hB hJ hf=>?_,fun gx wq hB hJ hf=>?_,fun gx wq=>jp (.slice (some adr) 1 c3) (by kernel_rfl) rfl,fun gx wq=>jp (.pointer (some adr)) (by simp[go_sem,evAct,zF6]) rfl,fun gx wq=>jp (.pointer (some ⟨adr.block,adr.off+3,none⟩)) (by simp[go_sem,evAct]) rfl,fun gx wq hB hJ hf=>?_,fun gx wq hB hJ hf=>?_,fun gx wq hB hJ hf=>?_,fun gx wq=>jp (gx.v 28) (by kernel_rfl) rfl,fun gx wq=>jp (.bool true) (by kernel_rfl) rfl,trivial⟩
   ·have c0:=(keep hB KO.out).cell 0;have c1:=(keep hB KO.out).cell 1;have c2:=(keep hB KO.out).cell 2;have c3:=(keep hB KO.out).cell 3;exact gs (.agg #[.int .i64 t.kind,.string t.text,.int .i64 t.cols,.slice A5 t.kids.length c5]) hJ (by kernel_rfl) (by simp[go_sem,evAct,c0,c1,c2,c3]) rfl
   ·exact jv (.slice (some ⟨wq.heap.size,0,none⟩) 1 1) (wq.alloc (.cells #[.int .i64 t.kind,.string t.text,.int .i64 t.cols,.slice A5 t.kids.length c5] 25)) (by simp[go_sem,evAct]) ⟨gx.setN 22 wq.heap.size,rfl,(by refine zA5.of_same ⟨?_,?_,?_,?_,?_,?_,?_,?_,?_,?_,trivial⟩<;>first|exact jK|exact .inl rfl|exact .inr (.inl (by kernel_rfl))),zA0 wq _,⟨⟨Blk.new wq _ _,hB.size⟩,.inl (by kernel_rfl),.inl (by kernel_rfl),trivial⟩,trivial⟩
   ·have cJ:=(hB.cell (p:=⟨adr.block,adr.off+3,none⟩) HAD.out).trans d3;exact gs (.slice A6 a.length c6) hJ (by kernel_rfl) (by simp[go_sem,evAct,cJ]) rfl
   ·have f22:=hf.1 (by kernel_rfl);exact jv (.slice (some ⟨wq.heap.size,0,none⟩) 2 2) (wq.alloc (.cells #[.slice (some ⟨gx.n 22,0,none⟩) 1 1,.slice A6 a.length c6] 23)) (by simp[go_sem,evAct]) ⟨gx.setN 27 wq.heap.size,rfl,(by refine zA5.of_same ⟨?_,?_,?_,?_,?_,?_,?_,?_,?_,?_,trivial⟩<;>first|exact jK|exact .inl rfl|exact .inr (.inl (by kernel_rfl))),zA0 wq _,⟨.inr fun h=>h,Blk.new wq _ _,.inl (by kernel_rfl),trivial⟩,trivial⟩
   ·have f22:=hf.1 (by kernel_rfl);have f27:=hf.2.1 (by kernel_rfl);refine jc 150 (#[.slice (some ⟨gx.n 27,0,none⟩) 2 2]) wq (by kernel_rfl) ((zIo w.heap.size (gx.n 27) (some ⟨gx.n 22,0,none⟩) A6 1 c6 [t] a wq f27 (by have h9:=zD8 (ok:=fun b=>w.heap.size≤b) f22.1 HTX.out HT5.out.1 HT5.out.2 (HAP.out.keep hB) (by have:=f22.2;have:=HLO.out;omega);obtain⟨q1,q2,q3,q4⟩:=t;exact h9) (HA6.out.keep hB) (Nat.le_trans HLO.out hB.size) (by have:=HLN.out;first|omega|(simp only[List.length_cons,List.length_nil];omega))).mono ?_);rintro e wz ⟨⟨A8,c8,l8,hl8,rfl,k1,k2,k3⟩,hb⟩;rw[←HLX.out] at hl8;subst hl8;exact⟨_,rfl,gx.setV 28 (.slice A8 l8.length c8),rfl,(by refine zA5.of_same ⟨?_,?_,?_,?_,?_,?_,?_,?_,?_,?_,trivial⟩<;>first|exact jK|exact .inl rfl|exact .inr (.inl (by kernel_rfl))),hb,⟨.inr fun h=>h,.inr fun h=>h,⟨A8,c8,rfl,k1,k2,k3⟩,trivial⟩,trivial⟩
  ·refine fun gx wq hB hJ hf=>?_
   dsimp only[zAu] at hf;change wpOps _ _ _ [] _ _;refine zAe ?_;obtain⟨A8,c8,e8,k1,k2,k3⟩:=hf.2.2.1;have HBZ:=jt HB hB;have HN8:=zh k3;rw[e8];clear hf hJ k3 e8;generalize gx.n 22=n22 at*;generalize gx.n 27=n27 at*;clear gx;go_wp2_with fail
   go_ret2
   rw[HQ.out];exact⟨⟨A8,c8,rfl,k1,k2,HN8.out⟩,HBZ.out⟩
set_option maxRecDepth 100000 in
set_option maxHeartbeats 8000000 in
theorem zOi (W:WrB)(A:Option Addr)(cap:Nat)(rs:List Rul)(f:Nat)(HI:zBo W A cap rs f)(e:Nat)(he:e=0∨e=7∨e=8∨e=9)(es:ByteArray)(hes:es=endW (eJ e))(m:Trm)(c:Array Value)(w:World)(hm:szM m≤f)(hf:f≤10000)(hrn:rs.length≤1000000)(hW:zCn w W A cap rs)(hM:MAt w m c):
  Calls Tryz.prog 108 #[.pointer (some ⟨W.gw,0,none⟩),.agg c,.string es] w (ItmP ((zA4 rs m.args).bind fun R=>fixW rs m.nam m.vr R (.pos e)) w):=by
 obtain⟨A2,cap2,rfl,hs1,hs2,hs3,hl,hc,hk⟩:=hM.form;have B1:=zA0 w (.cells (trmC m.kind m.nam m.vr A2 m.args.length cap2 m.form) 31);have K0:=zh (Blk.new w 31 (trmC m.kind m.nam m.vr A2 m.args.length cap2 m.form));have HW1:=zh (hW.keep B1);have HM1:=zh (hM.keep B1);have HB:=zh B1;have HC:=zh (show szL m.args+1≤f by have:=zDi hm (by omega);omega);have HMF:=zh hm;have HES:=zh hes;have HEE:=zh he;clear hW hM hk B1 hm hes he;go_enter Tryz.func108,Tryz.ntmps108;go_upto_region 1 with(fail)
 generalize w.alloc (.cells (trmC m.kind m.nam m.vr A2 m.args.length cap2 m.form) 31)=w1 at*;have q0:=K0.out.cell 0;have q1:=K0.out.cell 1;have q2:=K0.out.cell 2;have q3:=K0.out.cell 3;have q4:=K0.out.cell 4;go_wp2_with fail;refine(zC4 W A cap rs f HI 3 e HEE.out es HES.out 1 (by omega) (by omega) m _ w1 HMF.out (by omega) hrn HW1.out HM1.out).mono ?_;rintro r w2 ⟨hres,hb⟩;have HB2:=jt HB hb;have HS:=zh HB.out.size;clear q0 q1 q2 q3 q4 hb HB K0 HW1 HM1;cases hO:((zA4 rs m.args).bind fun R=>opW rs 3 m.nam e R 1) with
 |none=>
  rw[hO] at hres;obtain rfl:r= .returned (.tuple #[.agg zerD,.slice none 0 0,.bool false]):=hres;have HQ:=zh (show((zA4 rs m.args).bind fun R=>fixW rs m.nam m.vr R (.pos e))=none by
   cases hR:zA4 rs m.args with
   |none=>rfl
   |some R=>
    rw[hR] at hO;show fixW rs m.nam m.vr R (.pos e)=none;unfold fixW;dsimp only;rw[show opW rs 3 m.nam e R 1=none from hO])
  have HB3:=zh (HB2.out.trans ((zA0 w2 (.cells zerD 25)).mono HB2.out.size));clear hO;go_wp2_with fail
  go_ret2
  rw[HQ.out];exact⟨rfl,HB3.out⟩
 |some p=>
  obtain⟨t,R2⟩:=p;rw[hO] at hres;obtain⟨v,A3,c3,rfl,htx,hap,hl3,hc3,hn3⟩:=hres;obtain⟨R,hR,hO2⟩:∃R,zA4 rs m.args=some R∧opW rs 3 m.nam e R 1=some (t,R2):=by
   cases hR:zA4 rs m.args with
   |none=>rw[hR] at hO;cases hO
   |some R=>rw[hR] at hO;exact⟨R,rfl,hO⟩
  obtain⟨hln,hmem⟩:=zMe hO2
  match R2,hln,hmem,hO2,hl3,hn3 with
  |[a],_,hmem,hO2,hl3,hn3=>
  have HQ:=zh (show((zA4 rs m.args).bind fun R=>fixW rs m.nam m.vr R (.pos e))=some (a++[t]) by
   rw[hR];show fixW rs m.nam m.vr R (.pos e)=_;unfold fixW;dsimp only;rw[hO2])
  have HLN:=zh (show a.length≤160000 by
   have h1:=zC6 hR a (hmem a (by simp));have:=HC.out;omega)
  obtain⟨A5,c5,rfl,hl5,hc5,hk5⟩:=hap.form fun b hb=>hb
  have HTX:=zh htx;have HT5:=zh (And.intro hl5 hc5);have hba:=zA0 w2 (.cells #[.int .i64 t.kind,.string t.text,.int .i64 t.cols,.slice A5 t.kids.length c5] 25);have KO:=zh (Blk.new w2 25 #[.int .i64 t.kind,.string t.text,.int .i64 t.cols,.slice A5 t.kids.length c5]);have HB3:=jt HB2 hba;have HAP:=zh ((hk5.any (ok':=fun b=>w.heap.size≤b) fun b _ hb=>Nat.le_trans HS.out hb).keep hba);have HN3:=zh ((hn3.any (ok':=fun b=>w.heap.size≤b) fun b _ hb=>Nat.le_trans HS.out hb.1).keep hba);have HLO:=zh HB3.out.size;clear hR hO hO2 hmem hln htx hap hn3 hk5 hba hl5 hc5 HB2;go_upto_region 4 with(fail)
  generalize w2.alloc (.cells #[.int .i64 t.kind,.string t.text,.int .i64 t.cols,.slice A5 t.kids.length c5] 25)=w3 at*;obtain⟨adr,A6,c6,rfl,hadl,_,hl6,hc6,ha6,d0,d1,d2,d3⟩:=HN3.out.at0 (t:=rowT a) rfl;have HA6:=zh ha6;have HAD:=zh hadl;have d3:w3.cell? ⟨adr.block,adr.off+3,none⟩=some (.slice A6 a.length c6):=d3;clear d0 d1 d2 hadl ha6;have HB:=HB3;clear HB3;obtain⟨lx,hlx⟩:∃lx,lx=a++[t]:=⟨_,rfl⟩
  have HLX:=zh hlx;rw[←hlx] at HQ;clear hlx;refine zAh (X:=Gh) (by kernel_rfl) [2,2,2,1,1,1,1,1,2,2] [false,false,false,false,false,false,false,false,false,false] _ (fun gx=>[.slice (some adr) 1 c3,.pointer (some adr),.pointer (some ⟨adr.block,adr.off+3,none⟩),.slice A6 a.length c6,.agg #[.int .i64 t.kind,.string t.text,.int .i64 t.cols,.slice A5 t.kids.length c5],.slice (some ⟨gx.n 26,0,none⟩) 1 1,.slice (some ⟨gx.n 27,0,none⟩) 2 2,gx.v 28,gx.v 28,.bool true]) [(5,fun gx wx=>Blk wx (gx.n 26) 25 #[.int .i64 t.kind,.string t.text,.int .i64 t.cols,.slice A5 t.kids.length c5]∧w3.heap.size≤gx.n 26),(6,fun gx wx=>Blk wx (gx.n 27) 23 #[.slice A6 a.length c6,.slice (some ⟨gx.n 26,0,none⟩) 1 1]),(7,fun gx wx=>∃A8 c8,gx.v 28= .slice A8 lx.length c8∧lx.length≤c8∧c8≤9223372036854775807∧zAn (fun b=>w.heap.size≤b) wx A8 lx)] (fun _ _=>True) Gh.zero (by kernel_rfl) (fun gx=>by simp[fin,zAm,zAb,List.range,List.range.loop,Act.put];rfl) (fun _=>by kernel_rfl) (zA8.cons (fun gx wx w2 h hb=>⟨keep hb h.1,h.2⟩) (zA8.cons (fun gx wx w2 h hb=>keep hb h) (zA8.cons (fun gx wx w2 ⟨A8,c8,h1,h2,h3,h4⟩ hb=>⟨A8,c8,h1,h2,h3,h4.keep hb⟩) zA8.nil))) (trivial) ?_ (by kernel_rfl) ?_
  ·refine⟨fun gx wq=>jp (.slice (some adr) 1 c3) (by kernel_rfl) rfl,fun gx wq=>jp (.pointer (some adr)) (by simp[go_sem,evAct,zF6]) rfl,fun gx wq=>jp (.pointer (some ⟨adr.block,adr.off+3,none⟩)) (by simp[go_sem,evAct]) rfl,fun gx wq hB hJ hf=>?_,fun gx wq hB hJ hf=>?_,fun gx wq hB hJ hf=>?_,fun gx wq hB hJ hf=>?_,fun gx wq hB hJ hf=>?_,fun gx wq=>jp (gx.v 28) (by kernel_rfl) rfl,fun gx wq=>jp (.bool true) (by kernel_rfl) rfl,trivial⟩
   ·have cJ:=(hB.cell (p:=⟨adr.block,adr.off+3,none⟩) HAD.out).trans d3;exact gs (.slice A6 a.length c6) hJ (by kernel_rfl) (by simp[go_sem,evAct,cJ]) rfl
   ·have c0:=(keep hB KO.out).cell 0;have c1:=(keep hB KO.out).cell 1;have c2:=(keep hB KO.out).cell 2;have c3:=(keep hB KO.out).cell 3;exact gs (.agg #[.int .i64 t.kind,.string t.text,.int .i64 t.cols,.slice A5 t.kids.length c5]) hJ (by kernel_rfl) (by simp[go_sem,evAct,c0,c1,c2,c3]) rfl
   ·exact jv (.slice (some ⟨wq.heap.size,0,none⟩) 1 1) (wq.alloc (.cells #[.int .i64 t.kind,.string t.text,.int .i64 t.cols,.slice A5 t.kids.length c5] 25)) (by simp[go_sem,evAct]) ⟨gx.setN 26 wq.heap.size,rfl,(by refine zA5.of_same ⟨?_,?_,?_,?_,?_,?_,?_,?_,?_,?_,trivial⟩<;>first|exact jK|exact .inl rfl|exact .inr (.inl (by kernel_rfl))),zA0 wq _,⟨⟨Blk.new wq _ _,hB.size⟩,.inl (by kernel_rfl),.inl (by kernel_rfl),trivial⟩,trivial⟩
   ·have f26:=hf.1 (by kernel_rfl);exact jv (.slice (some ⟨wq.heap.size,0,none⟩) 2 2) (wq.alloc (.cells #[.slice A6 a.length c6,.slice (some ⟨gx.n 26,0,none⟩) 1 1] 23)) (by simp[go_sem,evAct]) ⟨gx.setN 27 wq.heap.size,rfl,(by refine zA5.of_same ⟨?_,?_,?_,?_,?_,?_,?_,?_,?_,?_,trivial⟩<;>first|exact jK|exact .inl rfl|exact .inr (.inl (by kernel_rfl))),zA0 wq _,⟨.inr fun h=>h,Blk.new wq _ _,.inl (by kernel_rfl),trivial⟩,trivial⟩
   ·have f26:=hf.1 (by kernel_rfl);have f27:=hf.2.1 (by kernel_rfl);refine jc 150 (#[.slice (some ⟨gx.n 27,0,none⟩) 2 2]) wq (by kernel_rfl) ((zIo w.heap.size (gx.n 27) A6 (some ⟨gx.n 26,0,none⟩) c6 1 a [t] wq f27 (HA6.out.keep hB) (by have h9:=zD8 (ok:=fun b=>w.heap.size≤b) f26.1 HTX.out HT5.out.1 HT5.out.2 (HAP.out.keep hB) (by have:=f26.2;have:=HLO.out;omega);obtain⟨q1,q2,q3,q4⟩:=t;exact h9) (Nat.le_trans HLO.out hB.size) (by have:=HLN.out;first|omega|(simp only[List.length_cons,List.length_nil];omega))).mono ?_);rintro e wz ⟨⟨A8,c8,l8,hl8,rfl,k1,k2,k3⟩,hb⟩;rw[←HLX.out] at hl8;subst hl8;exact⟨_,rfl,gx.setV 28 (.slice A8 l8.length c8),rfl,(by refine zA5.of_same ⟨?_,?_,?_,?_,?_,?_,?_,?_,?_,?_,trivial⟩<;>first|exact jK|exact .inl rfl|exact .inr (.inl (by kernel_rfl))),hb,⟨.inr fun h=>h,.inr fun h=>h,⟨A8,c8,rfl,k1,k2,k3⟩,trivial⟩,trivial⟩
  ·refine fun gx wq hB hJ hf=>?_
   dsimp only[zAu] at hf;change wpOps _ _ _ [] _ _;refine zAe ?_;obtain⟨A8,c8,e8,k1,k2,k3⟩:=hf.2.2.1;have HBZ:=jt HB hB;have HN8:=zh k3;rw[e8];clear hf hJ k3 e8;generalize gx.n 26=n26 at*;generalize gx.n 27=n27 at*;clear gx;go_wp2_with fail
   go_ret2
   rw[HQ.out];exact⟨⟨A8,c8,rfl,k1,k2,HN8.out⟩,HBZ.out⟩
set_option maxRecDepth 100000 in
set_option maxHeartbeats 8000000 in
theorem zSp (W:WrB)(A:Option Addr)(cap:Nat)(rs:List Rul)(f:Nat)(HI:zBo W A cap rs f)(e:Nat)(he:e=0∨e=7∨e=8∨e=9)(es:ByteArray)(hes:es=endW (eJ e))(m:Trm)(c:Array Value)(w:World)(hm:szM m≤f)(hf:f≤10000)(hrn:rs.length≤1000000)(hW:zCn w W A cap rs)(hM:MAt w m c):
  Calls Tryz.prog 104 #[.pointer (some ⟨W.gw,0,none⟩),.agg c,.string es] w (ItmP ((zA4 rs m.args).bind fun R=>fixW rs m.nam m.vr R (.inf e)) w):=by
 obtain⟨A2,cap2,rfl,hs1,hs2,hs3,hl,hc,hk⟩:=hM.form;have B1:=zA0 w (.cells (trmC m.kind m.nam m.vr A2 m.args.length cap2 m.form) 31);have K0:=zh (Blk.new w 31 (trmC m.kind m.nam m.vr A2 m.args.length cap2 m.form));have HW1:=zh (hW.keep B1);have HM1:=zh (hM.keep B1);have HB:=zh B1;have HC:=zh (show szL m.args+1≤f by have:=zDi hm (by omega);omega);have HMF:=zh hm;have HES:=zh hes;have HEE:=zh he;clear hW hM hk B1 hm hes he;go_enter Tryz.func104,Tryz.ntmps104;go_upto_region 1 with(fail)
 generalize w.alloc (.cells (trmC m.kind m.nam m.vr A2 m.args.length cap2 m.form) 31)=w1 at*;have q0:=K0.out.cell 0;have q1:=K0.out.cell 1;have q2:=K0.out.cell 2;have q3:=K0.out.cell 3;have q4:=K0.out.cell 4;go_wp2_with fail;refine(zC4 W A cap rs f HI 1 e HEE.out es HES.out 2 (by omega) (by omega) m _ w1 HMF.out (by omega) hrn HW1.out HM1.out).mono ?_;rintro r w2 ⟨hres,hb⟩;have HB2:=jt HB hb;have HS:=zh HB.out.size;clear q0 q1 q2 q3 q4 hb HB K0 HW1 HM1;cases hO:((zA4 rs m.args).bind fun R=>opW rs 1 m.nam e R 2) with
 |none=>
  rw[hO] at hres;obtain rfl:r= .returned (.tuple #[.agg zerD,.slice none 0 0,.bool false]):=hres;have HQ:=zh (show((zA4 rs m.args).bind fun R=>fixW rs m.nam m.vr R (.inf e))=none by
   cases hR:zA4 rs m.args with
   |none=>rfl
   |some R=>
    rw[hR] at hO;show fixW rs m.nam m.vr R (.inf e)=none;unfold fixW;dsimp only;rw[show opW rs 1 m.nam e R 2=none from hO])
  have HB3:=zh (HB2.out.trans ((zA0 w2 (.cells zerD 25)).mono HB2.out.size));clear hO;go_wp2_with fail
  go_ret2
  rw[HQ.out];exact⟨rfl,HB3.out⟩
 |some p=>
  obtain⟨t,R2⟩:=p;rw[hO] at hres;obtain⟨v,A3,c3,rfl,htx,hap,hl3,hc3,hn3⟩:=hres;obtain⟨R,hR,hO2⟩:∃R,zA4 rs m.args=some R∧opW rs 1 m.nam e R 2=some (t,R2):=by
   cases hR:zA4 rs m.args with
   |none=>rw[hR] at hO;cases hO
   |some R=>rw[hR] at hO;exact⟨R,rfl,hO⟩
  obtain⟨hln,hmem⟩:=zMe hO2
  match R2,hln,hmem,hO2,hl3,hn3 with
  |[a,b],_,hmem,hO2,hl3,hn3=>
  have HQ:=zh (show((zA4 rs m.args).bind fun R=>fixW rs m.nam m.vr R (.inf e))=some (a++[t]++b) by
   rw[hR];show fixW rs m.nam m.vr R (.inf e)=_;unfold fixW;dsimp only;rw[hO2])
  have HLN:=zh (show a.length+b.length≤160000 by
   have h1:=zC6 hR a (hmem a (by simp));have h2:=zC6 hR b (hmem b (by simp));have:=HC.out;omega)
  obtain⟨A5,c5,rfl,hl5,hc5,hk5⟩:=hap.form fun b hb=>hb
  have HTX:=zh htx;have HT5:=zh (And.intro hl5 hc5);have hba:=zA0 w2 (.cells #[.int .i64 t.kind,.string t.text,.int .i64 t.cols,.slice A5 t.kids.length c5] 25);have KO:=zh (Blk.new w2 25 #[.int .i64 t.kind,.string t.text,.int .i64 t.cols,.slice A5 t.kids.length c5]);have HB3:=jt HB2 hba;have HAP:=zh ((hk5.any (ok':=fun b=>w.heap.size≤b) fun b _ hb=>Nat.le_trans HS.out hb).keep hba);have HN3:=zh ((hn3.any (ok':=fun b=>w.heap.size≤b) fun b _ hb=>Nat.le_trans HS.out hb.1).keep hba);have HLO:=zh HB3.out.size;clear hR hO hO2 hmem hln htx hap hn3 hk5 hba hl5 hc5 HB2;go_upto_region 4 with(fail)
  generalize w2.alloc (.cells #[.int .i64 t.kind,.string t.text,.int .i64 t.cols,.slice A5 t.kids.length c5] 25)=w3 at*;obtain⟨adr,A6,c6,rfl,hadl,_,hl6,hc6,ha6,d0,d1,d2,d3⟩:=HN3.out.at0 (t:=rowT a) rfl;have HA6:=zh ha6;have HAD:=zh hadl;have d3:w3.cell? ⟨adr.block,adr.off+3,none⟩=some (.slice A6 a.length c6):=d3;clear d0 d1 d2 hadl ha6;obtain⟨adr',A7,c7,hA,_,_,hl7,hc7,ha7,_,_,_,e3⟩:=HN3.out.at_ (i:=1) (t:=rowT b) rfl;obtain rfl:=sj hA;have HA7:=zh ha7;have e3:w3.cell? ⟨(adr.add 4).block,(adr.add 4).off+3,none⟩=some (.slice A7 b.length c7):=e3;clear ha7 hA;have HB:=HB3;clear HB3;obtain⟨lx,hlx⟩:∃lx,lx=a++[t]++b:=⟨_,rfl⟩
  have HLX:=zh hlx;rw[←hlx] at HQ;clear hlx;refine zAh (X:=Gh) (by kernel_rfl) [2,2,2,1,1,1,2,2,2,1,1,1,2,2] [false,false,false,false,false,false,false,false,false,false,false,false,false,false] _ (fun gx=>[.slice (some adr) 2 c3,.pointer (some adr),.pointer (some ⟨adr.block,adr.off+3,none⟩),.slice A6 a.length c6,.agg #[.int .i64 t.kind,.string t.text,.int .i64 t.cols,.slice A5 t.kids.length c5],.slice (some ⟨gx.n 26,0,none⟩) 1 1,.slice (some adr) 2 c3,.pointer (some (adr.add 4)),.pointer (some ⟨(adr.add 4).block,(adr.add 4).off+3,none⟩),.slice A7 b.length c7,.slice (some ⟨gx.n 31,0,none⟩) 3 3,gx.v 32,gx.v 32,.bool true]) [(5,fun gx wx=>Blk wx (gx.n 26) 25 #[.int .i64 t.kind,.string t.text,.int .i64 t.cols,.slice A5 t.kids.length c5]∧w3.heap.size≤gx.n 26),(10,fun gx wx=>Blk wx (gx.n 31) 23 #[.slice A6 a.length c6,.slice (some ⟨gx.n 26,0,none⟩) 1 1,.slice A7 b.length c7]),(11,fun gx wx=>∃A8 c8,gx.v 32= .slice A8 lx.length c8∧lx.length≤c8∧c8≤9223372036854775807∧zAn (fun b=>w.heap.size≤b) wx A8 lx)] (fun _ _=>True) Gh.zero (by kernel_rfl) (fun gx=>by simp[fin,zAm,zAb,List.range,List.range.loop,Act.put];rfl) (fun _=>by kernel_rfl) (zA8.cons (fun gx wx w2 h hb=>⟨keep hb h.1,h.2⟩) (zA8.cons (fun gx wx w2 h hb=>keep hb h) (zA8.cons (fun gx wx w2 ⟨A8,c8,h1,h2,h3,h4⟩ hb=>⟨A8,c8,h1,h2,h3,h4.keep hb⟩) zA8.nil))) (trivial) ?_ (by kernel_rfl) ?_
  ·refine⟨fun gx wq=>jp (.slice (some adr) 2 c3) (by kernel_rfl) rfl,fun gx wq=>jp (.pointer (some adr)) (by simp[go_sem,evAct,zF6]) rfl,fun gx wq=>jp (.pointer (some ⟨adr.block,adr.off+3,none⟩)) (by simp[go_sem,evAct]) rfl,fun gx wq hB hJ hf=>?_,fun gx wq hB hJ hf=>?_,fun gx wq hB hJ hf=>?_,fun gx wq=>jp (.slice (some adr) 2 c3) (by kernel_rfl) rfl,fun gx wq=>jp (.pointer (some (adr.add 4))) (by simp[go_sem,evAct]) rfl,fun gx wq=>jp (.pointer (some ⟨(adr.add 4).block,(adr.add 4).off+3,none⟩)) (by simp[go_sem,evAct]) rfl,fun gx wq hB hJ hf=>?_,fun gx wq hB hJ hf=>?_,fun gx wq hB hJ hf=>?_,fun gx wq=>jp (gx.v 32) (by kernel_rfl) rfl,fun gx wq=>jp (.bool true) (by kernel_rfl) rfl,trivial⟩
   ·have cJ:=(hB.cell (p:=⟨adr.block,adr.off+3,none⟩) HAD.out).trans d3;exact gs (.slice A6 a.length c6) hJ (by kernel_rfl) (by simp[go_sem,evAct,cJ]) rfl
   ·have c0:=(keep hB KO.out).cell 0;have c1:=(keep hB KO.out).cell 1;have c2:=(keep hB KO.out).cell 2;have c3:=(keep hB KO.out).cell 3;exact gs (.agg #[.int .i64 t.kind,.string t.text,.int .i64 t.cols,.slice A5 t.kids.length c5]) hJ (by kernel_rfl) (by simp[go_sem,evAct,c0,c1,c2,c3]) rfl
   ·exact jv (.slice (some ⟨wq.heap.size,0,none⟩) 1 1) (wq.alloc (.cells #[.int .i64 t.kind,.string t.text,.int .i64 t.cols,.slice A5 t.kids.length c5] 25)) (by simp[go_sem,evAct]) ⟨gx.setN 26 wq.heap.size,rfl,(by refine zA5.of_same ⟨?_,?_,?_,?_,?_,?_,?_,?_,?_,?_,?_,?_,?_,?_,trivial⟩<;>first|exact jK|exact .inl rfl|exact .inr (.inl (by kernel_rfl))),zA0 wq _,⟨⟨Blk.new wq _ _,hB.size⟩,.inl (by kernel_rfl),.inl (by kernel_rfl),trivial⟩,trivial⟩
   ·have cJ:wq.cell? ⟨adr.block,adr.off+4+3,none⟩=some (.slice A7 b.length c7):=by have h:=(hB.cell (p:=⟨(adr.add 4).block,(adr.add 4).off+3,none⟩) (by rw[zA6];exact HAD.out)).trans e3;simpa [go_sem] using h
    exact gs (.slice A7 b.length c7) hJ (by kernel_rfl) (by simp[go_sem,evAct,cJ]) rfl
   ·have f26:=hf.1 (by kernel_rfl);exact jv (.slice (some ⟨wq.heap.size,0,none⟩) 3 3) (wq.alloc (.cells #[.slice A6 a.length c6,.slice (some ⟨gx.n 26,0,none⟩) 1 1,.slice A7 b.length c7] 23)) (by simp[go_sem,evAct]) ⟨gx.setN 31 wq.heap.size,rfl,(by refine zA5.of_same ⟨?_,?_,?_,?_,?_,?_,?_,?_,?_,?_,?_,?_,?_,?_,trivial⟩<;>first|exact jK|exact .inl rfl|exact .inr (.inl (by kernel_rfl))),zA0 wq _,⟨.inr fun h=>h,Blk.new wq _ _,.inl (by kernel_rfl),trivial⟩,trivial⟩
   ·have f26:=hf.1 (by kernel_rfl);have f31:=hf.2.1 (by kernel_rfl);refine jc 150 (#[.slice (some ⟨gx.n 31,0,none⟩) 3 3]) wq (by kernel_rfl) ((zXx w.heap.size (gx.n 31) A6 (some ⟨gx.n 26,0,none⟩) A7 c6 1 c7 a [t] b wq f31 (HA6.out.keep hB) (by have h9:=zD8 (ok:=fun b=>w.heap.size≤b) f26.1 HTX.out HT5.out.1 HT5.out.2 (HAP.out.keep hB) (by have:=f26.2;have:=HLO.out;omega);obtain⟨q1,q2,q3,q4⟩:=t;exact h9) (HA7.out.keep hB) (Nat.le_trans HLO.out hB.size) (by have:=HLN.out;first|omega|(simp only[List.length_cons,List.length_nil];omega))).mono ?_);rintro e wz ⟨⟨A8,c8,l8,hl8,rfl,k1,k2,k3⟩,hb⟩;rw[←HLX.out] at hl8;subst hl8;exact⟨_,rfl,gx.setV 32 (.slice A8 l8.length c8),rfl,(by refine zA5.of_same ⟨?_,?_,?_,?_,?_,?_,?_,?_,?_,?_,?_,?_,?_,?_,trivial⟩<;>first|exact jK|exact .inl rfl|exact .inr (.inl (by kernel_rfl))),hb,⟨.inr fun h=>h,.inr fun h=>h,⟨A8,c8,rfl,k1,k2,k3⟩,trivial⟩,trivial⟩
  ·refine fun gx wq hB hJ hf=>?_
   dsimp only[zAu] at hf;change wpOps _ _ _ [] _ _;refine zAe ?_;obtain⟨A8,c8,e8,k1,k2,k3⟩:=hf.2.2.1;have HBZ:=jt HB hB;have HN8:=zh k3;rw[e8];clear hf hJ k3 e8;generalize gx.n 26=n26 at*;generalize gx.n 31=n31 at*;clear gx;go_wp2_with fail
   go_ret2
   rw[HQ.out];exact⟨⟨A8,c8,rfl,k1,k2,HN8.out⟩,HBZ.out⟩
theorem zZr {P:Nat→Prop}{w:World}{B:Nat}{v:Value}{ks:List Tre}(h:AppN P w B v ks){k:Nat}{x:Tre}(hk:ks[k]?=some x):
  ∃g cap cur A cp,v= .slice (some ⟨g,0,none⟩) ks.length cap∧ks.length≤cap∧cap≤9223372036854775807∧B≤g∧Blk w g 25 cur∧cur[k*4+3]?=some (.slice A x.kids.length cp)∧x.kids.length≤cp∧cp≤9223372036854775807∧zAn (fun b=>b≠g∧P b) w A x.kids∧
   ∀(Q:Nat→Prop) (A':Option Addr) (ks':List Tre) (c':Nat) (w2:World),ks'.length≤c'→c'≤9223372036854775807→Blk w2 g 25 (cur.setIfInBounds (k*4+3) (.slice A' ks'.length c'))→zAn Q w2 A' ks'→(∀{y:Tre} {c:Array Value},NdAt (fun b=>b≠g∧P b) w y c→NdAt Q w2 y c)→Q g→zAn Q w2 (some ⟨g,0,none⟩) (ks.set k (.mk x.kind x.text x.cols ks')):=by
 obtain⟨css,ho,hl,hr⟩:=h;have hkl:=(List.getElem?_eq_some_iff.1 hk).1;have hsz:=OwnN.size hl hr;rcases ho.2 with⟨rfl,h0⟩|⟨g,cap,cur,rfl,hg,hb,hn,hc,hs,ht⟩
 ·omega
 have hb':Blk w g 25 cur:=hb;have get:∀(i:Nat) y,ks[i]?=some y→∃c,NdAt (fun b=>b≠g∧P b) w y c∧∀j,j<4→cur[i*4+j]?=c[j]?:=fun i y hi=>by
  have hil:=(List.getElem?_eq_some_iff.1 hi).1;obtain⟨c,hci⟩:∃c,css[i]?=some c:=⟨_,gE (by omega)⟩
  refine⟨c,(hr i c y hci hi).any fun b _ h=>⟨fun e=>h.1 (by rw[e];rfl),h.2⟩,fun j hj=>?_⟩;have h3:=zXw css i j c hsz hci hj;have hjc:j<c.size:=by rw[hsz c (List.mem_of_getElem? hci)];exact hj
  have h4:c[j]?=some c[j]:=Array.getElem?_eq_getElem hjc;rw[h4] at h3⊢;rw[←ht,List.getElem?_take] at h3
  split at h3
  ·rw[←Array.getElem?_toList];exact h3
  ·cases h3
 obtain⟨c,hcx,hcc⟩:=get k x hk;obtain⟨A,cp,rfl,hst,hlc,hcm,hkk⟩:=hcx.form;refine⟨g,cap,cur,A,cp,rfl,hn,by unfold maxLen at hc;omega,hg,hb',hcc 3 (by omega),hlc,hcm,hkk,fun Q A' ks' c' w2 h1 h2 h3 h4 h5 h6 i y hi=>?_⟩;have hcs:cur.size=cap*4:=hs;refine⟨⟨g,0,none⟩,rfl,h3.lt,h6,?_⟩
 by_cases hik:i=k
 ·subst hik;rw[List.getElem?_set_self hkl] at hi;obtain rfl:=sj hi;refine⟨_,NdAt.of hst h1 h2 h4,fun j hj=>?_⟩;rw[addg,h3.cell,Array.getElem?_setIfInBounds]
  match j,hj with
  |0,_=>rw[if_neg (by omega)];exact hcc 0 (by omega)
  |1,_=>rw[if_neg (by omega)];exact hcc 1 (by omega)
  |2,_=>rw[if_neg (by omega)];exact hcc 2 (by omega)
  |3,_=>rw[if_pos rfl,if_pos (by omega)];rfl
  |j+4,hj=>omega
 ·rw[List.getElem?_set_ne (fun e=>hik e.symm)] at hi;obtain⟨c,hc1,hc2⟩:=get i y hi;refine⟨c,h5 hc1,fun j hj=>?_⟩;rw[addg,h3.cell,Array.getElem?_setIfInBounds,if_neg (by omega)];exact hc2 j hj
theorem yAd {rs:List Rul}{kd:Int}{nam:ByteArray}{e:Nat}{R R2:List (List Tre)}{t:Tre}(he:e=7∨e=9)(h:opW rs kd nam e R 1=some (t,R2)):∃b s0 r,t= .mk e ⟨#[]⟩ 0 (b::rowT s0::r)∧s0∈R:=by
 unfold opW at h
 split at h
 ·cases h
 ·split at h
  ·cases h
  ·split at h
   ·next u hq _ hl=>
    injection h with h;injection h with h1 h2;have hs:1≤scrN e:=by rcases he with rfl|rfl<;>decide
    cases R with
    |nil=>simp at hl
    |cons s0 R=>
     obtain⟨k,hk⟩:∃k,scrN e=k+1:=⟨scrN e -1,by omega⟩
     rw[if_neg (by omega),hk] at h1;exact⟨_,s0,_,h1.symm,List.mem_cons_self⟩
   ·cases h
set_option maxRecDepth 100000 in
set_option maxHeartbeats 8000000 in
theorem zYd (W:WrB)(A:Option Addr)(cap:Nat)(rs:List Rul)(f:Nat)(HI:zBo W A cap rs f)(e:Nat)(he:e=7∨e=9)(es:ByteArray)(hes:es=endW (eJ e))(m:Trm)(c:Array Value)(w:World)(hm:szM m≤f)(hf:f≤10000)(hrn:rs.length≤1000000)(hW:zCn w W A cap rs)(hM:MAt w m c):
  Calls Tryz.prog 110 #[.pointer (some ⟨W.gw,0,none⟩),.agg c,.string es] w (ItmP ((zA4 rs m.args).bind fun R=>fixW rs m.nam m.vr R (.bind e)) w):=by
 obtain⟨A2,cap2,rfl,hs1,hs2,hs3,hl,hc,hk⟩:=hM.form;have B1:=zA0 w (.cells (trmC m.kind m.nam m.vr A2 m.args.length cap2 m.form) 31);have K0:=zh (Blk.new w 31 (trmC m.kind m.nam m.vr A2 m.args.length cap2 m.form));have HW1:=zh (hW.keep B1);have HM1:=zh (hM.keep B1);have HB:=zh B1;have HC:=zh (show szL m.args+1≤f by have:=zDi hm (by omega);omega);have HMF:=zh hm;have HES:=zh hes;have HEE:=zh he;have HVS:=zh hs2;clear hW hM hk B1 hm hes he;go_enter Tryz.func110,Tryz.ntmps110;go_upto_region 1 with(fail)
 generalize w.alloc (.cells (trmC m.kind m.nam m.vr A2 m.args.length cap2 m.form) 31)=w1 at*;have q0:=K0.out.cell 0;have q1:=K0.out.cell 1;have q2:=K0.out.cell 2;have q3:=K0.out.cell 3;have q4:=K0.out.cell 4;go_wp2_with fail;refine(zC4 W A cap rs f HI 2 e (by have:=HEE.out;omega) es HES.out 1 (by omega) (by omega) m _ w1 HMF.out (by omega) hrn HW1.out HM1.out).mono ?_;rintro r w2 ⟨hres,hb⟩;have HB2:=jt HB hb;have K02:=kp hb K0;have HS:=zh HB.out.size;have HSW:=zh (show w.heap.size<w1.heap.size from K0.out.lt);clear q0 q1 q2 q3 q4 hb HB K0 HW1 HM1;cases hO:((zA4 rs m.args).bind fun R=>opW rs 2 m.nam e R 1) with
 |none=>
  rw[hO] at hres;obtain rfl:r= .returned (.tuple #[.agg zerD,.slice none 0 0,.bool false]):=hres;have HQ:=zh (show((zA4 rs m.args).bind fun R=>fixW rs m.nam m.vr R (.bind e))=none by
   cases hR:zA4 rs m.args with
   |none=>rfl
   |some R=>
    rw[hR] at hO;show fixW rs m.nam m.vr R (.bind e)=none;unfold fixW;dsimp only;rw[show opW rs 2 m.nam e R 1=none from hO])
  have HB3:=zh (HB2.out.trans ((zA0 w2 (.cells zerD 25)).mono HB2.out.size));clear hO;go_wp2_with fail
  go_ret2
  rw[HQ.out];exact⟨rfl,HB3.out⟩
 |some p=>
  obtain⟨t,R2⟩:=p;rw[hO] at hres;obtain⟨v,A3,c3,hr,htx,hap,hl3,hc3,hn3⟩:=hres;obtain⟨R,hR,hO2⟩:∃R,zA4 rs m.args=some R∧opW rs 2 m.nam e R 1=some (t,R2):=by
   cases hR:zA4 rs m.args with
   |none=>rw[hR] at hO;cases hO
   |some R=>rw[hR] at hO;exact⟨R,rfl,hO⟩
  obtain⟨hln,hmem⟩:=zMe hO2;obtain⟨b0,s0,r0,rfl,hs0⟩:=yAd HEE.out hO2
  match R2,hln,hmem,hO2,hl3,hn3,hr with
  |[a],_,hmem,hO2,hl3,hn3,hr=>
  obtain rfl:r= .returned (.tuple #[.agg #[.int .i64 (e:Int),.string ⟨#[]⟩,.int .i64 0,v],.slice A3 1 c3,.bool true]):=hr;have HQ:=zh (show((zA4 rs m.args).bind fun R=>fixW rs m.nam m.vr R (.bind e))=some ([.mk e ⟨#[]⟩ 0 (b0:: .mk 1 ⟨#[]⟩ 0 ([symT m.vr,symT eqlS]++s0)::r0)]++a) by
   rw[hR];show fixW rs m.nam m.vr R (.bind e)=_;unfold fixW;dsimp only;rw[hO2];rfl)
  have HLN:=zh (show a.length≤160000 by
   have h1:=zC6 hR a (hmem a (by simp));have:=HC.out;omega)
  have HLS:=zh (show s0.length≤160000 by
   have h1:=zC6 hR s0 hs0;have:=HC.out;omega)
  obtain⟨g,c5,cur,A6,c6,rfl,hl5,hc5,hg5,hbk,h7,hl6,hc6,hk6,hput⟩:=zZr (k:=1) (x:=rowT s0) hap rfl;obtain⟨n5,hn5⟩:∃n5,n5=(Tre.mk e ⟨#[]⟩ 0 (b0::rowT s0::r0)).kids.length:=⟨_,rfl⟩
  rw[←hn5] at hl5;rw[←hn5];have HN5:=zh (show n5=r0.length+2 from hn5);have j1:(1:Int)<(n5:Int):=by rw[HN5.out];omega
  have HT5:=zh (And.intro hl5 hc5);have hba:=zA0 w2 (.cells #[.int .i64 (e:Int),.string ⟨#[]⟩,.int .i64 0,.slice (some ⟨g,0,none⟩) n5 c5] 25);have KO:=zh (Blk.new w2 25 #[.int .i64 (e:Int),.string ⟨#[]⟩,.int .i64 0,.slice (some ⟨g,0,none⟩) n5 c5]);have HX3:=zh (show Below w2.heap.size w2 _ from hba);have HG2:=zh (show w1.heap.size≤g∧g<w2.heap.size from⟨hg5,hbk.lt⟩);have HK6:=zh (show zAn (fun b=>b≠g∧w1.heap.size≤b) w2 A6 s0 from hk6);have H7:=zh (show cur[7]?=some (.slice A6 s0.length c6) from h7);have HBK:=zh hbk;have HN2:=zh (hn3.any (ok':=fun b=>b≠g∧w1.heap.size≤b) fun b _ hb=>⟨fun h=>hb.2 (by rw[h];rfl),hb.1⟩);have HPT:=zh (fun(A':Option Addr) (ks':List Tre) (c':Nat) (w9:World)=>hput (fun b=>w.heap.size≤b) A' ks' c' w9);clear hR hO hO2 hmem hln htx hap hn3 hba hl5 hc5 hk6 h7 hbk hput hs0 hn5;go_upto_region 4 with(fail)
  generalize w2.alloc (.cells #[.int .i64 (e:Int),.string ⟨#[]⟩,.int .i64 0,.slice (some ⟨g,0,none⟩) n5 c5] 25)=x3 at*;have k3:=KO.out.cell 3;have k2:=(keep HX3.out K02.out).cell 2;have b4:=zA0 x3 (.cells #[.int .i64 2,.string m.vr,.int .i64 0,.slice none 0 0,.int .i64 2,.string ⟨#[61]⟩,.int .i64 0,.slice none 0 0] 25);have HX4:=jt HX3 b4;have KD4:=zh (Blk.new x3 25 #[.int .i64 2,.string m.vr,.int .i64 0,.slice none 0 0,.int .i64 2,.string ⟨#[61]⟩,.int .i64 0,.slice none 0 0]);have KO4:=kp b4 KO;clear b4 KO;have HGB:=zh (show g<x3.heap.size∧w.heap.size≤x3.heap.size by have:=HG2.out;have:=HX3.out.size;have:=HB2.out.size;omega);go_upto_region 6 with(fail)
  generalize x3.heap.size=gb at*;generalize x3.alloc (.cells #[.int .i64 2,.string m.vr,.int .i64 0,.slice none 0 0,.int .i64 2,.string ⟨#[61]⟩,.int .i64 0,.slice none 0 0] 25)=x4 at*;clear k2 k3 HX3;have c7:=((keep HX4.out HBK.out).cell 7).trans H7.out;have b5:=zA0 x4 (.cells #[.slice (some ⟨gb,0,none⟩) 2 2,.slice A6 s0.length c6] 23);have HX5:=jt HX4 b5;have KH5:=zh (Blk.new x4 23 #[.slice (some ⟨gb,0,none⟩) 2 2,.slice A6 s0.length c6]);have HD5:=zh (zUz (ok:=fun b=>w.heap.size≤b∧b≠g) (keep b5 KD4.out) (NdAt.zero _ _ 2 m.vr 0 HVS.out) (NdAt.zero _ _ 2 ⟨#[61]⟩ 0 (by decide)) (by have:=HGB.out;omega));go_wp2_with fail;refine(zNy (fun b=>w.heap.size≤b∧b≠g) x4.heap.size (some ⟨gb,0,none⟩) A6 2 c6 [symT m.vr,symT eqlS] s0 _ KH5.out HD5.out ((HK6.out.any (ok':=fun b=>w.heap.size≤b∧b≠g) fun b _ hb=>⟨by have:=hb.2;have:=HS.out;omega,hb.1⟩).keep HX5.out) (fun b hb=>by have:=HX5.out.size;have:=HG2.out;have:=HB2.out.size;omega) (by have:=HLS.out;simp only[List.length_cons,List.length_nil];omega)).mono ?_;rintro r x6 ⟨⟨A9,c9,l9,hl9,rfl,k1,k2,k3⟩,hb⟩;have HX6:=jt HX5 hb;have HL9:=zh hl9;have hbk:=keep HX6.out HBK.out;have c7:=(hbk.cell 7).trans H7.out;have f7:=hbk.frozen 7;have hg:x6.grownBy (x6.setCell ⟨g,7,none⟩ (.slice A9 l9.length c9)) (some g):=zA9 x6 ⟨g,7,none⟩ _;have HKO:=zh ((keep hb (keep b5 KO4.out)).grown hg fun e=>by have h9:w2.heap.size=g:=sj e;have:=HG2.out;omega);have hbb:=HB2.out.trans (HX6.out.mono HB2.out.size);have HB3:=zh (hbb.grown hg hbb.size fun r e=>by have h9:g=r:=sj e;have:=HG2.out;have:=HS.out;omega);have HAP0:=zh (HPT.out A9 l9 c9 _ k1 k2 (hbk.set_ 7 (.slice A9 l9.length c9)) ((k3.off hg fun b hb e=>hb.2 (sj e)).any fun b _ h=>h.1) (fun h=>(h.keep HX6.out).grown hg (fun b _ hb e=>hb.1 (sj e)) fun b _ hb=>by have:=hb.2;have:=HS.out;omega) (by have:=HG2.out;have:=HS.out;omega));have HN3:=zh (((HN2.out.keep HX6.out).off hg fun b hb e=>hb.1 (sj e)).any (ok':=fun b=>w.heap.size≤b) fun b _ hb=>by have:=hb.2;have:=HS.out;omega);have HLO:=zh HB3.out.size;clear b5 hb k1 k2 k3 hl9 hbk hg hbb HX5 HX4 KH5 HD5 KO4 KD4 HN2 HK6 HPT HBK HX6;go_upto_region 7 with(fail)
  clear c7 f7;generalize x6.setCell ⟨g,7,none⟩ (.slice A9 l9.length c9)=w3 at*;obtain⟨t,ht⟩:∃t,t=Tre.mk e ⟨#[]⟩ 0 (b0:: .mk 1 ⟨#[]⟩ 0 l9::r0):=⟨_,rfl⟩
  obtain⟨A5,hA5⟩:∃A:Option Addr,A=some ⟨g,0,none⟩:=⟨_,rfl⟩
  have KO:=zh (show Blk w3 w2.heap.size 25 #[.int .i64 t.kind,.string t.text,.int .i64 t.cols,.slice A5 t.kids.length c5] by rw[ht,hA5];show Blk _ _ _ #[.int .i64 (e:Int),.string ⟨#[]⟩,.int .i64 0,.slice (some ⟨g,0,none⟩) (r0.length+2) c5];rw[←HN5.out];exact HKO.out);have HTX:=zh (show t.text.size≤9223372036854775807 by rw[ht];exact(by decide:(⟨#[]⟩:ByteArray).size≤9223372036854775807));have HT5:=zh (show t.kids.length≤c5∧c5≤9223372036854775807 by rw[ht];show r0.length+2≤c5∧_;rw[←HN5.out];exact HT5.out);have HAP:=zh (show zAn (fun b=>w.heap.size≤b) w3 A5 t.kids by rw[ht,hA5];exact HAP0.out);rw[←HL9.out,←ht] at HQ;clear ht hA5 HKO HAP0;obtain⟨adr,A6,c6,rfl,hadl,_,hl6,hc6,ha6,d0,d1,d2,d3⟩:=HN3.out.at0 (t:=rowT a) rfl;have HA6:=zh ha6;have HAD:=zh hadl;have d3:w3.cell? ⟨adr.block,adr.off+3,none⟩=some (.slice A6 a.length c6):=d3;clear d0 d1 d2 hadl ha6;have HB:=HB3;clear HB3;obtain⟨lx,hlx⟩:∃lx,lx=[t]++a:=⟨_,rfl⟩
  have HLX:=zh hlx;rw[←hlx] at HQ;clear hlx;refine zAh (X:=Gh) (by kernel_rfl) [1,1,2,2,2,1,1,1,2,2] [false,false,false,false,false,false,false,false,false,false] _ (fun gx=>[.agg #[.int .i64 t.kind,.string t.text,.int .i64 t.cols,.slice A5 t.kids.length c5],.slice (some ⟨gx.n 42,0,none⟩) 1 1,.slice (some adr) 1 c3,.pointer (some adr),.pointer (some ⟨adr.block,adr.off+3,none⟩),.slice A6 a.length c6,.slice (some ⟨gx.n 47,0,none⟩) 2 2,gx.v 48,gx.v 48,.bool true]) [(1,fun gx wx=>Blk wx (gx.n 42) 25 #[.int .i64 t.kind,.string t.text,.int .i64 t.cols,.slice A5 t.kids.length c5]∧w3.heap.size≤gx.n 42),(6,fun gx wx=>Blk wx (gx.n 47) 23 #[.slice (some ⟨gx.n 42,0,none⟩) 1 1,.slice A6 a.length c6]),(7,fun gx wx=>∃A8 c8,gx.v 48= .slice A8 lx.length c8∧lx.length≤c8∧c8≤9223372036854775807∧zAn (fun b=>w.heap.size≤b) wx A8 lx)] (fun _ _=>True) Gh.zero (by kernel_rfl) (fun gx=>by simp[fin,zAm,zAb,List.range,List.range.loop,Act.put];rfl) (fun _=>by kernel_rfl) (zA8.cons (fun gx wx w2 h hb=>⟨keep hb h.1,h.2⟩) (zA8.cons (fun gx wx w2 h hb=>keep hb h) (zA8.cons (fun gx wx w2 ⟨A8,c8,h1,h2,h3,h4⟩ hb=>⟨A8,c8,h1,h2,h3,h4.keep hb⟩) zA8.nil))) (trivial) ?_ (by kernel_rfl) ?_
  ·refine⟨fun gx wq hB hJ hf=>?_,fun gx wq hB hJ hf=>?_,fun gx wq=>jp (.slice (some adr) 1 c3) (by kernel_rfl) rfl,fun gx wq=>jp (.pointer (some adr)) (by simp[go_sem,evAct,zF6]) rfl,fun gx wq=>jp (.pointer (some ⟨adr.block,adr.off+3,none⟩)) (by simp[go_sem,evAct]) rfl,fun gx wq hB hJ hf=>?_,fun gx wq hB hJ hf=>?_,fun gx wq hB hJ hf=>?_,fun gx wq=>jp (gx.v 48) (by kernel_rfl) rfl,fun gx wq=>jp (.bool true) (by kernel_rfl) rfl,trivial⟩
   ·have c0:=(keep hB KO.out).cell 0;have c1:=(keep hB KO.out).cell 1;have c2:=(keep hB KO.out).cell 2;have c3:=(keep hB KO.out).cell 3;exact gs (.agg #[.int .i64 t.kind,.string t.text,.int .i64 t.cols,.slice A5 t.kids.length c5]) hJ (by kernel_rfl) (by simp[go_sem,evAct,c0,c1,c2,c3]) rfl
   ·exact jv (.slice (some ⟨wq.heap.size,0,none⟩) 1 1) (wq.alloc (.cells #[.int .i64 t.kind,.string t.text,.int .i64 t.cols,.slice A5 t.kids.length c5] 25)) (by simp[go_sem,evAct]) ⟨gx.setN 42 wq.heap.size,rfl,(by refine zA5.of_same ⟨?_,?_,?_,?_,?_,?_,?_,?_,?_,?_,trivial⟩<;>first|exact jK|exact .inl rfl|exact .inr (.inl (by kernel_rfl))),zA0 wq _,⟨⟨Blk.new wq _ _,hB.size⟩,.inl (by kernel_rfl),.inl (by kernel_rfl),trivial⟩,trivial⟩
   ·have cJ:=(hB.cell (p:=⟨adr.block,adr.off+3,none⟩) HAD.out).trans d3;exact gs (.slice A6 a.length c6) hJ (by kernel_rfl) (by simp[go_sem,evAct,cJ]) rfl
   ·have f42:=hf.1 (by kernel_rfl);exact jv (.slice (some ⟨wq.heap.size,0,none⟩) 2 2) (wq.alloc (.cells #[.slice (some ⟨gx.n 42,0,none⟩) 1 1,.slice A6 a.length c6] 23)) (by simp[go_sem,evAct]) ⟨gx.setN 47 wq.heap.size,rfl,(by refine zA5.of_same ⟨?_,?_,?_,?_,?_,?_,?_,?_,?_,?_,trivial⟩<;>first|exact jK|exact .inl rfl|exact .inr (.inl (by kernel_rfl))),zA0 wq _,⟨.inr fun h=>h,Blk.new wq _ _,.inl (by kernel_rfl),trivial⟩,trivial⟩
   ·have f42:=hf.1 (by kernel_rfl);have f47:=hf.2.1 (by kernel_rfl);refine jc 150 (#[.slice (some ⟨gx.n 47,0,none⟩) 2 2]) wq (by kernel_rfl) ((zIo w.heap.size (gx.n 47) (some ⟨gx.n 42,0,none⟩) A6 1 c6 [t] a wq f47 (by have h9:=zD8 (ok:=fun b=>w.heap.size≤b) f42.1 HTX.out HT5.out.1 HT5.out.2 (HAP.out.keep hB) (by have:=f42.2;have:=HLO.out;omega);obtain⟨q1,q2,q3,q4⟩:=t;exact h9) (HA6.out.keep hB) (Nat.le_trans HLO.out hB.size) (by have:=HLN.out;first|omega|(simp only[List.length_cons,List.length_nil];omega))).mono ?_);rintro e wz ⟨⟨A8,c8,l8,hl8,rfl,k1,k2,k3⟩,hb⟩;rw[←HLX.out] at hl8;subst hl8;exact⟨_,rfl,gx.setV 48 (.slice A8 l8.length c8),rfl,(by refine zA5.of_same ⟨?_,?_,?_,?_,?_,?_,?_,?_,?_,?_,trivial⟩<;>first|exact jK|exact .inl rfl|exact .inr (.inl (by kernel_rfl))),hb,⟨.inr fun h=>h,.inr fun h=>h,⟨A8,c8,rfl,k1,k2,k3⟩,trivial⟩,trivial⟩
  ·refine fun gx wq hB hJ hf=>?_
   dsimp only[zAu] at hf;change wpOps _ _ _ [] _ _;refine zAe ?_;obtain⟨A8,c8,e8,k1,k2,k3⟩:=hf.2.2.1;have HBZ:=jt HB hB;have HN8:=zh k3;rw[e8];clear hf hJ k3 e8;generalize gx.n 42=n42 at*;generalize gx.n 47=n47 at*;clear gx;go_wp2_with fail
   go_ret2
   rw[HQ.out];exact⟨⟨A8,c8,rfl,k1,k2,HN8.out⟩,HBZ.out⟩
end Go.Proofs.YtadcldfbmkfkaaaGreatDoor.Rn
