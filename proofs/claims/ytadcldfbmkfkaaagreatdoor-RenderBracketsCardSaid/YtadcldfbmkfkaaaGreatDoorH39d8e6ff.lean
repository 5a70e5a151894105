/- The functions of the writer for the forms that are fixed. -/
import Derived.Test.YtadcldfbmkfkaaaGreatDoorH6f2a9ea9
import Derived.Shelf.Strconv.ParseUintEmpty
import Derived.Shelf.Strconv.ParseUint10b64
import Derived.Shelf.Strconv.ParseUint10b32
import Derived.Shelf.Strconv.ParseUint10b16
import Derived.Shelf.Strconv.ParseUint10b8
namespace Go.Proofs.YtadcldfbmkfkaaaGreatDoor.Rn
open At Ch Sp Sy El Go.RowKit
set_option maxRecDepth 100000 in
set_option maxHeartbeats 4000000 in
theorem zT3 (W:WrB)(A:Option Addr)(cap:Nat)(rs:List Rul)(f:Nat)(HI:zBo W A cap rs f)(m:Trm)(c:Array Value)(w:World)(hm:szM m≤f)(hf:f≤10000)(_:rs.length≤1000000)(hW:zCn w W A cap rs)(hM:MAt w m c):
  Calls Tryz.prog 95 #[.agg c,.pointer (some ⟨W.gb,0,none⟩)] w (ItmP ((zA4 rs m.args).bind fun R=>fixW rs m.nam m.vr R .frac) w):=by
 obtain⟨A2,cap2,rfl,hs1,hs2,hs3,hl,hc,hk⟩:=hM.form;have B1:=zA0 w (.cells (trmC m.kind m.nam m.vr A2 m.args.length cap2 m.form) 31);have K0:=zh (Blk.new w 31 (trmC m.kind m.nam m.vr A2 m.args.length cap2 m.form));have HW1:=zh (hW.keep B1);have HM1:=zh (hM.keep B1);have HB:=zh B1;have HMF:=zh hm;have HS1:=zh hs1;clear hW hM hk B1 hm;go_enter Tryz.func95,Tryz.ntmps95;go_upto_region 1 with(fail)
 generalize w.alloc (.cells (trmC m.kind m.nam m.vr A2 m.args.length cap2 m.form) 31)=w1 at*;have q0:=K0.out.cell 0;have q1:=K0.out.cell 1;have q2:=K0.out.cell 2;have q3:=K0.out.cell 3;have q4:=K0.out.cell 4;have v0:=HW1.out.var.cell 0;go_wp2_with fail;refine(zDm W A cap rs f HI 5 ⟨#[]⟩ 2 m _ w1 HMF.out (by omega) HW1.out HM1.out).mono ?_;rintro r w2 hres;have hres:=hres.itm (by first|exact HS1.out|decide);obtain⟨h1,hb⟩:=hres.up HB.out;have HB2:=zh hb;have HX:=zh h1;clear hres hb;cases hO:((zA4 rs m.args).bind fun R=>fixW rs m.nam m.vr R .frac) with
 |none=>
  have h1:=HX.out;rw[show((zA4 rs m.args).bind fun R=>zBr 5 ⟨#[]⟩ R 2)=none from hO] at h1;obtain rfl:r= .returned (.tuple #[.slice none 0 0,.bool false]):=h1;have HO:=zh hO;clear hO HX;go_wp2_with fail
  go_ret2
  rw[HO.out];exact⟨rfl,HB2.out⟩
 |some l=>
  have h1:=HX.out;rw[show((zA4 rs m.args).bind fun R=>zBr 5 ⟨#[]⟩ R 2)=some l from hO] at h1;obtain⟨A3,c3,rfl,h2,h3,h4⟩:=h1;have HN:=zh h4;have HO:=zh hO;clear hO HX h4;go_wp2_with fail
  go_ret2
  rw[HO.out];exact⟨⟨A3,c3,rfl,h2,h3,HN.out⟩,HB2.out⟩
set_option maxRecDepth 100000 in
set_option maxHeartbeats 4000000 in
theorem zX6 (W:WrB)(A:Option Addr)(cap:Nat)(rs:List Rul)(f:Nat)(HI:zBo W A cap rs f)(m:Trm)(c:Array Value)(w:World)(hm:szM m≤f)(hf:f≤10000)(_:rs.length≤1000000)(hW:zCn w W A cap rs)(hM:MAt w m c):
  Calls Tryz.prog 98 #[.agg c,.pointer (some ⟨W.gb,0,none⟩)] w (ItmP ((zA4 rs m.args).bind fun R=>fixW rs m.nam m.vr R .sub) w):=by
 obtain⟨A2,cap2,rfl,hs1,hs2,hs3,hl,hc,hk⟩:=hM.form;have B1:=zA0 w (.cells (trmC m.kind m.nam m.vr A2 m.args.length cap2 m.form) 31);have K0:=zh (Blk.new w 31 (trmC m.kind m.nam m.vr A2 m.args.length cap2 m.form));have HW1:=zh (hW.keep B1);have HM1:=zh (hM.keep B1);have HB:=zh B1;have HMF:=zh hm;have HS1:=zh hs1;clear hW hM hk B1 hm;go_enter Tryz.func98,Tryz.ntmps98;go_upto_region 1 with(fail)
 generalize w.alloc (.cells (trmC m.kind m.nam m.vr A2 m.args.length cap2 m.form) 31)=w1 at*;have q0:=K0.out.cell 0;have q1:=K0.out.cell 1;have q2:=K0.out.cell 2;have q3:=K0.out.cell 3;have q4:=K0.out.cell 4;have v0:=HW1.out.var.cell 0;go_wp2_with fail;refine(zDm W A cap rs f HI 7 ⟨#[]⟩ 2 m _ w1 HMF.out (by omega) HW1.out HM1.out).mono ?_;rintro r w2 hres;have hres:=hres.itm (by first|exact HS1.out|decide);obtain⟨h1,hb⟩:=hres.up HB.out;have HB2:=zh hb;have HX:=zh h1;clear hres hb;cases hO:((zA4 rs m.args).bind fun R=>fixW rs m.nam m.vr R .sub) with
 |none=>
  have h1:=HX.out;rw[show((zA4 rs m.args).bind fun R=>zBr 7 ⟨#[]⟩ R 2)=none from hO] at h1;obtain rfl:r= .returned (.tuple #[.slice none 0 0,.bool false]):=h1;have HO:=zh hO;clear hO HX;go_wp2_with fail
  go_ret2
  rw[HO.out];exact⟨rfl,HB2.out⟩
 |some l=>
  have h1:=HX.out;rw[show((zA4 rs m.args).bind fun R=>zBr 7 ⟨#[]⟩ R 2)=some l from hO] at h1;obtain⟨A3,c3,rfl,h2,h3,h4⟩:=h1;have HN:=zh h4;have HO:=zh hO;clear hO HX h4;go_wp2_with fail
  go_ret2
  rw[HO.out];exact⟨⟨A3,c3,rfl,h2,h3,HN.out⟩,HB2.out⟩
set_option maxRecDepth 100000 in
set_option maxHeartbeats 4000000 in
theorem zWn (W:WrB)(A:Option Addr)(cap:Nat)(rs:List Rul)(f:Nat)(HI:zBo W A cap rs f)(m:Trm)(c:Array Value)(w:World)(hm:szM m≤f)(hf:f≤10000)(_:rs.length≤1000000)(hW:zCn w W A cap rs)(hM:MAt w m c):
  Calls Tryz.prog 99 #[.agg c,.pointer (some ⟨W.gb,0,none⟩)] w (ItmP ((zA4 rs m.args).bind fun R=>fixW rs m.nam m.vr R .sup) w):=by
 obtain⟨A2,cap2,rfl,hs1,hs2,hs3,hl,hc,hk⟩:=hM.form;have B1:=zA0 w (.cells (trmC m.kind m.nam m.vr A2 m.args.length cap2 m.form) 31);have K0:=zh (Blk.new w 31 (trmC m.kind m.nam m.vr A2 m.args.length cap2 m.form));have HW1:=zh (hW.keep B1);have HM1:=zh (hM.keep B1);have HB:=zh B1;have HMF:=zh hm;have HS1:=zh hs1;clear hW hM hk B1 hm;go_enter Tryz.func99,Tryz.ntmps99;go_upto_region 1 with(fail)
 generalize w.alloc (.cells (trmC m.kind m.nam m.vr A2 m.args.length cap2 m.form) 31)=w1 at*;have q0:=K0.out.cell 0;have q1:=K0.out.cell 1;have q2:=K0.out.cell 2;have q3:=K0.out.cell 3;have q4:=K0.out.cell 4;have v0:=HW1.out.var.cell 0;go_wp2_with fail;refine(zDm W A cap rs f HI 8 ⟨#[]⟩ 2 m _ w1 HMF.out (by omega) HW1.out HM1.out).mono ?_;rintro r w2 hres;have hres:=hres.itm (by first|exact HS1.out|decide);obtain⟨h1,hb⟩:=hres.up HB.out;have HB2:=zh hb;have HX:=zh h1;clear hres hb;cases hO:((zA4 rs m.args).bind fun R=>fixW rs m.nam m.vr R .sup) with
 |none=>
  have h1:=HX.out;rw[show((zA4 rs m.args).bind fun R=>zBr 8 ⟨#[]⟩ R 2)=none from hO] at h1;obtain rfl:r= .returned (.tuple #[.slice none 0 0,.bool false]):=h1;have HO:=zh hO;clear hO HX;go_wp2_with fail
  go_ret2
  rw[HO.out];exact⟨rfl,HB2.out⟩
 |some l=>
  have h1:=HX.out;rw[show((zA4 rs m.args).bind fun R=>zBr 8 ⟨#[]⟩ R 2)=some l from hO] at h1;obtain⟨A3,c3,rfl,h2,h3,h4⟩:=h1;have HN:=zh h4;have HO:=zh hO;clear hO HX h4;go_wp2_with fail
  go_ret2
  rw[HO.out];exact⟨⟨A3,c3,rfl,h2,h3,HN.out⟩,HB2.out⟩
set_option maxRecDepth 100000 in
set_option maxHeartbeats 4000000 in
theorem zSu (W:WrB)(A:Option Addr)(cap:Nat)(rs:List Rul)(f:Nat)(HI:zBo W A cap rs f)(m:Trm)(c:Array Value)(w:World)(hm:szM m≤f)(hf:f≤10000)(_:rs.length≤1000000)(hW:zCn w W A cap rs)(hM:MAt w m c):
  Calls Tryz.prog 100 #[.agg c,.pointer (some ⟨W.gb,0,none⟩)] w (ItmP ((zA4 rs m.args).bind fun R=>fixW rs m.nam m.vr R .both) w):=by
 obtain⟨A2,cap2,rfl,hs1,hs2,hs3,hl,hc,hk⟩:=hM.form;have B1:=zA0 w (.cells (trmC m.kind m.nam m.vr A2 m.args.length cap2 m.form) 31);have K0:=zh (Blk.new w 31 (trmC m.kind m.nam m.vr A2 m.args.length cap2 m.form));have HW1:=zh (hW.keep B1);have HM1:=zh (hM.keep B1);have HB:=zh B1;have HMF:=zh hm;have HS1:=zh hs1;clear hW hM hk B1 hm;go_enter Tryz.func100,Tryz.ntmps100;go_upto_region 1 with(fail)
 generalize w.alloc (.cells (trmC m.kind m.nam m.vr A2 m.args.length cap2 m.form) 31)=w1 at*;have q0:=K0.out.cell 0;have q1:=K0.out.cell 1;have q2:=K0.out.cell 2;have q3:=K0.out.cell 3;have q4:=K0.out.cell 4;have v0:=HW1.out.var.cell 0;go_wp2_with fail;refine(zDm W A cap rs f HI 9 ⟨#[]⟩ 3 m _ w1 HMF.out (by omega) HW1.out HM1.out).mono ?_;rintro r w2 hres;have hres:=hres.itm (by first|exact HS1.out|decide);obtain⟨h1,hb⟩:=hres.up HB.out;have HB2:=zh hb;have HX:=zh h1;clear hres hb;cases hO:((zA4 rs m.args).bind fun R=>fixW rs m.nam m.vr R .both) with
 |none=>
  have h1:=HX.out;rw[show((zA4 rs m.args).bind fun R=>zBr 9 ⟨#[]⟩ R 3)=none from hO] at h1;obtain rfl:r= .returned (.tuple #[.slice none 0 0,.bool false]):=h1;have HO:=zh hO;clear hO HX;go_wp2_with fail
  go_ret2
  rw[HO.out];exact⟨rfl,HB2.out⟩
 |some l=>
  have h1:=HX.out;rw[show((zA4 rs m.args).bind fun R=>zBr 9 ⟨#[]⟩ R 3)=some l from hO] at h1;obtain⟨A3,c3,rfl,h2,h3,h4⟩:=h1;have HN:=zh h4;have HO:=zh hO;clear hO HX h4;go_wp2_with fail
  go_ret2
  rw[HO.out];exact⟨⟨A3,c3,rfl,h2,h3,HN.out⟩,HB2.out⟩
set_option maxRecDepth 100000 in
set_option maxHeartbeats 4000000 in
theorem zP4 (W:WrB)(A:Option Addr)(cap:Nat)(rs:List Rul)(f:Nat)(HI:zBo W A cap rs f)(m:Trm)(c:Array Value)(w:World)(hm:szM m≤f)(hf:f≤10000)(_:rs.length≤1000000)(hW:zCn w W A cap rs)(hM:MAt w m c):
  Calls Tryz.prog 101 #[.agg c,.pointer (some ⟨W.gb,0,none⟩)] w (ItmP ((zA4 rs m.args).bind fun R=>fixW rs m.nam m.vr R .accent) w):=by
 obtain⟨A2,cap2,rfl,hs1,hs2,hs3,hl,hc,hk⟩:=hM.form;have B1:=zA0 w (.cells (trmC m.kind m.nam m.vr A2 m.args.length cap2 m.form) 31);have K0:=zh (Blk.new w 31 (trmC m.kind m.nam m.vr A2 m.args.length cap2 m.form));have HW1:=zh (hW.keep B1);have HM1:=zh (hM.keep B1);have HB:=zh B1;have HMF:=zh hm;have HS1:=zh hs1;clear hW hM hk B1 hm;go_enter Tryz.func101,Tryz.ntmps101;go_upto_region 1 with(fail)
 generalize w.alloc (.cells (trmC m.kind m.nam m.vr A2 m.args.length cap2 m.form) 31)=w1 at*;have q0:=K0.out.cell 0;have q1:=K0.out.cell 1;have q2:=K0.out.cell 2;have q3:=K0.out.cell 3;have q4:=K0.out.cell 4;have v0:=HW1.out.var.cell 0;go_wp2_with fail;refine(zDm W A cap rs f HI 10 m.nam 1 m _ w1 HMF.out (by omega) HW1.out HM1.out).mono ?_;rintro r w2 hres;have hres:=hres.itm (by first|exact HS1.out|decide);obtain⟨h1,hb⟩:=hres.up HB.out;have HB2:=zh hb;have HX:=zh h1;clear hres hb;cases hO:((zA4 rs m.args).bind fun R=>fixW rs m.nam m.vr R .accent) with
 |none=>
  have h1:=HX.out;rw[show((zA4 rs m.args).bind fun R=>zBr 10 m.nam R 1)=none from hO] at h1;obtain rfl:r= .returned (.tuple #[.slice none 0 0,.bool false]):=h1;have HO:=zh hO;clear hO HX;go_wp2_with fail
  go_ret2
  rw[HO.out];exact⟨rfl,HB2.out⟩
 |some l=>
  have h1:=HX.out;rw[show((zA4 rs m.args).bind fun R=>zBr 10 m.nam R 1)=some l from hO] at h1;obtain⟨A3,c3,rfl,h2,h3,h4⟩:=h1;have HN:=zh h4;have HO:=zh hO;clear hO HX h4;go_wp2_with fail
  go_ret2
  rw[HO.out];exact⟨⟨A3,c3,rfl,h2,h3,HN.out⟩,HB2.out⟩
set_option maxRecDepth 100000 in
set_option maxHeartbeats 4000000 in
theorem zI9 (W:WrB)(A:Option Addr)(cap:Nat)(rs:List Rul)(f:Nat)(HI:zBo W A cap rs f)(e:Nat)(he:e=0∨e=7∨e=8∨e=9)(m:Trm)(c:Array Value)(w:World)(hm:szM m≤f)(hf:f≤10000)(hrn:rs.length≤1000000)(hW:zCn w W A cap rs)(hM:MAt w m c):
  Calls Tryz.prog 103 #[.agg c,.pointer (some ⟨W.gb,0,none⟩),.pointer (some ⟨W.ge (eJ e),0,none⟩)] w (ItmP ((zA4 rs m.args).bind fun R=>fixW rs m.nam m.vr R (.inf e)) w):=by
 obtain⟨A2,cap2,rfl,hs1,hs2,hs3,hl,hc,hk⟩:=hM.form;have B1:=zA0 w (.cells (trmC m.kind m.nam m.vr A2 m.args.length cap2 m.form) 31);have K0:=zh (Blk.new w 31 (trmC m.kind m.nam m.vr A2 m.args.length cap2 m.form));have HW1:=zh (hW.keep B1);have HM1:=zh (hM.keep B1);have HB:=zh B1;have HMF:=zh hm;have HS1:=zh hs1;have HEE:=zh he;clear hW hM hk B1 hm he;go_enter Tryz.func103,Tryz.ntmps103;go_upto_region 1 with(fail)
 generalize w.alloc (.cells (trmC m.kind m.nam m.vr A2 m.args.length cap2 m.form) 31)=w1 at*;have q0:=K0.out.cell 0;have q1:=K0.out.cell 1;have q2:=K0.out.cell 2;have q3:=K0.out.cell 3;have q4:=K0.out.cell 4;have v0:=HW1.out.var.cell 0;have e0:=(HW1.out.ends (eJ e) (by rcases HEE.out with rfl|rfl|rfl|rfl<;>decide)).cell 0;go_wp2_with fail;refine(zSp W A cap rs f HI e HEE.out (endW (eJ e)) rfl m _ w1 HMF.out hf hrn HW1.out HM1.out).mono ?_;rintro r w2 hres;obtain⟨h1,hb⟩:=hres.up HB.out;have HB2:=zh hb;have HX:=zh h1;clear hres hb;cases hO:((zA4 rs m.args).bind fun R=>fixW rs m.nam m.vr R (.inf e)) with
 |none=>
  have h1:=HX.out;rw[show((zA4 rs m.args).bind fun R=>fixW rs m.nam m.vr R (.inf e))=none from hO] at h1;obtain rfl:r= .returned (.tuple #[.slice none 0 0,.bool false]):=h1;have HO:=zh hO;clear hO HX;go_wp2_with fail
  go_ret2
  rw[HO.out];exact⟨rfl,HB2.out⟩
 |some l=>
  have h1:=HX.out;rw[show((zA4 rs m.args).bind fun R=>fixW rs m.nam m.vr R (.inf e))=some l from hO] at h1;obtain⟨A3,c3,rfl,h2,h3,h4⟩:=h1;have HN:=zh h4;have HO:=zh hO;clear hO HX h4;go_wp2_with fail
  go_ret2
  rw[HO.out];exact⟨⟨A3,c3,rfl,h2,h3,HN.out⟩,HB2.out⟩
set_option maxRecDepth 100000 in
set_option maxHeartbeats 4000000 in
theorem zIg (W:WrB)(A:Option Addr)(cap:Nat)(rs:List Rul)(f:Nat)(HI:zBo W A cap rs f)(e:Nat)(he:e=0∨e=7∨e=8∨e=9)(m:Trm)(c:Array Value)(w:World)(hm:szM m≤f)(hf:f≤10000)(hrn:rs.length≤1000000)(hW:zCn w W A cap rs)(hM:MAt w m c):
  Calls Tryz.prog 105 #[.agg c,.pointer (some ⟨W.gb,0,none⟩),.pointer (some ⟨W.ge (eJ e),0,none⟩)] w (ItmP ((zA4 rs m.args).bind fun R=>fixW rs m.nam m.vr R (.pre e)) w):=by
 obtain⟨A2,cap2,rfl,hs1,hs2,hs3,hl,hc,hk⟩:=hM.form;have B1:=zA0 w (.cells (trmC m.kind m.nam m.vr A2 m.args.length cap2 m.form) 31);have K0:=zh (Blk.new w 31 (trmC m.kind m.nam m.vr A2 m.args.length cap2 m.form));have HW1:=zh (hW.keep B1);have HM1:=zh (hM.keep B1);have HB:=zh B1;have HMF:=zh hm;have HS1:=zh hs1;have HEE:=zh he;clear hW hM hk B1 hm he;go_enter Tryz.func105,Tryz.ntmps105;go_upto_region 1 with(fail)
 generalize w.alloc (.cells (trmC m.kind m.nam m.vr A2 m.args.length cap2 m.form) 31)=w1 at*;have q0:=K0.out.cell 0;have q1:=K0.out.cell 1;have q2:=K0.out.cell 2;have q3:=K0.out.cell 3;have q4:=K0.out.cell 4;have v0:=HW1.out.var.cell 0;have e0:=(HW1.out.ends (eJ e) (by rcases HEE.out with rfl|rfl|rfl|rfl<;>decide)).cell 0;go_wp2_with fail;refine(zRr W A cap rs f HI e HEE.out (endW (eJ e)) rfl m _ w1 HMF.out hf hrn HW1.out HM1.out).mono ?_;rintro r w2 hres;obtain⟨h1,hb⟩:=hres.up HB.out;have HB2:=zh hb;have HX:=zh h1;clear hres hb;cases hO:((zA4 rs m.args).bind fun R=>fixW rs m.nam m.vr R (.pre e)) with
 |none=>
  have h1:=HX.out;rw[show((zA4 rs m.args).bind fun R=>fixW rs m.nam m.vr R (.pre e))=none from hO] at h1;obtain rfl:r= .returned (.tuple #[.slice none 0 0,.bool false]):=h1;have HO:=zh hO;clear hO HX;go_wp2_with fail
  go_ret2
  rw[HO.out];exact⟨rfl,HB2.out⟩
 |some l=>
  have h1:=HX.out;rw[show((zA4 rs m.args).bind fun R=>fixW rs m.nam m.vr R (.pre e))=some l from hO] at h1;obtain⟨A3,c3,rfl,h2,h3,h4⟩:=h1;have HN:=zh h4;have HO:=zh hO;clear hO HX h4;go_wp2_with fail
  go_ret2
  rw[HO.out];exact⟨⟨A3,c3,rfl,h2,h3,HN.out⟩,HB2.out⟩
set_option maxRecDepth 100000 in
set_option maxHeartbeats 4000000 in
theorem zIl (W:WrB)(A:Option Addr)(cap:Nat)(rs:List Rul)(f:Nat)(HI:zBo W A cap rs f)(e:Nat)(he:e=0∨e=7∨e=8∨e=9)(m:Trm)(c:Array Value)(w:World)(hm:szM m≤f)(hf:f≤10000)(hrn:rs.length≤1000000)(hW:zCn w W A cap rs)(hM:MAt w m c):
  Calls Tryz.prog 107 #[.agg c,.pointer (some ⟨W.gb,0,none⟩),.pointer (some ⟨W.ge (eJ e),0,none⟩)] w (ItmP ((zA4 rs m.args).bind fun R=>fixW rs m.nam m.vr R (.pos e)) w):=by
 obtain⟨A2,cap2,rfl,hs1,hs2,hs3,hl,hc,hk⟩:=hM.form;have B1:=zA0 w (.cells (trmC m.kind m.nam m.vr A2 m.args.length cap2 m.form) 31);have K0:=zh (Blk.new w 31 (trmC m.kind m.nam m.vr A2 m.args.length cap2 m.form));have HW1:=zh (hW.keep B1);have HM1:=zh (hM.keep B1);have HB:=zh B1;have HMF:=zh hm;have HS1:=zh hs1;have HEE:=zh he;clear hW hM hk B1 hm he;go_enter Tryz.func107,Tryz.ntmps107;go_upto_region 1 with(fail)
 generalize w.alloc (.cells (trmC m.kind m.nam m.vr A2 m.args.length cap2 m.form) 31)=w1 at*;have q0:=K0.out.cell 0;have q1:=K0.out.cell 1;have q2:=K0.out.cell 2;have q3:=K0.out.cell 3;have q4:=K0.out.cell 4;have v0:=HW1.out.var.cell 0;have e0:=(HW1.out.ends (eJ e) (by rcases HEE.out with rfl|rfl|rfl|rfl<;>decide)).cell 0;go_wp2_with fail;refine(zOi W A cap rs f HI e HEE.out (endW (eJ e)) rfl m _ w1 HMF.out hf hrn HW1.out HM1.out).mono ?_;rintro r w2 hres;obtain⟨h1,hb⟩:=hres.up HB.out;have HB2:=zh hb;have HX:=zh h1;clear hres hb;cases hO:((zA4 rs m.args).bind fun R=>fixW rs m.nam m.vr R (.pos e)) with
 |none=>
  have h1:=HX.out;rw[show((zA4 rs m.args).bind fun R=>fixW rs m.nam m.vr R (.pos e))=none from hO] at h1;obtain rfl:r= .returned (.tuple #[.slice none 0 0,.bool false]):=h1;have HO:=zh hO;clear hO HX;go_wp2_with fail
  go_ret2
  rw[HO.out];exact⟨rfl,HB2.out⟩
 |some l=>
  have h1:=HX.out;rw[show((zA4 rs m.args).bind fun R=>fixW rs m.nam m.vr R (.pos e))=some l from hO] at h1;obtain⟨A3,c3,rfl,h2,h3,h4⟩:=h1;have HN:=zh h4;have HO:=zh hO;clear hO HX h4;go_wp2_with fail
  go_ret2
  rw[HO.out];exact⟨⟨A3,c3,rfl,h2,h3,HN.out⟩,HB2.out⟩
set_option maxRecDepth 100000 in
set_option maxHeartbeats 4000000 in
theorem zNi (W:WrB)(A:Option Addr)(cap:Nat)(rs:List Rul)(f:Nat)(HI:zBo W A cap rs f)(e:Nat)(he:e=7∨e=9)(m:Trm)(c:Array Value)(w:World)(hm:szM m≤f)(hf:f≤10000)(hrn:rs.length≤1000000)(hW:zCn w W A cap rs)(hM:MAt w m c):
  Calls Tryz.prog 109 #[.agg c,.pointer (some ⟨W.gb,0,none⟩),.pointer (some ⟨W.gf (bJ e),0,none⟩)] w (ItmP ((zA4 rs m.args).bind fun R=>fixW rs m.nam m.vr R (.bind e)) w):=by
 obtain⟨A2,cap2,rfl,hs1,hs2,hs3,hl,hc,hk⟩:=hM.form;have B1:=zA0 w (.cells (trmC m.kind m.nam m.vr A2 m.args.length cap2 m.form) 31);have K0:=zh (Blk.new w 31 (trmC m.kind m.nam m.vr A2 m.args.length cap2 m.form));have HW1:=zh (hW.keep B1);have HM1:=zh (hM.keep B1);have HB:=zh B1;have HMF:=zh hm;have HS1:=zh hs1;have HEE:=zh he;clear hW hM hk B1 hm he;go_enter Tryz.func109,Tryz.ntmps109;go_upto_region 1 with(fail)
 generalize w.alloc (.cells (trmC m.kind m.nam m.vr A2 m.args.length cap2 m.form) 31)=w1 at*;have q0:=K0.out.cell 0;have q1:=K0.out.cell 1;have q2:=K0.out.cell 2;have q3:=K0.out.cell 3;have q4:=K0.out.cell 4;have v0:=HW1.out.var.cell 0;have e0:=(HW1.out.bnds (bJ e) (by rcases HEE.out with rfl|rfl<;>decide)).cell 0;go_wp2_with fail;refine(zYd W A cap rs f HI e HEE.out (endV (bJ e)) (by rcases HEE.out with rfl|rfl<;>rfl) m _ w1 HMF.out hf hrn HW1.out HM1.out).mono ?_;rintro r w2 hres;obtain⟨h1,hb⟩:=hres.up HB.out;have HB2:=zh hb;have HX:=zh h1;clear hres hb;cases hO:((zA4 rs m.args).bind fun R=>fixW rs m.nam m.vr R (.bind e)) with
 |none=>
  have h1:=HX.out;rw[show((zA4 rs m.args).bind fun R=>fixW rs m.nam m.vr R (.bind e))=none from hO] at h1;obtain rfl:r= .returned (.tuple #[.slice none 0 0,.bool false]):=h1;have HO:=zh hO;clear hO HX;go_wp2_with fail
  go_ret2
  rw[HO.out];exact⟨rfl,HB2.out⟩
 |some l=>
  have h1:=HX.out;rw[show((zA4 rs m.args).bind fun R=>fixW rs m.nam m.vr R (.bind e))=some l from hO] at h1;obtain⟨A3,c3,rfl,h2,h3,h4⟩:=h1;have HN:=zh h4;have HO:=zh hO;clear hO HX h4;go_wp2_with fail
  go_ret2
  rw[HO.out];exact⟨⟨A3,c3,rfl,h2,h3,HN.out⟩,HB2.out⟩
def zUa (W:WrB)(A:Option Addr)(cap:Nat)(rs:List Rul)(f:Nat)(k:FK)(fid:FuncId)(pre post:Array Value):Prop:=
 (∀args w,Sem.run Tryz.prog (callFunc fid args) w= .ok (.enter fid args) w)∧∀(m:Trm) (c:Array Value) (w:World),szM m≤f→f≤10000→rs.length≤1000000→zCn w W A cap rs→MAt w m c→Calls Tryz.prog fid (pre++ #[.agg c]++post) w (ItmP ((zA4 rs m.args).bind fun R=>fixW rs m.nam m.vr R k) w)
set_option maxRecDepth 100000 in
theorem zZy (W:WrB)(A:Option Addr)(cap:Nat)(rs:List Rul)(f:Nat)(HI:zBo W A cap rs f){s:List UInt8}{k:FK}(hk:frmW s=some k):
  (∃fid g,fnV W k=fn1 fid g∧zUa W A cap rs f k fid #[] #[.pointer (some ⟨g,0,none⟩)])∨(∃fid g h,fnV W k=fn2 fid g h∧zUa W A cap rs f k fid #[] #[.pointer (some ⟨g,0,none⟩),.pointer (some ⟨h,0,none⟩)])∨(∃fid g,fnV W k=fn3 fid g∧zUa W A cap rs f k fid #[.pointer (some ⟨g,0,none⟩)] #[]):=by
 obtain⟨p,hp,rfl⟩:=Option.map_eq_some_iff.1 hk;have hm:=List.mem_of_find?_eq_some hp;clear hp hk;simp only[zIr,List.mem_cons,List.not_mem_nil,or_false] at hm;rcases hm with rfl|rfl|rfl|rfl|rfl|rfl|rfl|rfl|rfl|rfl|rfl|rfl|rfl|rfl|rfl|rfl|rfl|rfl|rfl|rfl|rfl
 ·exact .inl ⟨_,_,rfl,fun _ _=>rfl,fun m c w h1 h2 h3 h4 h5=>zT3 W A cap rs f HI m c w h1 h2 h3 h4 h5⟩
 ·exact .inr (.inr ⟨_,_,rfl,fun _ _=>rfl,fun m c w h1 h2 h3 h4 h5=>zXf W A cap rs f HI m c w h1 (by omega) h4 h5⟩)
 ·exact .inl ⟨_,_,rfl,fun _ _=>rfl,fun m c w h1 h2 h3 h4 h5=>zX6 W A cap rs f HI m c w h1 h2 h3 h4 h5⟩
 ·exact .inl ⟨_,_,rfl,fun _ _=>rfl,fun m c w h1 h2 h3 h4 h5=>zWn W A cap rs f HI m c w h1 h2 h3 h4 h5⟩
 ·exact .inl ⟨_,_,rfl,fun _ _=>rfl,fun m c w h1 h2 h3 h4 h5=>zSu W A cap rs f HI m c w h1 h2 h3 h4 h5⟩
 ·exact .inl ⟨_,_,rfl,fun _ _=>rfl,fun m c w h1 h2 h3 h4 h5=>zP4 W A cap rs f HI m c w h1 h2 h3 h4 h5⟩
 ·exact .inr (.inr ⟨_,_,rfl,fun _ _=>rfl,fun m c w h1 h2 h3 h4 h5=>zMb W A cap rs f HI m c w h1 h2 h4 h5⟩)
 ·exact .inr (.inl ⟨_,_,_,rfl,fun _ _=>rfl,fun m c w h1 h2 h3 h4 h5=>zI9 W A cap rs f HI 0 (.inl rfl) m c w h1 h2 h3 h4 h5⟩)
 ·exact .inr (.inl ⟨_,_,_,rfl,fun _ _=>rfl,fun m c w h1 h2 h3 h4 h5=>zIg W A cap rs f HI 0 (.inl rfl) m c w h1 h2 h3 h4 h5⟩)
 ·exact .inr (.inl ⟨_,_,_,rfl,fun _ _=>rfl,fun m c w h1 h2 h3 h4 h5=>zIl W A cap rs f HI 0 (.inl rfl) m c w h1 h2 h3 h4 h5⟩)
 ·exact .inr (.inl ⟨_,_,_,rfl,fun _ _=>rfl,fun m c w h1 h2 h3 h4 h5=>zI9 W A cap rs f HI 7 (.inr (.inl rfl)) m c w h1 h2 h3 h4 h5⟩)
 ·exact .inr (.inl ⟨_,_,_,rfl,fun _ _=>rfl,fun m c w h1 h2 h3 h4 h5=>zIg W A cap rs f HI 7 (.inr (.inl rfl)) m c w h1 h2 h3 h4 h5⟩)
 ·exact .inr (.inl ⟨_,_,_,rfl,fun _ _=>rfl,fun m c w h1 h2 h3 h4 h5=>zIl W A cap rs f HI 7 (.inr (.inl rfl)) m c w h1 h2 h3 h4 h5⟩)
 ·exact .inr (.inl ⟨_,_,_,rfl,fun _ _=>rfl,fun m c w h1 h2 h3 h4 h5=>zI9 W A cap rs f HI 8 (.inr (.inr (.inl rfl))) m c w h1 h2 h3 h4 h5⟩)
 ·exact .inr (.inl ⟨_,_,_,rfl,fun _ _=>rfl,fun m c w h1 h2 h3 h4 h5=>zIg W A cap rs f HI 8 (.inr (.inr (.inl rfl))) m c w h1 h2 h3 h4 h5⟩)
 ·exact .inr (.inl ⟨_,_,_,rfl,fun _ _=>rfl,fun m c w h1 h2 h3 h4 h5=>zIl W A cap rs f HI 8 (.inr (.inr (.inl rfl))) m c w h1 h2 h3 h4 h5⟩)
 ·exact .inr (.inl ⟨_,_,_,rfl,fun _ _=>rfl,fun m c w h1 h2 h3 h4 h5=>zI9 W A cap rs f HI 9 (.inr (jK)) m c w h1 h2 h3 h4 h5⟩)
 ·exact .inr (.inl ⟨_,_,_,rfl,fun _ _=>rfl,fun m c w h1 h2 h3 h4 h5=>zIg W A cap rs f HI 9 (.inr (jK)) m c w h1 h2 h3 h4 h5⟩)
 ·exact .inr (.inl ⟨_,_,_,rfl,fun _ _=>rfl,fun m c w h1 h2 h3 h4 h5=>zIl W A cap rs f HI 9 (.inr (jK)) m c w h1 h2 h3 h4 h5⟩)
 ·exact .inr (.inl ⟨_,_,_,rfl,fun _ _=>rfl,fun m c w h1 h2 h3 h4 h5=>zNi W A cap rs f HI 7 (.inl rfl) m c w h1 h2 h3 h4 h5⟩)
 ·exact .inr (.inl ⟨_,_,_,rfl,fun _ _=>rfl,fun m c w h1 h2 h3 h4 h5=>zNi W A cap rs f HI 9 (.inr rfl) m c w h1 h2 h3 h4 h5⟩)
end Go.Proofs.YtadcldfbmkfkaaaGreatDoor.Rn
namespace Go.Proofs
open Go.Shelf
def Tryz.zP7:Go.Shelf.Ren:=⟨fun|103=>152|210=>190|206=>206|n=>n,fun|9=>9|4=>4|24=>133|3=>3|n=>n,fun|n=>n⟩
theorem Tryz.zZx:Go.Proofs.Lays.n103 Tryz.prog Tryz.zP7:={
 mixed:=by kernel_rfl
 f103:=Tryz.func152.trans (congrArg some (by kernel_rfl))
 f206:=Tryz.func206.trans (congrArg some (by kernel_rfl))
 f210:=Tryz.func190.trans (congrArg some (by kernel_rfl))
 t3:=Tryz.underlying3
 a3:=Tryz.isAgg3
 z3:=Tryz.sizeOf3
 v3:=Tryz.zeroValue3
 t4:=Tryz.underlying4
 a4:=Tryz.isAgg4
 z4:=Tryz.sizeOf4
 v4:=Tryz.zeroValue4
 t9:=Tryz.underlying9
 a9:=Tryz.isAgg9
 z9:=Tryz.sizeOf9
 v9:=Tryz.zeroValue9
 t24:=Tryz.underlying133
 a24:=Tryz.isAgg133
 z24:=Tryz.sizeOf133
 v24:=Tryz.zeroValue133}
open Go.RowKit in
theorem Tryz.strings_CutPrefix (s p:ByteArray)(w:World):
  Calls Tryz.prog 152 #[.string s,.string p] w fun e w'=>e= .returned (.tuple #[.string ⟨(Lib.trimPrefix s.data.toList p.data.toList).toArray⟩,.bool (Lib.hasPrefix s.data.toList p.data.toList)])∧w'=w:=Any.strings_CutPrefix Tryz.zZx s p w
def Tryz.zN7:Go.Shelf.Ren:=⟨fun|172=>153|244=>191|245=>192|247=>207|279=>208|280=>209|281=>210|282=>211|287=>215|316=>216|171=>171|205=>217|321=>225|322=>226|243=>200|246=>214|283=>221|284=>222|285=>223|286=>224|129=>229|317=>228|318=>230|319=>231|320=>232|337=>233|338=>234|n=>n,fun|9=>9|3=>3|75=>196|76=>197|4=>4|5=>5|167=>237|37=>238|0=>0|85=>239|2=>2|168=>241|53=>245|175=>246|46=>248|210=>251|127=>260|145=>263|143=>261|21=>21|171=>254|173=>257|212=>268|51=>264|20=>20|213=>269|232=>273|233=>274|80=>275|n=>n,fun|15=>0|16=>1|17=>3|18=>4|19=>5|n=>n⟩
theorem Tryz.zLn:Go.Proofs.LaysC.n172 Tryz.prog Tryz.zN7:={
 mixed:=by kernel_rfl
 f129:=Tryz.func229.trans (congrArg some (by kernel_rfl))
 f171:=Tryz.func171.trans (congrArg some (by kernel_rfl))
 f172:=Tryz.func153.trans (congrArg some (by kernel_rfl))
 f205:=Tryz.func217.trans (congrArg some (by kernel_rfl))
 f243:=Tryz.func200.trans (congrArg some (by kernel_rfl))
 f244:=Tryz.func191.trans (congrArg some (by kernel_rfl))
 f245:=Tryz.func192.trans (congrArg some (by kernel_rfl))
 f246:=Tryz.func214.trans (congrArg some (by kernel_rfl))
 f247:=Tryz.func207.trans (congrArg some (by kernel_rfl))
 f279:=Tryz.func208.trans (congrArg some (by kernel_rfl))
 f280:=Tryz.func209.trans (congrArg some (by kernel_rfl))
 f281:=Tryz.func210.trans (congrArg some (by kernel_rfl))
 f282:=Tryz.func211.trans (congrArg some (by kernel_rfl))
 f283:=Tryz.func221.trans (congrArg some (by kernel_rfl))
 f284:=Tryz.func222.trans (congrArg some (by kernel_rfl))
 f285:=Tryz.func223.trans (congrArg some (by kernel_rfl))
 f286:=Tryz.func224.trans (congrArg some (by kernel_rfl))
 f287:=Tryz.func215.trans (congrArg some (by kernel_rfl))
 f316:=Tryz.func216.trans (congrArg some (by kernel_rfl))
 f317:=Tryz.func228.trans (congrArg some (by kernel_rfl))
 f318:=Tryz.func230.trans (congrArg some (by kernel_rfl))
 f319:=Tryz.func231.trans (congrArg some (by kernel_rfl))
 f320:=Tryz.func232.trans (congrArg some (by kernel_rfl))
 f321:=Tryz.func225.trans (congrArg some (by kernel_rfl))
 f322:=Tryz.func226.trans (congrArg some (by kernel_rfl))
 f337:=Tryz.func233.trans (congrArg some (by kernel_rfl))
 f338:=Tryz.func234.trans (congrArg some (by kernel_rfl))
 t0:=Tryz.underlying0
 a0:=Tryz.isAgg0
 z0:=Tryz.sizeOf0
 v0:=Tryz.zeroValue0
 t2:=Tryz.underlying2
 a2:=Tryz.isAgg2
 z2:=Tryz.sizeOf2
 v2:=Tryz.zeroValue2
 t3:=Tryz.underlying3
 a3:=Tryz.isAgg3
 z3:=Tryz.sizeOf3
 v3:=Tryz.zeroValue3
 t4:=Tryz.underlying4
 a4:=Tryz.isAgg4
 z4:=Tryz.sizeOf4
 v4:=Tryz.zeroValue4
 t5:=Tryz.underlying5
 a5:=Tryz.isAgg5
 z5:=Tryz.sizeOf5
 v5:=Tryz.zeroValue5
 t9:=Tryz.underlying9
 a9:=Tryz.isAgg9
 z9:=Tryz.sizeOf9
 v9:=Tryz.zeroValue9
 t20:=Tryz.underlying20
 a20:=Tryz.isAgg20
 z20:=Tryz.sizeOf20
 v20:=Tryz.zeroValue20
 t21:=Tryz.underlying21
 a21:=Tryz.isAgg21
 z21:=Tryz.sizeOf21
 v21:=Tryz.zeroValue21
 t37:=Tryz.underlying238
 a37:=Tryz.isAgg238
 z37:=Tryz.sizeOf238
 v37:=Tryz.zeroValue238
 t46:=Tryz.underlying248
 a46:=Tryz.isAgg248
 z46:=Tryz.sizeOf248
 v46:=Tryz.zeroValue248
 t51:=Tryz.underlying264
 a51:=Tryz.isAgg264
 z51:=Tryz.sizeOf264
 v51:=Tryz.zeroValue264
 t53:=Tryz.underlying245
 a53:=Tryz.isAgg245
 z53:=Tryz.sizeOf245
 v53:=Tryz.zeroValue245
 t75:=Tryz.underlying196
 a75:=Tryz.isAgg196
 z75:=Tryz.sizeOf196
 v75:=Tryz.zeroValue196
 t76:=Tryz.underlying197
 a76:=Tryz.isAgg197
 z76:=Tryz.sizeOf197
 v76:=Tryz.zeroValue197
 t85:=Tryz.underlying239
 a85:=Tryz.isAgg239
 z85:=Tryz.sizeOf239
 v85:=Tryz.zeroValue239
 t127:=Tryz.underlying260
 a127:=Tryz.isAgg260
 z127:=Tryz.sizeOf260
 v127:=Tryz.zeroValue260
 t143:=Tryz.underlying261
 a143:=Tryz.isAgg261
 z143:=Tryz.sizeOf261
 v143:=Tryz.zeroValue261
 t145:=Tryz.underlying263
 a145:=Tryz.isAgg263
 z145:=Tryz.sizeOf263
 v145:=Tryz.zeroValue263
 t167:=Tryz.underlying237
 a167:=Tryz.isAgg237
 z167:=Tryz.sizeOf237
 v167:=Tryz.zeroValue237
 t168:=Tryz.underlying241
 a168:=Tryz.isAgg241
 z168:=Tryz.sizeOf241
 v168:=Tryz.zeroValue241
 t171:=Tryz.underlying254
 a171:=Tryz.isAgg254
 z171:=Tryz.sizeOf254
 v171:=Tryz.zeroValue254
 t173:=Tryz.underlying257
 a173:=Tryz.isAgg257
 z173:=Tryz.sizeOf257
 v173:=Tryz.zeroValue257
 t175:=Tryz.underlying246
 a175:=Tryz.isAgg246
 z175:=Tryz.sizeOf246
 v175:=Tryz.zeroValue246
 t210:=Tryz.underlying251
 a210:=Tryz.isAgg251
 z210:=Tryz.sizeOf251
 v210:=Tryz.zeroValue251
 t212:=Tryz.underlying268
 a212:=Tryz.isAgg268
 z212:=Tryz.sizeOf268
 v212:=Tryz.zeroValue268
 t213:=Tryz.underlying269
 a213:=Tryz.isAgg269
 z213:=Tryz.sizeOf269
 t232:=Tryz.underlying273
 a232:=Tryz.isAgg273
 z232:=Tryz.sizeOf273
 v232:=Tryz.zeroValue273
 t233:=Tryz.underlying274
 a233:=Tryz.isAgg274
 z233:=Tryz.sizeOf274
 v233:=Tryz.zeroValue274
 g15:=by kernel_rfl
 g16:=by kernel_rfl
 g17:=by kernel_rfl
 g18:=by kernel_rfl
 g19:=by kernel_rfl
 t80:=Tryz.underlying275
 a80:=Tryz.isAgg275
 z80:=Tryz.sizeOf275
 v80:=Tryz.zeroValue275
 i0:=by kernel_rfl
 i2:=by kernel_rfl
 i3:=by kernel_rfl
 i4:=by kernel_rfl
 i5:=by kernel_rfl
 i9:=by kernel_rfl
 i20:=by kernel_rfl
 i21:=by kernel_rfl
 i37:=by kernel_rfl
 i46:=by kernel_rfl
 i51:=by kernel_rfl
 i53:=by kernel_rfl
 i75:=by kernel_rfl
 i76:=by kernel_rfl
 i80:=by kernel_rfl
 i85:=by kernel_rfl
 i127:=by kernel_rfl
 i143:=by kernel_rfl
 i145:=by kernel_rfl
 i167:=by kernel_rfl
 i168:=by kernel_rfl
 i171:=by kernel_rfl
 i173:=by kernel_rfl
 i175:=by kernel_rfl
 i210:=by kernel_rfl
 i212:=by kernel_rfl
 i232:=by kernel_rfl
 i233:=by kernel_rfl
 m15:=by kernel_rfl
 m16:=by kernel_rfl
 m17:=by kernel_rfl
 m18:=by kernel_rfl
 m19:=by kernel_rfl
 c0:=by kernel_rfl
 c2:=by kernel_rfl
 c3:=by kernel_rfl
 c4:=by kernel_rfl
 c5:=by kernel_rfl
 c9:=by kernel_rfl
 c20:=by kernel_rfl
 c21:=by kernel_rfl
 c37:=by kernel_rfl
 c46:=by kernel_rfl
 c51:=by kernel_rfl
 c53:=by kernel_rfl
 c75:=by kernel_rfl
 c76:=by kernel_rfl
 c80:=by kernel_rfl
 c85:=by kernel_rfl
 c127:=by kernel_rfl
 c143:=by kernel_rfl
 c145:=by kernel_rfl
 c167:=by kernel_rfl
 c168:=by kernel_rfl
 c171:=by kernel_rfl
 c173:=by kernel_rfl
 c175:=by kernel_rfl
 c210:=by kernel_rfl
 c212:=by kernel_rfl
 c213:=by kernel_rfl
 c232:=by kernel_rfl
 c233:=by kernel_rfl}
open Go.RowKit in
theorem Tryz.strconv_Atoi_ok (s:ByteArray)(hmax:s.size≤9223372036854775806)(v:Int)(h:Lib.atoiAll s.data.toList= .ok v)(w:World):
  Calls Tryz.prog 153 #[.string s] w fun e w'=>e= .returned (.tuple #[.int .i64 v,.nilIface])∧(w'=w∨∃t,w'=Lib.bytesWorld w 5 t):=Any.strconv_Atoi_ok Tryz.zLn s hmax v h w
open Go.RowKit in
theorem Tryz.strconv_Atoi_range (s:ByteArray)(hlim:s.size≤281474976710656)(h:Lib.atoiAll s.data.toList= .range)(ev:Value)(w:World)(hv:w.cell? ⟨1,0,none⟩=some ev)(hev:ev= .nilIface∨∃te pe,ev= .iface te pe):
  Calls Tryz.prog 153 #[.string s] w fun e w'=>∃N,e= .returned (.tuple #[.int .i64 (Lib.atoiSat s.data.toList),.iface 241 (.pointer (some ⟨N,0,none⟩))])∧w.heap.size≤N∧w'.heap[N]?=some (.cells #[.string ⟨#[65,116,111,105]⟩,.string s,ev] 251 (0,0))∧Below w.heap.size w w':=Any.strconv_Atoi_range Tryz.zLn s hlim h ev w hv hev
end Go.Proofs
namespace Go.Proofs.YtadcldfbmkfkaaaGreatDoor.Rn
open At Ch Sp Sy El Go.RowKit
theorem zMx (w:World)(t:ByteArray):Below w.heap.size w (Lib.bytesWorld w 5 t):=by
 unfold Lib.bytesWorld;exact Lib.below_freeze ((zA2 (Below.refl _ w)).alloc (Nat.le_refl _) _) (p:=⟨w.heap.size,_,none⟩) (Nat.le_refl _) 1
def AtoP (s:List UInt8)(e:Ending):Prop:=match Lib.atoiAll s with
 | .ok v=>e= .returned (.tuple #[.int .i64 v,.nilIface])
 |_=>∃n t p,e= .returned (.tuple #[.int .i64 n,.iface t p])
theorem zYa (s:ByteArray)(w:World)(hs:s.size≤281474976710656)(h1:VarE w 0)(h2:VarE w 1):Calls Tryz.prog 153 #[.string s] w fun e w'=>AtoP s.data.toList e∧Below w.heap.size w w':=by
 unfold AtoP;cases h:Lib.atoiAll s.data.toList with
 |ok v=>
  refine(Tryz.strconv_Atoi_ok s (by omega) v h w).mono ?_;rintro e w' ⟨rfl,hw⟩;refine⟨rfl,?_⟩;rcases hw with rfl|⟨t,rfl⟩
  ·exact Below.refl _ _
  ·exact zMx w t
 |range=>
  obtain⟨_,ev,hv,hev⟩:=h2;refine(Tryz.strconv_Atoi_range s (by omega) h ev w hv hev).mono ?_;rintro e w' ⟨N,rfl,_,_,hb⟩;exact⟨⟨_,_,_,rfl⟩,hb⟩
 |_=>
  obtain⟨_,ev,hv,hev⟩:=h1;refine(Any.strconv_Atoi_syntax Tryz.zLn s (by omega) h ev w hv hev).mono ?_;rintro e w' ⟨N,rfl,_,_,hb⟩;exact⟨⟨_,_,_,rfl⟩,hb⟩
theorem zR1 (s p:List UInt8):Lib.hasPrefix s p=decide (p<+:s):=by
 unfold Lib.hasPrefix;rw[Bool.eq_iff_iff,decide_eq_true_iff];exact List.isPrefixOf_iff_prefix
theorem zTh (s p:ByteArray)(w:World):Calls Tryz.prog 152 #[.string s,.string p] w fun e w'=>(∃(t:ByteArray) (b:Bool),e= .returned (.tuple #[.string t,.bool b])∧b=decide (p.data.toList<+:s.data.toList)∧(b=true→s.data.toList.drop p.data.toList.length=t.data.toList)∧t.size≤s.size)∧w'=w:=by
 refine(Tryz.strings_CutPrefix s p w).mono ?_;rintro e w' ⟨rfl,rfl⟩;refine⟨⟨_,_,rfl,zR1 _ _,fun h=>?_,?_⟩,rfl⟩
 ·unfold Lib.trimPrefix;rw[if_pos h]
 ·unfold Lib.trimPrefix;show(List.toArray _).size≤s.data.size;rw[List.size_toArray,←Array.length_toList]
  split
  ·rw[List.length_drop];omega
  ·exact Nat.le_refl _
theorem zXr (rs:List Rul)(m:Trm):zAk rs m=if m.kind=1 then some [.mk 3 m.nam 0 []] else if m.kind=2 then some [symT m.nam] else if m.kind=3 then some [.mk 4 m.nam 0 []] else zDj rs m.nam m.vr m.form (zA4 rs m.args):=by
 cases m;rw[zAk];rfl
theorem yAz {rs:List Rul}{nam vr frm:ByteArray}{k:FK}(h:frmW frm.data.toList=some k)(o:Option (List (List Tre))):zDj rs nam vr frm o=o.bind fun R=>fixW rs nam vr R k:=by
 unfold zDj;rw[h]
theorem yAv {rs:List Rul}{nam vr frm:ByteArray}(h:frmW frm.data.toList=none)(o:Option (List (List Tre))):zDj rs nam vr frm o=o.bind fun R=>opnW frm.data.toList R:=by
 unfold zDj;rw[h]
set_option maxRecDepth 100000 in
set_option maxHeartbeats 8000000 in
theorem zQx (W:WrB)(A:Option Addr)(cap:Nat)(rs:List Rul)(f:Nat)(HI:zBo W A cap rs f)(hf:f≤10000)(hrn:rs.length≤1000000)(m:Trm)(c:Array Value)(w:World)(hm:szM m≤f)(hW:zCn w W A cap rs)(hM:MAt w m c):
  Calls Tryz.prog 111 #[.pointer (some ⟨W.gw,0,none⟩),.agg c] w (ItmP (zAk rs m) w):=by
 have HQ:=zh (zXr rs m);obtain⟨A2,cap2,rfl,hs1,hs2,hs3,hl,hc,hk⟩:=hM.form;have B1:=zA0 w (.cells (trmC m.kind m.nam m.vr A2 m.args.length cap2 m.form) 31);have K0:=zh (Blk.new w 31 (trmC m.kind m.nam m.vr A2 m.args.length cap2 m.form));have HW1:=zh (hW.keep B1);have HM1:=zh (hM.keep B1);have HB:=zh B1;have HMF:=zh hm;have HS1:=zh hs1;have HFS:=zh (show m.form.size≤300 from by have h:=yAk hm (by omega);cases m;rw[smM] at h;simp only[Bool.and_eq_true] at h;exact of_decide_eq_true h.1.2);clear hW hM hk B1 hm;go_enter Tryz.func111,Tryz.ntmps111;go_upto_region 1 with(fail)
 generalize w.alloc (.cells (trmC m.kind m.nam m.vr A2 m.args.length cap2 m.form) 31)=w1 at*;have k0:=K0.out.cell 0;have k1:=K0.out.cell 1
 by_cases h1:m.kind=1
 ·have q1:(m.kind==1)=true:=beq_iff_eq.2 h1;have HR:=zh (show zAk rs m=some [.mk 3 m.nam 0 []] by rw[HQ.out,if_pos h1]);have hbb:=zA0 w1 (.cells #[.int .i64 3,.string m.nam,.int .i64 0,.slice none 0 0] 25);have HK:=zh (Blk.new w1 25 #[.int .i64 3,.string m.nam,.int .i64 0,.slice none 0 0]);have HB2:=jt HB hbb;clear h1 hbb;go_wp2_with fail
  go_ret2
  rw[HR.out];exact⟨⟨_,1,rfl,Nat.le_refl _,by omega,zD8 (ks:=[]) HK.out HS1.out (Nat.le_refl _) (by omega) (fun i x h=>by simp at h) HB.out.size⟩,HB2.out⟩
 have q1:(m.kind==1)=false:=bn h1
 by_cases h2:m.kind=2
 ·have q2:(m.kind==2)=true:=beq_iff_eq.2 h2;have HR:=zh (show zAk rs m=some [symT m.nam] by rw[HQ.out,if_neg h1,if_pos h2]);have hbb:=zA0 w1 (.cells #[.int .i64 2,.string m.nam,.int .i64 0,.slice none 0 0] 25);have HK:=zh (Blk.new w1 25 #[.int .i64 2,.string m.nam,.int .i64 0,.slice none 0 0]);have HB2:=jt HB hbb;clear h1 h2 hbb;go_wp2_with fail
  go_ret2
  rw[HR.out];exact⟨⟨_,1,rfl,Nat.le_refl _,by omega,zD8 (ks:=[]) HK.out HS1.out (Nat.le_refl _) (by omega) (fun i x h=>by simp at h) HB.out.size⟩,HB2.out⟩
 have q2:(m.kind==2)=false:=bn h2
 by_cases h3:m.kind=3
 ·have q3:(m.kind==3)=true:=beq_iff_eq.2 h3;have HR:=zh (show zAk rs m=some [.mk 4 m.nam 0 []] by rw[HQ.out,if_neg h1,if_neg h2,if_pos h3]);have hbb:=zA0 w1 (.cells #[.int .i64 4,.string m.nam,.int .i64 0,.slice none 0 0] 25);have HK:=zh (Blk.new w1 25 #[.int .i64 4,.string m.nam,.int .i64 0,.slice none 0 0]);have HB2:=jt HB hbb;clear h1 h2 h3 hbb;go_wp2_with fail
  go_ret2
  rw[HR.out];exact⟨⟨_,1,rfl,Nat.le_refl _,by omega,zD8 (ks:=[]) HK.out HS1.out (Nat.le_refl _) (by omega) (fun i x h=>by simp at h) HB.out.size⟩,HB2.out⟩
 have q3:(m.kind==3)=false:=bn h3;have HR:=zh (show zAk rs m=zDj rs m.nam m.vr m.form (zA4 rs m.args) by rw[HQ.out,if_neg h1,if_neg h2,if_neg h3]);clear h1 h2 h3 HQ;go_upto_region 8 with(fail)
 clear k0 k1 q1 q2 q3;refine zBh (by kernel_rfl) (by kernel_rfl) ?_;have C0:=fun e:Ext w1=>(keep e.bel HW1.out.box).cell 1
 have C1:=fun e:Ext w1=>(keep e.bel K0.out).cell 4
 have C2:=fun e:Ext w1=>zV2 (HW1.out.map.keep e.bel) (s:=m.form) hs3
 repeat (go_big_quiet_step (fail))
 refine wpQuiet_nil ?_;intro wq hwq;obtain⟨⟨w9,hb⟩,e9⟩:=hwq;dsimp only at e9;subst e9;have HB2:=jt HB hb;have K02:=kp hb K0;have HW2:=zh (HW1.out.keep hb);have HM2:=zh (HM1.out.keep hb);clear C0 C1 C2 hb HB K0 HW1 HM1;cases hF:frmW m.form.data.toList with
 |some k=>
  have HQ:=zh (show zAk rs m=(zA4 rs m.args).bind fun R=>fixW rs m.nam m.vr R k by rw[HR.out,yAz hF]);rcases zZy W A cap rs f HI hF with⟨fid,g,hv,hrun,hcon⟩|⟨fid,g,h,hv,hrun,hcon⟩|⟨fid,g,hv,hrun,hcon⟩
  ·have HV:fnO W m.form.data.toList= .func (.func fid) #[] #[.pointer (some ⟨g,0,none⟩)]:=by unfold fnO;rw[hF];exact hv
   rw[HV,show(some k).isSome=true from rfl];clear hF hv HV;have q0:=K02.out.cell 0;have q1:=K02.out.cell 1;have q2:=K02.out.cell 2;have q3:=K02.out.cell 3;have q4:=K02.out.cell 4;go_wp2_with fail;refine(hcon m _ wq HMF.out hf hrn HW2.out HM2.out).mono ?_;rintro r w3 hres;clear q0 q1 q2 q3 q4;obtain⟨h1,hb⟩:=hres.up HB2.out;have HB3:=zh hb;cases hO:((zA4 rs m.args).bind fun R=>fixW rs m.nam m.vr R k) with
   |none=>
    rw[hO] at h1;obtain rfl:r= .returned (.tuple #[.slice none 0 0,.bool false]):=h1;have HO:=zh hO;clear hO hres hb;go_wp2_with fail
    go_ret2
    rw[HQ.out,HO.out];exact⟨rfl,HB3.out⟩
   |some l=>
    rw[hO] at h1;obtain⟨A3,c3,rfl,h2,h3,h4⟩:=h1;have HN:=zh h4;have HO:=zh hO;clear hO h4 hres hb;go_wp2_with fail
    go_ret2
    rw[HQ.out,HO.out];exact⟨⟨A3,c3,rfl,h2,h3,HN.out⟩,HB3.out⟩
  ·have HV:fnO W m.form.data.toList= .func (.func fid) #[] #[.pointer (some ⟨g,0,none⟩),.pointer (some ⟨h,0,none⟩)]:=by unfold fnO;rw[hF];exact hv
   rw[HV,show(some k).isSome=true from rfl];clear hF hv HV;have q0:=K02.out.cell 0;have q1:=K02.out.cell 1;have q2:=K02.out.cell 2;have q3:=K02.out.cell 3;have q4:=K02.out.cell 4;go_wp2_with fail;refine(hcon m _ wq HMF.out hf hrn HW2.out HM2.out).mono ?_;rintro r w3 hres;clear q0 q1 q2 q3 q4;obtain⟨h1,hb⟩:=hres.up HB2.out;have HB3:=zh hb;cases hO:((zA4 rs m.args).bind fun R=>fixW rs m.nam m.vr R k) with
   |none=>
    rw[hO] at h1;obtain rfl:r= .returned (.tuple #[.slice none 0 0,.bool false]):=h1;have HO:=zh hO;clear hO hres hb;go_wp2_with fail
    go_ret2
    rw[HQ.out,HO.out];exact⟨rfl,HB3.out⟩
   |some l=>
    rw[hO] at h1;obtain⟨A3,c3,rfl,h2,h3,h4⟩:=h1;have HN:=zh h4;have HO:=zh hO;clear hO h4 hres hb;go_wp2_with fail
    go_ret2
    rw[HQ.out,HO.out];exact⟨⟨A3,c3,rfl,h2,h3,HN.out⟩,HB3.out⟩
  ·have HV:fnO W m.form.data.toList= .func (.func fid) #[.pointer (some ⟨g,0,none⟩)] #[]:=by unfold fnO;rw[hF];exact hv
   rw[HV,show(some k).isSome=true from rfl];clear hF hv HV;have q0:=K02.out.cell 0;have q1:=K02.out.cell 1;have q2:=K02.out.cell 2;have q3:=K02.out.cell 3;have q4:=K02.out.cell 4;go_wp2_with fail;refine(hcon m _ wq HMF.out hf hrn HW2.out HM2.out).mono ?_;rintro r w3 hres;clear q0 q1 q2 q3 q4;obtain⟨h1,hb⟩:=hres.up HB2.out;have HB3:=zh hb;cases hO:((zA4 rs m.args).bind fun R=>fixW rs m.nam m.vr R k) with
   |none=>
    rw[hO] at h1;obtain rfl:r= .returned (.tuple #[.slice none 0 0,.bool false]):=h1;have HO:=zh hO;clear hO hres hb;go_wp2_with fail
    go_ret2
    rw[HQ.out,HO.out];exact⟨rfl,HB3.out⟩
   |some l=>
    rw[hO] at h1;obtain⟨A3,c3,rfl,h2,h3,h4⟩:=h1;have HN:=zh h4;have HO:=zh hO;clear hO h4 hres hb;go_wp2_with fail
    go_ret2
    rw[HQ.out,HO.out];exact⟨⟨A3,c3,rfl,h2,h3,HN.out⟩,HB3.out⟩
 |none=>
  have HQ:=zh (show zAk rs m=(zA4 rs m.args).bind fun R=>opnW m.form.data.toList R by rw[HR.out,yAv hF]);have HV:fnO W m.form.data.toList= .nilFunc:=by unfold fnO;rw[hF]
  rw[HV,show(none:Option FK).isSome=false from rfl];clear hF HV HR;have q0:=K02.out.cell 0;have q1:=K02.out.cell 1;have q2:=K02.out.cell 2;have q3:=K02.out.cell 3;have q4:=K02.out.cell 4;go_wp2_with fail;refine(zTh m.form ⟨#[102,101,110,99,101]⟩ wq).mono ?_;rintro r w3 ⟨⟨t,b,rfl,hb1,hb2,hts⟩,rfl⟩;have HTS:=zh hts;cases b with
  |true=>
   have HQ2:=zh (show zAk rs m=(zA4 rs m.args).bind fun R=>zBr 11 t R 1 by
    rw[HQ.out]
    congr 1
    funext R
    unfold opnW;rw[if_pos (show fenS.data.toList<+:m.form.data.toList from of_decide_eq_true hb1.symm),show m.form.data.toList.drop 5=t.data.toList from hb2 rfl])
   clear hb1 hb2 hts;go_wp2_with fail;refine(zDm W A cap rs f HI 11 t 1 m _ w3 HMF.out (by omega) HW2.out HM2.out).mono ?_;rintro r w4 hres;have hres:=hres.itm (by have:=HTS.out;omega);clear q0 q1 q2 q3 q4;obtain⟨h1,hb⟩:=hres.up HB2.out;have HB3:=zh hb;cases hO:((zA4 rs m.args).bind fun R=>zBr 11 t R 1) with
   |none=>
    rw[hO] at h1;obtain rfl:r= .returned (.tuple #[.slice none 0 0,.bool false]):=h1;have HO:=zh hO;clear hO hres hb;go_wp2_with fail
    go_ret2
    rw[HQ2.out,HO.out];exact⟨rfl,HB3.out⟩
   |some l=>
    rw[hO] at h1;obtain⟨A3,c3,rfl,h2,h3,h4⟩:=h1;have HN:=zh h4;have HO:=zh hO;clear hO h4 hres hb;go_wp2_with fail
    go_ret2
    rw[HQ2.out,HO.out];exact⟨⟨A3,c3,rfl,h2,h3,HN.out⟩,HB3.out⟩
  |false=>
   have HNF:=zh (show ¬fenS.data.toList<+:m.form.data.toList from of_decide_eq_false hb1.symm);clear hb1 hb2 hts HTS;go_wp2_with fail;refine(zTh m.form ⟨#[109,97,116,114,105,120]⟩ w3).mono ?_;rintro r w4 ⟨⟨t2,b,rfl,hb1,hb2,hts⟩,rfl⟩;have HTS:=zh hts;cases b with
   |false=>
    have HQ2:=zh (show zAk rs m=none by
     rw[HQ.out];cases zA4 rs m.args with
     |none=>rfl
     |some R=>
      show opnW m.form.data.toList R=none;unfold opnW;rw[if_neg HNF.out,if_neg (show ¬matS.data.toList<+:m.form.data.toList from of_decide_eq_false hb1.symm)])
    clear hb1 hb2 hts;go_wp2_with fail
    go_ret2
    rw[HQ2.out];exact⟨rfl,HB2.out⟩
   |true=>
    have HQ2:=zh (show zAk rs m=(zA4 rs m.args).bind fun R=>(match Lib.atoiAll t2.data.toList with
     | .ok c=>some [.mk 12 ⟨#[]⟩ c (R.map rowT)]
     |_=>none) by
     rw[HQ.out]
     congr 1
     funext R
     unfold opnW;rw[if_neg HNF.out,if_pos (show matS.data.toList<+:m.form.data.toList from of_decide_eq_true hb1.symm),show m.form.data.toList.drop 6=t2.data.toList from hb2 rfl];cases Lib.atoiAll t2.data.toList<;>rfl)
    clear hb1 hb2 hts HQ HNF;go_wp2_with fail;refine(zYa t2 w4 (by have:=HTS.out;have:=HFS.out;omega) HW2.out.syn HW2.out.rng).mono ?_;rintro r w5 ⟨hat,hb⟩;have HB3:=jt HB2 hb;have K03:=kp hb K02;have HW3:=zh (HW2.out.keep hb);have HM3:=zh (HM2.out.keep hb);clear hb HB2 K02 HW2 HM2 q0 q1 q2 q3 q4;have q0:=K03.out.cell 0;have q1:=K03.out.cell 1;have q2:=K03.out.cell 2;have q3:=K03.out.cell 3;have q4:=K03.out.cell 4;unfold AtoP at hat;cases hA:Lib.atoiAll t2.data.toList with
    |ok v=>
     rw[hA] at hat;obtain rfl:r= .returned (.tuple #[.int .i64 v,.nilIface]):=hat;have HQ3:=zh (show zAk rs m=(zA4 rs m.args).bind fun R=>some [.mk 12 ⟨#[]⟩ v (R.map rowT)] by rw[HQ2.out,hA]);clear hA;go_wp2_with fail;refine(zDm W A cap rs f HI 12 ⟨#[]⟩ m.args.length m _ w5 HMF.out (by omega) HW3.out HM3.out).mono ?_;rintro r w6 ⟨hres,hb⟩;have HB4:=jt HB3 hb;have HSZ:=zh HB3.out.size;clear hb q0 q1 q2 q3 q4;rcases hres with⟨R,g,A9,c9,hR,hn,rfl,hk,hk1,hk2,hnd,hg⟩|⟨hno,rfl⟩
     ·have HQ4:=zh (show zAk rs m=some [.mk 12 ⟨#[]⟩ v (R.map rowT)] by rw[HQ3.out,hR];rfl);have HK:=zh hk;have HND:=zh hnd;have HG:=zh (show w.heap.size≤g from Nat.le_trans HSZ.out hg);have HN:=zh hn;have k2:=HK.out.cell 2;have f2:=HK.out.frozen 2;have hgr:w6.grownBy (w6.setCell ⟨g,2,none⟩ (.int .i64 v)) (some g):=zA9 w6 ⟨g,2,none⟩ _;have HKZ:=zh (show Blk (w6.setCell ⟨g,2,none⟩ (.int .i64 v)) g 25 #[.int .i64 12,.string ⟨#[]⟩,.int .i64 v,.slice A9 m.args.length c9] from HK.out.set_ 2 (.int .i64 v));have HNZ:=zh ((HND.out.off hgr fun b hb e=>hb.2 (sj e)).any (ok':=fun b=>w.heap.size≤b) fun b _ hb=>Nat.le_trans HSZ.out hb.1);have HBZ:=zh (HB4.out.grown hgr HB4.out.size fun r e=>by have h9:g=r:=sj e;have:=HG.out;omega);clear hR hn hk hnd hg hgr;go_wp2_with fail
      go_ret2
      rw[HQ4.out];exact⟨⟨_,1,rfl,Nat.le_refl _,by omega,zD8 (ks:=R.map rowT) (by rw[List.length_map,HN.out];exact HKZ.out) (by decide) (by rw[List.length_map,HN.out];exact hk1) hk2 HNZ.out HG.out⟩,HBZ.out⟩
     ·have HQ4:=zh (show zAk rs m=none by
       rw[HQ3.out];cases hR:zA4 rs m.args with
       |none=>rfl
       |some R=>
        rw[hR] at hno;have h9:zBr 12 ⟨#[]⟩ R m.args.length=none:=hno;unfold zBr at h9;rw[if_pos (zM4 rs _ R hR)] at h9;cases h9)
      clear hno;go_wp2_with fail
      go_ret2
      rw[HQ4.out];exact⟨rfl,HB4.out⟩
    |_=>
     rw[hA] at hat;obtain⟨n9,t9,p9,rfl⟩:∃n t p,r= .returned (.tuple #[.int .i64 n,.iface t p]):=hat;have HQ3:=zh (show zAk rs m=none by
      rw[HQ2.out,hA];cases zA4 rs m.args<;>rfl)
     clear hA;go_wp2_with fail
     go_ret2
     rw[HQ3.out];exact⟨rfl,HB3.out⟩
end Go.Proofs.YtadcldfbmkfkaaaGreatDoor.Rn
