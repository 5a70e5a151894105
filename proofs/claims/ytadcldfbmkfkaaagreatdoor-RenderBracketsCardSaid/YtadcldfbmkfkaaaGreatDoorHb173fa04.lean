/- newWriter: the map of the functions for all forms that are fixed. -/
import Derived.Test.YtadcldfbmkfkaaaGreatDoorH39d8e6ff
namespace Go.Proofs.YtadcldfbmkfkaaaGreatDoor.Rn
open At Ch Sp Sy El Go.RowKit
theorem zBa (w:World){ops:Array Oper}{rest:List Oper}{o:Oper}{a:Act}{Q:Exit→Act→World→Prop}(hg:o.guard=none)(m x v:Operand)(hop:o.op=Op.insert 145 m x v)(bm:Nat)(L:List (List UInt8×Value))(hm:a.eval m= .map (some bm))(hF:MapF w bm L)(s:ByteArray)(u:Value)(hx:a.eval x= .string s)(hv:a.eval v=u)(hs:s.size≤1000)(hu:fnOk u=true)(hne:s.data.toList∉L.map (·.1))(hL:L.length≤1000)
  (hK:∀w',MapF w' bm (L++[(s.data.toList,u)])→w.grownBy w' (some bm)→wpList Tryz.prog ops Q rest (a.put o.dst undef) w'):wpList Tryz.prog ops Q (o::rest) a w:=by
 obtain⟨n,D,h1,h2,h3,h4⟩:=hF;refine zEd w hg m x v 145 hop 9 150 law9 Tryz.underlying145 fnE bm n D hm h2 (by unfold maxLen;omega) _ u (.string s.data.toList) hx hv (zSh s (by omega)) (fnD u) [] (by unfold fnE;rw[if_pos hu]) fun w' q1 q2=>hK w' ⟨n+1,_,by rw[List.length_append];simpa using h1,q1,h3.put _ _,h4.put h3 _ _ hne⟩ q2
theorem zCs (w:World){ops:Array Oper}{rest:List Oper}{o:Oper}{a:Act}{Q:Exit→Act→World→Prop}(hg:o.guard=none)(m x v:Operand)(hop:o.op=Op.mapUpdate 145 m x v)(bm:Nat)(L:List (List UInt8×Value))(hm:a.eval m= .map (some bm))(hF:MapF w bm L)(s:ByteArray)(u:Value)(hx:a.eval x= .string s)(hv:a.eval v=u)(hs:s.size≤1000)(hu:fnOk u=true)(hne:s.data.toList∉L.map (·.1))(hL:L.length≤1000)
  (hK:∀w',MapF w' bm (L++[(s.data.toList,u)])→w.grownBy w' (some bm)→wpList Tryz.prog ops Q rest (a.put o.dst undef) w'):wpList Tryz.prog ops Q (o::rest) a w:=by
 obtain⟨n,D,h1,h2,h3,h4⟩:=hF;refine wpList_mapUpdate_own w hg m x v 145 hop 9 150 law9 Tryz.underlying145 fnE bm n D hm h2 (by unfold maxLen;omega) _ u (.string s.data.toList) hx hv (zSh s (by omega)) (fnD u) [] (by unfold fnE;rw[if_pos hu]) fun w' q1 q2=>hK w' ⟨n+1,_,by rw[List.length_append];simpa using h1,q1,h3.put _ _,h4.put h3 _ _ hne⟩ q2
structure WrS (w0:World)(A:Option Addr)(n cap:Nat)(W:WrB)(L:List (List UInt8×Value))(k l:Nat)(x:World):Prop where
 bel:Below w0.heap.size w0 x
 lo:w0.heap.size≤W.gw∧w0.heap.size≤W.gb∧w0.heap.size≤W.bm
 box:Blk x W.gw 147 #[.slice A n cap,.map (some W.bm)]
 var:Blk x W.gb 89 #[.pointer (some ⟨W.gw,0,none⟩)]
 ends:∀j,j<k→Blk x (W.ge j) 9 #[.string (endW j)]
 bnds:∀j,j<l→Blk x (W.gf j) 9 #[.string (endV j)]
 map:MapF x W.bm L
theorem WrS.keep {w0 x x':World}{A:Option Addr}{n cap:Nat}{W:WrB}{L:List (List UInt8×Value)}{k l:Nat}(h:WrS w0 A n cap W L k l x)(hb:Below x.heap.size x x'):WrS w0 A n cap W L k l x':=
 ⟨h.bel.trans (hb.mono h.bel.size),h.lo,jL hb h.box,jL hb h.var,fun j hj=>jL hb (h.ends j hj),fun j hj=>jL hb (h.bnds j hj),h.map.keep hb⟩
theorem WrS.upd {w0 x x':World}{A:Option Addr}{n cap:Nat}{W:WrB}{L L2:List (List UInt8×Value)}{k l:Nat}(h:WrS w0 A n cap W L k l x)(hm:MapF x' W.bm L2)(hg:x.grownBy x' (some W.bm)):WrS w0 A n cap W L2 k l x':=by
 have stay:∀{g t cs},Blk x g t cs→Blk x' g t cs:=fun hb=>hb.grown hg fun e=>by
  obtain rfl:=sj e;exact h.map.zH2 hb
 exact⟨h.bel.grown hg h.bel.size fun r e=>by have:=sj e;have:=h.lo.2.2;omega,h.lo,stay h.box,stay h.var,fun j hj=>stay (h.ends j hj),fun j hj=>stay (h.bnds j hj),hm⟩
theorem WrS.box1 {w0 x:World}{A:Option Addr}{n cap:Nat}{W:WrB}{L:List (List UInt8×Value)}{k l:Nat}(h:WrS w0 A n cap W L k l x):WrS w0 A n cap {W with ge:=fun j=>if j=k then x.heap.size else W.ge j} L (k+1) l (x.alloc (.cells #[.string (endW k)] 9)):=by
 have h2:=h.keep (zA0 x (.cells #[.string (endW k)] 9));refine⟨h2.bel,h2.lo,h2.box,h2.var,fun j hj=>?_,h2.bnds,h2.map⟩;show Blk _ (if j=k then x.heap.size else W.ge j) _ _
 by_cases e:j=k
 ·subst e;rw[if_pos rfl];exact Blk.new x 9 _
 ·rw[if_neg e];exact h2.ends j (by omega)
theorem WrS.box2 {w0 x:World}{A:Option Addr}{n cap:Nat}{W:WrB}{L:List (List UInt8×Value)}{k l:Nat}(h:WrS w0 A n cap W L k l x):WrS w0 A n cap {W with gf:=fun j=>if j=l then x.heap.size else W.gf j} L k (l+1) (x.alloc (.cells #[.string (endV l)] 9)):=by
 have h2:=h.keep (zA0 x (.cells #[.string (endV l)] 9));refine⟨h2.bel,h2.lo,h2.box,h2.var,h2.ends,fun j hj=>?_,h2.map⟩;show Blk _ (if j=l then x.heap.size else W.gf j) _ _
 by_cases e:j=l
 ·subst e;rw[if_pos rfl];exact Blk.new x 9 _
 ·rw[if_neg e];exact h2.bnds j (by omega)
def LL (W:WrB)(k l:Nat):List (List UInt8×Value):=fix7 W++opsL W.gb W.ge k++bndL W.gb W.gf l
def KL (k l:Nat):List (List UInt8):=[zCy.data.toList,zC8.data.toList,subS.data.toList,supS.data.toList,zCg.data.toList,accS.data.toList,juxS.data.toList]++((List.range k).flatMap fun j=>[(infS++endW j).data.toList,(preS++endW j).data.toList,(posS++endW j).data.toList])++((List.range l).flatMap fun j=>[(zE8++endV j).data.toList])
theorem zJd (W:WrB)(k l:Nat):(LL W k l).map (·.1)=KL k l:=by
 unfold LL KL opsL bndL;rw[List.map_append,List.map_append,List.map_flatMap,List.map_flatMap];rfl
theorem yA9:∀k,k<4→(infS++endW k).data.toList∉KL k 0∧(preS++endW k).data.toList∉KL k 0++[(infS++endW k).data.toList]∧(posS++endW k).data.toList∉KL k 0++[(infS++endW k).data.toList,(preS++endW k).data.toList]:=by decide+kernel
theorem zW1:∀k,k<2→(zE8++endV k).data.toList∉KL 4 k:=by decide+kernel
theorem zZ4 (W:WrB)(k:Nat):LL W (k+1) 0=LL W k 0++ops3 W.gb W.ge k:=by
 unfold LL;rw[zT6,show bndL W.gb W.gf 0=[] from rfl,List.append_nil,List.append_nil,List.append_assoc]
theorem zWj (W:WrB)(k l:Nat):LL W k (l+1)=LL W k l++bnd1 W.gb W.gf l:=by
 unfold LL;rw[zUx,List.append_assoc,List.append_assoc,List.append_assoc]
theorem zQ5 (W:WrB)(k l:Nat)(hk:k≤4)(hl:l≤2):(LL W k l).length≤100:=by
 have h:(LL W k l).length=(KL k l).length:=by rw[←zJd W,List.length_map]
 rw[h];have h2:∀k,k<5→∀l,l<3→(KL k l).length≤100:=by decide+kernel
 exact h2 k (by omega) l (by omega)
theorem zW7 {x:World}{g:Nat}(h:Blk x g 9 #[.string ⟨#[]⟩,.string ⟨#[115,117,98]⟩,.string ⟨#[115,117,112]⟩,.string ⟨#[98,111,116,104]⟩]){k:Nat}(hk:k<4):x.cell? ⟨g,k,none⟩=some (.string (endW k)):=by
 rw[h.cell]
 match k,hk with
 |0,_|1,_|2,_|3,_=>rfl
theorem zUl {x:World}{g:Nat}(h:Blk x g 9 #[.string ⟨#[115,117,98]⟩,.string ⟨#[98,111,116,104]⟩]){k:Nat}(hk:k<2):x.cell? ⟨g,k,none⟩=some (.string (endV k)):=by
 rw[h.cell]
 match k,hk with
 |0,_|1,_=>rfl
theorem zFp (k:Nat):(endW k).size≤100∧(endV k).size≤100:=by
 refine⟨?_,?_⟩
 ·match k with
  |0|1|2|k+3=>exact of_decide_eq_true rfl
 ·match k with
  |0|k+1=>exact of_decide_eq_true rfl
set_option maxRecDepth 100000 in
set_option maxHeartbeats 8000000 in
theorem zMd (A:Option Addr)(cap:Nat)(rs:List Rul)(w:World)(hR:zAi w A rs)(hsy:VarE w 0)(hrg:VarE w 1):
  Calls Tryz.prog 56 #[.slice A rs.length cap] w fun e w'=>(∃W,e= .returned (.pointer (some ⟨W.gw,0,none⟩))∧zCn w' W A cap rs)∧Below w.heap.size w w':=by
 have HR:=zh hR;have HSY:=zh hsy;have HRG:=zh hrg;have b1:=zA0 w (.cells #[.slice A rs.length cap,.map none] 147);have s1:(w.alloc (.cells #[.slice A rs.length cap,.map none] 147)).heap.size=w.heap.size+1:=by simp
 have b2:=zA0 (w.alloc (.cells #[.slice A rs.length cap,.map none] 147)) (.cells #[.pointer (some ⟨w.heap.size,0,none⟩)] 89);have HB:=zh (b1.trans (b2.mono b1.size));have KW:=zh (keep b2 (Blk.new w 147 #[.slice A rs.length cap,.map none]));have KV:=zh (Blk.new (w.alloc (.cells #[.slice A rs.length cap,.map none] 147)) 89 #[.pointer (some ⟨w.heap.size,0,none⟩)]);rw[s1] at KV;have HS1:=zh (show((w.alloc (.cells #[.slice A rs.length cap,.map none] 147)).alloc (.cells #[.pointer (some ⟨w.heap.size,0,none⟩)] 89)).heap.size=w.heap.size+2 by simp);clear hR hsy hrg b1 b2 s1;go_enter Tryz.func56,Tryz.ntmps56;go_upto_region 2 with(fail)
 generalize (w.alloc (.cells #[.slice A rs.length cap,.map none] 147)).alloc (.cells #[.pointer (some ⟨w.heap.size,0,none⟩)] 89)=w1 at*;have v0:=KV.out.cell 0;have hmm:= @run_makeMap Tryz.prog;have HM:=MapF.made w1;have hbm:=zA0 w1 (.map #[] 0);have HB1:=jt HB hbm;have KW1:=kp hbm KW;have KV1:=kp hbm KV;have HLO:=zh HB.out.size;clear hbm HB KW KV;go_wp2_with (refine zBa _ rfl _ _ _ rfl w1.heap.size [] rfl HM zCy (fn1 95 (w.heap.size+1)) rfl rfl (by decide) rfl (by show zCy.data.toList∉([]:List (List UInt8));decide+kernel) (by simp) ?_)
 intro wm1 HM1 hg;have KW2:=zh (KW1.out.grown hg fun e=>by have h9:w.heap.size=w1.heap.size:=sj e;have:=HS1.out;omega);have KV2:=zh (KV1.out.grown hg fun e=>by have h9:w.heap.size+1=w1.heap.size:=sj e;have:=HS1.out;omega);have HB2:=zh (HB1.out.grown hg HB1.out.size fun r e=>by have h9:w1.heap.size=r:=sj e;have:=HLO.out;omega);clear hg KW1 KV1 HB1;clear HM hmm v0;have v0:=KV2.out.cell 0;go_wp2_with (refine zBa _ rfl _ _ _ rfl w1.heap.size [(zCy.data.toList,fn1 95 (w.heap.size+1))] rfl HM1 zC8 (fn3 97 w.heap.size) rfl rfl (by decide) rfl (by show zC8.data.toList∉[zCy.data.toList];decide+kernel) (by simp) ?_)
 intro wm2 HM2 hg;have KW3:=zh (KW2.out.grown hg fun e=>by have h9:w.heap.size=w1.heap.size:=sj e;have:=HS1.out;omega);have KV3:=zh (KV2.out.grown hg fun e=>by have h9:w.heap.size+1=w1.heap.size:=sj e;have:=HS1.out;omega);have HB3:=zh (HB2.out.grown hg HB2.out.size fun r e=>by have h9:w1.heap.size=r:=sj e;have:=HLO.out;omega);clear hg KW2 KV2 HB2;clear HM1 v0;have v0:=KV3.out.cell 0;go_wp2_with (refine zBa _ rfl _ _ _ rfl w1.heap.size [(zCy.data.toList,fn1 95 (w.heap.size+1)),(zC8.data.toList,fn3 97 w.heap.size)] rfl HM2 subS (fn1 98 (w.heap.size+1)) rfl rfl (by decide) rfl (by show subS.data.toList∉[zCy.data.toList,zC8.data.toList];decide+kernel) (by simp) ?_)
 intro wm3 HM3 hg;have KW4:=zh (KW3.out.grown hg fun e=>by have h9:w.heap.size=w1.heap.size:=sj e;have:=HS1.out;omega);have KV4:=zh (KV3.out.grown hg fun e=>by have h9:w.heap.size+1=w1.heap.size:=sj e;have:=HS1.out;omega);have HB4:=zh (HB3.out.grown hg HB3.out.size fun r e=>by have h9:w1.heap.size=r:=sj e;have:=HLO.out;omega);clear hg KW3 KV3 HB3;clear HM2 v0;have v0:=KV4.out.cell 0;go_wp2_with (refine zBa _ rfl _ _ _ rfl w1.heap.size [(zCy.data.toList,fn1 95 (w.heap.size+1)),(zC8.data.toList,fn3 97 w.heap.size),(subS.data.toList,fn1 98 (w.heap.size+1))] rfl HM3 supS (fn1 99 (w.heap.size+1)) rfl rfl (by decide) rfl (by show supS.data.toList∉[zCy.data.toList,zC8.data.toList,subS.data.toList];decide+kernel) (by simp) ?_)
 intro wm4 HM4 hg;have KW5:=zh (KW4.out.grown hg fun e=>by have h9:w.heap.size=w1.heap.size:=sj e;have:=HS1.out;omega);have KV5:=zh (KV4.out.grown hg fun e=>by have h9:w.heap.size+1=w1.heap.size:=sj e;have:=HS1.out;omega);have HB5:=zh (HB4.out.grown hg HB4.out.size fun r e=>by have h9:w1.heap.size=r:=sj e;have:=HLO.out;omega);clear hg KW4 KV4 HB4;clear HM3 v0;have v0:=KV5.out.cell 0;go_wp2_with (refine zBa _ rfl _ _ _ rfl w1.heap.size [(zCy.data.toList,fn1 95 (w.heap.size+1)),(zC8.data.toList,fn3 97 w.heap.size),(subS.data.toList,fn1 98 (w.heap.size+1)),(supS.data.toList,fn1 99 (w.heap.size+1))] rfl HM4 zCg (fn1 100 (w.heap.size+1)) rfl rfl (by decide) rfl (by show zCg.data.toList∉[zCy.data.toList,zC8.data.toList,subS.data.toList,supS.data.toList];decide+kernel) (by simp) ?_)
 intro wm5 HM5 hg;have KW6:=zh (KW5.out.grown hg fun e=>by have h9:w.heap.size=w1.heap.size:=sj e;have:=HS1.out;omega);have KV6:=zh (KV5.out.grown hg fun e=>by have h9:w.heap.size+1=w1.heap.size:=sj e;have:=HS1.out;omega);have HB6:=zh (HB5.out.grown hg HB5.out.size fun r e=>by have h9:w1.heap.size=r:=sj e;have:=HLO.out;omega);clear hg KW5 KV5 HB5;clear HM4 v0;have v0:=KV6.out.cell 0;go_wp2_with (refine zBa _ rfl _ _ _ rfl w1.heap.size [(zCy.data.toList,fn1 95 (w.heap.size+1)),(zC8.data.toList,fn3 97 w.heap.size),(subS.data.toList,fn1 98 (w.heap.size+1)),(supS.data.toList,fn1 99 (w.heap.size+1)),(zCg.data.toList,fn1 100 (w.heap.size+1))] rfl HM5 accS (fn1 101 (w.heap.size+1)) rfl rfl (by decide) rfl (by show accS.data.toList∉[zCy.data.toList,zC8.data.toList,subS.data.toList,supS.data.toList,zCg.data.toList];decide+kernel) (by simp) ?_)
 intro wm6 HM6 hg;have KW7:=zh (KW6.out.grown hg fun e=>by have h9:w.heap.size=w1.heap.size:=sj e;have:=HS1.out;omega);have KV7:=zh (KV6.out.grown hg fun e=>by have h9:w.heap.size+1=w1.heap.size:=sj e;have:=HS1.out;omega);have HB7:=zh (HB6.out.grown hg HB6.out.size fun r e=>by have h9:w1.heap.size=r:=sj e;have:=HLO.out;omega);clear hg KW6 KV6 HB6;clear HM5 v0;have v0:=KV7.out.cell 0;go_wp2_with (refine zBa _ rfl _ _ _ rfl w1.heap.size [(zCy.data.toList,fn1 95 (w.heap.size+1)),(zC8.data.toList,fn3 97 w.heap.size),(subS.data.toList,fn1 98 (w.heap.size+1)),(supS.data.toList,fn1 99 (w.heap.size+1)),(zCg.data.toList,fn1 100 (w.heap.size+1)),(accS.data.toList,fn1 101 (w.heap.size+1))] rfl HM6 juxS (fn3 102 w.heap.size) rfl rfl (by decide) rfl (by show juxS.data.toList∉[zCy.data.toList,zC8.data.toList,subS.data.toList,supS.data.toList,zCg.data.toList,accS.data.toList];decide+kernel) (by simp) ?_)
 intro wm7 HM7 hg;have KW8:=zh (KW7.out.grown hg fun e=>by have h9:w.heap.size=w1.heap.size:=sj e;have:=HS1.out;omega);have KV8:=zh (KV7.out.grown hg fun e=>by have h9:w.heap.size+1=w1.heap.size:=sj e;have:=HS1.out;omega);have HB8:=zh (HB7.out.grown hg HB7.out.size fun r e=>by have h9:w1.heap.size=r:=sj e;have:=HLO.out;omega);clear hg KW7 KV7 HB7;clear HM6 v0;have v0:=KV8.out.cell 0;have c1:=KW8.out.cell 1;have f1:=KW8.out.frozen 1;go_upto_region 3 with(fail)
 have hg:wm7.grownBy (wm7.setCell ⟨w.heap.size,1,none⟩ (.map (some w1.heap.size))) (some w.heap.size):=zA9 wm7 ⟨w.heap.size,1,none⟩ _;obtain⟨W0,hW0⟩:∃W:WrB,W=⟨w.heap.size,w1.heap.size,w.heap.size+1,fun _=>0,fun _=>0⟩:=⟨_,rfl⟩
 have S0:Hid (WrS w A rs.length cap W0 (LL W0 0 0) 0 0 (wm7.setCell ⟨w.heap.size,1,none⟩ (.map (some w1.heap.size)))):=by
  subst hW0;exact zh ⟨HB8.out.grown hg HB8.out.size fun r e=>by have h9:w.heap.size=r:=sj e;omega,⟨Nat.le_refl _,Nat.le_succ _,HLO.out⟩,KW8.out.set_ 1 _,KV8.out.grown hg (fun e=>by have h9:w.heap.size+1=w.heap.size:=sj e;omega),(fun j hj=>by omega),(fun j hj=>by omega),HM7.kept hg (fun e=>by have h9:w1.heap.size=w.heap.size:=sj e;have:=HS1.out;omega)⟩
 have E1:=zh (show W0.gw=w.heap.size by rw[hW0]);have E2:=zh (show W0.gb=w.heap.size+1 by rw[hW0]);clear hg c1 f1 KW8 KV8 HB8 HM7 v0 HS1 hW0;generalize wm7.setCell ⟨w.heap.size,1,none⟩ (.map (some w1.heap.size))=wa at*;rw[←E2.out,←E1.out];have hba:=zA0 wa (.cells #[.string ⟨#[]⟩,.string ⟨#[115,117,98]⟩,.string ⟨#[115,117,112]⟩,.string ⟨#[98,111,116,104]⟩] 9);have S1:=zh (S0.out.keep hba);have G1:=zh (Blk.new wa 9 #[.string ⟨#[]⟩,.string ⟨#[115,117,98]⟩,.string ⟨#[115,117,112]⟩,.string ⟨#[98,111,116,104]⟩]);clear hba S0;go_wp2_with fail;generalize wa.alloc (.cells #[.string ⟨#[]⟩,.string ⟨#[115,117,98]⟩,.string ⟨#[115,117,112]⟩,.string ⟨#[98,111,116,104]⟩] 9)=wb at*;generalize wa.heap.size=gs at*
 go_loopw [27] (fun i wr=>∃(k:Nat) (W:WrB),k≤4∧i= .int .i64 k∧Hid (W.gw=W0.gw∧W.gb=W0.gb)∧Hid (WrS w A rs.length cap W (LL W k 0) k 0 wr)∧Hid (Blk wr gs 9 #[.string ⟨#[]⟩,.string ⟨#[115,117,98]⟩,.string ⟨#[115,117,112]⟩,.string ⟨#[98,111,116,104]⟩])) (fun i _=>4 -(intOf i).toNat)
 case atStart=>exact⟨0,W0,by omega,rfl,zh ⟨rfl,rfl⟩,S1,G1⟩
 case round=>
  clear S1 G1;obtain⟨k,W1,hk,rfl,HE,S1,G1⟩:=hrel
  by_cases hlt:k<4
  ·have ce:=zW7 G1.out hlt;have hlt2:(k:Int)<4:=by omega
   have S2:=zh (S1.out.box1);have G2:=zh (keep (zA0 wr (.cells #[.string (endW k)] 9)) G1.out);obtain⟨W2,hW2⟩:∃W2:WrB,W2={W1 with ge:=fun j=>if j=k then wr.heap.size else W1.ge j}:=⟨_,rfl⟩
   rw[←hW2,show LL W1 k 0=LL W2 k 0 by rw[hW2];unfold LL;rw[show opsL W1.gb W1.ge k=opsL W1.gb (fun j=>if j=k then wr.heap.size else W1.ge j) k from(zWe _ _ _ _).symm];rfl] at S2;have HE2:=zh (show W2.gw=W0.gw∧W2.gb=W0.gb by rw[hW2];exact HE.out);have EG:=zh (show W2.ge k=wr.heap.size by rw[hW2];exact if_pos rfl);clear S1 G1 hW2 HE;go_upto_region 6 with(fail)
   rw[←HE2.out.1,←HE2.out.2,←EG.out];clear ce;generalize wr.alloc (.cells #[.string (endW k)] 9)=we at*;have hkn:=yA9 k hlt;have hes:=(zFp k).1;have a5:¬(9223372036854775807<5+(endW k).size):=by omega
   have a6:¬(9223372036854775807<6+(endW k).size):=by omega
   have a7:¬(9223372036854775807<7+(endW k).size):=by omega
   have v0:=S2.out.var.cell 0;have v1:=S2.out.box.cell 1;have v2:=(S2.out.ends k (by omega)).cell 0
   go_still_tail 7,(by kernel_rfl)
   change wpList _ _ _ _ _ we.drew;have SD:=zh (S2.out.keep (zA2 (Below.refl _ _)));have SG:=zh (keep (zA2 (Below.refl _ _)) G2.out);clear S2 G2 v0 v1 v2;generalize we.drew=wd at*;refine zCs _ rfl _ _ _ rfl W2.bm (LL W2 k 0) rfl SD.out.map (infS++endW k) (fn2 103 W2.gb (W2.ge k)) rfl rfl (by rw[ByteArray.size_append];have:=zFp k;have h9:infS.size≤100:=(by decide);omega) rfl (by rw[zJd];exact hkn.1) (Nat.le_trans (zQ5 W2 k 0 (by omega) (by omega)) (by omega)) ?_;intro wu hmu hgu;have S3:=zh (SD.out.upd hmu hgu);have G3:=zh (SG.out.grown hgu fun e=>by have h9:gs=W2.bm:=sj e;exact SD.out.map.zH2 (h9▸SG.out));clear SD SG hmu hgu;go_upto_region 7 with(fail)
   have v0:=S3.out.var.cell 0;have v1:=S3.out.box.cell 1;have v2:=(S3.out.ends k (by omega)).cell 0
   go_still_tail 7,(by kernel_rfl)
   change wpList _ _ _ _ _ wu.drew;have SD:=zh (S3.out.keep (zA2 (Below.refl _ _)));have SG:=zh (keep (zA2 (Below.refl _ _)) G3.out);clear S3 G3 v0 v1 v2;generalize wu.drew=wd at*;refine zCs _ rfl _ _ _ rfl W2.bm (LL W2 k 0++[((infS++endW k).data.toList,fn2 103 W2.gb (W2.ge k))]) rfl SD.out.map (preS++endW k) (fn2 105 W2.gb (W2.ge k)) rfl rfl (by rw[ByteArray.size_append];have:=zFp k;have h9:preS.size≤100:=(by decide);omega) rfl (by rw[List.map_append,zJd];exact hkn.2.1) (by rw[List.length_append];have:=zQ5 W2 k 0 (by omega) (by omega);simp only[List.length_cons,List.length_nil];omega) ?_;intro wv hmu hgu;have S4:=zh (SD.out.upd hmu hgu);have G4:=zh (SG.out.grown hgu fun e=>by have h9:gs=W2.bm:=sj e;exact SD.out.map.zH2 (h9▸SG.out));clear SD SG hmu hgu;go_upto_region 8 with(fail)
   have v0:=S4.out.var.cell 0;have v1:=S4.out.box.cell 1;have v2:=(S4.out.ends k (by omega)).cell 0
   go_still_tail 7,(by kernel_rfl)
   change wpList _ _ _ _ _ wv.drew;have SD:=zh (S4.out.keep (zA2 (Below.refl _ _)));have SG:=zh (keep (zA2 (Below.refl _ _)) G4.out);clear S4 G4 v0 v1 v2;generalize wv.drew=wd at*;refine zCs _ rfl _ _ _ rfl W2.bm (LL W2 k 0++[((infS++endW k).data.toList,fn2 103 W2.gb (W2.ge k))]++[((preS++endW k).data.toList,fn2 105 W2.gb (W2.ge k))]) rfl SD.out.map (posS++endW k) (fn2 107 W2.gb (W2.ge k)) rfl rfl (by rw[ByteArray.size_append];have:=zFp k;have h9:posS.size≤100:=(by decide);omega) rfl (by rw[List.map_append,List.map_append,zJd,List.append_assoc];exact hkn.2.2) (by rw[List.length_append,List.length_append];have:=zQ5 W2 k 0 (by omega) (by omega);simp only[List.length_cons,List.length_nil];omega) ?_;intro wz hmu hgu;have S5:=zh (SD.out.upd hmu hgu);have G5:=zh (SG.out.grown hgu fun e=>by have h9:gs=W2.bm:=sj e;exact SD.out.map.zH2 (h9▸SG.out));clear SD SG hmu hgu;have S6:=zh (show WrS w A rs.length cap W2 (LL W2 (k+1) 0) (k+1) 0 wz by rw[zZ4];have h9:=S5.out;rw[List.append_assoc,List.append_assoc] at h9;exact h9);clear S5 hkn hes;go_wp2_with fail;rw[HE2.out.1,HE2.out.2];go_roundw
   case rel=>exact⟨k+1,W2,by omega,by go_num,HE2,S6,G5⟩
   case measure=>simp[intOf];omega
  ·obtain rfl:k=4:=by omega
   clear G1;have hbb:=zA0 wr (.cells #[.string ⟨#[115,117,98]⟩,.string ⟨#[98,111,116,104]⟩] 9);have S2:=zh (S1.out.keep hbb);have G2:=zh (Blk.new wr 9 #[.string ⟨#[115,117,98]⟩,.string ⟨#[98,111,116,104]⟩]);clear hbb S1;obtain⟨wo,hwo⟩:∃wo,wo=wr:=⟨_,rfl⟩
   subst hwo;rw[show(((4:Nat):Int))=(4:Int) from rfl];go_wp2_with fail;generalize wo.alloc (.cells #[.string ⟨#[115,117,98]⟩,.string ⟨#[98,111,116,104]⟩] 9)=wc at*;generalize wo.heap.size=gt at*
   go_loopw [55] (fun i wr=>∃(k:Nat) (W:WrB),k≤2∧i= .int .i64 k∧Hid (W.gw=W0.gw∧W.gb=W0.gb)∧Hid (WrS w A rs.length cap W (LL W 4 k) 4 k wr)∧Hid (Blk wr gt 9 #[.string ⟨#[115,117,98]⟩,.string ⟨#[98,111,116,104]⟩])) (fun i _=>2 -(intOf i).toNat)
   case atStart=>exact⟨0,W1,by omega,rfl,HE,S2,G2⟩
   case round=>
    clear S2 G2 HE;obtain⟨k,W1,hk,rfl,HE,S1,G1⟩:=hrel
    by_cases hlt:k<2
    ·have ce:=zUl G1.out hlt;have hlt2:(k:Int)<2:=by omega
     have S2:=zh (S1.out.box2);have G2:=zh (keep (zA0 wr (.cells #[.string (endV k)] 9)) G1.out);obtain⟨W2,hW2⟩:∃W2:WrB,W2={W1 with gf:=fun j=>if j=k then wr.heap.size else W1.gf j}:=⟨_,rfl⟩
     rw[←hW2,show LL W1 4 k=LL W2 4 k by rw[hW2];unfold LL;rw[show bndL W1.gb W1.gf k=bndL W1.gb (fun j=>if j=k then wr.heap.size else W1.gf j) k from(zXn _ _ _ _).symm];rfl] at S2;have HE2:=zh (show W2.gw=W0.gw∧W2.gb=W0.gb by rw[hW2];exact HE.out);have EG:=zh (show W2.gf k=wr.heap.size by rw[hW2];exact if_pos rfl);clear S1 G1 hW2 HE;go_upto_region 13 with(fail)
     rw[←HE2.out.1,←HE2.out.2,←EG.out];clear ce;generalize wr.alloc (.cells #[.string (endV k)] 9)=we at*;have hkn:=zW1 k hlt;have hes:=(zFp k).2;have a4:¬(9223372036854775807<4+(endV k).size):=by omega
     have v0:=S2.out.var.cell 0;have v1:=S2.out.box.cell 1;have v2:=(S2.out.bnds k (by omega)).cell 0
     go_still_tail 7,(by kernel_rfl)
     change wpList _ _ _ _ _ we.drew;have SD:=zh (S2.out.keep (zA2 (Below.refl _ _)));have SG:=zh (keep (zA2 (Below.refl _ _)) G2.out);clear S2 G2 v0 v1 v2;generalize we.drew=wd at*;refine zCs _ rfl _ _ _ rfl W2.bm (LL W2 4 k) rfl SD.out.map (zE8++endV k) (fn2 109 W2.gb (W2.gf k)) rfl rfl (by rw[ByteArray.size_append];have:=zFp k;have h9:zE8.size≤100:=(by decide);omega) rfl (by rw[zJd];exact hkn) (Nat.le_trans (zQ5 W2 4 k (by omega) (by omega)) (by omega)) ?_;intro wu hmu hgu;have S3:=zh (SD.out.upd hmu hgu);have G3:=zh (SG.out.grown hgu fun e=>by have h9:gt=W2.bm:=sj e;exact SD.out.map.zH2 (h9▸SG.out));clear SD SG hmu hgu;have S6:=zh (show WrS w A rs.length cap W2 (LL W2 4 (k+1)) 4 (k+1) wu by rw[zWj];exact S3.out);clear S3 hkn hes;go_wp2_with fail;rw[HE2.out.1,HE2.out.2];go_roundw
     case rel=>exact⟨k+1,W2,by omega,by go_num,HE2,S6,G3⟩
     case measure=>simp[intOf];omega
    ·obtain rfl:k=2:=by omega
     have v0:=S1.out.var.cell 0;rw[HE.out.1,HE.out.2] at v0;go_wp2_with fail;go_ret;exact⟨⟨W1,(by rw[HE.out.1];rfl),HR.out.keep S1.out.bel,S1.out.box,S1.out.var,S1.out.ends,S1.out.bnds,S1.out.map,HSY.out.keep S1.out.bel,HRG.out.keep S1.out.bel⟩,S1.out.bel⟩
end Go.Proofs.YtadcldfbmkfkaaaGreatDoor.Rn
