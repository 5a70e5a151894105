/- Equal of terms, of the program: a stack of pairs. -/
import Derived.Test.YtadcldfbmkfkaaaGreatDoorHb173fa04
namespace Go.Proofs.YtadcldfbmkfkaaaGreatDoor.Rn
open At Ch Sp Sy El Go.RowKit
theorem zId {P:Nat→Prop}:∀n,P n→∃m,P m∧∀k,P k→m≤k:=by
 intro n
 induction n using Nat.strongRecOn with
 |_ n ih=>
  intro hn
  by_cases h:∃k,k<n∧P k
  ·obtain⟨k,hk,hp⟩:=h;exact ih k hk hp
  ·exact⟨n,hn,fun k hp=>Nat.le_of_not_lt fun hk=>h ⟨k,hk,hp⟩⟩
open Classical in
noncomputable def zN8 (P:Nat→Prop):Nat:=if h:∃m,P m∧∀k,P k→m≤k then Classical.choose h else 0
theorem zTi {P:Nat→Prop}{n:Nat}(h:P n):zN8 P≤n:=by
 unfold zN8;rw[dif_pos (zId n h)];exact(Classical.choose_spec (zId n h)).2 n h
theorem zSj {P:Nat→Prop}{n:Nat}(h:P n):P (zN8 P):=by
 unfold zN8;rw[dif_pos (zId n h)];exact(Classical.choose_spec (zId n h)).1
abbrev Enm:=Addr×Addr×Trm×Trm
def enmC (e:Enm):List Value:=[.pointer (some e.1),.pointer (some e.2.1)]
def allE (es:List Enm):Bool:=es.all fun e=>eqM e.2.2.1 e.2.2.2
def sumM (es:List Enm):Nat:=cntL (es.map fun e=>e.2.2.2)
def zGh (w:World)(B:Nat)(v:Value)(es:List Enm):Prop:=w.ownsRow B 199 2 v es.length (es.reverse.flatMap enmC)
def zNl (w:World)(es:List Enm):Prop:=∀e∈es,(∃A cap,PtM w e.1 e.2.2.1 A cap)∧∃A cap,PtM w e.2.1 e.2.2.2 A cap
theorem lenm (l:List Enm):(l.flatMap enmC).length=l.length*2:=by
 induction l with
 |nil=>rfl
 |cons a l ih=>rw[List.flatMap_cons,List.length_append,ih];simp[enmC];omega
theorem yBf (l:List Enm)(e:Enm)(j:Nat)(hj:j<2):((l++[e]).flatMap enmC)[l.length*2+j]?=(enmC e)[j]?:=by
 rw[List.flatMap_append,List.getElem?_append_right (by rw[lenm];omega),lenm];simp
theorem zGh.top {w:World}{B:Nat}{v:Value}{e:Enm}{es:List Enm}(h:zGh w B v (e::es)):∃g cap,v= .slice (some ⟨g,0,none⟩) (es.length+1) cap∧B≤g∧es.length+1≤cap∧w.cell? ⟨g,es.length*2,none⟩=some (.pointer (some e.1))∧w.cell? ⟨g,es.length*2+1,none⟩=some (.pointer (some e.2.1))∧zGh w B (.slice (some ⟨g,0,none⟩) es.length cap) es:=by
 obtain⟨hl,⟨rfl,h0⟩|⟨g,cap,cur,rfl,hg,hb,hn,hc,hs,ht⟩⟩:=h
 ·simp at h0
 ·have hb':Blk w g 199 cur:=hb;have hcell:∀j,j<2→w.cell? ⟨g,es.length*2+j,none⟩=(enmC e)[j]?:=fun j hj=>by
   rw[hb'.cell];have h3:=yBf es.reverse e j hj;rw[List.length_reverse,←List.reverse_cons,←ht,List.getElem?_take] at h3
   split at h3
   ·rw[←Array.getElem?_toList];exact h3
   ·rw[←h3];rename_i hlt;simp only[List.length_cons] at hlt;omega
  refine⟨g,cap,rfl,hg,hn,hcell 0 (by omega),hcell 1 (by omega),⟨by rw[lenm,List.length_reverse],.inr ⟨g,cap,cur,rfl,hg,hb,by simp at hn;omega,hc,hs,?_⟩⟩⟩;have h4:=congrArg (List.take (es.length*2)) ht;rw[List.take_take,List.reverse_cons,List.flatMap_append,List.take_append_of_le_length (by rw[lenm,List.length_reverse];omega),List.take_of_length_le (l:=es.reverse.flatMap enmC) (by rw[lenm,List.length_reverse];omega)] at h4;rw[←h4]
  congr 1
  simp only[List.length_cons];omega
theorem zGh.one {w:World}(B:Nat)(hB:B≤w.heap.size)(e:Enm):zGh (w.alloc (.cells #[.pointer (some e.1),.pointer (some e.2.1)] 199)) B (.slice (some ⟨w.heap.size,0,none⟩) 1 1) [e]:=
 ⟨by simp[enmC],.inr ⟨w.heap.size,1,_,rfl,hB,Blk.new w _ _,Nat.le_refl _,by unfold maxLen;omega,rfl,by simp[enmC]⟩⟩
theorem zGh.push {w':World}{B:Nat}{v':Value}{e:Enm}{es:List Enm}(h:w'.ownsRow B 199 2 v' (es.length+1) (es.reverse.flatMap enmC++enmC e)):zGh w' B v' (e::es):=by
 unfold zGh;rw[List.reverse_cons,List.flatMap_append,List.length_cons]
 simpa using h
theorem zGh.len {w:World}{B:Nat}{v:Value}{es:List Enm}(h:zGh w B v es):∃A cap,v= .slice A es.length cap:=by
 obtain⟨_,⟨rfl,h0⟩|⟨g,cap,cur,rfl,_⟩⟩:=h
 ·exact⟨none,0,by rw[h0]⟩
 ·exact⟨_,cap,rfl⟩
theorem zQp (es:List Enm):es.length≤sumM es:=by
 unfold sumM;have h:=zM6 (es.map fun e=>e.2.2.2);rw[List.length_map] at h;exact h
theorem zQ9:∀(l:List Trm) (k:Nat),cntL (l.take k)≤cntL l
 |[],k=>by rw[List.take_nil];exact Nat.le_refl _
 |t::l,0=>by rw[List.take_zero,cntL];exact Nat.zero_le _
 |t::l,k+1=>by
  have:=zQ9 l k;rw[List.take_succ_cons,cntL,cntL];omega
def StmP (_ w1:World)(b:Bool)(s:Nat)(v:Value)(wr:World):Prop:=∃es,zGh wr w1.heap.size v es∧zNl w1 es∧allE es=b∧sumM es=s∧Below w1.heap.size w1 wr
theorem zXt:(Tryz.prog.info? 199).map (fun i=>(i.zero,i.size,i.bytes))=some (some (.agg #[.pointer none,.pointer none]),2,16):=by kernel_rfl
set_option maxRecDepth 100000 in
set_option maxHeartbeats 8000000 in
theorem zZf (t u:Trm)(c d:Array Value)(w:World)(hz:cntM u≤1000000)(hM:MAt w t c)(hM2:MAt w u d):Calls Tryz.prog 112 #[.agg c,.agg d] w fun e w'=>e= .returned (.bool (eqM t u))∧Below w.heap.size w w':=by
 obtain⟨i0,hi,hz0,hz1,hz2⟩:=Sp.info_parts zXt;obtain⟨A,cap,rfl,ha,hv,hf,hl,hc,hk⟩:=hM.form;obtain⟨A',cap',rfl,ha',hv',hf',hl',hc',hk'⟩:=hM2.form;have b1:=zA0 w (.cells (trmC t.kind t.nam t.vr A t.args.length cap t.form) 31);have s1:(w.alloc (.cells (trmC t.kind t.nam t.vr A t.args.length cap t.form) 31)).heap.size=w.heap.size+1:=by simp
 have b2:=zA0 (w.alloc (.cells (trmC t.kind t.nam t.vr A t.args.length cap t.form) 31)) (.cells (trmC u.kind u.nam u.vr A' u.args.length cap' u.form) 31);have hbb:=b1.trans (b2.mono b1.size);have K0:=keep b2 (Blk.new w 31 (trmC t.kind t.nam t.vr A t.args.length cap t.form));have K1:=Blk.new (w.alloc (.cells (trmC t.kind t.nam t.vr A t.args.length cap t.form) 31)) 31 (trmC u.kind u.nam u.vr A' u.args.length cap' u.form);rw[s1] at K1;have HE:=zh (show zNl _ [(⟨w.heap.size,0,none⟩,⟨w.heap.size+1,0,none⟩,t,u)] from fun e he=>by
  obtain rfl:=List.mem_singleton.1 he;exact⟨⟨A,cap,PtM.box K0 ha hv hf hl hc (hk.keep hbb)⟩,⟨A',cap',PtM.box K1 ha' hv' hf' hl' hc' (hk'.keep hbb)⟩⟩)
 have HB:=zh hbb;have HZ:=zh hz;clear hM hM2 hk hk' b1 b2 s1 hbb K0 K1 hz;go_enter Tryz.func112,Tryz.ntmps112;go_upto_region 1 with(fail)
 generalize (w.alloc (.cells (trmC t.kind t.nam t.vr A t.args.length cap t.form) 31)).alloc (.cells (trmC u.kind u.nam u.vr A' u.args.length cap' u.form) 31)=w1 at*;have HK:=zh (zGh.one (w:=w1) w1.heap.size (Nat.le_refl _) (⟨w.heap.size,0,none⟩,⟨w.heap.size+1,0,none⟩,t,u));have HX:=zh (zA0 w1 (.cells #[.pointer (some ⟨w.heap.size,0,none⟩),.pointer (some ⟨w.heap.size+1,0,none⟩)] 199));go_wp2_with fail;generalize w1.alloc (.cells #[.pointer (some ⟨w.heap.size,0,none⟩),.pointer (some ⟨w.heap.size+1,0,none⟩)] 199)=w2 at*;have HP:=zh (show StmP w w1 (eqM t u) (cntM u) (.slice (some ⟨w1.heap.size,0,none⟩) 1 1) w2 from⟨_,HK.out,HE.out,by simp[allE],by simp[sumM,cntL],HX.out⟩);clear HK HE HX
 go_loopw [5] (fun v wr=>∃s,s≤1000000∧Hid (StmP w w1 (eqM t u) s v wr)) (fun v wr=>zN8 fun s=>s≤1000000∧StmP w w1 (eqM t u) s v wr)
 case atStart=>exact⟨_,HZ.out,HP⟩
 case round=>
  clear HP;obtain⟨s0,hs0,hp0⟩:=hrel;obtain⟨hs,es,hK,hE,hC,hS,hX⟩:=zSj (P:=fun s=>s≤1000000∧StmP w w1 (eqM t u) s u5 wr) ⟨hs0,hp0.out⟩;clear s0 hs0 hp0;have HS:=zh hS;have HC:=zh hC;have HX:=zh hX;have HSM:=zh hs;clear hS hC hX hs;cases es with
  |nil=>
   obtain⟨A1,cap1,rfl⟩:=hK.len;have HR:=zh (show eqM t u=true from HC.out.symm);clear hK hE;go_wp2_with fail;go_ret;exact⟨zA1 HR.out.symm,HB.out.trans (HX.out.mono HB.out.size)⟩
  |cons e es=>
   obtain⟨p,q,a,b⟩:=e;obtain⟨g,cap1,rfl,hg,hcap,c0,c1,hK⟩:=hK.top;have HK:=zh hK;have HE:=zh (show zNl w1 es from fun e he=>hE e (List.mem_cons_of_mem _ he));obtain⟨⟨Aa,ca,hP⟩,⟨Ab,cb,hQ⟩⟩:=hE _ List.mem_cons_self;have HP:=zh hP;have HQ:=zh hQ;clear hK hE hP hQ;have HES:=zh (show es.length+1≤1000000 by have h1:=HS.out;have h2:=HSM.out;have h3:=zQp ((p,q,a,b)::es);rw[h1] at h3;simp only[List.length_cons] at h3;omega);have HCE:=zh (show eqM t u=(eqM a b&&allE es) from HC.out.symm);generalize hn:es.length+1=n at*;have j0:(n:Int) -1=((es.length:Nat):Int):=by omega
   have j1:(0:Int)≤(es.length:Int):=by omega
   have j2:(es.length:Int)<(n:Int):=by omega
   have j3:(0:Int)<(n:Int):=by omega
   have j4:n≤1000000:=HES.out;have j5:es.length≤cap1:=by omega
   go_wp2_with fail
   go_quiet (fail)
   have hbq:=below_drewN (Below.refl wr.heap.size wr) nq;replace HK:=zh (Sp.own_below HK.out hbq);replace HX:=jt HX hbq;clear hbq c0 c1;generalize wr.drewN nq=w3 at*;have HPX:=zh (HP.out.keep HX.out);have HQX:=zh (HQ.out.keep HX.out);obtain⟨_,p0,p1,p2,p3,p4,_⟩:=HPX.out;obtain⟨_,r0,r1,r2,r3,r4,_⟩:=HQX.out;have HEQ:=zh (show eqM a b=((a.kind==b.kind&&(a.nam.toList==b.nam.toList&&(a.vr.toList==b.vr.toList&&(a.form.toList==b.form.toList&&decide (a.args.length=b.args.length)))))&&eqL a.args b.args) by cases a;cases b;unfold eqM;rfl);cases q0:(a.kind==b.kind)
   ·have HR:=zh (show eqM t u=false by rw[HCE.out,HEQ.out,q0];simp);have n0:(a.kind !=b.kind)=true:=by rw[bne,q0];rfl
    clear q0;go_wp2_with fail
    go_quiet (fail)
    have hb:=HX.out.trans ((below_drewN (Below.refl _ _) nq).mono HX.out.size);go_wp2_with fail;go_ret;exact⟨zA1 HR.out.symm,HB.out.trans (hb.mono HB.out.size)⟩
   have n0:(a.kind !=b.kind)=false:=by rw[bne,q0];rfl
   rw[q0,Bool.true_and] at HEQ;replace q0:=zh q0;cases q1:(a.nam.toList==b.nam.toList)
   ·have HR:=zh (show eqM t u=false by rw[HCE.out,HEQ.out,q1];simp);have n1:(!(a.nam.toList==b.nam.toList))=true:=by rw[q1];rfl
    clear q1;go_wp2_with fail
    go_quiet (fail)
    have hb:=HX.out.trans ((below_drewN (Below.refl _ _) nq).mono HX.out.size);go_wp2_with fail;go_ret;exact⟨zA1 HR.out.symm,HB.out.trans (hb.mono HB.out.size)⟩
   have n1:(!(a.nam.toList==b.nam.toList))=false:=by rw[q1];rfl
   rw[q1,Bool.true_and] at HEQ;replace q1:=zh q1;cases q2:(a.vr.toList==b.vr.toList)
   ·have HR:=zh (show eqM t u=false by rw[HCE.out,HEQ.out,q2];simp);have n2:(!(a.vr.toList==b.vr.toList))=true:=by rw[q2];rfl
    clear q2;go_wp2_with fail
    go_quiet (fail)
    have hb:=HX.out.trans ((below_drewN (Below.refl _ _) nq).mono HX.out.size);go_wp2_with fail;go_ret;exact⟨zA1 HR.out.symm,HB.out.trans (hb.mono HB.out.size)⟩
   have n2:(!(a.vr.toList==b.vr.toList))=false:=by rw[q2];rfl
   rw[q2,Bool.true_and] at HEQ;replace q2:=zh q2;cases q4:(a.form.toList==b.form.toList)
   ·have HR:=zh (show eqM t u=false by rw[HCE.out,HEQ.out,q4];simp);have n4:(!(a.form.toList==b.form.toList))=true:=by rw[q4];rfl
    clear q4;go_wp2_with fail
    go_quiet (fail)
    have hb:=HX.out.trans ((below_drewN (Below.refl _ _) nq).mono HX.out.size);go_wp2_with fail;go_ret;exact⟨zA1 HR.out.symm,HB.out.trans (hb.mono HB.out.size)⟩
   have n4:(!(a.form.toList==b.form.toList))=false:=by rw[q4];rfl
   rw[q4,Bool.true_and] at HEQ;replace q4:=zh q4
   by_cases hn2:a.args.length≠b.args.length
   ·have HR:=zh (show eqM t u=false by rw[HCE.out,HEQ.out,decide_eq_false hn2];simp);have n3:((a.args.length:Int) !=(b.args.length:Int))=true:=by rw[bne_iff_ne];omega
    clear hn2;go_wp2_with fail
    go_quiet (fail)
    have hb:=HX.out.trans ((below_drewN (Below.refl _ _) nq).mono HX.out.size);go_wp2_with fail;go_ret;exact⟨zA1 HR.out.symm,HB.out.trans (hb.mono HB.out.size)⟩
   have n3:((a.args.length:Int) !=(b.args.length:Int))=false:=by rw[bne_eq_false_iff_eq];omega
   replace hn2:a.args.length=b.args.length:=Classical.not_not.1 hn2;rw[decide_eq_true hn2,Bool.true_and] at HEQ;have HN2:=zh hn2;clear hn2;go_wp2_with fail
   go_quiet (fail)
   have hbq:=below_drewN (Below.refl w3.heap.size w3) nq;replace HK:=zh (Sp.own_below HK.out hbq);replace HX:=jt HX hbq;have p3:=(hbq.cell (p:=⟨p.block,p.off+3,none⟩) HPX.out.1).trans p3;clear hbq p0 p1 p2 p4 r0 r1 r2 r3 r4 n0 n1 n2 n4 n3 HPX HQX;generalize w3.drewN nq=w4 at*;go_wp2_with fail;clear p3 j0 j1 j2 j3 j5;have hal:a.args.length≤1000000:=by
    have h1:=HS.out;have h2:=HSM.out;have h3:=zM6 b.args;have h4:=HN2.out;have h5:sumM ((p,q,a,b)::es)=cntM b+sumM es:=rfl;have h6:cntM b=cntL b.args+1:=by cases b;rw[cntM];rfl
    omega
   go_loopw [5,93] (fun v i wr=>∃(k:Nat) (es':List Enm),k≤a.args.length∧i= .int .i64 k∧Hid (zGh wr w1.heap.size v es')∧Hid (zNl w1 es')∧Hid (allE es'=(eqL (a.args.take k) (b.args.take k)&&allE es))∧Hid (sumM es'=cntL (b.args.take k)+sumM es)∧Hid (Below w1.heap.size w1 wr)) (fun _ i _=>a.args.length -(intOf i).toNat)
   case atStart=>exact⟨0,es,by omega,rfl,HK,HE,zh (by rw[List.take_zero,List.take_zero];rfl),zh (by rw[List.take_zero,cntL,Nat.zero_add]),HX⟩
   case round=>
    clear HK HX;obtain⟨k,es',hk,rfl,HK,HE2,HAE,HSE,HX⟩:=hrel;rcases Nat.lt_or_ge k a.args.length with hlt|hge
    ·obtain⟨x,hx⟩:∃x,a.args[k]?=some x:=⟨_,gE hlt⟩
     obtain⟨y,hy⟩:∃y,b.args[k]?=some y:=⟨_,gE (by have:=HN2.out;omega)⟩
     have HXX:=zh hx;have HYY:=zh hy;obtain⟨hp1,_,_,_,d3,_,_,_,_,_,_,hpa⟩:=HP.out;obtain⟨hq1,_,_,_,f3,_,_,_,_,_,_,hqa⟩:=HQ.out;obtain⟨ad,Ax,cx,rfl,_,hpx⟩:=hpa.at_ hx;obtain⟨bd,Ay,cy,rfl,_,hqy⟩:=hqa.at_ hy;have HPA:=zh hpx;have HPBB:=zh hqy;have d3:=(HX.out.cell (p:=⟨p.block,p.off+3,none⟩) hp1).trans d3;have f3:=(HX.out.cell (p:=⟨q.block,q.off+3,none⟩) hq1).trans f3;have HPB:=zh (show p.block<wr.heap.size from ll hp1 HX.out.size);have HQB:=zh (show q.block<wr.heap.size from ll hq1 HX.out.size);have m1:(0:Int)≤(k:Int):=by omega
     have m2:(k:Int)<(a.args.length:Int):=by omega
     have m3:(k:Int)<(b.args.length:Int):=by have:=HN2.out;omega
     have HLN:=zh (show es'.length≤1000000 by
      have h1:=zQp es';have h2:=HSE.out;have h3:=HS.out;have h4:=HSM.out;have h5:sumM ((p,q,a,b)::es)=cntM b+sumM es:=rfl;have h6:cntM b=cntL b.args+1:=by cases b;rw[cntM];rfl
      have h7:cntL (b.args.take k)≤cntL b.args:=zQ9 b.args k;omega)
     clear hx hy hpa hqa hpx hqy hp1 hq1;go_upto_region 10 with(fail)
     refine zAh (X:=Gh) (by kernel_rfl) [2,2,2,2,1,2,2,2,2,2,1,2,2,2,1,3,3] [true,false,false,false,false,false,false,false,false,false,false,false,false,false,false,false,false] _ (fun gx=>[u5,.pointer (some p),.pointer (some p),.pointer (some ⟨p.block,p.off+3,none⟩),.slice (some ad) a.args.length ca,.int .i64 (↑k),.pointer (some (ad.add (k*5))),.pointer (some q),.pointer (some q),.pointer (some ⟨q.block,q.off+3,none⟩),.slice (some bd) b.args.length cb,.int .i64 (↑k),.pointer (some (bd.add (k*5))),.agg #[.pointer (some (ad.add (k*5))),.pointer (some (bd.add (k*5)))],.slice (some ⟨gx.n 110,0,none⟩) 1 1,undef,undef]) [(14,fun gx wx=>Blk wx (gx.n 110) 199 #[.pointer (some (ad.add (k*5))),.pointer (some (bd.add (k*5)))])] (fun _ _=>True) Gh.zero (by kernel_rfl) (fun gx=>by simp[fin,zAm,zAb,List.range,List.range.loop,Act.put];rfl) (fun _=>by kernel_rfl) (zA8.cons (fun gx wx w2 h hb=>keep hb h) zA8.nil) (trivial) ?_ (by kernel_rfl) ?_
     ·refine⟨fun gx wq=>jp u5 (by kernel_rfl) rfl,fun gx wq=>jp (.pointer (some p)) (by kernel_rfl) rfl,fun gx wq=>jp (.pointer (some p)) (by simp[go_sem,evAct]) rfl,fun gx wq=>jp (.pointer (some ⟨p.block,p.off+3,none⟩)) (by simp[go_sem,evAct]) rfl,fun gx wq hB hJ hf=>?_,fun gx wq=>jp (.int .i64 (↑k)) (by kernel_rfl) rfl,fun gx wq=>jp (.pointer (some (ad.add (k*5)))) (by simp[go_sem,evAct,m1,m2];try omega) rfl,fun gx wq=>jp (.pointer (some q)) (by kernel_rfl) rfl,fun gx wq=>jp (.pointer (some q)) (by simp[go_sem,evAct]) rfl,fun gx wq=>jp (.pointer (some ⟨q.block,q.off+3,none⟩)) (by simp[go_sem,evAct]) rfl,fun gx wq hB hJ hf=>?_,fun gx wq=>jp (.int .i64 (↑k)) (by kernel_rfl) rfl,fun gx wq=>jp (.pointer (some (bd.add (k*5)))) (by simp[go_sem,evAct,m1,m3];try omega) rfl,fun gx wq=>jp (.agg #[.pointer (some (ad.add (k*5))),.pointer (some (bd.add (k*5)))]) (by simp[go_sem,evAct]) rfl,fun gx wq hB hJ hf=>?_,trivial⟩
      ·have cJ:=(hB.cell (p:=⟨p.block,p.off+3,none⟩) HPB.out).trans d3;exact gs (.slice (some ad) a.args.length ca) hJ (by kernel_rfl) (by simp[go_sem,evAct,cJ]) rfl
      ·have cJ:=(hB.cell (p:=⟨q.block,q.off+3,none⟩) HQB.out).trans f3;exact gs (.slice (some bd) b.args.length cb) hJ (by kernel_rfl) (by simp[go_sem,evAct,cJ]) rfl
      ·exact jv (.slice (some ⟨wq.heap.size,0,none⟩) 1 1) (wq.alloc (.cells #[.pointer (some (ad.add (k*5))),.pointer (some (bd.add (k*5)))] 199)) (by simp[go_sem,evAct]) ⟨gx.setN 110 wq.heap.size,rfl,(zA5.of_same ⟨jK,jK,jK,jK,jK,jK,jK,jK,jK,jK,jK,jK,jK,jK,.inl rfl,jK,jK,trivial⟩),zA0 wq _,⟨Blk.new wq _ _,trivial⟩,trivial⟩
     ·refine fun gx wq hB hJ hf=>?_
      dsimp only[zAu] at hf;change wpOps _ _ _ [15,16] _ _;obtain⟨hk9,-⟩:=hf;have HX2:=jt HX hB;have HK2:=zh (Sp.own_below HK.out hB);have hrd:=Sp.zCf hk9 rfl (n:=2);have hln:=HLN.out;have hws:=HX2.out.size;clear hB hJ HX HK d3 f3;generalize gx.n 110=n110 at*;clear gx;generalize wq=w5 at*;refine zDp (o:=_) (R:=fun v' w'=>w'.ownsRow w1.heap.size 199 2 v' (es'.length+1) (es'.reverse.flatMap enmC++[.pointer (some (ad.add (k*5))),.pointer (some (bd.add (k*5)))])∧w5.grownBy w' u5.ownBlock) rfl rfl (zBg (.tmp 96) (.tmp 110) 200 rfl w1.heap.size 199 i0 (.agg #[.pointer none,.pointer none]) 2 16 Tryz.underlying200 hi hz0 hz1 hz2 rfl (by decide) u5 es'.length (es'.reverse.flatMap enmC) rfl HK2.out w5.heap.size (some ⟨n110,0,none⟩) 1 1 [.pointer (some (ad.add (k*5))),.pointer (some (bd.add (k*5)))] rfl hrd (by intro u hu;simp at hu;rcases hu with rfl|rfl<;>rfl) (by unfold maxLen;omega) (by omega) hws fun v' w' q2 q3 _=>⟨q2,q3⟩) ?_;rintro v' w6 ⟨q2,q3⟩;have hrow:∀b,u5.ownBlock=some b→w1.heap.size≤b:=fun b hb=>(World.ownsRow.lt HK2.out b hb).1
      have HX3:=zh (HX2.out.grown q3 HX2.out.size hrow);have HK3:=zh (zGh.push (e:=(ad.add (k*5),bd.add (k*5),x,y)) q2);refine zOg (o:=_) (v:=v') rfl rfl (by simp[go_sem]) ?_;refine zAe ?_;clear q2 q3 hrow HX2 HK2 hrd hk9 hln hws m1 m2 m3;have HE3:=zh (show zNl w1 ((ad.add (k*5),bd.add (k*5),x,y)::es') from fun e he=>by
       rcases List.mem_cons.1 he with rfl|he
       ·exact⟨⟨_,_,HPA.out⟩,⟨_,_,HPBB.out⟩⟩
       ·exact HE2.out e he)
      have HA3:=zh (show allE ((ad.add (k*5),bd.add (k*5),x,y)::es')=(eqL (a.args.take (k+1)) (b.args.take (k+1))&&allE es) by
       show(eqM x y&&allE es')=_;rw[HAE.out,zPc HXX.out HYY.out,Bool.and_comm (eqL _ _) (eqM x y),Bool.and_assoc])
      have HS3:=zh (show sumM ((ad.add (k*5),bd.add (k*5),x,y)::es')=cntL (b.args.take (k+1))+sumM es by
       rw[zNt HYY.out];show cntM y+sumM es'=_;rw[HSE.out];omega)
      go_wp2_with fail;go_roundw
      case rel=>exact⟨k+1,_,by omega,by go_num,HK3,HE3,HA3,HS3,HX3⟩
      case measure=>simp[intOf];omega
    ·obtain rfl:k=a.args.length:=by omega
     have HC2:=zh (show allE es'=eqM t u by rw[HAE.out,HCE.out,HEQ.out,List.take_length,HN2.out,List.take_length]);have HS2:=zh (show sumM es'=cntL b.args+sumM es by rw[HSE.out,HN2.out,List.take_length]);have HNN:=zh (show StmP w w1 (eqM t u) (cntL b.args+sumM es) u5 wr from⟨es',HK.out,HE2.out,HC2.out,HS2.out,HX.out⟩);have HLT:=zh (show cntL b.args+sumM es<sumM ((p,q,a,b)::es) by
      have h5:sumM ((p,q,a,b)::es)=cntM b+sumM es:=rfl;have h6:cntM b=cntL b.args+1:=by cases b;rw[cntM];rfl
      omega)
     go_wp2_with fail;go_roundw
     case rel=>exact⟨_,by have h1:=HLT.out;have h2:=HS.out;have h3:=HSM.out;omega,HNN⟩
     case measure=>
      refine Nat.lt_of_le_of_lt (zTi (P:=fun s=>s≤1000000∧_) ⟨?_,HNN.out⟩) ?_
      ·have h1:=HLT.out;have h2:=HS.out;have h3:=HSM.out;omega
      ·have h1:=HLT.out;have h2:=HS.out;omega
end Go.Proofs.YtadcldfbmkfkaaaGreatDoor.Rn
