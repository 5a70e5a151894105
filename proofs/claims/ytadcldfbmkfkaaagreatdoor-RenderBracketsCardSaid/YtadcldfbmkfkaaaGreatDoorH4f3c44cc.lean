/- root and juxtapose of the writer. -/
import Derived.Test.YtadcldfbmkfkaaaGreatDoorH5bbe82fa
namespace Go.Proofs.YtadcldfbmkfkaaaGreatDoor.Rn
open At Ch Sp Sy El Go.RowKit
theorem zF6 (a:Addr):a.add 0=a:=by unfold Addr.add;split<;>simp_all
theorem zAn.at0 {ok:Nat→Prop}{w:World}{A:Option Addr}{ts:List Tre}(h:zAn ok w A ts){t:Tre}(hi:ts[0]?=some t):
  ∃ad A2 cap2,A=some ad∧ad.block<w.heap.size∧t.text.size≤9223372036854775807∧t.kids.length≤cap2∧cap2≤9223372036854775807∧zAn ok w A2 t.kids∧w.cell? ad=some (.int .i64 t.kind)∧w.cell? ⟨ad.block,ad.off+1,none⟩=some (.string t.text)∧w.cell? ⟨ad.block,ad.off+2,none⟩=some (.int .i64 t.cols)∧w.cell? ⟨ad.block,ad.off+3,none⟩=some (.slice A2 t.kids.length cap2):=by
 have h0:=h.at_ hi;simp only[Nat.zero_mul,zF6] at h0;exact h0
theorem ItmP.up {o:Option (List Tre)}{w w1:World}{e:Ending}{w':World}(h:ItmP o w1 e w')(hb:Below w.heap.size w w1):ItmP o w e w':=by
 obtain⟨h1,h2⟩:=h;refine⟨?_,hb.trans (h2.mono hb.size)⟩;cases o with
 |none=>exact h1
 |some l=>
  obtain⟨A,cap,h3,h4,h5,h6⟩:=h1;exact⟨A,cap,h3,h4,h5,h6.any fun b _ h=>Nat.le_trans hb.size h⟩
set_option maxRecDepth 100000 in
set_option maxHeartbeats 4000000 in
theorem zXf (W:WrB)(A:Option Addr)(cap:Nat)(rs:List Rul)(f:Nat)(HI:zBo W A cap rs f)(m:Trm)(c:Array Value)(w:World)(hm:szM m≤f)(hf:f≤100000)(hW:zCn w W A cap rs)(hM:MAt w m c):
  Calls Tryz.prog 97 #[.pointer (some ⟨W.gw,0,none⟩),.agg c] w (ItmP ((zA4 rs m.args).bind fun R=>fixW rs m.nam m.vr R .root) w):=by
 obtain⟨A2,cap2,rfl,_,_,_,hl,hc,hk⟩:=hM.form;have B1:=zA0 w (.cells (trmC m.kind m.nam m.vr A2 m.args.length cap2 m.form) 31);have K0:=zh (Blk.new w 31 (trmC m.kind m.nam m.vr A2 m.args.length cap2 m.form));have HW1:=zh (hW.keep B1);have HK1:=zh (hk.keep B1);have HB:=zh B1;have HC:=zh (show szL m.args<f by have:=zDi hm hf;omega);clear hW hM hk B1 hm;go_enter Tryz.func97,Tryz.ntmps97;go_upto_region 1 with(fail)
 generalize w.alloc (.cells (trmC m.kind m.nam m.vr A2 m.args.length cap2 m.form) 31)=w1 at*;have k3:=K0.out.cell 3;go_wp2_with fail;refine(zIk W A cap rs f HI m.args A2 cap2 w1 HC.out hf HW1.out HK1.out).mono ?_;rintro e w2 ⟨hres,hb⟩;have HB2:=jt HB hb;have HS:=zh HB.out.size;clear hb HB K0 k3;have HX:=zh (show ∀(o:Option (List Tre)),o=none→ItmP o w (.returned (.tuple #[.slice none 0 0,.bool false])) w2 from fun o e=>by subst e;exact⟨rfl,HB2.out⟩);cases hR:zA4 rs m.args with
 |none=>
  rw[hR] at hres;obtain rfl:e= .returned (.tuple #[.slice none 0 0,.bool false]):=hres;have HR:=zh hR;clear hR;go_wp2_with fail
  go_ret2
  exact HX.out _ (by rw[HR.out];rfl)
 |some R=>
  rw[hR] at hres;obtain⟨A3,c3,e3,hl3,hc3,hn3⟩:=hres;rw[List.length_map] at e3 hl3;have HN3:=zh hn3;have HR:=zh hR;clear hR hn3
  match R,e3,hl3,HN3,HR with
  |[],e3,hl3,HN3,HR=>
   obtain rfl:e= .returned (.tuple #[.slice A3 0 c3,.bool true]):=e3;go_wp2_with fail
   go_ret2
   exact HX.out _ (by rw[HR.out];rfl)
  |[a],e3,hl3,HN3,HR=>
   obtain rfl:e= .returned (.tuple #[.slice A3 1 c3,.bool true]):=e3;obtain⟨ad,A4,c4,rfl,hadl,_,hl4,hc4,hk4,d0,d1,d2,d3⟩:=HN3.out.at0 (t:=rowT a) rfl;have hba:=zA0 w2 (.cells #[.int .i64 1,.string ⟨#[]⟩,.int .i64 0,.slice none 0 0,.int .i64 1,.string ⟨#[]⟩,.int .i64 0,.slice A4 a.length c4] 25);have HK4:=zh (Blk.new w2 25 #[.int .i64 1,.string ⟨#[]⟩,.int .i64 0,.slice none 0 0,.int .i64 1,.string ⟨#[]⟩,.int .i64 0,.slice A4 a.length c4]);have HD4:=zh ((hk4.any (ok':=fun b=>w.heap.size≤b) fun b _ hb=>Nat.le_trans HS.out hb).keep hba);have HB3:=jt HB2 hba;have hd0:w2.cell? ad=some (.int .i64 1):=d0;have hd1:w2.cell? ⟨ad.block,ad.off+1,none⟩=some (.string ⟨#[]⟩):=d1;have hd2:w2.cell? ⟨ad.block,ad.off+2,none⟩=some (.int .i64 0):=d2;have hd3:w2.cell? ⟨ad.block,ad.off+3,none⟩=some (.slice A4 a.length c4):=d3;have HG2:=zh (show w.heap.size≤w2.heap.size from HB2.out.size);clear d0 d1 d2 d3 hk4 hba HB2;go_upto_region 6 with(fail)
   generalize w2.heap.size=g4 at*;generalize w2.alloc (.cells #[.int .i64 1,.string ⟨#[]⟩,.int .i64 0,.slice none 0 0,.int .i64 1,.string ⟨#[]⟩,.int .i64 0,.slice A4 a.length c4] 25)=w4 at*;have HN5:=zh (zUz (ok:=fun b=>w.heap.size≤b) (x:=rowT []) (y:=rowT a) HK4.out (NdAt.zero _ _ 1 ⟨#[]⟩ 0 (by decide)) (NdAt.of (k:=1) (s:=⟨#[]⟩) (c:=0) (by decide) hl4 hc4 HD4.out) HG2.out);have hbb:=zA0 w4 (.cells #[.int .i64 6,.string ⟨#[]⟩,.int .i64 0,.slice (some ⟨g4,0,none⟩) 2 2] 25);have HB5:=jt HB3 hbb;have HN6:=zh (HN5.out.keep hbb);have HK6:=zh (Blk.new w4 25 #[.int .i64 6,.string ⟨#[]⟩,.int .i64 0,.slice (some ⟨g4,0,none⟩) 2 2]);have HZ:=zh (show w.heap.size≤w4.heap.size from HB3.out.size);clear hbb;go_wp2_with fail
   go_ret2
   rw[HR.out];exact⟨⟨_,1,rfl,Nat.le_refl _,by omega,zD8 (ks:=[rowT [],rowT a]) HK6.out (by decide) (Nat.le_refl 2) (by omega) HN6.out HZ.out⟩,HB5.out⟩
  |[a,b],e3,hl3,HN3,HR=>
   obtain rfl:e= .returned (.tuple #[.slice A3 2 c3,.bool true]):=e3;have hbb:=zA0 w2 (.cells #[.int .i64 6,.string ⟨#[]⟩,.int .i64 0,.slice A3 2 c3] 25);have HB5:=jt HB2 hbb;have HN6:=zh ((HN3.out.any (ok':=fun b=>w.heap.size≤b) fun b _ hb=>Nat.le_trans HS.out hb).keep hbb);have HK6:=zh (Blk.new w2 25 #[.int .i64 6,.string ⟨#[]⟩,.int .i64 0,.slice A3 2 c3]);have HZ:=zh (show w.heap.size≤w2.heap.size from HB2.out.size);clear hbb;go_wp2_with fail
   go_ret2
   rw[HR.out];exact⟨⟨_,1,rfl,Nat.le_refl _,by omega,zD8 (ks:=[rowT a,rowT b]) HK6.out (by decide) hl3 hc3 HN6.out HZ.out⟩,HB5.out⟩
  |a::b::d::r,e3,hl3,HN3,HR=>
   subst e3;have HL:=zh (show(a::b::d::r).length=r.length+3 from rfl);rw[HL.out];have q1:¬(((r.length+3:Nat):Int)<1):=by omega
   have q2:((r.length+3:Nat):Int)>2:=by omega
   go_wp2_with fail
   go_ret2
   exact HX.out _ (by rw[HR.out];rfl)
theorem zNv {ok:Nat→Prop}{w:World}{A:Option Addr}{ks:List Tre}(h:zAn ok w A ks):∃css:List (Array Value),css.length=ks.length∧(∀(j:Nat) c x,css[j]?=some c→ks[j]?=some x→NdAt ok w x c)∧Reads w w.heap.size 4 A ks.length (css.flatMap (·.toList)):=by
 have ex:∀i:Nat,∃c:Array Value,∀x,ks[i]?=some x→NdAt ok w x c∧∃ad:Addr,A=some ad∧ad.block<w.heap.size∧∀j,j<4→w.cell? (ad.add (i*4+j))=c[j]?:=fun i=>by
  cases hx:ks[i]? with
  |none=>exact⟨#[],fun x h=>by cases h⟩
  |some x=>
   obtain⟨ad,h1,h2,_,c,h4,h5⟩:=h i x hx;refine⟨c,fun y hy=>?_⟩;cases hy;exact⟨h4,ad,h1,h2,h5⟩
 obtain⟨cs,hcs⟩:=Classical.axiomOfChoice ex;have hlen:((List.range ks.length).map cs).length=ks.length:=by simp
 have hget:∀(j:Nat) c,((List.range ks.length).map cs)[j]?=some c→j<ks.length∧c=cs j:=fun j c hj=>by
  rw[List.getElem?_map] at hj;rcases Nat.lt_or_ge j ks.length with hl|hl
  ·rw[List.getElem?_range hl] at hj;exact⟨hl,(sj hj).symm⟩
  ·rw[List.getElem?_eq_none (by simpa using hl)] at hj;cases hj
 have hN:∀(j:Nat) c x,((List.range ks.length).map cs)[j]?=some c→ks[j]?=some x→NdAt ok w x c:=fun j c x hj hx=>by
  obtain⟨_,rfl⟩:=hget j c hj;exact(hcs j x hx).1
 have hsz:∀c∈(List.range ks.length).map cs,c.size=4:=OwnN.size hlen hN;refine⟨_,hlen,hN,by rw[zIu _ hsz,hlen],fun hn=>?_⟩;obtain⟨_,ad,hA,hlt,_⟩:=hcs 0 _ (gE hn);refine⟨ad,hA,hlt,fun j u hj=>?_⟩;have hjl:=(List.getElem?_eq_some_iff.1 hj).1;rw[zIu _ hsz,hlen] at hjl;have hq:j/4<ks.length:=by omega
 obtain⟨_,ad2,hA2,_,h5⟩:=hcs (j/4) _ (gE hq);obtain rfl:ad=ad2:=sj (hA.symm.trans hA2);have h6:=zXw _ (j/4) (j%4) (cs (j/4)) hsz (by rw[List.getElem?_map,List.getElem?_range hq];rfl) (by omega);rw[show j/4*4+j%4=j by omega,hj,←h5 (j%4) (by omega),show j/4*4+j%4=j by omega] at h6;exact h6.symm
structure NL where
 A:Option Addr
 c:Nat
 ks:List Tre
def zGf (L:List NL):List Tre:=L.flatMap (·.ks)
theorem zJp {ok:Nat→Prop}{w:World}:∀{L:List NL},(∀s∈L,zAn ok w s.A s.ks)→∃S:List NSrc,S.length=L.length∧(∀(k:Nat) (s:NSrc),S[k]?=some s→∃t:NL,L[k]?=some t∧s.A=t.A∧s.n=t.ks.length∧s.c=t.c)∧(∀s∈S,Reads w w.heap.size 4 s.A s.n s.xs∧∀u∈s.xs,u.oneCell'=true)∧nsum S=(zGf L).length∧∃css:List (Array Value),css.length=(zGf L).length∧(∀(j:Nat) c x,css[j]?=some c→(zGf L)[j]?=some x→NdAt ok w x c)∧ncat S=css.flatMap (·.toList)
 |[],_=>⟨[],rfl,(fun k s h=>by simp at h),(fun s h=>by simp at h),rfl,[],rfl,(fun j c x h=>by simp at h),rfl⟩
 |t::L,h=>by
  obtain⟨S,h1,h2,h3,h4,css,h5,h6,h7⟩:=zJp (L:=L) fun s hs=>h s (List.mem_cons_of_mem _ hs)
  obtain⟨cs,g1,g2,g3⟩:=zNv (h t List.mem_cons_self);refine⟨⟨t.A,t.ks.length,t.c,cs.flatMap (·.toList)⟩::S,(by simp[h1]),(fun k s hk=>?_),(fun s hs=>?_),?_,cs++css,?_,(fun j c x hj hx=>?_),?_⟩
  ·cases k with
   |zero=>obtain rfl:=sj hk;exact⟨t,rfl,rfl,rfl,rfl⟩
   |succ k=>exact h2 k s hk
  ·rcases List.mem_cons.1 hs with rfl|hs
   ·refine⟨g3,fun u hu=>?_⟩;obtain⟨c,hc,hr⟩:=List.mem_flatMap.1 hu;obtain⟨j,hj⟩:=List.mem_iff_getElem?.1 hc;have hj2:=(List.getElem?_eq_some_iff.1 hj).1;exact zUs (g2 j c _ hj (gE (by omega))) u hr
   ·exact h3 s hs
  ·unfold zGf at h4⊢;rw[List.flatMap_cons,List.length_append,←h4];simp[nsum]
  ·unfold zGf at h5⊢;rw[List.flatMap_cons,List.length_append,List.length_append,h5,g1]
  ·unfold zGf at hx h6;rw[List.flatMap_cons] at hx;rcases Nat.lt_or_ge j cs.length with hlt|hge
   ·rw[List.getElem?_append_left hlt] at hj;rw[List.getElem?_append_left (by omega)] at hx;exact g2 j c x hj hx
   ·rw[List.getElem?_append_right hge] at hj;rw[List.getElem?_append_right (by omega),←g1] at hx;exact h6 _ c x hj hx
  ·rw[List.flatMap_append,←h7];rfl
theorem zN1 (P:Nat→Prop)(g:Nat)(L:List NL)(w:World)(hb:∀(k:Nat) (s:NL),L[k]?=some s→w.cell? ⟨g,k,none⟩=some (.slice s.A s.ks.length s.c))(hg:g<w.heap.size)(hr:∀s∈L,zAn P w s.A s.ks)(hP:∀b,w.heap.size≤b→P b)(hL:L.length≤1000000)(hn:(zGf L).length≤1000000):
  Calls Tryz.prog 150 #[.slice (some ⟨g,0,none⟩) L.length L.length] w fun e w'=>(∃A cap,e= .returned (.slice A (zGf L).length cap)∧(zGf L).length≤cap∧cap≤9223372036854775807∧zAn P w' A (zGf L))∧Below w.heap.size w w':=by
 obtain⟨S,h1,h2,h3,h4,css,h5,h6,h7⟩:=zJp hr;have h:=zWz g S w (fun k s hk=>by
  obtain⟨t,e0,e1,e2,e3⟩:=h2 k s hk;rw[e1,e2,e3];exact hb k t e0) hg h3 (by omega) (by omega)
 rw[h1] at h;refine h.mono ?_;rintro e w' ⟨v,rfl,ho,hb⟩;rw[h4,h7] at ho;obtain⟨A,cap,rfl,k1,k2,k3⟩:=OwnN.zLc (P:=P) (xs:=zGf L) ⟨css,ho,h5,fun j c x hj hx=>(h6 j c x hj hx).keep hb⟩ hP fun b h=>h
 exact⟨⟨A,cap,rfl,k1,k2,k3⟩,hb⟩
def idxV:Option Nat→Int
 |some i=>i
 |none=>0
def namP (kind:Int)(s:ByteArray)(r:Rul):Bool:=(r.kind==kind)&&(r.nam.toList==s.toList)
theorem zLb {p:Rul→Bool}{rs:List Rul}{k:Nat}{x:Rul}(hx:rs[k]?=some x)(hp:p x=true)(hJ:∀(j:Nat) y,rs[j]?=some y→j<k→p y=false):rs.findIdx? p=some k:=by
 obtain⟨hlt,rfl⟩:=List.getElem?_eq_some_iff.1 hx;rw[List.findIdx?_eq_some_iff_getElem];exact⟨hlt,hp,fun j hj=>by rw[hJ j _ (gE (by omega)) hj];simp⟩
theorem zJb {p:Rul→Bool}{rs:List Rul}(hJ:∀(j:Nat) y,rs[j]?=some y→p y=false):rs.findIdx? p=none:=by
 rw[List.findIdx?_eq_none_iff];intro y hy;obtain⟨j,hj⟩:=List.mem_iff_getElem?.1 hy;exact hJ j y hj
theorem zVq {a b:Int}{p q:Bool}(h:a=b)(h':p=q):Ending.returned (.tuple #[.int .i64 a,.bool p])= .returned (.tuple #[.int .i64 b,.bool q]):=by rw[h,h']
set_option maxRecDepth 100000 in
set_option maxHeartbeats 800000 in
theorem zRf (A:Option Addr)(cap:Nat)(rs:List Rul)(kind:Int)(s:ByteArray)(w:World)(hR:zAi w A rs)(hn:rs.length≤1000000):Calls Tryz.prog 189 #[.slice A rs.length cap,.int .i64 kind,.string s] w fun e w'=>e= .returned (.tuple #[.int .i64 (idxV (rs.findIdx? (namP kind s))),.bool (rs.findIdx? (namP kind s)).isSome])∧Below w.heap.size w w':=by
 have HR:=zh hR;clear hR;go_enter Tryz.func189,Tryz.ntmps189;go_wp2_with fail
 go_loopw [12] (fun i wr=>∃k:Nat,k≤rs.length∧i= .int .i64 k∧Hid (∀(j:Nat) x,rs[j]?=some x→j<k→namP kind s x=false)∧Hid (Below w.heap.size w wr)) (fun i _=>rs.length -(intOf i).toNat)
 case atStart=>exact⟨0,by omega,rfl,(fun j _ _ h=>by omega),Below.refl _ _⟩
 case round=>
  obtain⟨k,hk,rfl,HJ,H0⟩:=hrel
  by_cases hlt:k<rs.length
  ·obtain⟨x,hx⟩:∃x,rs[k]?=some x:=⟨_,gE hlt⟩
   obtain⟨hf,ad,rfl,hadl,c0,c1,c2,c3,c4,c5⟩:=(HR.out.keep H0.out).at_ hx;have HX:=zh hx;clear hx hf;cases hq:(x.kind==kind)
   ·have HP:Hid (namP kind s x=false):=by show namP kind s x=false;unfold namP;rw[hq];rfl
    go_wp2_with fail;go_roundw
    case rel=>exact⟨k+1,by omega,by go_num,(fun j y hj h=>by
     rcases Nat.lt_or_ge j k with h'|h'
     ·exact HJ.out j y hj h'
     ·obtain rfl:j=k:=by omega
      rw[HX.out] at hj;obtain rfl:=sj hj;exact HP.out),H0.out.alloc H0.out.size _⟩
    case measure=>simp[intOf];omega
   ·cases hs:(x.nam.toList==s.toList)
    ·have HP:Hid (namP kind s x=false):=by show namP kind s x=false;unfold namP;rw[hq,hs];rfl
     go_wp2_with fail;go_roundw
     case rel=>exact⟨k+1,by omega,by go_num,(fun j y hj h=>by
      rcases Nat.lt_or_ge j k with h'|h'
      ·exact HJ.out j y hj h'
      ·obtain rfl:j=k:=by omega
       rw[HX.out] at hj;obtain rfl:=sj hj;exact HP.out),H0.out.alloc H0.out.size _⟩
     case measure=>simp[intOf];omega
    ·have HP:=zh (zLb HX.out (show namP kind s x=true by unfold namP;rw[hq,hs];rfl) HJ.out);go_wp2_with fail
     go_ret2
     exact⟨zVq (by rw[HP.out];rfl) (by rw[HP.out];rfl),H0.out.alloc H0.out.size _⟩
  ·have HP:=zh (zJb (p:=namP kind s) fun j y hj=>HJ.out j y hj (by
    have:=(List.getElem?_eq_some_iff.1 hj).1;omega))
   go_wp2_with fail
   go_ret2
   exact⟨zVq (by rw[HP.out];rfl) (by rw[HP.out];rfl),H0.out⟩
set_option maxRecDepth 100000 in
theorem zMg {rs:List Rul}{kind:Int}{s:ByteArray}:namW rs kind s.data.toList=rs.findIdx? (namP kind s):=by
 unfold namW
 congr 1
 funext r
 unfold namP;rw[ByteArray.toList_eq,ByteArray.toList_eq,Bool.eq_iff_iff];simp
end Go.Proofs.YtadcldfbmkfkaaaGreatDoor.Rn
