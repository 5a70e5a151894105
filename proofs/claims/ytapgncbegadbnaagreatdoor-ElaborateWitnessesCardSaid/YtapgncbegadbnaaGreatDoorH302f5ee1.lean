/- Terms that a call has made: their cells lie in named blocks; worlds that only one block's turning tells apart. -/
import Derived.Test.YtapgncbegadbnaaGreatDoorHdf6d9cfd
import Derived.Lib.AppendZerosOnto
set_option maxRecDepth 100000
set_option maxHeartbeats 4000000
namespace Go.Proofs.YtapgncbegadbnaaGreatDoor
namespace El
open At Ch Sp Sy Go.RowKit
theorem zFc:(Tryz.prog.info? 3).map (fun i=>(i.zero,i.size,i.bytes))=some (some (qI 0),1,8):=by kernel_rfl
theorem zOa (v:Value)(n:Nat):(Builtin.zeroCells #[v] n).size=n:=by
 simp[Builtin.zeroCells]
theorem zYi (n:Nat)(w:World)(h1:0<n)(h2:n<=1000000):Calls Tryz.prog 77 #[qN,qI n] w fun e w'=>∃v,e= .returned v/\w'.ownsRow w.heap.size 3 1 v 0 []/\Below w.heap.size w w':=by
 obtain⟨i0,hi,hz0,hz1,hz2⟩:=info_parts zFc;have hrz:=Go.Lib.run_append_grow_zeros (P:=Tryz.prog) w 30 3 30 3 i0 (qI 0) .i64 .i64 Tryz.underlying30 Tryz.underlying3 hi hz0 none 0 0 [] (run_firstCells_none w.drew i0.size 0 0 0) n h1 (by omega) (by omega) (by omega) (by rw[hz2];omega) (growslice_fits (by omega) (by rw[hz2];omega));have hGn:0+n<=grownCap w (0+n) 0 3:=grownCap_ge w _ _ _;have hG63:grownCap w (0+n) 0 3<=maxLen:=grownCap_le_maxLen w (0+n) 0 3 (by unfold maxLen;omega);generalize grownCap w (0+n) 0 3=G at*;rw[Nat.zero_add] at hrz hGn;have hG:G<=9223372036854775807:=by unfold maxLen at hG63;omega
 have q1:¬((n:Int)<0):=by omega
 have q2:(n:Int)>0:=by omega
 have q3:(0:Int)<(n:Int):=by omega
 have W1:wrap64 (n:Int)=(n:Int):=by unfold wrap64;omega
 go_enter Tryz.func77,Tryz.ntmps77;go_wp2_with (at_builtin;refine Lib.wpList_append_run _ rfl _ _ _ _ rfl _ _ rfl rfl _ _ hrz ?_)
 go_ret;refine⟨_,rfl,⟨rfl,.inr ⟨w.heap.size,G,Builtin.zeroCells #[qI 0] n++Builtin.zeroCells #[qI 0] (G -n),rfl,Nat.le_refl _,?_,Nat.zero_le _,hG63,?_,by simp⟩⟩,?_⟩
 ·exact Blk.new w 3 _
 ·rw[Array.size_append,zOa,zOa];omega
 ·exact zA3 (zA0 w _)
def sz2 (n m k:Nat):Nat:=if k=0 then 0 else if k=1 then n else n+m
def up2 (xs ys:List Value)(k:Nat):List Value:=if k=0 then[] else if k=1 then xs else xs++ys
theorem zTp (g:Nat)(A1 A2:Option Addr)(n m c1 c2:Nat)(xs ys:List Value)(w:World)(hb:Blk w g 30 #[.slice A1 n c1,.slice A2 m c2])(h1:Reads w w.heap.size 1 A1 n xs)(h2:Reads w w.heap.size 1 A2 m ys)(o1:∀u∈xs,u.oneCell'=true)(o2:∀u∈ys,u.oneCell'=true)(hn:0<n+m)(hm:n+m<=1000000):
  Calls Tryz.prog 41 #[.slice (some ⟨g,0,none⟩) 2 2] w fun e w'=>∃v,e= .returned v/\w'.ownsRow w.heap.size 3 1 v (n+m) (xs++ys)/\Below w.heap.size w w':=by
 obtain⟨i0,hi,hz0,hz1,hz2⟩:=info_parts zFc;have K0:=zh hb;have H1:=zh h1;have H2:=zh h2;have O1:=zh o1;have O2:=zh o2;clear hb h1 h2 o1 o2;go_enter Tryz.func41,Tryz.ntmps41;go_wp2_with fail
 go_loopw [3,11] (fun s i wr=>∃k:Nat,k<=2/\i=qI k/\s=qI (sz2 n m k:Nat)/\wr=w) (fun _ i _=>2 -(intOf i).toNat)
 case atStart=>exact⟨0,by omega,rfl,rfl,rfl⟩
 case round=>
  obtain⟨k,hk,rfl,rfl,rfl⟩:=hrel;have k0:wr.cell? ⟨g,0,none⟩=some (.slice A1 n c1):=K0.out.cell 0;have k1:wr.cell? ⟨g,1,none⟩=some (.slice A2 m c2):=K0.out.cell 1;rcases(show k=0\/k=1\/k=2 by omega) with rfl|rfl|rfl
  ·have q:¬((n:Int)<0):=by omega
   have W1:wrap64 (n:Int)=(n:Int):=by unfold wrap64;omega
   unfold sz2;go_wp2;go_roundw
   case rel=>exact⟨1,by omega,by go_num,rfl,trivial⟩
   case measure=>simp[intOf]
  ·have q:¬((n:Int)+(m:Int)<0):=by omega
   have W1:wrap64 ((n:Int)+(m:Int))=(n:Int)+(m:Int):=by unfold wrap64;omega
   unfold sz2;go_wp2;go_roundw
   case rel=>exact⟨2,by omega,by go_num,by simp,trivial⟩
   case measure=>simp[intOf]
  ·have HS:=zh (show sz2 n m 2=n+m from rfl);rw[HS.out];clear k0 k1;obtain⟨wo,hwo⟩:∃wo,wo=wr:=⟨_,rfl⟩
   subst hwo;go_wp2_with fail;refine(zYi (n+m) wo hn hm).mono ?_;rintro e w1 ⟨v,rfl,ho,hb⟩;have HO:=zh ho;have HB:=zh hb;clear ho hb;go_wp2_with fail
   go_loopw [6,27] (fun v i wr=>∃k:Nat,k<=2/\i=qI k/\Hid (wr.ownsRow wo.heap.size 3 1 v (sz2 n m k) (up2 xs ys k))/\Hid (Below wo.heap.size wo wr)) (fun _ i _=>2 -(intOf i).toNat)
   case atStart=>exact⟨0,by omega,rfl,HO,HB⟩
   case round=>
    clear HO HB;obtain⟨k,hk,rfl,HO,HB⟩:=hrel;rcases(show k=0\/k=1\/k=2 by omega) with rfl|rfl|rfl
    ·have HO1:=zh (show wr.ownsRow wo.heap.size 3 1 u6 0 [] from HO.out);have HBL:=zh (World.ownsRow.lt HO1.out);have HR:=zh (H1.out.below HB.out);have hsz:=HB.out.size;have kk:wr.cell? ⟨g,0,none⟩=some (.slice A1 n c1):=(keep HB.out K0.out).cell 0;clear HO;go_wp2_with (at_builtin;refine zA9 _ rfl (.tmp 31) (.tmp 32) 30 rfl wo.heap.size 3 i0 (qI 0) 1 8 Tryz.underlying30 hi hz0 hz1 hz2 rfl (by decide) _ _ _ rfl HO1.out wo.heap.size A1 n c1 xs rfl HR.out O1.out ?c63 ?cby hsz ?_)
     case c63=>unfold maxLen;omega
     case cby=>omega
     intro v' w' ho' hgr _;have NO:=zh (show w'.ownsRow wo.heap.size 3 1 v' (sz2 n m 1) (up2 xs ys 1) by simpa [sz2,up2] using ho');have NB:=zh (HB.out.grown hgr hsz (fun j hj=>(HBL.out j hj).1));clear ho' hgr HO1 HB kk;go_wp2;go_roundw
     case rel=>exact⟨1,by omega,by go_num,NO,NB⟩
     case measure=>simp[intOf]
    ·have HO1:=zh (show wr.ownsRow wo.heap.size 3 1 u6 n xs from HO.out);have HBL:=zh (World.ownsRow.lt HO1.out);have HR:=zh (H2.out.below HB.out);have hsz:=HB.out.size;have kk:wr.cell? ⟨g,1,none⟩=some (.slice A2 m c2):=(keep HB.out K0.out).cell 1;clear HO;go_wp2_with (at_builtin;refine zA9 _ rfl (.tmp 31) (.tmp 32) 30 rfl wo.heap.size 3 i0 (qI 0) 1 8 Tryz.underlying30 hi hz0 hz1 hz2 rfl (by decide) _ _ _ rfl HO1.out wo.heap.size A2 m c2 ys rfl HR.out O2.out ?c63 ?cby hsz ?_)
     case c63=>unfold maxLen;omega
     case cby=>omega
     intro v' w' ho' hgr _;have NO:=zh (show w'.ownsRow wo.heap.size 3 1 v' (sz2 n m 2) (up2 xs ys 2) by simpa [sz2,up2] using ho');have NB:=zh (HB.out.grown hgr hsz (fun j hj=>(HBL.out j hj).1));clear ho' hgr HO1 HB kk;go_wp2;go_roundw
     case rel=>exact⟨2,by omega,by go_num,NO,NB⟩
     case measure=>simp[intOf]
    ·have HO1:=zh (show wr.ownsRow wo.heap.size 3 1 u6 (n+m) (xs++ys) from HO.out);clear HO;go_wp2;go_ret;exact⟨_,rfl,HO1.out,HB.out⟩
def ints (p:List Int):List Value:=p.map (.int .i64)
theorem zJb (p:List Int):∀u∈ints p,u.oneCell'=true:=by
 intro u hu;obtain⟨x,_,rfl⟩:=List.mem_map.1 hu;rfl
def zAr (w:World)(A:Option Addr)(p:List Int):Prop:=Reads w w.heap.size 1 A p.length (ints p)
theorem zAr.keep {w w':World}{A:Option Addr}{p:List Int}(h:zAr w A p)(hb:Below w.heap.size w w'):zAr w' A p:=(h.below hb).more hb.size
theorem zJ1 (g h:Nat)(A:Option Addr)(p:List Int)(c:Nat)(i:Int)(w:World)(hb:Blk w g 30 #[.slice A p.length c,.slice (some ⟨h,0,none⟩) 1 1])(hi:Blk w h 3 #[qI i])(hp:zAr w A p)(hn:p.length<=999999):
  Calls Tryz.prog 41 #[.slice (some ⟨g,0,none⟩) 2 2] w fun e w'=>(∃q A' c',q=p++[i]/\e= .returned (.slice A' q.length c')/\q.length<=c'/\c'<=9223372036854775807/\zAr w' A' q/\∀ad,A'=some ad->w.heap.size<=ad.block)/\Below w.heap.size w w':=by
 have hr:Reads w w.heap.size 1 (some ⟨h,0,none⟩) 1 (ints [i]):=⟨rfl,fun _=>⟨⟨h,0,none⟩,rfl,hi.lt,fun j u hj=>by
  cases j with
  |succ j=>simp[ints] at hj
  |zero=>
   simp only[ints,List.map_cons,List.map_nil,List.getElem?_cons_zero,Option.some.injEq] at hj;rw[<-hj];exact hi.cell 0⟩⟩
 refine(zTp g A (some ⟨h,0,none⟩) p.length 1 c 1 (ints p) (ints [i]) w hb hp hr (zJb p) (zJb [i]) (by omega) (by omega)).mono ?_;rintro e w' ⟨v,rfl,ho,hb⟩;refine⟨?_,hb⟩;obtain⟨gv,cap,hv,_,hlt⟩:=ho.form (by omega);obtain⟨_,h2⟩:=ho;rcases h2 with⟨_,h0⟩|⟨gq,cap',cur,e1,hg,hk,hnc,hcm,hs,ht⟩
 ·omega
 ·refine⟨_,some ⟨gq,0,none⟩,cap',rfl,by rw[e1,List.length_append];rfl,by rw[List.length_append];exact hnc,by unfold maxLen at hcm;omega,?_,fun ad ha=>by rw[<-sj ha];exact hg⟩;have hxs:ints p++ints [i]=ints (p++[i]):=by simp[ints]
  rw[hxs] at ht;have hlen:(p++[i]).length=p.length+1:=by simp
  have hown:w'.ownsRow w.heap.size 3 1 (.slice (some ⟨gq,0,none⟩) (p.length+1) cap') (p.length+1) (ints (p++[i])):=⟨by simp[ints],.inr ⟨gq,cap',cur,rfl,hg,hk,hnc,hcm,hs,ht⟩⟩
  unfold zAr;rw[hlen];exact Reads.zH6 hown
def zE6 (ok:Nat->Prop)(w:World)(g:Nat)(e:Int)(p:List Int):Prop:=∃A c,Blk w g 62 #[.slice A p.length c,qI e]/\p.length<=c/\c<=9223372036854775807/\zAr w A p/\ok g/\∀ad,A=some ad->0<p.length->ok ad.block
theorem zE6.keep {ok:Nat->Prop}{w w':World}{g:Nat}{e:Int}{p:List Int}(h:zE6 ok w g e p)(hb:Below w.heap.size w w'):zE6 ok w' g e p:=by
 obtain⟨A,c,h1,h2,h3,h4,h5⟩:=h;exact⟨A,c,jL hb h1,h2,h3,h4.keep hb,h5⟩
theorem zE6.any {ok ok':Nat->Prop}{w:World}{g:Nat}{e:Int}{p:List Int}(h:zE6 ok w g e p)(hl:∀b,b<w.heap.size->ok b->ok' b):zE6 ok' w g e p:=by
 obtain⟨A,c,h1,h2,h3,h4,h5,h6⟩:=h;refine⟨A,c,h1,h2,h3,h4,hl _ h1.lt h5,fun ad ha hp=>hl _ ?_ (h6 ad ha hp)⟩;obtain⟨_,r2⟩:=h4;obtain⟨ad',r3,r4,_⟩:=r2 hp;rw[ha] at r3;rw[sj r3];exact r4
theorem zE6.grown {ok:Nat->Prop}{w w':World}{g:Nat}{e:Int}{p:List Int}{q:Nat}(h:zE6 ok w g e p)(hg:w.grownBy w' (some q))(hq:¬ok q):zE6 ok w' g e p:=by
 obtain⟨A,c,h1,h2,h3,h4,h5,h6⟩:=h;refine⟨A,c,h1.grown hg (fun e=>hq (by rw[<-sj e];exact h5)),h2,h3,?_,h5,h6⟩;obtain⟨r1,r2⟩:=h4;refine⟨r1,fun hn=>?_⟩;obtain⟨ad,r3,r4,r5⟩:=r2 hn;refine⟨ad,r3,ll r4 hg.size,fun j u hj=>?_⟩;rw[<-r5 j u hj];refine World.cell?_of_block (hg.block _ (by rw[zA2];exact r4) fun e=>?_);have e9:=sj e;rw[zA2] at e9;exact hq (by rw[<-e9];exact h6 ad r3 hn)
theorem zHm (A:Option Addr)(p:List Int)(c:Nat)(i e:Int)(w:World)(hp:zAr w A p)(hn:p.length<=999999):
  Calls Tryz.prog 39 #[.slice A p.length c,qI i,qI e] w fun en w'=>∃g,en= .returned (qP g)/\zE6 (fun b=>w.heap.size<=b) w' g e (p++[i])/\Below w.heap.size w w':=by
 have s1:(w.alloc (.cells #[qI i] 3)).heap.size=w.heap.size+1:=by simp
 have b1:=zA0 w (.cells #[qI i] 3);have b2:=zA0 (w.alloc (.cells #[qI i] 3)) (.cells #[.slice A p.length c,.slice (some ⟨w.heap.size,0,none⟩) 1 1] 30);have K1:=zh (keep b2 (Blk.new w 3 #[qI i]));have K2:=zh (Blk.new (w.alloc (.cells #[qI i] 3)) 30 #[.slice A p.length c,.slice (some ⟨w.heap.size,0,none⟩) 1 1]);rw[s1] at K2;have HP:=zh ((hp.keep b1).keep b2);have HB:=zh (b1.trans (b2.mono b1.size));clear hp b1 b2 s1;go_enter Tryz.func39,Tryz.ntmps39;go_wp2_with fail;refine(zJ1 (w.heap.size+1) w.heap.size A p c i _ K2.out K1.out HP.out hn).mono ?_;rintro en w2 ⟨⟨q,A',c',hq,rfl,hc1,hc2,hpa,hlo⟩,hb⟩;have HQ:=zh hq;clear hq;have HLO:=zh hlo;have HSZ:=zh HB.out.size;replace HB:=jt HB hb;have b3:=zA0 w2 (.cells #[.slice A' q.length c',qI e] 62);have K3:=zh (Blk.new w2 62 #[.slice A' q.length c',qI e]);have HP2:=zh (hpa.keep b3);replace HB:=jt HB b3;have HW:=zh (show w.heap.size<=w2.heap.size from Nat.le_trans HSZ.out hb.size);clear hpa hb b3 hlo;go_wp2;go_ret;rw[<-HQ.out];exact⟨w2.heap.size,rfl,⟨A',c',K3.out,hc1,hc2,HP2.out,HW.out,fun ad ha _=>Nat.le_trans HSZ.out (HLO.out ad ha)⟩,HB.out⟩
end El
namespace Ch
open Go.RowKit
variable{rs:List Rul}{ts:List ByteArray}
def zCv (rs:List Rul)(ts:List ByteArray):List Rd:=if zAd rs&&zD5 ts then(allR rs ts 0 ts.length).take 2 else[]
def okI (rs:List Rul)(ts:List ByteArray):Int:=if zAd rs&&zD5 ts then 0 else 1
theorem zSz (hv:zAd rs=true)(ht:zD5 ts=true):zCv rs ts=zCj rs ts 0 ts.length 0:=by
 unfold zCv zCj;rw[hv,ht,Bool.and_self,if_pos rfl]
 congr 1
 unfold zA5;rw[List.filter_eq_self.2 fun x hx=>decide_eq_true (zPf hv hx).1]
theorem yA0 {rs:List Rul}{ts:List ByteArray}:(zCv rs ts).length<=2:=by
 unfold zCv
 split
 ·rw[List.length_take];omega
 ·simp
theorem zRt (h:(zAd rs&&zD5 ts)=false):zCv rs ts=[]/\okI rs ts=1:=by
 unfold zCv okI;rw[h];exact⟨rfl,rfl⟩
theorem yB4 (h:(zAd rs&&zD5 ts)=true):okI rs ts=0:=by
 unfold okI;rw[h];rfl
theorem zZx :zCv rs []=[]:=by
 unfold zCv
 split
 ·rw[show allR rs [] 0 ([]:List ByteArray).length=[] by unfold allR;rfl];rfl
 ·rfl
theorem yCg {w:World}{B:Nat}{e:TypeId}{size:Nat}{v:Value}{n:Nat}{xs:List Value}(h:w.ownsRow B e size v n xs):∀b,v.ownBlock=some b->∃cs,Blk w b e cs:=fun b hb=>by
 rcases h.2 with⟨rfl,_⟩|⟨g,cap,cur,rfl,_,hk,_⟩
 ·cases hb
 ·obtain rfl:g=b:=sj hb;exact⟨cur,hk⟩
theorem zF0.grown {w w':World}{row:Option Nat}{A:Option Addr}{bs:List Nat}(h:zF0 w A bs)(hg:w.grownBy w' row)(hr:∀b,row=some b->∃t cs,Blk w b t cs/\t≠115):zF0 w' A bs:=fun j b hj=>by
 obtain⟨g,h1,⟨cs,h2⟩,h3⟩:=h j b hj;have hk:=h2.grown hg fun e=>by
  obtain⟨t,cs',h4,h5⟩:=hr g e.symm;exact h5 (zD6 h4 h2)
 exact⟨g,h1,⟨cs,hk⟩,by rw[hk.cell,<-h2.cell];exact h3⟩
theorem Shs.grown {rs:List Rul}{w w':World}{row:Option Nat}{bs:List Nat}{xs:List Rd}(h:Shs rs w bs xs)(hg:w.grownBy w' row)(hr:∀b,row=some b->∃t cs,Blk w b t cs/\t≠149):Shs rs w' bs xs:=⟨h.1,fun j b x h1 h2=>(h.2 j b x h1 h2).grown hg hr⟩
def zZ3 (rs:List Rul)(ts:List ByteArray)(w:World)(e:Ending)(w':World):Prop:=∃A cap,e= .returned (.tuple #[.slice A (zCv rs ts).length cap,.bool (((zCv rs ts).length:Int)==2),qI (okI rs ts)])/\(zCv rs ts).length<=cap/\cap<=9223372036854775807/\zAp (fun b=>w.heap.size<=b) w' A (zCv rs ts)/\Below w.heap.size w w'
theorem zAp.nil (ok:Nat->Prop)(w:World)(A:Option Addr):zAp ok w A []:=fun i x h=>by simp at h
theorem zQq (A T:Option Addr)(cap cT:Nat)(rs:List Rul)(ts:List ByteArray)(w:World)(hR:zAc w A rs)(hT:zBp w T ts)(hc:rs.length<=cap)(hcap:cap<=9223372036854775807):Calls Tryz.prog 24 #[.slice A rs.length cap,.slice T ts.length cT] w (zZ3 rs ts w):=by
 obtain⟨i0,hi,hz0,hz1,hz2⟩:=info_parts zEe;have HR:=zh hR;have HT:=zh hT;have HL:=zh (@yA0 rs ts);clear hR hT;go_enter Tryz.func24,Tryz.ntmps24;go_wp2_with fail;refine(zCo A cap rs _ HR.out hc hcap).mono ?_;rintro e w1 ⟨rfl,hb⟩;have HT:=zh (HT.out.keep hb);have HR:=zh (HR.out.keep hb);have HB:=zh hb;clear hb;cases hv:zAd rs
 ·obtain⟨e1,e2⟩:=zRt (rs:=rs) (ts:=ts) (by rw[hv];rfl);have E1:=zh e1;have E2:=zh e2;clear e1 e2 hv;go_wp2_with fail
  go_returns
  unfold zZ3;rw[E1.out,E2.out];exact⟨none,0,rfl,by simp,by omega,zAp.nil _ _ _,HB.out⟩
 ·have HV:=zh hv;clear hv;go_wp2_with fail;refine(zI6 T cT ts _ HT.out).mono ?_;rintro e w2 ⟨rfl,hb⟩;have HT:=zh (HT.out.keep hb);have HR:=zh (HR.out.keep hb);have HB:=jt HB hb;clear hb;cases hv:zD5 ts
  ·obtain⟨e1,e2⟩:=zRt (rs:=rs) (ts:=ts) (by rw[hv,Bool.and_false]);have E1:=zh e1;have E2:=zh e2;clear e1 e2 hv;go_wp2_with fail
   go_returns
   unfold zZ3;rw[E1.out,E2.out];exact⟨none,0,rfl,by simp,by omega,zAp.nil _ _ _,HB.out⟩
  ·have HW:=zh hv;have E2:=zh (yB4 (rs:=rs) (ts:=ts) (by rw[HV.out,hv];rfl));clear hv
   by_cases h0:ts=[]
   ·subst h0;go_wp2_with fail
    go_returns
    unfold zZ3;rw[zZx,E2.out];exact⟨none,0,rfl,by simp,by omega,zAp.nil _ _ _,HB.out⟩
   ·have h1:0<ts.length:=List.length_pos_iff.2 h0;have h200:ts.length<=200:=by have:=HW.out;unfold zD5 at this;rw[Bool.and_eq_true] at this;exact of_decide_eq_true this.1
    have h64:rs.length<=64:=by have:=HV.out;unfold zAd at this;rw[Bool.and_eq_true] at this;exact of_decide_eq_true this.1
    clear h0;go_wp2_with fail;refine(zNo A T cap cT rs ts _ HV.out HR.out HT.out (by omega) (by omega)).mono ?_;rintro e w3 ⟨g,F,gc,rows,rfl,hTab,hb⟩;have HTab:=zh hTab;have HB:=jt HB hb;clear HR HT hb hTab;go_wp2_with fail;have HTab:=HTab;refine(zHe g F rs ts gc rows _ 0 ts.length 0 _ HTab.out h1 (Nat.le_refl _) (by simp[h1]) (by omega)).mono ?_;rintro e w4 ⟨v,bs,rfl,hO,hS,hb⟩;rw[<-zSz HV.out HW.out] at hS;obtain⟨A5,cap5,rfl,hlc,hcc,hP⟩:=hO.form;have HP:=zh hP;have HS:=zh hS;have HB:=jt HB hb;have hbl:bs.length=(zCv rs ts).length:=hS.1;clear hO hP hS hb HTab;go_wp2_with fail
    go_loopw [4,29] (fun v i wr=>∃k:Nat,k<=(zCv rs ts).length/\i=qI k/\Hid (AppR (fun b=>w.heap.size<=b) wr w.heap.size v ((zCv rs ts).take k))/\Hid (zF0 wr A5 bs)/\Hid (Shs rs wr bs (zCv rs ts))/\Hid (Below w.heap.size w wr)) (fun _ i _=>(zCv rs ts).length -(intOf i).toNat)
    case atStart=>exact⟨0,by omega,rfl,by rw[List.take_zero];exact AppR.nil (fun b=>w.heap.size<=b) _ _,HP,HS,HB⟩
    case round=>
     clear HP HS HB;obtain⟨k,hk,rfl,HO,HP,HS,HB⟩:=hrel
     by_cases hlt:k<(zCv rs ts).length
     ·obtain⟨x,hx⟩:∃x,(zCv rs ts)[k]?=some x:=⟨_,gE hlt⟩
      obtain⟨b',hb'⟩:∃b,bs[k]?=some b:=⟨_,gE (by omega)⟩
      obtain⟨g5,rfl,⟨cs5,h5⟩,c0⟩:=HP.out k b' hb';have HX:=zh (HS.out.2 k b' x hb' hx);have HTK:=zh (show(zCv rs ts).take (k+1)=(zCv rs ts).take k++[x] by rw[List.take_add_one,hx];rfl);clear hx hb' h5;go_wp2_with fail;clear c0;refine(zSh rs (zB4 x) b' x _ (Nat.le_refl _) HX.out).mono ?_;rintro e w6 ⟨c,rfl,hc6,hb6⟩;have HP:=zh (HP.out.keep hb6);have HS:=zh (HS.out.keep hb6);have HC:=zh (hc6.any (ok':=fun b=>u4.ownBlock≠some b/\w.heap.size<=b) fun b _ h=>⟨fun h'=>by
       have:=(HO.out.lt b h').2;omega,by have:=HB.out.size;omega⟩)
      have HO:=zh (HO.out.keep hb6);have HB:=jt HB hb6;clear hc6 hb6 HX;obtain⟨A8,c8,rfl,_⟩:=HC.out.form;have hba:=zA0 w6 (.cells (rdC x.rule x.at_ A8 x.kids.length c8) 42);have K6:=zh (Blk.new w6 42 (rdC x.rule x.at_ A8 x.kids.length c8));have HP:=zh (HP.out.keep hba);have HS:=zh (HS.out.keep hba);have HC:=zh (HC.out.keep hba);obtain⟨css,ho,hl,hr⟩:=HO.out.keep hba;have HO:=zh (HO.out.keep hba);have HB:=jt HB hba;have hxl:(List.take k (zCv rs ts)).length<=2:=by rw[List.length_take];have:=HL.out;omega
      clear hba;go_wp2_with (at_builtin;refine zA9 _ rfl (.tmp 33) (.tmp 36) 29 rfl w.heap.size 42 i0 (.agg #[qI 0,qI 0,qN]) 3 40 Tryz.underlying29 hi hz0 hz1 hz2 rfl (by decide) _ _ _ rfl ho (w6.heap.size+1) (some ⟨w6.heap.size,0,none⟩) 1 1 (rdC x.rule x.at_ A8 x.kids.length c8).toList rfl (by have:=zBb K6.out rfl;rw[World.size_alloc] at this;exact this) (zH1 HC.out) (by unfold maxLen;omega) (by omega) HB.out.size ?_;intro v' w' g2 g3 g4)
      have hrow:∀b,u4.ownBlock=some b->∃t cs,Blk _ b t cs/\t≠149/\t≠115:=fun b hb=>by
       obtain⟨cs,h⟩:=yCg ho b hb;exact⟨_,cs,h,by decide,by decide⟩
      have HP:=zh (HP.out.grown g3 fun b hb=>by obtain⟨t,cs,h,_,h2⟩:=hrow b hb;exact⟨t,cs,h,h2⟩);have HS:=zh (HS.out.grown g3 fun b hb=>by obtain⟨t,cs,h,h1,_⟩:=hrow b hb;exact⟨t,cs,h,h1⟩);have HO:=zh (AppR.push hl hr HC.out g2 g3 g4);rw[<-HTK.out] at HO;have HB:=zh (HB.out.grown g3 HB.out.size fun b hb=>(World.ownsRow.lt ho b hb).1);clear ho hl hr g2 g3 g4 hrow;go_wp2;go_roundw
      case rel=>exact⟨k+1,by omega,by go_num,HO,HP,HS,HB⟩
      case measure=>simp[intOf];omega
     ·obtain rfl:k=(zCv rs ts).length:=by omega
      rw[List.take_of_length_le (Nat.le_refl _)] at HO;obtain⟨A8,cap8,rfl,hl8,hc8,hR8⟩:=HO.out.form (fun b h=>h);have HR8:=zh hR8;clear hR8;go_wp2_with fail
      go_returns
      exact⟨A8,cap8,by rw[E2.out];rfl,hl8,hc8,HR8.out,HB.out⟩
theorem zAp.at_ {ok:Nat->Prop}{w:World}{A:Option Addr}{ks:List Rd}(h:zAp ok w A ks){k:Nat}{x:Rd}(hk:ks[k]?=some x):
  ∃ad A' cap',A=some ad/\ad.block<w.heap.size/\RdAt ok w x (rdC x.rule x.at_ A' x.kids.length cap')/\x.kids.length<=cap'/\cap'<=9223372036854775807/\zAp ok w A' x.kids/\w.cell? (ad.add (k*3))=some (qI x.rule)/\w.cell? ⟨(ad.add (k*3)).block,(ad.add (k*3)).off+1,none⟩=some (qI x.at_)/\w.cell? ⟨(ad.add (k*3)).block,(ad.add (k*3)).off+2,none⟩=some (.slice A' x.kids.length cap'):=by
 obtain⟨ad,hA,hlt,_,c,hc,hd⟩:=h k x hk;obtain⟨A',cap',rfl,h1,h2,h3⟩:=hc.form;exact⟨ad,A',cap',hA,hlt,hc,h1,h2,h3,hd 0 (by omega),zF9 (j:=0) (hd 1 (by omega)),zF9 (j:=1) (hd 2 (by omega))⟩
end Ch
namespace El
open At Ch Sp Sy Go.RowKit
variable{w:World}{x y z:Rd}{rs:List Rul}{n i k j:Nat}{u:Rul}
abbrev zF7 (w:World)(B:Nat)(v:Value)(p:List Int):Prop:=w.ownsRow B 3 1 v p.length (ints p)
theorem zMg (w:World)(p:List Int)(hp:p.length<=1000000):zF7 (w.alloc (.cells (ints p).toArray 3)) w.heap.size (.slice (some ⟨w.heap.size,0,none⟩) p.length p.length) p:=
 ⟨by simp[ints],.inr ⟨w.heap.size,p.length,(ints p).toArray,rfl,Nat.le_refl _,Blk.new w _ _,Nat.le_refl _,by unfold maxLen;omega,by simp[ints],by rw[List.take_of_length_le (by simp[ints])]⟩⟩
theorem zJ6 {B B':Nat}{v:Value}{p:List Int}(h:B<=B')(ho:zF7 w B' v p):zF7 w B v p:=by
 obtain⟨h1,h2⟩:=ho;refine⟨h1,?_⟩;rcases h2 with h2|⟨g,cap,cur,e1,e2,e3⟩
 ·exact .inl h2
 ·exact .inr ⟨g,cap,cur,e1,Nat.le_trans h e2,e3⟩
theorem zU5 {ok:Nat->Prop}{A:Option Addr}{ks:List Rd}(h:zAp ok w A ks)(hx:ks[1]?=some x):∃ad:Addr,A=some ad/\w.cell? ⟨ad.block,ad.off+3+1,none⟩=some (qI x.at_):=by
 obtain⟨ad,A3,cap3,h1,_,_,_,_,_,_,h4,_⟩:=zAp.at_ h hx;refine⟨ad,h1,?_⟩;have e:ad.add (1*3)=⟨ad.block,ad.off+3,none⟩:=by unfold Addr.add;simp
 rw[e] at h4;exact h4
def CutP (rs:List Rul)(x:Rd)(fin:Int)(w:World)(e:Ending)(w':World):Prop:=∃v,e= .returned (.tuple #[qI (opI rs x fin),v])/\zF7 w' w.heap.size v (zAy rs x fin)/\Below w.heap.size w w'
theorem zX7 (ok:Nat->Prop)(g:Nat)(A:Option Addr)(cap:Nat)(rs:List Rul)(x:Rd)(c:Array Value)(fin:Int)(r:Nat)(u:Rul)(w:World)(hR:zGv w g A cap rs)(hX:RdAt ok w x c)(hr:x.rule=(r:Int))(hu:rs[r]?=some u)
  (hk:(u.kind≠2/\u.kind≠3)->∃a b ks,x.kids=a::b::ks/\1<=b.at_/\b.at_<=1000000) (hf:1<=fin) (hf2:fin<=1000000):
  Calls Tryz.prog 76 #[qP g,.agg c,qI fin] w (CutP rs x fin w):=by
 obtain⟨A2,cap2,rfl,hl,hc,hks⟩:=hX.form;obtain⟨b,nb,D,hbx,hmp,hse⟩:=hR.box;obtain⟨hfit,ad,rfl,hadl,c0,c1,c2,c3,c4,c5⟩:=hR.rul.at_ hu;have hrl:r<rs.length:=(List.getElem?_eq_some_iff.1 hu).1;have hkd:kndR rs x.rule=u.kind:=by unfold kndR;rw[hr,Int.toNat_natCast,hu]
 have hb0:=zA0 w (.cells (rdC x.rule x.at_ A2 x.kids.length cap2) 42);have HB:=zh hb0;have K1:=zh (Blk.new w 42 (rdC x.rule x.at_ A2 x.kids.length cap2));have HBX:=zh (keep hb0 hbx);have hcell:=hb0.cell (p:=ad.add (r*6)) (by rw[zA2];exact hadl);rw[c0] at hcell;have HC:=zh hcell;have HKS:=zh (hks.keep hb0);have HK:=zh hk;have HKD:=zh hkd;clear hR hX hks hbx hmp hse hfit c0 c1 c2 c3 c4 c5 hcell hk hkd hb0;rw[hr] at K1 HB HBX HC HKS;go_enter Tryz.func76,Tryz.ntmps76;rw[hr];go_upto_region 1 with(fail)
 generalize w.alloc (.cells (rdC (r:Int) x.at_ A2 x.kids.length cap2) 42)=w1 at*;have k0:=K1.out.cell 0;have b0:=HBX.out.cell 0;have hc0:=HC.out
 go_quiet (fail)
 have k1:=K1.out.cell 1;have k2:=K1.out.cell 2
 by_cases h1:u.kind=1
 ·obtain⟨xa,xb,xs,hxk,hb1,hb2⟩:=HK.out (by omega);obtain⟨ad2,rfl,d1⟩:∃ad2:Addr,A2=some ad2/\w1.cell? ⟨ad2.block,ad2.off+3+1,none⟩=some (qI xb.at_):=zU5 HKS.out (by rw[hxk];rfl);have HQ:=zh (show opI rs x fin=xb.at_ -1/\zAy rs x fin=[xb.at_ -1,fin] by
   unfold opI zAy zHi;rw[HKD.out,if_pos h1,if_pos h1,hxk];exact⟨rfl,rfl⟩)
  have q:(u.kind==1)=true:=beq_iff_eq.2 h1;have W1:wrap64 (xb.at_ -1)=xb.at_ -1:=by unfold wrap64;omega
  have hpos:(1:Int)<(x.kids.length:Int):=by rw[hxk,List.length_cons,List.length_cons];omega
  clear h1 hxk;go_wp2;exact bodyPost_ret (v:=.tuple #[qI (xb.at_ -1),.slice (some ⟨w1.heap.size,0,none⟩) 2 2]) (by simp[results,Tryz.results76,go_sem]) rfl ⟨_,by rw[HQ.out.1],by rw[HQ.out.2];exact zJ6 HB.out.size (zMg (w1.drewN nq) [xb.at_ -1,fin] (by simp)),HB.out.trans (((below_drewN (Below.refl w1.heap.size w1) nq).trans (zA0 (w1.drewN nq) _)).mono HB.out.size)⟩
 have q1:(u.kind==1)=false:=bn h1
 by_cases h2:u.kind=2
 ·have HQ:=zh (show opI rs x fin=x.at_/\zAy rs x fin=[fin] by
   unfold opI zAy;rw[HKD.out,if_neg h1,if_neg h1,if_pos h2,if_pos h2];exact⟨rfl,rfl⟩)
  have q2:(u.kind==2)=true:=beq_iff_eq.2 h2;clear h1 h2;go_wp2;exact bodyPost_ret (v:=.tuple #[qI (x.at_),.slice (some ⟨w1.heap.size,0,none⟩) 1 1]) (by simp[results,Tryz.results76,go_sem]) rfl ⟨_,by rw[HQ.out.1],by rw[HQ.out.2];exact zJ6 HB.out.size (zMg (w1.drewN nq) [fin] (by simp)),HB.out.trans (((below_drewN (Below.refl w1.heap.size w1) nq).trans (zA0 (w1.drewN nq) _)).mono HB.out.size)⟩
 have q2:(u.kind==2)=false:=bn h2
 by_cases h3:u.kind=3
 ·have HQ:=zh (show opI rs x fin=fin -1/\zAy rs x fin=[fin -1] by
   unfold opI zAy;rw[HKD.out,if_neg h1,if_neg h1,if_neg h2,if_neg h2,if_pos h3,if_pos h3];exact⟨rfl,rfl⟩)
  have q3:(u.kind==3)=true:=beq_iff_eq.2 h3;have W1:wrap64 (fin -1)=fin -1:=by unfold wrap64;omega
  clear h1 h2 h3;go_wp2;exact bodyPost_ret (v:=.tuple #[qI (fin -1),.slice (some ⟨w1.heap.size,0,none⟩) 1 1]) (by simp[results,Tryz.results76,go_sem]) rfl ⟨_,by rw[HQ.out.1],by rw[HQ.out.2];exact zJ6 HB.out.size (zMg (w1.drewN nq) [fin -1] (by simp)),HB.out.trans (((below_drewN (Below.refl w1.heap.size w1) nq).trans (zA0 (w1.drewN nq) _)).mono HB.out.size)⟩
 have q3:(u.kind==3)=false:=bn h3;obtain⟨xa,xb,xs,hxk,hb1,hb2⟩:=HK.out ⟨h2,h3⟩;obtain⟨ad2,rfl,d1⟩:∃ad2:Addr,A2=some ad2/\w1.cell? ⟨ad2.block,ad2.off+3+1,none⟩=some (qI xb.at_):=zU5 HKS.out (by rw[hxk];rfl);have HQ:=zh (show opI rs x fin= -1/\zAy rs x fin=[xb.at_,fin] by
  unfold opI zAy zHi;rw[HKD.out,if_neg h1,if_neg h1,if_neg h2,if_neg h2,if_neg h3,if_neg h3,hxk];exact⟨rfl,rfl⟩)
 have hpos:(1:Int)<(x.kids.length:Int):=by rw[hxk,List.length_cons,List.length_cons];omega
 clear h1 h2 h3 hxk;go_upto_region 9 with(fail)
 go_region;go_wp2;exact bodyPost_ret (v:=.tuple #[qI (-1),.slice (some ⟨w1.heap.size,0,none⟩) 2 2]) (by simp[results,Tryz.results76,go_sem]) rfl ⟨_,by rw[HQ.out.1],by rw[HQ.out.2];exact zJ6 HB.out.size (zMg (w1.drewN (nq+1)) [xb.at_,fin] (by simp)),HB.out.trans (((below_drewN (Below.refl w1.heap.size w1) (nq+1)).trans (zA0 (w1.drewN (nq+1)) _)).mono HB.out.size)⟩
inductive OkR (rs:List Rul):Rd->Nat->Nat->Prop
 |leaf (i:Nat):OkR rs (.mk (-1) i []) i (i+1)
 |inf (n:Nat) (u:Rul) (i k j:Nat) (y z:Rd) (hu:rs[n]?=some u) (hk:u.kind=1) (h1:i<k) (h2:k+1<j) (hz:z.at_=((k+1:Nat):Int)) (a:OkR rs y i k) (b:OkR rs z (k+1) j):OkR rs (.mk n i [y,z]) i j
 |pre (n:Nat) (u:Rul) (i j:Nat) (y:Rd) (hu:rs[n]?=some u) (hk:u.kind=2) (h1:i+1<j) (a:OkR rs y (i+1) j):OkR rs (.mk n i [y]) i j
 |pos (n:Nat) (u:Rul) (i j:Nat) (y:Rd) (hu:rs[n]?=some u) (hk:u.kind=3) (h1:i<j -1) (a:OkR rs y i (j -1)):OkR rs (.mk n i [y]) i j
 |jux (n:Nat) (u:Rul) (i k j:Nat) (y z:Rd) (hu:rs[n]?=some u) (hk:u.kind=4) (h1:i<k) (h2:k<j) (hz:z.at_=(k:Int)) (a:OkR rs y i k) (b:OkR rs z k j):OkR rs (.mk n i [y,z]) i j
theorem zC5 {rs:List Rul}{ts:List ByteArray}:∀(m i j:Nat) (x:Rd),j -i<=m->x∈allR rs ts i j->OkR rs x i j
 |0,i,j,x,hm,h=>by have:=zD9 h;omega
 |m+1,i,j,x,hm,h=>by
  have hij:=zD9 h;rcases(zDp hij).1 h with⟨rfl,_,rfl⟩|⟨n,u,hu,hr⟩
  ·exact .leaf i
  ·rcases hr with⟨hk,k,y,z,h1,h2,_,hy,hz,rfl⟩|⟨hk,y,_,hy,rfl⟩|⟨hk,y,_,hy,rfl⟩|⟨hk,k,y,z,h1,h2,hy,hz,rfl⟩
   ·exact .inf n u i k j y z hu hk h1 h2 (zAi hz).1 (zC5 m i k y (by omega) (zAe.1 hy).1) (zC5 m (k+1) j z (by omega) (zAe.1 hz).1)
   ·exact .pre n u i j y hu hk (zAi hy).2 (zC5 m (i+1) j y (by omega) (zAe.1 hy).1)
   ·exact .pos n u i j y hu hk (zAi hy).2 (zC5 m i (j -1) y (by omega) (zAe.1 hy).1)
   ·exact .jux n u i k j y z hu hk h1 h2 (zAi hz).1 (zC5 m i k y (by omega) (zAe.1 hy).1) (zC5 m k j z (by omega) (zAe.1 hz).1)
theorem zBl (hu:rs[n]?=some u):kndR rs (n:Int)=u.kind:=by
 unfold kndR;rw[Int.toNat_natCast,hu]
theorem zK7 (rs:List Rul)(r a:Int)(ks:List Rd)(fin:Int):asgR rs (.mk r a ks) fin=if r<0 then[] else(if 0<=opI rs (.mk r a ks) fin then[(opI rs (.mk r a ks) fin,r)] else[])++asgL rs ks (zAy rs (.mk r a ks) fin):=by
 rw[asgR]
theorem zMi (rs:List Rul)(i:Nat)(fin:Int):asgR rs (.mk (-1) i []) fin=[]:=by
 rw[zK7];rfl
theorem zJh (hu:rs[n]?=some u)(hk:u.kind=1)(hz:z.at_=((k+1:Nat):Int)):
  asgR rs (.mk n i [y,z]) (j:Int)=((k:Int),(n:Int))::(asgR rs y (k:Int)++asgR rs z (j:Int)):=by
 have ho:opI rs (.mk n i [y,z]) (j:Int)=(k:Int):=by
  unfold opI zHi;rw[show Rd.rule (.mk n i [y,z])=(n:Int) from rfl,zBl hu,if_pos hk];show z.at_ -1=_;rw[hz];omega
 have he:zAy rs (.mk n i [y,z]) (j:Int)=[(k:Int),(j:Int)]:=by
  unfold zAy zHi;rw[show Rd.rule (.mk n i [y,z])=(n:Int) from rfl,zBl hu,if_pos hk];show[z.at_ -1,_]=_;rw[hz,show(((k+1:Nat):Int) -1)=(k:Int) by omega]
 rw[zK7,ho,he,if_neg (by omega),if_pos (by omega)];simp[asgL]
theorem zKh (hu:rs[n]?=some u)(hk:u.kind=2):
  asgR rs (.mk n i [y]) (j:Int)=((i:Int),(n:Int))::asgR rs y (j:Int):=by
 have h1:¬u.kind=1:=by omega
 have ho:opI rs (.mk n i [y]) (j:Int)=(i:Int):=by
  unfold opI;rw[show Rd.rule (.mk n i [y])=(n:Int) from rfl,zBl hu,if_neg h1,if_pos hk];rfl
 have he:zAy rs (.mk n i [y]) (j:Int)=[(j:Int)]:=by
  unfold zAy;rw[show Rd.rule (.mk n i [y])=(n:Int) from rfl,zBl hu,if_neg h1,if_pos hk]
 rw[zK7,ho,he,if_neg (by omega),if_pos (by omega)];simp[asgL]
theorem zJk (hu:rs[n]?=some u)(hk:u.kind=3)(hj:0<j):
  asgR rs (.mk n i [y]) (j:Int)=(((j -1:Nat):Int),(n:Int))::asgR rs y ((j -1:Nat):Int):=by
 have h1:¬u.kind=1:=by omega
 have h2:¬u.kind=2:=by omega
 have hj1:(j:Int) -1=((j -1:Nat):Int):=by omega
 have ho:opI rs (.mk n i [y]) (j:Int)=((j -1:Nat):Int):=by
  unfold opI;rw[show Rd.rule (.mk n i [y])=(n:Int) from rfl,zBl hu,if_neg h1,if_neg h2,if_pos hk,hj1]
 have he:zAy rs (.mk n i [y]) (j:Int)=[((j -1:Nat):Int)]:=by
  unfold zAy;rw[show Rd.rule (.mk n i [y])=(n:Int) from rfl,zBl hu,if_neg h1,if_neg h2,if_pos hk,hj1]
 rw[zK7,ho,he,if_neg (by omega),if_pos (by omega)];simp[asgL]
theorem zJf (hu:rs[n]?=some u)(hk:u.kind=4)(hz:z.at_=(k:Int)):
  asgR rs (.mk n i [y,z]) (j:Int)=asgR rs y (k:Int)++asgR rs z (j:Int):=by
 have h1:¬u.kind=1:=by omega
 have h2:¬u.kind=2:=by omega
 have h3:¬u.kind=3:=by omega
 have ho:opI rs (.mk n i [y,z]) (j:Int)= -1:=by
  unfold opI;rw[show Rd.rule (.mk n i [y,z])=(n:Int) from rfl,zBl hu,if_neg h1,if_neg h2,if_neg h3]
 have he:zAy rs (.mk n i [y,z]) (j:Int)=[(k:Int),(j:Int)]:=by
  unfold zAy zHi;rw[show Rd.rule (.mk n i [y,z])=(n:Int) from rfl,zBl hu,if_neg h1,if_neg h2,if_neg h3];show[z.at_,_]=_;rw[hz]
 rw[zK7,ho,he,if_neg (by omega),if_neg (by omega)];simp[asgL]
theorem zSu (h:OkR rs x i j):i<j:=by
 cases h<;>omega
theorem zEj (h:OkR rs x i j):∀p∈asgR rs x (j:Int),∃q n:Nat,p=((q:Int),(n:Int))/\i<=q/\q<j/\n<rs.length:=by
 induction h with
 |leaf i=>rw[zMi];intro p hp;cases hp
 |inf n u i k j y z hu hk h1 h2 hz a b ha hb=>
  rw[zJh hu hk hz];intro p hp;rcases List.mem_cons.1 hp with rfl|hp
  ·exact⟨k,n,rfl,by omega,by omega,(List.getElem?_eq_some_iff.1 hu).1⟩
  ·rcases List.mem_append.1 hp with hp|hp
   ·obtain⟨q,m,e,h3,h4,h5⟩:=ha p hp;exact⟨q,m,e,h3,by omega,h5⟩
   ·obtain⟨q,m,e,h3,h4,h5⟩:=hb p hp;exact⟨q,m,e,by omega,h4,h5⟩
 |pre n u i j y hu hk h1 a ha=>
  rw[zKh hu hk];intro p hp;rcases List.mem_cons.1 hp with rfl|hp
  ·exact⟨i,n,rfl,by omega,by omega,(List.getElem?_eq_some_iff.1 hu).1⟩
  ·obtain⟨q,m,e,h3,h4,h5⟩:=ha p hp;exact⟨q,m,e,by omega,h4,h5⟩
 |pos n u i j y hu hk h1 a ha=>
  rw[zJk hu hk (by omega)];intro p hp;rcases List.mem_cons.1 hp with rfl|hp
  ·exact⟨j -1,n,rfl,by omega,by omega,(List.getElem?_eq_some_iff.1 hu).1⟩
  ·obtain⟨q,m,e,h3,h4,h5⟩:=ha p hp;exact⟨q,m,e,h3,by omega,h5⟩
 |jux n u i k j y z hu hk h1 h2 hz a b ha hb=>
  rw[zJf hu hk hz];intro p hp;rcases List.mem_append.1 hp with hp|hp
  ·obtain⟨q,m,e,h3,h4,h5⟩:=ha p hp;exact⟨q,m,e,h3,by omega,h5⟩
  ·obtain⟨q,m,e,h3,h4,h5⟩:=hb p hp;exact⟨q,m,e,by omega,h4,h5⟩
theorem zWu (h:OkR rs x i j):((asgR rs x (j:Int)).map Prod.fst).Nodup:=by
 have key:∀{x:Rd} {i j:Nat},OkR rs x i j->∀a:Nat,(a:Int)∈(asgR rs x (j:Int)).map Prod.fst->i<=a/\a<j:=by
  intro x i j h a ha;obtain⟨p,hp,e⟩:=List.mem_map.1 ha;obtain⟨q,m,rfl,h3,h4,_⟩:=zEj h p hp;have:(q:Int)=(a:Int):=e;omega
 have disj:∀{y z:Rd} {i k l j:Nat},OkR rs y i k->OkR rs z l j->k<=l->∀a∈(asgR rs y (k:Int)).map Prod.fst,∀b∈(asgR rs z (j:Int)).map Prod.fst,a≠b:=by
  intro y z i k l j hy hz hkl a ha b hb e;subst e;obtain⟨p,hp,e⟩:=List.mem_map.1 ha;obtain⟨q,m,rfl,h3,h4,_⟩:=zEj hy p hp;subst e;have:=key hz q hb;omega
 induction h with
 |leaf i=>rw[zMi];exact List.nodup_nil
 |inf n u i k j y z hu hk h1 h2 hz a b ha hb=>
  rw[zJh hu hk hz,List.map_cons,List.map_append,List.nodup_cons,List.nodup_append];refine⟨fun hm=>?_,ha,hb,disj a b (by omega)⟩;rcases List.mem_append.1 hm with hm|hm
  ·have:=key a k hm;omega
  ·have:=key b k hm;omega
 |pre n u i j y hu hk h1 a ha=>
  rw[zKh hu hk,List.map_cons,List.nodup_cons];exact⟨fun hm=>by have:=key a i hm;omega,ha⟩
 |pos n u i j y hu hk h1 a ha=>
  rw[zJk hu hk (by omega),List.map_cons,List.nodup_cons];exact⟨fun hm=>by have:=key a (j -1) hm;omega,ha⟩
 |jux n u i k j y z hu hk h1 h2 hz a b ha hb=>
  rw[zJf hu hk hz,List.map_append,List.nodup_append];exact⟨ha,hb,disj a b (by omega)⟩
end El
namespace Sp
open At Go.RowKit
variable{w:World}{t:Trm}{ts:List Trm}{A:Option Addr}{cap:Nat}
abbrev trmC (k:Int)(a v:ByteArray)(A:Option Addr)(n cap:Nat)(f:ByteArray):Array Value:= #[qI k,.string a,.string v,.slice A n cap,.string f]
inductive MAt (w:World):Trm->Array Value->Prop
 |mk (k:Int) (a v f:ByteArray) (ts:List Trm) (A:Option Addr) (cap:Nat) (ad:Addr) (cs:Nat->Array Value) (ha:a.size<=9223372036854775807) (hv:v.size<=9223372036854775807) (hf:f.size<=9223372036854775807) (hn:ts.length<=cap) (hc:cap<=9223372036854775807)
   (hA:ts=[]\/(A=some ad/\ad.block<w.heap.size)) (hcell:∀i,i<ts.length->∀j,j<5->w.cell? (ad.add (i*5+j))=(cs i)[j]?)
   (hk:∀(i:Nat) (h:i<ts.length),MAt w ts[i] (cs i)):MAt w (.mk k a v f ts) (trmC k a v A ts.length cap f)
def zGj (w:World)(A:Option Addr)(ts:List Trm):Prop:=∀(i:Nat) (t:Trm),ts[i]?=some t->∃ad:Addr,A=some ad/\ad.block<w.heap.size/\∃c,MAt w t c/\∀j,j<5->w.cell? (ad.add (i*5+j))=c[j]?
theorem zDo (a:Addr)(n:Nat):(a.add n).block=a.block:=by unfold Addr.add;split<;>rfl
theorem MAt.keep {w':World}(hb:Below w.heap.size w w'){c:Array Value}(h:MAt w t c):MAt w' t c:=by
 induction h with
 |mk k a v f ts A cap ad cs ha hv hf hn hc hA hcell hk ih=>
  refine .mk k a v f ts A cap ad cs ha hv hf hn hc (hA.imp id fun⟨h1,h2⟩=>⟨h1,Nat.lt_of_lt_of_le h2 hb.size⟩) (fun i hi j hj=>?_) ih;rcases hA with h|⟨h1,h2⟩
  ·subst h;simp at hi
  ·rw[hb.cell (by rw[zDo];exact h2)];exact hcell i hi j hj
theorem zGj.keep {w w':World}(hb:Below w.heap.size w w'){A:Option Addr}{ts:List Trm}(h:zGj w A ts):zGj w' A ts:=fun i t hi=>by
 obtain⟨ad,h1,h2,c,h3,h4⟩:=h i t hi;exact⟨ad,h1,Nat.lt_of_lt_of_le h2 hb.size,c,h3.keep hb,fun j hj=>by rw[hb.cell (by rw[zDo];exact h2)];exact h4 j hj⟩
theorem MAt.form {w:World}{t:Trm}{c:Array Value}(h:MAt w t c):∃A cap,c=trmC t.kind t.nam t.vr A t.args.length cap t.form/\t.nam.size<=9223372036854775807/\t.vr.size<=9223372036854775807/\t.form.size<=9223372036854775807/\t.args.length<=cap/\cap<=9223372036854775807/\zGj w A t.args:=by
 cases h with
 |mk k a v f ts A cap ad cs ha hv hf hn hc hA hcell hk=>
  refine⟨A,cap,rfl,ha,hv,hf,hn,hc,fun i t hi=>?_⟩;obtain⟨hl,rfl⟩:=List.getElem?_eq_some_iff.1 hi;rcases hA with h|⟨h1,h2⟩
  ·rw[show(Trm.mk k a v f ts).args=ts from rfl] at hl;subst h;simp at hl
  ·exact⟨ad,h1,h2,cs i,hk i hl,hcell i hl⟩
theorem MAt.of {k:Int}{a v f:ByteArray}(ha:a.size<=9223372036854775807)(hv:v.size<=9223372036854775807)(hf:f.size<=9223372036854775807)(hn:ts.length<=cap)(hc:cap<=9223372036854775807)(h:zGj w A ts):MAt w (.mk k a v f ts) (trmC k a v A ts.length cap f):=by
 cases ts with
 |nil=>exact .mk k a v f [] A cap ⟨0,0,none⟩ (fun _=> #[]) ha hv hf hn hc (.inl rfl) (fun i hi=>by simp at hi) (fun i hi=>by simp at hi)
 |cons t ts=>
  obtain⟨ad,hA,hlt,_⟩:=h 0 t rfl;have hx:∀i,∃cc:Array Value,∀(hi:i<(t::ts).length),MAt w (t::ts)[i] cc/\∀j,j<5->w.cell? (ad.add (i*5+j))=cc[j]?:=fun i=>by
   by_cases hi:i<(t::ts).length
   ·obtain⟨ad',hA',_,cc,h1,h2⟩:=h i _ (gE hi);obtain rfl:=sj (hA.symm.trans hA');exact⟨cc,fun _=>⟨h1,h2⟩⟩
   ·exact⟨#[],fun h=>absurd h hi⟩
  exact .mk k a v f (t::ts) A cap ad (fun i=>(hx i).choose) ha hv hf hn hc (.inr ⟨hA,hlt⟩) (fun i hi=>((hx i).choose_spec hi).2) (fun i hi=>((hx i).choose_spec hi).1)
theorem zBc {a:Addr}{n j:Nat}{v:Option Value}(h:w.cell? (a.add (n+(j+1)))=v):w.cell? ⟨(a.add n).block,(a.add n).off+(j+1),none⟩=v:=by
 rw[<-Addr.add_add] at h;unfold Addr.add at h⊢
 simpa using h
def PtM (w:World)(p:Addr)(t:Trm)(A:Option Addr)(cap:Nat):Prop:=
 p.block<w.heap.size/\w.cell? p=some (qI t.kind)/\w.cell? ⟨p.block,p.off+1,none⟩=some (.string t.nam)/\w.cell? ⟨p.block,p.off+2,none⟩=some (.string t.vr)/\w.cell? ⟨p.block,p.off+3,none⟩=some (.slice A t.args.length cap)/\w.cell? ⟨p.block,p.off+4,none⟩=some (.string t.form)
  /\t.nam.size<=9223372036854775807/\t.vr.size<=9223372036854775807/\t.form.size<=9223372036854775807/\t.args.length<=cap/\cap<=9223372036854775807/\zGj w A t.args
theorem PtM.keep {w w':World}(hb:Below w.heap.size w w'){p:Addr}{t:Trm}{A:Option Addr}{cap:Nat}(h:PtM w p t A cap):PtM w' p t A cap:=by
 obtain⟨h1,c0,c1,c2,c3,c4,h2,h3,h4,h5,h6,h7⟩:=h;exact⟨Nat.lt_of_lt_of_le h1 hb.size,(hb.cell h1).trans c0,(hb.cell (p:=⟨p.block,p.off+1,none⟩) h1).trans c1,(hb.cell (p:=⟨p.block,p.off+2,none⟩) h1).trans c2,(hb.cell (p:=⟨p.block,p.off+3,none⟩) h1).trans c3,(hb.cell (p:=⟨p.block,p.off+4,none⟩) h1).trans c4,h2,h3,h4,h5,h6,h7.keep hb⟩
theorem PtM.box {g:Nat}(hK:Blk w g 47 (trmC t.kind t.nam t.vr A t.args.length cap t.form))(ha:t.nam.size<=9223372036854775807)(hv:t.vr.size<=9223372036854775807)(hf:t.form.size<=9223372036854775807)(hn:t.args.length<=cap)(hc:cap<=9223372036854775807)(h:zGj w A t.args):PtM w ⟨g,0,none⟩ t A cap:=
 ⟨hK.lt,hK.cell 0,hK.cell 1,hK.cell 2,hK.cell 3,hK.cell 4,ha,hv,hf,hn,hc,h⟩
theorem PtM.whole {p:Addr}(h:PtM w p t A cap):MAt w t (trmC t.kind t.nam t.vr A t.args.length cap t.form):=by
 obtain⟨h1,c0,c1,c2,c3,c4,h2,h3,h4,h5,h6,h7⟩:=h;obtain⟨k,a,v,f,ts⟩:=t;exact MAt.of h2 h3 h4 h5 h6 h7
theorem zGj.at_ (h:zGj w A ts){i:Nat}(hi:ts[i]?=some t):
  ∃ad A2 cap2,A=some ad/\ad.block<w.heap.size/\PtM w (ad.add (i*5)) t A2 cap2:=by
 obtain⟨ad,h1,h2,c,h3,h4⟩:=h i t hi;obtain⟨A2,cap2,rfl,ha,hv,hf,hn,hc,hk⟩:=h3.form;exact⟨ad,A2,cap2,h1,h2,by rw[zDo];exact h2,h4 0 (by omega),zBc (j:=0) (h4 1 (by omega)),zBc (j:=1) (h4 2 (by omega)),zBc (j:=2) (h4 3 (by omega)),zBc (j:=3) (h4 4 (by omega)),ha,hv,hf,hn,hc,hk⟩
theorem zAj {k:IntKind}{a b:Int}(h:a=b):Ending.returned (.int k a)= .returned (.int k b):=by rw[h]
end Sp
section
open Go.RowKit
structure Ext (w:World) where
 val:World
 bel:Below w.heap.size w val
instance (w:World):Inhabited (Ext w):=⟨⟨w,Below.refl _ _⟩⟩
theorem Ext.cell {w:World}(e:Ext w){p:Addr}{v:Value}(hp:p.block<w.heap.size)(h:w.cell? p=some v):e.val.cell? p=some v:=by
 rw[e.bel.cell hp];exact h
theorem zBj {P:Program}{id:Nat}{Q:Exit->Act->World->Prop}{a:Act}{w:World}{l:List Oper}(hm:P.follows .mixedOrders=true)(hB:Region.lexB .any l.toArray=true)
  (h:wpQuiet P l.toArray (fun w'=>∃e:Ext w,w'=e.val) (fun a'=>∀w',(∃e:Ext w,w'=e.val)->Q .normal a' w') l a):(Code.region id l.toArray true).wp P Q a w:=
 wp_region_quiet (C:=fun w'=>∃e:Ext w,w'=e.val) hm hB ⟨⟨_,zA3 (Below.refl _ _)⟩,rfl⟩ (by simpa using h)
theorem Calls.ext {P:Program}{f:FuncId}{args:Array Value}{w:World}{e:Ext w}{v:Value}
  (h:Calls P f args e.val fun r w'=>r= .returned v/\Below e.val.heap.size e.val w'):Calls P f args e.val fun r w''=>r= .returned v/\∃e':Ext w,w''=e'.val:=
 h.mono fun _ w' hw=>⟨hw.1,⟨w',e.bel.trans (hw.2.mono e.bel.size)⟩,rfl⟩
end
namespace Sp
open At Ch Go.RowKit
variable{w w' a b:World}{base n gp g B:Nat}{e t:TypeId}{xs ks:List Trm}{P ok':Nat->Prop}{p:Addr}{x:Trm}{A:Option Addr}{css:List (Array Value)}
theorem own_below {size:Nat}{v:Value}{xs:List Value}(h:w.ownsRow base e size v n xs)(hb:Below w.heap.size w w'):w'.ownsRow base e size v n xs:=
 h.kept (row:=none) ⟨hb.os,hb.tape,hb.output,hb.size,fun i hi _=>hb.block i hi⟩ (by cases v.ownBlock<;>simp)
theorem zG0 {base':Nat}{size:Nat}{v:Value}{xs:List Value}(h:w.ownsRow base e size v n xs)(hB:base'<=base):w.ownsRow base' e size v n xs:=
 ⟨h.1,h.2.imp id fun⟨g,cap,cur,h1,h2,h3⟩=>⟨g,cap,cur,h1,Nat.le_trans hB h2,h3⟩⟩
theorem zBs (w:World)(p:Addr)(u:Value):w.grownBy (w.setCell p u) (some p.block):=
 ⟨rfl,rfl,rfl,by simp[World.setCell],fun k _ hk=>Below.heap_setCell _ _ _ _ (fun e=>hk (by simp[e]))⟩
theorem info_parts {P:Program}{z:Value}{a b:Nat}(h:(P.info? t).map (fun i=>(i.zero,i.size,i.bytes))=some (some z,a,b)):∃i,P.info? t=some i/\i.zero=some z/\i.size=a/\i.bytes=b:=by
 cases hi:P.info? t with
 |none=>rw[hi] at h;cases h
 |some i=>
  rw[hi] at h;simp only[Option.map_some,Option.some.injEq,Prod.mk.injEq] at h;exact⟨i,rfl,h.1,h.2.1,h.2.2⟩
structure Gr (gp:Nat)(w w':World):Prop where
 os:w'.os=w.os
 tape:w'.tape=w.tape
 output:w'.output=w.output
 size:w.heap.size<=w'.heap.size
 block:∀k,k<w.heap.size->k≠gp->w'.heap[k]?=w.heap[k]?
theorem Gr.refl (gp:Nat)(w:World):Gr gp w w:=⟨rfl,rfl,rfl,Nat.le_refl _,fun _ _ _=>rfl⟩
theorem Gr.trans {gp:Nat}{a b c:World}(h:Gr gp a b)(k:Gr gp b c):Gr gp a c:=
 ⟨k.os.trans h.os,k.tape.trans h.tape,k.output.trans h.output,Nat.le_trans h.size k.size,fun i hi hn=>(k.block i (ll hi h.size) hn).trans (h.block i hi hn)⟩
theorem Gr.below {c:World}(h:Gr gp a b)(k:Below b.heap.size b c):Gr gp a c:=
 ⟨k.os.trans h.os,k.tape.trans h.tape,k.output.trans h.output,Nat.le_trans h.size k.size,fun i hi hn=>(k.block i (ll hi h.size)).trans (h.block i hi hn)⟩
theorem Gr.grown {c:World}{row:Option Nat}(h:Gr gp a b)(k:b.grownBy c row)(hr:∀r,row=some r->a.heap.size<=r\/r=gp):Gr gp a c:=
 ⟨k.os.trans h.os,k.tape.trans h.tape,k.output.trans h.output,Nat.le_trans h.size k.size,fun i hi hn=>(k.block i (ll hi h.size) (fun e=>by rcases hr i e.symm with h'|h'<;>omega)).trans (h.block i hi hn)⟩
theorem Gr.set (h:Gr gp a b)(hp:a.heap.size<=p.block\/p.block=gp)(u:Value):Gr gp a (b.setCell p u):=
 h.grown (zBs b p u) fun r e=>by have:=sj e;omega
theorem Gr.own (h:Gr gp a b):a.grownBy b (some gp):=⟨h.os,h.tape,h.output,h.size,fun i hi hn=>h.block i hi (fun e=>hn (by rw[e]))⟩
theorem Gr.blk (h:Gr gp a b){cs:Array Value}(hK:Blk a g t cs)(hn:g≠gp):Blk b g t cs:=(h.block g hK.lt hn).trans hK
theorem Gr.down (h:Gr gp a b)(h1:B<=a.heap.size)(h2:B<=gp):Below B a b:=⟨h.os,h.tape,h.output,h.size,fun i hi=>h.block i (by omega) (by omega)⟩
theorem Gr.top (h:Gr gp a b)(hp:a.heap.size<=gp):Below a.heap.size a b:=h.down (Nat.le_refl _) hp
inductive TmAt (ok:Nat->Prop) (w:World):Trm->Array Value->Prop
 |mk (k:Int) (a v f:ByteArray) (ks:List Trm) (A:Option Addr) (cap:Nat) (ad:Addr) (cs:Nat->Array Value) (ha:a.size<=9223372036854775807) (hv:v.size<=9223372036854775807) (hf:f.size<=9223372036854775807) (hn:ks.length<=cap) (hc:cap<=9223372036854775807)
   (hA:ks=[]\/(A=some ad/\ad.block<w.heap.size/\ok ad.block)) (hcell:∀i,i<ks.length->∀j,j<5->w.cell? (ad.add (i*5+j))=(cs i)[j]?)
   (hk:∀(i:Nat) (h:i<ks.length),TmAt ok w ks[i] (cs i)):TmAt ok w (.mk k a v f ks) (trmC k a v A ks.length cap f)
def zD2 (ok:Nat->Prop)(w:World)(A:Option Addr)(ks:List Trm):Prop:=∀(i:Nat) (x:Trm),ks[i]?=some x->∃ad:Addr,A=some ad/\ad.block<w.heap.size/\ok ad.block/\∃c,TmAt ok w x c/\∀j,j<5->w.cell? (ad.add (i*5+j))=c[j]?
theorem TmAt.map {ok:Nat->Prop}(hs:w.heap.size<=w'.heap.size)(hok:∀b,b<w.heap.size->ok b->ok' b)(hc:∀p:Addr,p.block<w.heap.size->ok p.block->w'.cell? p=w.cell? p){c:Array Value}(h:TmAt ok w x c):TmAt ok' w' x c:=by
 induction h with
 |mk k a v f ks A cap ad cs ha hv hf hn hcap hA hcell hk ih=>
  refine .mk k a v f ks A cap ad cs ha hv hf hn hcap (hA.imp id fun⟨h1,h2,h3⟩=>⟨h1,ll h2 hs,hok _ h2 h3⟩) (fun i hi j hj=>?_) ih;rcases hA with h|⟨h1,h2,h3⟩
  ·subst h;simp at hi
  ·rw[hc _ (by rw[zDo];exact h2) (by rw[zDo];exact h3)];exact hcell i hi j hj
theorem TmAt.keep {ok:Nat->Prop}{c:Array Value}(h:TmAt ok w x c)(hb:Below w.heap.size w w'):TmAt ok w' x c:=h.map hb.size (fun _ _ h=>h) fun _ hp _=>hb.cell hp
theorem TmAt.any {ok:Nat->Prop}{c:Array Value}(h:TmAt ok w x c)(hok:∀b,b<w.heap.size->ok b->ok' b):TmAt ok' w x c:=h.map (Nat.le_refl _) hok fun _ _ _=>rfl
theorem TmAt.grown {ok:Nat->Prop}{row:Option Nat}{c:Array Value}(h:TmAt ok w x c)(hg:w.grownBy w' row)(hr:∀b,b<w.heap.size->ok b->some b≠row)(hok:∀b,b<w.heap.size->ok b->ok' b):TmAt ok' w' x c:=
 h.map hg.size hok fun _ hp ho=>World.cell?_of_block (hg.block _ hp (hr _ hp ho))
theorem zD2.map {ok ok':Nat->Prop}{w w':World}(hs:w.heap.size<=w'.heap.size)(hok:∀b,b<w.heap.size->ok b->ok' b)(hc:∀p:Addr,p.block<w.heap.size->ok p.block->w'.cell? p=w.cell? p){A:Option Addr}{ks:List Trm}(h:zD2 ok w A ks):zD2 ok' w' A ks:=fun i x hi=>by
 obtain⟨ad,h1,h2,h3,c,h4,h5⟩:=h i x hi;exact⟨ad,h1,ll h2 hs,hok _ h2 h3,c,h4.map hs hok hc,fun j hj=>by rw[hc _ (by rw[zDo];exact h2) (by rw[zDo];exact h3)];exact h5 j hj⟩
theorem zD2.keep {ok:Nat->Prop}(h:zD2 ok w A ks)(hb:Below w.heap.size w w'):zD2 ok w' A ks:=h.map hb.size (fun _ _ h=>h) fun _ hp _=>hb.cell hp
theorem zD2.any {ok:Nat->Prop}(h:zD2 ok w A ks)(hok:∀b,b<w.heap.size->ok b->ok' b):zD2 ok' w A ks:=h.map (Nat.le_refl _) hok fun _ _ _=>rfl
theorem TmAt.size {ok:Nat->Prop}{w:World}{x:Trm}{c:Array Value}(h:TmAt ok w x c):c.size=5:=by cases h;rfl
theorem TmAt.form {ok:Nat->Prop}{w:World}{x:Trm}{c:Array Value}(h:TmAt ok w x c):∃A cap,c=trmC x.kind x.nam x.vr A x.args.length cap x.form/\x.nam.size<=9223372036854775807/\x.vr.size<=9223372036854775807/\x.form.size<=9223372036854775807/\x.args.length<=cap/\cap<=9223372036854775807/\zD2 ok w A x.args:=by
 cases h with
 |mk k a v f ks A cap ad cs ha hv hf hn hcap hA hcell hk=>
  refine⟨A,cap,rfl,ha,hv,hf,hn,hcap,fun i x hi=>?_⟩;obtain⟨hl,rfl⟩:=List.getElem?_eq_some_iff.1 hi;have hl:i<ks.length:=hl;rcases hA with h|⟨h1,h2,h3⟩
  ·subst h;simp at hl
  ·exact⟨ad,h1,h2,h3,cs i,hk i hl,hcell i hl⟩
theorem TmAt.of {ok:Nat->Prop}{k:Int}{a v f:ByteArray}{cap:Nat}(ha:a.size<=9223372036854775807)(hv:v.size<=9223372036854775807)(hf:f.size<=9223372036854775807)(hn:ks.length<=cap)(hc:cap<=9223372036854775807)(hk:zD2 ok w A ks):TmAt ok w (.mk k a v f ks) (trmC k a v A ks.length cap f):=by
 by_cases h0:ks=[]
 ·subst h0;exact .mk k a v f [] A cap ⟨0,0,none⟩ (fun _=> #[]) ha hv hf hn hc (.inl rfl) (fun i hi=>by simp at hi) (fun i hi=>by simp at hi)
 ·have h1:0<ks.length:=List.length_pos_iff.2 h0;obtain⟨ad,hA,hlt,hok,_⟩:=hk 0 ks[0] (gE h1);have ex:∀i,∃c,∀h:i<ks.length,TmAt ok w ks[i] c/\∀j,j<5->w.cell? (ad.add (i*5+j))=c[j]?:=fun i=>by
   by_cases h:i<ks.length
   ·obtain⟨ad',hA',_,_,c,h2,h3⟩:=hk i ks[i] (gE h);obtain rfl:ad=ad':=by rw[hA] at hA';exact sj hA'
    exact⟨c,fun _=>⟨h2,h3⟩⟩
   ·exact⟨#[],fun h'=>absurd h' h⟩
  obtain⟨cs,hcs⟩:=Classical.axiomOfChoice ex;exact .mk k a v f ks A cap ad cs ha hv hf hn hc (.inr ⟨hA,hlt,hok⟩) (fun i hi=>(hcs i hi).2) (fun i hi=>(hcs i hi).1)
theorem TmAt.mat {ok:Nat->Prop}{c:Array Value}(h:TmAt ok w x c):MAt w x c:=by
 induction h with
 |mk k a v f ks A cap ad cs ha hv hf hn hc hA hcell hk ih=>
  exact .mk k a v f ks A cap ad cs ha hv hf hn hc (hA.imp id fun⟨h1,h2,_⟩=>⟨h1,h2⟩) hcell ih
theorem TmAt.zero (ok:Nat->Prop)(w:World)(k:Int)(a:ByteArray)(ha:a.size<=9223372036854775807):TmAt ok w (.mk k a ⟨#[]⟩ ⟨#[]⟩ []) (trmC k a ⟨#[]⟩ none 0 0 ⟨#[]⟩):=
 TmAt.of (ks:=[]) ha (by decide) (by decide) (Nat.le_refl _) (by omega) fun i x h=>by simp at h
def OwnT (ok:Nat->Prop)(w:World)(B:Nat)(v:Value)(xs:List Trm):Prop:=∃css:List (Array Value),w.ownsRow B 47 5 v xs.length (css.flatMap (·.toList))/\css.length=xs.length/\(∀(j:Nat) c x,css[j]?=some c->xs[j]?=some x->TmAt ok w x c)
theorem flat5:∀(l:List (Array Value)) (k j:Nat) (c:Array Value),(∀c∈l,c.size=5)->l[k]?=some c->j<5->(l.flatMap (·.toList))[k*5+j]?=c[j]?
 |[],k,j,c,_,h,_=>by simp at h
 |x::r,0,j,c,hs,h,hj=>by
  obtain rfl:x=c:=by simpa using h
  have:=hs x List.mem_cons_self;rw[List.flatMap_cons,List.getElem?_append_left (by simp;omega)];simp
 |x::r,k+1,j,c,hs,h,hj=>by
  have ih:=flat5 r k j c (fun c hc=>hs c (List.mem_cons_of_mem _ hc)) (by simpa using h) hj;have:=hs x List.mem_cons_self;rw[List.flatMap_cons,List.getElem?_append_right (by simp;omega),<-ih]
  congr 1
  simp;omega
theorem OwnT.nil (ok:Nat->Prop)(w:World)(B:Nat):OwnT ok w B qN []:=⟨[],World.ownsRow_nil _ _ _ _,rfl,fun j c x h=>by simp at h⟩
theorem OwnT.size {ok:Nat->Prop}{w:World}{xs:List Trm}{css:List (Array Value)}(hl:css.length=xs.length)(h:∀(j:Nat) c x,css[j]?=some c->xs[j]?=some x->TmAt ok w x c):∀c∈css,c.size=5:=fun c hc=>by
 obtain⟨j,hj⟩:=List.mem_iff_getElem?.1 hc;have hj2:=(List.getElem?_eq_some_iff.1 hj).1;exact(h j c xs[j] hj (gE (by omega))).size
theorem OwnT.keep {ok:Nat->Prop}{w w':World}{B:Nat}{v:Value}{xs:List Trm}(h:OwnT ok w B v xs)(hb:Below w.heap.size w w'):OwnT ok w' B v xs:=by
 obtain⟨css,h1,h2,h3⟩:=h;exact⟨css,own_below h1 hb,h2,fun j c x hj hx=>(h3 j c x hj hx).keep hb⟩
theorem OwnT.any {ok ok':Nat->Prop}{w:World}{B:Nat}{v:Value}{xs:List Trm}(h:OwnT ok w B v xs)(hok:∀b,b<w.heap.size->ok b->ok' b):OwnT ok' w B v xs:=by
 obtain⟨css,h1,h2,h3⟩:=h;exact⟨css,h1,h2,fun j c x hj hx=>(h3 j c x hj hx).any hok⟩
theorem OwnT.zOw {ok:Nat->Prop}{v:Value}(h:OwnT ok w B v xs)(hB:∀b,B<=b->P b)(hok:∀b,ok b->P b):∃A cap,v= .slice A xs.length cap/\xs.length<=cap/\cap<=9223372036854775807/\zD2 P w A xs:=by
 obtain⟨css,ho,hl,hr⟩:=h;have hsz:=OwnT.size hl hr;rcases ho.2 with⟨rfl,h0⟩|⟨g,cap,cur,rfl,hg,hb,hn,hc,hs,ht⟩
 ·obtain rfl:xs=[]:=List.length_eq_zero_iff.1 h0;exact⟨none,0,rfl,by simp,by omega,fun j p hj=>by simp at hj⟩
 ·have hb':Blk w g 47 cur:=hb;refine⟨_,cap,rfl,hn,by unfold maxLen at hc;omega,fun i x hi=>⟨⟨g,0,none⟩,rfl,hb'.lt,hB g hg,?_⟩⟩;have hil:=(List.getElem?_eq_some_iff.1 hi).1;obtain⟨c,hci⟩:∃c,css[i]?=some c:=⟨_,gE (by omega)⟩
  refine⟨c,(hr i c x hci hi).any fun b _ h=>hok b h,fun j hj=>?_⟩;have h3:=flat5 css i j c hsz hci hj;have hjc:j<c.size:=by rw[hsz c (List.mem_of_getElem? hci)];exact hj
  have h4:c[j]?=some c[j]:=Array.getElem?_eq_getElem hjc;rw[show(⟨g,0,none⟩:Addr).add (i*5+j)=⟨g,i*5+j,none⟩ by unfold Addr.add;split<;>simp_all,hb'.cell];rw[h4] at h3⊢;rw[<-ht,List.getElem?_take] at h3
  split at h3
  ·rw[<-Array.getElem?_toList];exact h3
  ·cases h3
theorem OwnT.form {ok:Nat->Prop}{v:Value}(h:OwnT ok w B v xs):∃A cap,v= .slice A xs.length cap/\xs.length<=cap/\cap<=9223372036854775807/\zD2 (fun _=>True) w A xs:=h.zOw (fun _ _=>trivial) fun _ _=>trivial
theorem OwnT.lt {ok:Nat->Prop}{w:World}{B:Nat}{v:Value}{xs:List Trm}(h:OwnT ok w B v xs):∀r,v.ownBlock=some r->B<=r/\r<w.heap.size:=by
 obtain⟨css,ho,_⟩:=h;exact World.ownsRow.lt ho
theorem OwnT.snoc {ok:Nat->Prop}{v v':Value}{c:Array Value}(hl:css.length=xs.length)(h:∀(j:Nat) c x,css[j]?=some c->xs[j]?=some x->TmAt ok w x c)(hx:TmAt ok w x c)(ho:w'.ownsRow B 47 5 v' (xs.length+1) (css.flatMap (·.toList)++c.toList))(hg:w.grownBy w' v.ownBlock)(hr:∀b,b<w.heap.size->ok b->some b≠v.ownBlock)(hok:∀b,b<w.heap.size->ok b->ok' b):OwnT ok' w' B v' (xs++[x]):=by
 refine⟨css++[c],?_,by simp[hl],fun j d y hj hy=>?_⟩
 ·rw[List.length_append,List.flatMap_append]
  simpa using ho
 ·rcases Nat.lt_or_ge j css.length with hlt|hge
  ·rw[List.getElem?_append_left hlt] at hj;rw[List.getElem?_append_left (by omega)] at hy;exact(h j d y hj hy).grown hg hr hok
  ·rw[List.getElem?_append_right hge] at hj;rw[List.getElem?_append_right (by omega),<-hl] at hy
   by_cases e:j -css.length=0
   ·rw[e] at hj hy;obtain rfl:c=d:=by simpa using hj
    obtain rfl:x=y:=by simpa using hy
    exact hx.grown hg hr hok
   ·rw[List.getElem?_eq_none (by simp;omega)] at hj;cases hj
def AppT (P:Nat->Prop)(w:World)(B:Nat)(v:Value)(xs:List Trm):Prop:=OwnT (fun b=>v.ownBlock≠some b/\P b) w B v xs
theorem AppT.nil (P:Nat->Prop)(w:World)(B:Nat):AppT P w B qN []:=OwnT.nil _ _ _
theorem AppT.keep {P:Nat->Prop}{w w':World}{B:Nat}{v:Value}{xs:List Trm}(h:AppT P w B v xs)(hb:Below w.heap.size w w'):AppT P w' B v xs:=OwnT.keep h hb
theorem AppT.push {v v':Value}{c:Array Value}(hl:css.length=xs.length)(h:∀(j:Nat) c x,css[j]?=some c->xs[j]?=some x->TmAt (fun b=>v.ownBlock≠some b/\P b) w x c)(hx:TmAt (fun b=>v.ownBlock≠some b/\P b) w x c)(ho:w'.ownsRow B 47 5 v' (xs.length+1) (css.flatMap (·.toList)++c.toList))(hg:w.grownBy w' v.ownBlock)(hv:v'.ownBlock=v.ownBlock\/v'.ownBlock=some w.heap.size):AppT P w' B v' (xs++[x]):=
 OwnT.snoc hl h hx ho hg (fun b _ hb e=>hb.1 e.symm) (fun b hb hok=>⟨by
  rcases hv with e|e
  ·rw[e];exact hok.1
  ·rw[e];intro h2;have:=sj h2;omega,hok.2⟩)
theorem AppT.set_ {v:Value}(h:AppT P w B v xs)(hp:¬P p.block)(hpB:p.block<B)(u:Value):AppT P (w.setCell p u) B v xs:=by
 obtain⟨css,h1,h2,h3⟩:=h;refine⟨css,World.ownsRow.kept h1 (zBs w p u) ?_,h2,fun j c x hj hx=>(h3 j c x hj hx).map (zBs w p u).size (fun _ _ h=>h) fun q _ ho=>World.cell?_setCell_other w p q u (fun e=>hp (by rw[e];exact ho.2))⟩;cases hv:v.ownBlock with
 |none=>exact .inl rfl
 |some b=>
  refine .inr fun e=>?_
  have:=(World.ownsRow.lt h1 b hv).1;have:=sj e;omega
theorem AppT.form {v:Value}(h:AppT P w B v xs)(hB:∀b,B<=b->P b):∃A cap,v= .slice A xs.length cap/\xs.length<=cap/\cap<=9223372036854775807/\zD2 P w A xs:=OwnT.zOw h hB fun _ hb=>hb.2
theorem zBb {c:Array Value}(h:Blk w g t c)(hn:c.size=n):Reads w w.heap.size n (some ⟨g,0,none⟩) 1 c.toList:=
 ⟨by simp[hn],fun _=>⟨⟨g,0,none⟩,rfl,h.lt,fun j v hj=>by
  have e:(⟨g,0,none⟩:Addr).add j=⟨g,j,none⟩:=by unfold Addr.add;split<;>simp_all
  rw[e,h.cell]
  simpa using hj⟩⟩
theorem zFe {ok:Nat->Prop}{c:Array Value}(h:TmAt ok w x c):∀u∈c.toList,u.oneCell'=true:=by
 obtain⟨A,cap,rfl,_⟩:=h.form;intro u hu;simp at hu;rcases hu with rfl|rfl|rfl|rfl|rfl<;>rfl
theorem zEd:(Tryz.prog.info? 47).map (fun i=>(i.zero,i.size,i.bytes))=some (some (.agg qT),5,80):=by kernel_rfl
theorem TmAt.ext {ok:Nat->Prop}{c:Array Value}(h:TmAt ok w x c):∃k a v A n cap f,c= #[qI k,.string a,.string v,.slice A n cap,.string f]:=by
 obtain⟨A,cap,rfl,_⟩:=h.form;exact⟨_,_,_,_,_,_,_,rfl⟩
end Sp
end Go.Proofs.YtapgncbegadbnaaGreatDoor
