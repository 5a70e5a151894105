/- Lists of names of the reference: Has, less, with, union. -/
import Derived.Test.YtchllommcolijaaGreatDoorH2b974eb2
import Derived.Test.YtchllommcolijaaGreatDoorH15c22e57
import Derived.Laws.BytesArg
namespace Go.Proofs.YtchllommcolijaaGreatDoor.El
open At Ch Sp Sy Go.RowKit
abbrev Nm:=List UInt8
def strV (l:List UInt8):Value:=.string (bys l)
def OwnS (w:World)(B:Nat)(v:Value)(ts:List (List UInt8)):Prop:=w.ownsRow B 9 1 v ts.length (ts.map strV)
theorem OwnS.keep {w w':World}{B:Nat}{v:Value}{ts:List (List UInt8)}(h:OwnS w B v ts)(hb:Below w.heap.size w w'):OwnS w' B v ts:=Ch.own_below h hb
theorem OwnS.nil (w:World)(B:Nat):OwnS w B (.slice none 0 0) []:=⟨rfl,.inl ⟨rfl,rfl⟩⟩
theorem OwnS.new (w:World)(B:Nat)(hB:B≤w.heap.size)(ts:List (List UInt8))(n:Nat)(hn:n=ts.length)(hm:n≤1000000)(cs:Array Value)(hc:cs.toList=ts.map strV):OwnS (w.alloc (.cells cs 9)) B (.slice (some ⟨w.heap.size,0,none⟩) n n) ts:=by
 subst hn;have hs:cs.size=ts.length:=by
  have:=congrArg List.length hc
  simpa using this
 refine⟨by simp,.inr ⟨w.heap.size,ts.length,cs,rfl,hB,Blk.new w _ _,Nat.le_refl _,by unfold maxLen;omega,by rw[hs,Nat.mul_one],?_⟩⟩;rw[hc,List.take_of_length_le (by simp)]
theorem OwnS.snoc {w:World}{B n m:Nat}{v:Value}{ts us:List (List UInt8)}(hn:ts.length=n)(hm:us.length=m)(h:w.ownsRow B 9 1 v (n+m) (ts.map strV++us.map strV)):OwnS w B v (ts++us):=by
 unfold OwnS;rw[List.length_append,hn,hm,List.map_append];exact h
theorem OwnS.form {w:World}{B:Nat}{v:Value}{ts:List (List UInt8)}(h:OwnS w B v ts):∃A cap,v= .slice A ts.length cap∧ts.length≤cap∧cap≤9223372036854775807∧∀(j:Nat) (p:List UInt8),ts[j]?=some p→∃ad:Addr,A=some ad∧ad.block<w.heap.size∧w.cell? (ad.add j)=some (.string (bys p)):=by
 obtain⟨h1,h2⟩:=h;rcases h2 with⟨rfl,h0⟩|⟨g,cap,cur,rfl,hg,hb,hn,hc,hs,ht⟩
 ·obtain rfl:ts=[]:=List.length_eq_zero_iff.1 h0;exact⟨none,0,rfl,by simp,by omega,fun j p hj=>by simp at hj⟩
 ·have hb':Blk w g 9 cur:=hb;refine⟨_,cap,rfl,hn,by unfold maxLen at hc;omega,fun j p hj=>⟨⟨g,0,none⟩,rfl,hb'.lt,?_⟩⟩;rw[show(⟨g,0,none⟩:Addr).add j=⟨g,j,none⟩ by unfold Addr.add;split<;>simp_all,hb'.cell];have h3:(ts.map strV)[j]?=some (.string (bys p)):=by rw[List.getElem?_map,hj];rfl
  rw[←ht,List.getElem?_take] at h3
  split at h3
  ·simpa using h3
  ·cases h3
theorem OwnS.lt {w:World}{B:Nat}{v:Value}{ts:List (List UInt8)}(h:OwnS w B v ts):∀b,v.ownBlock=some b→B≤b∧b<w.heap.size:=fun b hb=>World.ownsRow.lt h b hb
theorem OwnS.grown {w w':World}{B:Nat}{v:Value}{ts:List (List UInt8)}{row:Option Nat}(h:OwnS w B v ts)(hg:w.grownBy w' row)(hr:∀b,v.ownBlock=some b→row≠some b):OwnS w' B v ts:=by
 refine World.ownsRow.kept h hg ?_;cases hv:v.ownBlock with
 |none=>exact .inl rfl
 |some b=>exact .inr fun e=>hr b hv e.symm
def zQm (w:World)(A:Option Addr)(ts:List Nm):Prop:=∀(j:Nat) (p:Nm),ts[j]?=some p→∃ad:Addr,A=some ad∧ad.block<w.heap.size∧w.cell? (ad.add j)=some (.string (bys p))
theorem zQm.keep {w w':World}{A:Option Addr}{ts:List Nm}(h:zQm w A ts)(hb:Below w.heap.size w w'):zQm w' A ts:=fun j p hj=>by
 obtain⟨ad,h1,h2,h3⟩:=h j p hj;exact⟨ad,h1,ll h2 hb.size,by rw[hb.cell (by rw[Sp.zD7];exact h2)];exact h3⟩
theorem zQm.nil (w:World)(A:Option Addr):zQm w A []:=fun j p h=>by simp at h
def NmL (w:World)(v:Value)(ts:List Nm):Prop:=∃A cap,v= .slice A ts.length cap∧ts.length≤cap∧cap≤9223372036854775807∧zQm w A ts
theorem NmL.keep {w w':World}{v:Value}{ts:List Nm}(h:NmL w v ts)(hb:Below w.heap.size w w'):NmL w' v ts:=by
 obtain⟨A,cap,h1,h2,h3,h4⟩:=h;exact⟨A,cap,h1,h2,h3,h4.keep hb⟩
structure NSt (w0 w:World)(v:Value)(zs:List Nm):Prop where
 bel:Below w0.heap.size w0 w
 own:OwnS w w0.heap.size v zs
theorem NSt.next {w0 w w':World}{v:Value}{zs:List Nm}(h:NSt w0 w v zs)(hb:Below w.heap.size w w'):NSt w0 w' v zs:=⟨h.bel.trans (hb.mono h.bel.size),h.own.keep hb⟩
def zRu (ts:List Nm)(k:Nat)(b:Bool)(s:Nm)(zs:List Nm):Prop:=(∀z,z∈zs↔z∈ts.take k∨(b=true∧z=s))∧zs.length=k+(if b=true then 1 else 0)
theorem zRu.start (ts:List Nm)(s:Nm):zRu ts 0 false s []:=⟨fun z=>by simp,rfl⟩
theorem zRu.put {ts:List Nm}{k:Nat}{s:Nm}{zs:List Nm}(h:zRu ts k false s zs):zRu ts k true s (zs++[s]):=
 ⟨fun z=>by rw[List.mem_append,List.mem_singleton,h.1 z];simp,by rw[List.length_append,h.2];rfl⟩
theorem zSk (l:List UInt8):(bys l).size=l.length:=by simp[bys,ByteArray.size]
theorem zLy {n:Nat}(h:n<10):Lib.decDigits n=[UInt8.ofNat (48+n)]:=by
 rw[Lib.decDigits,dif_pos h]
theorem zY7 {n:Nat}(h:10≤n):Lib.decDigits n=Lib.decDigits (n/10)++Lib.decDigits (n%10):=by
 rw[zLy (n:=n%10) (by omega),Lib.decDigits,dif_neg (by omega)]
theorem zY6:∀n:Nat,(Lib.decDigits n).length≤n+1:=by
 intro n
 induction n using Nat.strongRecOn with
 |_ n ih=>
  rw[Lib.decDigits]
  split
  ·simp
  ·next h=>
   have:=ih (n/10) (by omega);rw[List.length_append];simp only[List.length_cons,List.length_nil];omega
theorem zPw {n:Nat}(h1:n≤1000000):(bys (Lib.decDigits n)).size≤1000001:=by
 have:=zY6 n;rw[zSk];omega
theorem zZa (a b:List UInt8):bys a++bys b=bys (a++b):=by
 apply ByteArray.ext
 simp[bys,ByteArray.data_append]
def dgB (n:Int):ByteArray:=bys [UInt8.ofNat n.toNat]
theorem zVb (w:World)(n:Int):(convert 174 9 (.slice (some ⟨w.heap.size,0,none⟩) 1 1)).run Tryz.prog (w.alloc (.cells #[.int .u8 n] 5))= .ok (.string (dgB n)) (w.alloc (.cells #[.int .u8 n] 5)):=
 run_convert_bytes_arg (P:=Tryz.prog) _ 174 5 Tryz.underlying174 Tryz.underlying5 w.heap.size 0 1 1 [n] rfl (fun i hi=>by
  obtain rfl:i=0:=by omega
  exact Blk.cell (Blk.new w 5 #[.int .u8 n]) 0) 9 Tryz.underlying9
set_option maxHeartbeats 400000 in
theorem zOg (n:Nat)(w:World)(h:n<10):Calls Tryz.prog 124 #[.int .i64 (n:Int)] w fun e w'=>e= .returned (.string (dgB (48+(n:Int))))∧Below w.heap.size w w':=by
 have hc:=zVb w (48+(n:Int));have hw:IntKind.u8.wrap (48+(n:Int))=48+(n:Int):=by unfold IntKind.wrap;simp[IntKind.signed,IntKind.bits];omega
 have hn:(n:Int)<10:=by omega
 go_enter Tryz.func124,Tryz.ntmps124;go_wp2_with fail;go_ret;exact⟨rfl,(Below.refl _ _).alloc (Nat.le_refl _) _⟩
set_option maxHeartbeats 400000 in
theorem zT1 (k:Nat):∀(n:Nat) (w:World),n<k→n≤1000000→Calls Tryz.prog 124 #[.int .i64 (n:Int)] w fun e w'=>e= .returned (.string (bys (Lib.decDigits n)))∧Below w.heap.size w w':=by
 induction k with
 |zero=>intro n w h1;omega
 |succ k ih=>
  intro n w hk h1;have IH:=zh ih;clear ih
  by_cases hs:n<10
  ·have e:bys (Lib.decDigits n)=dgB (48+(n:Int)):=by rw[zLy hs];unfold dgB;rw[show(48+(n:Int)).toNat=48+n by omega]
   rw[e];exact zOg n w hs
  ·rw[zY7 (n:=n) (by omega),←zZa];have s1:=zPw (n:=n/10) (by omega);have s2:=zPw (n:=n%10) (by omega);have e1:(n:Int).tdiv 10=((n/10:Nat):Int):=by rw[Int.tdiv_eq_ediv_of_nonneg (by omega)];omega
   have e2:(n:Int).tmod 10=((n%10:Nat):Int):=by rw[Int.tmod_eq_emod_of_nonneg (by omega)];omega
   have hn:¬(n:Int)<10:=by omega
   go_enter Tryz.func124,Tryz.ntmps124;go_wp2_with fail;refine(IH.out (n/10) w (by omega) (by omega)).mono ?_;rintro e w1 ⟨rfl,hb1⟩;have B1:=zh hb1;clear hb1;go_wp2_with fail;refine(IH.out (n%10) _ (by omega) (by omega)).mono ?_;rintro e w2 ⟨rfl,hb2⟩;have B2:=jt B1 hb2;clear hb2 B1;go_wp2_with fail;go_ret;exact⟨rfl,B2.out⟩
theorem zVt (n:Nat)(w:World)(h1:n≤1000000):Calls Tryz.prog 124 #[.int .i64 (n:Int)] w fun e w'=>e= .returned (.string (bys (Lib.decDigits n)))∧Below w.heap.size w w':=
 zT1 (n+1) n w (by omega) h1
end Go.Proofs.YtchllommcolijaaGreatDoor.El
