/- operand of the reference: the meaning of an operand with the meanings of its slots. -/
import Derived.Test.YtapgncbegadbnaaGreatDoorHeffaea14
import Derived.Laws.BytesArg
set_option maxRecDepth 100000
set_option maxHeartbeats 8000000
namespace Go.Proofs.YtapgncbegadbnaaGreatDoor.El
open At Ch Sp Sy Go.RowKit
variable{w w' x:World}{B n m:Nat}{cs:Array Value}{sh:ByteArray×ByteArray}
abbrev Nm:=List UInt8
def strV (l:List UInt8):Value:=.string (bys l)
def OwnS (w:World)(B:Nat)(v:Value)(ts:List (List UInt8)):Prop:=w.ownsRow B 9 1 v ts.length (ts.map strV)
theorem OwnS.keep {v:Value}{ts:List (List UInt8)}(h:OwnS w B v ts)(hb:Below w.heap.size w w'):OwnS w' B v ts:=Ch.own_below h hb
theorem OwnS.nil (w:World)(B:Nat):OwnS w B qN []:=⟨rfl,.inl ⟨rfl,rfl⟩⟩
theorem OwnS.new (w:World)(B:Nat)(hB:B<=w.heap.size)(ts:List (List UInt8))(n:Nat)(hn:n=ts.length)(hm:n<=1000000)(cs:Array Value)(hc:cs.toList=ts.map strV):OwnS (w.alloc (.cells cs 9)) B (.slice (some ⟨w.heap.size,0,none⟩) n n) ts:=by
 subst hn;have hs:cs.size=ts.length:=by
  have:=congrArg List.length hc
  simpa using this
 refine⟨by simp,.inr ⟨w.heap.size,ts.length,cs,rfl,hB,Blk.new w _ _,Nat.le_refl _,by unfold maxLen;omega,by rw[hs,Nat.mul_one],?_⟩⟩;rw[hc,List.take_of_length_le (by simp)]
theorem OwnS.snoc {v:Value}{ts us:List (List UInt8)}(hn:ts.length=n)(hm:us.length=m)(h:w.ownsRow B 9 1 v (n+m) (ts.map strV++us.map strV)):OwnS w B v (ts++us):=by
 unfold OwnS;rw[List.length_append,hn,hm,List.map_append];exact h
theorem OwnS.form {v:Value}{ts:List (List UInt8)}(h:OwnS w B v ts):∃A cap,v= .slice A ts.length cap/\ts.length<=cap/\cap<=9223372036854775807/\∀(j:Nat) (p:List UInt8),ts[j]?=some p->∃ad:Addr,A=some ad/\ad.block<w.heap.size/\w.cell? (ad.add j)=some (.string (bys p)):=by
 obtain⟨h1,h2⟩:=h;rcases h2 with⟨rfl,h0⟩|⟨g,cap,cur,rfl,hg,hb,hn,hc,hs,ht⟩
 ·obtain rfl:ts=[]:=List.length_eq_zero_iff.1 h0;exact⟨none,0,rfl,by simp,by omega,fun j p hj=>by simp at hj⟩
 ·have hb':Blk w g 9 cur:=hb;refine⟨_,cap,rfl,hn,by unfold maxLen at hc;omega,fun j p hj=>⟨⟨g,0,none⟩,rfl,hb'.lt,?_⟩⟩;rw[show(⟨g,0,none⟩:Addr).add j=⟨g,j,none⟩ by unfold Addr.add;split<;>simp_all,hb'.cell];have h3:(ts.map strV)[j]?=some (.string (bys p)):=by rw[List.getElem?_map,hj];rfl
  rw[<-ht,List.getElem?_take] at h3
  split at h3
  ·simpa using h3
  ·cases h3
theorem OwnS.lt {w:World}{B:Nat}{v:Value}{ts:List (List UInt8)}(h:OwnS w B v ts):∀b,v.ownBlock=some b->B<=b/\b<w.heap.size:=fun b hb=>World.ownsRow.lt h b hb
theorem OwnS.grown {v:Value}{ts:List (List UInt8)}{row:Option Nat}(h:OwnS w B v ts)(hg:w.grownBy w' row)(hr:∀b,v.ownBlock=some b->row≠some b):OwnS w' B v ts:=by
 refine World.ownsRow.kept h hg ?_;cases hv:v.ownBlock with
 |none=>exact .inl rfl
 |some b=>exact .inr fun e=>hr b hv e.symm
def zT8 (w:World)(A:Option Addr)(ts:List Nm):Prop:=∀(j:Nat) (p:Nm),ts[j]?=some p->∃ad:Addr,A=some ad/\ad.block<w.heap.size/\w.cell? (ad.add j)=some (.string (bys p))
theorem zT8.keep {A:Option Addr}{ts:List Nm}(h:zT8 w A ts)(hb:Below w.heap.size w w'):zT8 w' A ts:=fun j p hj=>by
 obtain⟨ad,h1,h2,h3⟩:=h j p hj;exact⟨ad,h1,ll h2 hb.size,by rw[hb.cell (by rw[Sp.zDo];exact h2)];exact h3⟩
theorem zT8.nil (w:World)(A:Option Addr):zT8 w A []:=fun j p h=>by simp at h
def NmL (w:World)(v:Value)(ts:List Nm):Prop:=∃A cap,v= .slice A ts.length cap/\ts.length<=cap/\cap<=9223372036854775807/\zT8 w A ts
theorem NmL.keep {w w':World}{v:Value}{ts:List Nm}(h:NmL w v ts)(hb:Below w.heap.size w w'):NmL w' v ts:=by
 obtain⟨A,cap,h1,h2,h3,h4⟩:=h;exact⟨A,cap,h1,h2,h3,h4.keep hb⟩
structure NSt (w0 w:World)(v:Value)(zs:List Nm):Prop where
 bel:Below w0.heap.size w0 w
 own:OwnS w w0.heap.size v zs
theorem NSt.next {w0:World}{v:Value}{zs:List Nm}(h:NSt w0 w v zs)(hb:Below w.heap.size w w'):NSt w0 w' v zs:=⟨h.bel.trans (hb.mono h.bel.size),h.own.keep hb⟩
def zUp (ts:List Nm)(k:Nat)(b:Bool)(s:Nm)(zs:List Nm):Prop:=(∀z,z∈zs↔z∈ts.take k\/(b=true/\z=s))/\zs.length=k+(if b=true then 1 else 0)
theorem zUp.start (ts:List Nm)(s:Nm):zUp ts 0 false s []:=⟨fun z=>by simp,rfl⟩
theorem zUp.put {ts:List Nm}{k:Nat}{s:Nm}{zs:List Nm}(h:zUp ts k false s zs):zUp ts k true s (zs++[s]):=
 ⟨fun z=>by rw[List.mem_append,List.mem_singleton,h.1 z];simp,by rw[List.length_append,h.2];rfl⟩
theorem zVp (l:List UInt8):(bys l).size=l.length:=by simp[bys,ByteArray.size]
theorem zNw (h:n<10):Lib.decDigits n=[UInt8.ofNat (48+n)]:=by
 rw[Lib.decDigits,dif_pos h]
theorem yBi (h:10<=n):Lib.decDigits n=Lib.decDigits (n/10)++Lib.decDigits (n%10):=by
 rw[zNw (n:=n%10) (by omega),Lib.decDigits,dif_neg (by omega)]
theorem yCa:∀n:Nat,(Lib.decDigits n).length<=n+1:=by
 intro n
 induction n using Nat.strongRecOn with
 |_ n ih=>
  rw[Lib.decDigits]
  split
  ·simp
  ·next h=>
   have:=ih (n/10) (by omega);rw[List.length_append];simp only[List.length_cons,List.length_nil];omega
theorem zR0 (h1:n<=1000000):(bys (Lib.decDigits n)).size<=1000001:=by
 have:=yCa n;rw[zVp];omega
theorem yB1 (a b:List UInt8):bys a++bys b=bys (a++b):=by
 apply ByteArray.ext
 simp[bys,ByteArray.data_append]
def dgB (n:Int):ByteArray:=bys [UInt8.ofNat n.toNat]
theorem zXw (w:World)(n:Int):(convert 190 9 (.slice (some ⟨w.heap.size,0,none⟩) 1 1)).run Tryz.prog (w.alloc (.cells #[.int .u8 n] 5))= .ok (.string (dgB n)) (w.alloc (.cells #[.int .u8 n] 5)):=
 run_convert_bytes_arg (P:=Tryz.prog) _ 190 5 Tryz.underlying190 Tryz.underlying5 w.heap.size 0 1 1 [n] rfl (fun i hi=>by
  obtain rfl:i=0:=by omega
  exact Blk.cell (Blk.new w 5 #[.int .u8 n]) 0) 9 Tryz.underlying9
theorem zPs (n:Nat)(w:World)(h:n<10):Calls Tryz.prog 135 #[qI (n:Int)] w fun e w'=>e= .returned (.string (dgB (48+(n:Int))))/\Below w.heap.size w w':=by
 have hc:=zXw w (48+(n:Int));have hw:IntKind.u8.wrap (48+(n:Int))=48+(n:Int):=by unfold IntKind.wrap;simp[IntKind.signed,IntKind.bits];omega
 have hn:(n:Int)<10:=by omega
 go_enter Tryz.func135,Tryz.ntmps135;go_wp2;go_ret;exact⟨rfl,(Below.refl _ _).alloc (Nat.le_refl _) _⟩
theorem zVu (k:Nat):∀(n:Nat) (w:World),n<k->n<=1000000->Calls Tryz.prog 135 #[qI (n:Int)] w fun e w'=>e= .returned (.string (bys (Lib.decDigits n)))/\Below w.heap.size w w':=by
 induction k with
 |zero=>intro n w h1;omega
 |succ k ih=>
  intro n w hk h1;have IH:=zh ih;clear ih
  by_cases hs:n<10
  ·have e:bys (Lib.decDigits n)=dgB (48+(n:Int)):=by rw[zNw hs];unfold dgB;rw[show(48+(n:Int)).toNat=48+n by omega]
   rw[e];exact zPs n w hs
  ·rw[yBi (n:=n) (by omega),<-yB1];have s1:=zR0 (n:=n/10) (by omega);have s2:=zR0 (n:=n%10) (by omega);have e1:(n:Int).tdiv 10=((n/10:Nat):Int):=by rw[Int.tdiv_eq_ediv_of_nonneg (by omega)];omega
   have e2:(n:Int).tmod 10=((n%10:Nat):Int):=by rw[Int.tmod_eq_emod_of_nonneg (by omega)];omega
   have hn:¬(n:Int)<10:=by omega
   go_enter Tryz.func135,Tryz.ntmps135;go_wp2_with fail;refine(IH.out (n/10) w (by omega) (by omega)).mono ?_;rintro e w1 ⟨rfl,hb1⟩;have B1:=zh hb1;clear hb1;go_wp2_with fail;refine(IH.out (n%10) _ (by omega) (by omega)).mono ?_;rintro e w2 ⟨rfl,hb2⟩;have B2:=jt B1 hb2;clear hb2 B1;go_wp2;go_ret;exact⟨rfl,B2.out⟩
theorem zZ9 (n:Nat)(w:World)(h1:n<=1000000):Calls Tryz.prog 135 #[qI (n:Int)] w fun e w'=>e= .returned (.string (bys (Lib.decDigits n)))/\Below w.heap.size w w':=
 zVu (n+1) n w (by omega) h1
def RTmP (ok:Nat->Prop)(t:Trm)(w:World)(e:Ending)(w':World):Prop:=∃c,e= .returned (.agg c)/\TmAt (fun b=>ok b\/w.heap.size<=b) w' t c/\Below w.heap.size w w'
theorem zW8 {n:Tre}(h:zAt n=true):1<=n.kind/\n.kind<=12:=by
 have h:=(zEb h).2;unfold zBu at h
 split at h
 ·omega
 ·rw[Bool.and_eq_true] at h;have h2:=h.2
  repeat' split at h2
  all_goals (first|omega|cases h2)
theorem zT7 {n:Tre}(h:n.text.size<=1000)(hc:n.kind=12->n.cols<100):(zBt n m).1.size<=2000/\(zBt n m).2.size<=2000:=by
 have h0:=zLf h hc
 by_cases h6:n.kind=6
 ·unfold zBt;rw[if_neg (by omega),if_pos h6];constructor
  ·show(if m=1 then zKw else zEf).size<=2000
   split<;>decide
  ·show zEf.size<=2000;decide
 ·have e:zBt n m=zB1 n:=by
   unfold zB1 zBt;rw[if_neg h6,if_neg h6]
  rw[e];exact h0
structure OdS (w:World)(cs:Array Value)(v:Value)(sh:ByteArray×ByteArray)(x:World):Prop where
 bel:Below w.heap.size w x
 k0:Blk x w.heap.size 25 cs
 k1:Blk x (w.heap.size+1) 47 zerC
 k2:Blk x (w.heap.size+2) 47 #[qI 4,.string sh.1,qE,v,.string sh.2]
theorem OdS.keep {x':World}{v:Value}(h:OdS w cs v sh x)(hb:Below x.heap.size x x'):OdS w cs v sh x':=
 ⟨h.bel.trans (hb.mono h.bel.size),jL hb h.k0,jL hb h.k1,jL hb h.k2⟩
theorem OdS.one {v:Value}(h:OdS w cs v sh x)(a:ByteArray):OdS w cs v (a,sh.2) (x.setCell ⟨w.heap.size+2,1,none⟩ (.string a)):=by
 have hg:x.grownBy (x.setCell ⟨w.heap.size+2,1,none⟩ (.string a)) (some (w.heap.size+2)):=zA8 x ⟨w.heap.size+2,1,none⟩ _;exact⟨h.bel.grown hg h.bel.size fun r e=>by have:=sj e;omega,h.k0.grown hg fun e=>by have:=sj e;omega,h.k1.grown hg fun e=>by have:=sj e;omega,h.k2.set_ 1 (.string a)⟩
theorem OdS.put {v:Value}(h:OdS w cs v sh x)(a b:ByteArray):OdS w cs v (a,b) ((x.setCell ⟨w.heap.size+2,1,none⟩ (.string a)).setCell ⟨w.heap.size+2,4,none⟩ (.string b)):=by
 have h1:=h.one a;have hg:(x.setCell ⟨w.heap.size+2,1,none⟩ (.string a)).grownBy ((x.setCell ⟨w.heap.size+2,1,none⟩ (.string a)).setCell ⟨w.heap.size+2,4,none⟩ (.string b)) (some (w.heap.size+2)):=zA8 _ ⟨w.heap.size+2,4,none⟩ _;exact⟨h1.bel.grown hg h1.bel.size fun r e=>by have:=sj e;omega,h1.k0.grown hg fun e=>by have:=sj e;omega,h1.k1.grown hg fun e=>by have:=sj e;omega,h1.k2.set_ 4 (.string b)⟩
theorem zYj (ok:Nat->Prop)(n:Tre)(c:Array Value)(xs:List Trm)(A1:Option Addr)(cp:Nat)(w:World)(hN:zAv w n c)(hA:zD2 ok w A1 xs)(hx:xs.length<=cp)(hcp:cp<=9223372036854775807)(hF:zAt n=true)(hk1:n.kind≠1):
  Calls Tryz.prog 115 #[.agg c,.slice A1 xs.length cp] w (RTmP ok (opdT n xs) w):=by
 obtain⟨A2,cap2,rfl,hsz,hl,hc,hk⟩:=hN.form;have B1:=zA0 w (qO n A2 cap2);have s1:(w.alloc (qO n A2 cap2)).heap.size=w.heap.size+1:=by simp
 have B2:=zA0 (w.alloc (qO n A2 cap2)) (.cells zerC 47);have HB:=zh (B1.trans (B2.mono B1.size));have K0:=zh (keep B2 (Blk.new w 25 (qC n A2 cap2)));have K1:=zh (Blk.new (w.alloc (qO n A2 cap2)) 47 zerC);rw[s1] at K1;have HS2:=zh (show((w.alloc (qO n A2 cap2)).alloc (.cells zerC 47)).heap.size=w.heap.size+2 by simp);have HA:=zh (hA.any (ok':=fun b=>ok b/\b<w.heap.size) fun b h1 h2=>⟨h2,h1⟩);have HFO:=zh hF;have HK1:=zh hk1;have HSZ:=zh hsz;have HTX:=zh (zCp hF);have HXC:=zh (And.intro hx hcp);clear hN hA hk hF hsz hcp hk1 hx B1 B2 s1;go_enter Tryz.func115,Tryz.ntmps115;go_upto_region 1 with(fail)
 generalize (w.alloc (qO n A2 cap2)).alloc (.cells zerC 47)=w1 at*;go_upto_region 2 with(fail)
 have B3:=zA0 w1 (.cells #[qI 4,qE,qE,.slice A1 xs.length cp,qE] 47);have K2:=Blk.new w1 47 #[qI 4,qE,qE,.slice A1 xs.length cp,qE];rw[HS2.out] at K2;have S:=zh (OdS.mk (sh:=(⟨#[]⟩,⟨#[]⟩)) (HB.out.trans (B3.mono HB.out.size)) (keep B3 K0.out) (keep B3 K1.out) K2);rw[HS2.out];clear B3 K2 HB K0 K1 HS2;generalize w1.alloc (.cells #[qI 4,qE,qE,.slice A1 xs.length cp,qE] 47)=w2 at*;have k00:=S.out.k0.cell 0;have k01:=S.out.k0.cell 1;have k1c:=fun i=>S.out.k1.cell i
 have k1f:=fun i=>S.out.k1.frozen i
 go_upto_block 0 with(fail)
 go_cut [] (fun wc=>(n.kind≠2/\n.kind≠3/\n.kind≠4)/\Hid (OdS w (qC n A2 cap2) (.slice A1 xs.length cp) (zBt n xs.length) wc))
 case first=>
  by_cases n2:n.kind=2
  ·have q2:(n.kind==2)=true:=beq_iff_eq.2 n2;have HO:=zh (show opdT n xs= .mk 2 n.text ⟨#[]⟩ ⟨#[]⟩ [] by unfold opdT;rw[if_pos n2]);have KK1:=zh S.out.k1;clear n2;go_wp2_with fail;obtain⟨w9,e9,KR,HB5,HG5⟩:=fin5 KK1.out S.out.bel (by omega) (qI 2) (.string n.text) qE qN qE;rw[e9];obtain⟨r0,r1,r2,r3,r4⟩:=jF KR;exact bodyPost_ret (v:=.agg #[qI 2,.string n.text,qE,qN,qE]) (by simp[results,Tryz.results115,go_sem,r0,r1,r2,r3,r4]) rfl (show RTmP _ _ _ _ _ by rw[HO.out];exact⟨_,rfl,TmAt.zero _ _ 2 n.text HSZ.out,HB5.out⟩)
  have q2:(n.kind==2)=false:=bn n2
  by_cases n3:n.kind=3
  ·have q3:(n.kind==3)=true:=beq_iff_eq.2 n3;have HO:=zh (show opdT n xs= .mk 1 n.text ⟨#[]⟩ ⟨#[]⟩ [] by unfold opdT;rw[if_neg n2,if_pos n3]);have KK1:=zh S.out.k1;clear n2 n3;go_wp2_with fail;obtain⟨w9,e9,KR,HB5,HG5⟩:=fin5 KK1.out S.out.bel (by omega) (qI 1) (.string n.text) qE qN qE;rw[e9];obtain⟨r0,r1,r2,r3,r4⟩:=jF KR;exact bodyPost_ret (v:=.agg #[qI 1,.string n.text,qE,qN,qE]) (by simp[results,Tryz.results115,go_sem,r0,r1,r2,r3,r4]) rfl (show RTmP _ _ _ _ _ by rw[HO.out];exact⟨_,rfl,TmAt.zero _ _ 1 n.text HSZ.out,HB5.out⟩)
  have q3:(n.kind==3)=false:=bn n3
  by_cases n4:n.kind=4
  ·have q4:(n.kind==4)=true:=beq_iff_eq.2 n4;have HO:=zh (show opdT n xs= .mk 3 n.text ⟨#[]⟩ ⟨#[]⟩ [] by unfold opdT;rw[if_neg n2,if_neg n3,if_pos n4]);have KK1:=zh S.out.k1;clear n2 n3 n4;go_wp2_with fail;obtain⟨w9,e9,KR,HB5,HG5⟩:=fin5 KK1.out S.out.bel (by omega) (qI 3) (.string n.text) qE qN qE;rw[e9];obtain⟨r0,r1,r2,r3,r4⟩:=jF KR;exact bodyPost_ret (v:=.agg #[qI 3,.string n.text,qE,qN,qE]) (by simp[results,Tryz.results115,go_sem,r0,r1,r2,r3,r4]) rfl (show RTmP _ _ _ _ _ by rw[HO.out];exact⟨_,rfl,TmAt.zero _ _ 3 n.text HSZ.out,HB5.out⟩)
  have q4:(n.kind==4)=false:=bn n4;have HNE:=zh (show n.kind≠2/\n.kind≠3/\n.kind≠4 from⟨n2,n3,n4⟩);have HKD:=zh (show n.kind=5\/n.kind=6\/n.kind=7\/n.kind=8\/n.kind=9\/n.kind=10\/n.kind=11\/n.kind=12 by have h1:=zW8 HFO.out;have h2:=HK1.out;omega);clear n2 n3 n4 k1c k1f;have k2c:=fun i=>S.out.k2.cell i
  have k2f:=fun i=>S.out.k2.frozen i
  by_cases n5:n.kind=5
  ·have q5:(n.kind==5)=true:=beq_iff_eq.2 n5;have HD:=zh (show zBt n xs.length=(divS,zSl) by unfold zBt;rw[if_pos n5]);clear n5;go_wp2;go_meet;rw[HD.out];exact⟨HNE.out,zh (S.out.put divS zSl)⟩
  have q5:(n.kind==5)=false:=bn n5
  by_cases n6:n.kind=6
  ·have q6:(n.kind==6)=true:=beq_iff_eq.2 n6;have HD:=zh (show zBt n xs.length=((if xs.length=1 then zKw else zEf),zEf) by unfold zBt;rw[if_neg n5,if_pos n6]);clear n5 n6
   by_cases hx1:xs.length=1
   ·have qx:((xs.length:Int)==1)=true:=by rw[hx1];rfl
    have HD2:=zh (show zBt n xs.length=(zKw,zEf) by rw[HD.out,if_pos hx1]);clear hx1;go_wp2;go_meet;rw[HD2.out];exact⟨HNE.out,zh ((S.out.put zEf zEf).one zKw)⟩
   ·have qx:((xs.length:Int)==1)=false:=bn (by omega);have HD2:=zh (show zBt n xs.length=(zEf,zEf) by rw[HD.out,if_neg hx1]);clear hx1;go_wp2;go_meet;rw[HD2.out];exact⟨HNE.out,zh (S.out.put zEf zEf)⟩
  have q6:(n.kind==6)=false:=bn n6
  by_cases n7:n.kind=7
  ·have q7:(n.kind==7)=true:=beq_iff_eq.2 n7;have HD:=zh (show zBt n xs.length=(indS,subS) by unfold zBt;rw[if_neg n5,if_neg n6,if_pos n7]);clear n5 n6 n7;go_wp2;go_meet;rw[HD.out];exact⟨HNE.out,zh (S.out.put indS subS)⟩
  have q7:(n.kind==7)=false:=bn n7
  by_cases n8:n.kind=8
  ·have q8:(n.kind==8)=true:=beq_iff_eq.2 n8;have HD:=zh (show zBt n xs.length=(powS,supS) by unfold zBt;rw[if_neg n5,if_neg n6,if_neg n7,if_pos n8]);clear n5 n6 n7 n8;go_wp2;go_meet;rw[HD.out];exact⟨HNE.out,zh (S.out.put powS supS)⟩
  have q8:(n.kind==8)=false:=bn n8
  by_cases n9:n.kind=9
  ·have q9:(n.kind==9)=true:=beq_iff_eq.2 n9;have HD:=zh (show zBt n xs.length=(zTr,zK6) by unfold zBt;rw[if_neg n5,if_neg n6,if_neg n7,if_neg n8,if_pos n9]);clear n5 n6 n7 n8 n9;go_wp2;go_meet;rw[HD.out];exact⟨HNE.out,zh (S.out.put zTr zK6)⟩
  have q9:(n.kind==9)=false:=bn n9
  by_cases n10:n.kind=10
  ·have q10:(n.kind==10)=true:=beq_iff_eq.2 n10;have HD:=zh (show zBt n xs.length=(n.text,accS) by unfold zBt;rw[if_neg n5,if_neg n6,if_neg n7,if_neg n8,if_neg n9,if_pos n10]);clear n5 n6 n7 n8 n9 n10;go_wp2;go_meet;rw[HD.out];exact⟨HNE.out,zh (S.out.put n.text accS)⟩
  have q10:(n.kind==10)=false:=bn n10
  by_cases n12:n.kind=12
  ·have q12:(n.kind==12)=true:=beq_iff_eq.2 n12;have q11:(n.kind==11)=false:=bn (by omega);have HCO:=zh (zHa HFO.out n12);have HD:=zh (show zBt n xs.length=(matS,matS++bys (Lib.decDigits n.cols.toNat)) by unfold zBt;rw[if_neg n5,if_neg n6,if_neg n7,if_neg n8,if_neg n9,if_neg n10,if_pos n12]);clear n5 n6 n7 n8 n9 n10 n12;obtain⟨m,hm⟩:∃m:Nat,n.cols=(m:Int):=⟨n.cols.toNat,(Int.toNat_of_nonneg HCO.out.1).symm⟩
   have hm2:n.cols.toNat=m:=by omega
   have hm3:m<=100:=by have:=HCO.out;omega
   have k02:w2.cell? ⟨w.heap.size,2,none⟩=some (qI (m:Int)):=by rw[<-hm];exact S.out.k0.cell 2
   rw[hm2] at HD;have HM3:=zh hm3;clear hm hm2 hm3;go_wp2_with fail;refine(zZ9 m w2 (by have:=HM3.out;omega)).mono ?_;rintro e w3 ⟨rfl,hb⟩;have hds:(bys (Lib.decDigits m)).size<=1000:=by
    have h1:(Lib.decDigits m).length<=20:=by rw[Lib.decDigits_length];exact Lib.nDigits_le20 _ (by have:=HM3.out;omega)
    rw[zVp];omega
   replace S:=zh (S.out.keep hb);clear hb k00 k01 k02 k2c k2f;have k2c:=fun i=>S.out.k2.cell i
   have k2f:=fun i=>S.out.k2.frozen i
   go_wp2;go_meet;rw[HD.out];exact⟨HNE.out,zh (S.out.put matS (matS++bys (Lib.decDigits m)))⟩
  have q11:(n.kind==11)=true:=beq_iff_eq.2 (by have:=HKD.out;omega);have HD:=zh (show zBt n xs.length=((if n.text.data.toList=[124,124] then absS else grpS),fenS++n.text) by unfold zBt;rw[if_neg n5,if_neg n6,if_neg n7,if_neg n8,if_neg n9,if_neg n10,if_neg n12]);clear n5 n6 n7 n8 n9 n10 n12;have hts:=HTX.out;go_upto_region 24 with(fail)
  go_region;have S1:Hid (OdS w (qC n A2 cap2) (.slice A1 xs.length cp) (grpS,fenS++n.text) (((w2.setCell ⟨w.heap.size+2,1,none⟩ (.string ⟨#[103,114,111,117,112]⟩)).setCell ⟨w.heap.size+2,4,none⟩ (.string ((⟨#[102,101,110,99,101]⟩:ByteArray)++n.text))).drew)):=zh ((S.out.put grpS (fenS++n.text)).keep (zA3 (Below.refl _ _)));clear S k00 k01 k2c k2f;generalize ((w2.setCell ⟨w.heap.size+2,1,none⟩ (.string ⟨#[103,114,111,117,112]⟩)).setCell ⟨w.heap.size+2,4,none⟩ (.string ((⟨#[102,101,110,99,101]⟩:ByteArray)++n.text))).drew=w5 at*;have k01:=S1.out.k0.cell 1;have k2c:=fun i=>S1.out.k2.cell i
  have k2f:=fun i=>S1.out.k2.frozen i
  by_cases hb:n.text.data.toList=[124,124]
  ·have qb:(n.text.toList==[124,124])=true:=by rw[ByteArray.toList_eq,hb];rfl
   have HD2:=zh (show zBt n xs.length=(absS,fenS++n.text) by rw[HD.out,if_pos hb]);clear hb;go_wp2;go_meet;rw[HD2.out];exact⟨HNE.out,zh (S1.out.one absS)⟩
  ·have qb:(n.text.toList==[124,124])=false:=by rw[ByteArray.toList_eq];exact bn hb
   have HD2:=zh (show zBt n xs.length=(grpS,fenS++n.text) by rw[HD.out,if_neg hb]);clear hb;go_wp2;go_meet;rw[HD2.out];exact⟨HNE.out,S1⟩
 have HSHP:=zh (show(zBt n xs.length).1.size<=9223372036854775807/\(zBt n xs.length).2.size<=9223372036854775807 by have:=zT7 (m:=xs.length) HTX.out (fun e=>(zHa HFO.out e).2);omega);clear S k00 k01 k1c k1f;obtain⟨⟨n2,n3,n4⟩,S⟩:=hcut;have HOT:=zh (show opdT n xs= .mk 4 (zBt n xs.length).1 ⟨#[]⟩ (zBt n xs.length).2 xs by unfold opdT;rw[if_neg n2,if_neg n3,if_neg n4]);clear n2 n3 n4;obtain⟨sh,hsh⟩:∃sh,sh=zBt n xs.length:=⟨_,rfl⟩
 rw[<-hsh] at HOT HSHP S;clear hsh;obtain⟨nam,frm⟩:=sh;dsimp only at HOT HSHP;have HAC:=zh (HA.out.keep S.out.bel);have k2c:=fun i=>S.out.k2.cell i
 have k1c:=fun i=>S.out.k1.cell i
 have k1f:=fun i=>S.out.k1.frozen i
 have KK1:=zh S.out.k1;go_wp2_with fail;obtain⟨w9,e9,KR,HB5,HG5⟩:=fin5 KK1.out S.out.bel (by omega) (qI 4) (.string nam) qE (.slice A1 xs.length cp) (.string frm);rw[e9];obtain⟨r0,r1,r2,r3,r4⟩:=jF KR;exact bodyPost_ret (v:=.agg #[qI 4,.string nam,qE,.slice A1 xs.length cp,.string frm]) (by simp[results,Tryz.results115,go_sem,r0,r1,r2,r3,r4]) rfl (show RTmP _ _ _ _ _ by rw[HOT.out];exact⟨_,rfl,TmAt.of HSHP.out.1 (by decide) HSHP.out.2 HXC.out.1 HXC.out.2 (HAC.out.map HG5.out.size (fun b _ hb=>.inl hb.1) fun p _ hb=>World.cell?_of_block (HG5.out.block _ ‹_› fun e=>by have:=sj e;have:=hb.2;omega)),HB5.out⟩)
end Go.Proofs.YtapgncbegadbnaaGreatDoor.El
