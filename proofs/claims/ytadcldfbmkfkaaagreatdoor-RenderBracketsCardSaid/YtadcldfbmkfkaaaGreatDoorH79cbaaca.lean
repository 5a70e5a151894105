/- Symbols, of the program and of the reference. -/
import Derived.Test.YtadcldfbmkfkaaaGreatDoorH7677f2f1
import Derived.Lib.Case
import Derived.Lib.ItoaNum
import Derived.StringKeys
import Derived.Lib.SmallJoins
import Derived.Lib.ItoaLen
import Derived.Shelf.Strings.BuilderK
import Derived.Deep.WholeRow
import Derived.Lib.IndexBytes
namespace Go.Proofs.YtadcldfbmkfkaaaGreatDoor.Ch
open Go.RowKit
def zHj (s:ByteArray):Bool:=s.toList==zE0||symB s.toList
def zFh (ts:List ByteArray):Bool:=decide (ts.length≤200)&&ts.all zHj
theorem zMq {ts:List ByteArray}{k:Nat}{s:ByteArray}(hs:ts[k]?=some s)(h:∀(j:Nat) t,ts[j]?=some t→j<k→zHj t=true)(hq:zHj s=true):∀(j:Nat) t,ts[j]?=some t→j<k+1→zHj t=true:=fun j t hj hlt=>by
 rcases Nat.lt_or_ge j k with h'|h'
 ·exact h j t hj h'
 ·obtain rfl:j=k:=by omega
  rw[hs] at hj;obtain rfl:=sj hj;exact hq
theorem zWi {ts:List ByteArray}{k:Nat}{s:ByteArray}(hs:ts[k]?=some s)(hq:zHj s=false):zFh ts=false:=by
 unfold zFh;have:ts.all zHj=false:=List.all_eq_false.2 ⟨s,List.mem_of_getElem? hs,by rw[hq];simp⟩;rw[this,Bool.and_false]
theorem zXm {ts:List ByteArray}(h:∀(j:Nat) t,ts[j]?=some t→j<ts.length→zHj t=true):zFh ts=decide (ts.length≤200):=by
 unfold zFh;have:ts.all zHj=true:=List.all_eq_true.2 fun s hs=>by
  obtain⟨j,hj⟩:=List.mem_iff_getElem?.1 hs;exact h j s hj (List.getElem?_eq_some_iff.1 hj).1
 rw[this,Bool.and_true]
theorem zYz {s:ByteArray}(h:s.toList=zE0):zHj s=true:=by unfold zHj;rw[h];rfl
theorem yAf {s:ByteArray}(h:¬s.toList=zE0):zHj s=symB s.toList:=by
 unfold zHj;rw[show(s.toList==zE0)=false from bn h,Bool.false_or]
set_option maxRecDepth 100000 in
set_option maxHeartbeats 2000000 in
theorem zEf (T:Option Addr)(cT:Nat)(ts:List ByteArray)(w:World)(hT:zCj w T ts):Calls Tryz.prog 84 #[.slice T ts.length cT] w fun e w'=>e= .returned (.bool (zFh ts))∧Below w.heap.size w w':=by
 have HT:=zh hT;clear hT
 by_cases hl:200<ts.length
 ·have HQ:=zh (show zFh ts=false by unfold zFh;rw[decide_eq_false (by omega)];rfl);go_enter Tryz.func84,Tryz.ntmps84;go_wp2_with fail;go_ret;exact⟨zA1 HQ.out.symm,Below.refl _ _⟩
 ·have HQ:=zh (@zXm ts);rw[decide_eq_true (show ts.length≤200 by omega)] at HQ;go_enter Tryz.func84,Tryz.ntmps84;go_wp2_with fail
  go_loopw [10] (fun i wr=>∃k:Nat,k≤ts.length∧i= .int .i64 k∧Hid (∀(j:Nat) t,ts[j]?=some t→j<k→zHj t=true)∧Hid (zCj wr T ts)∧Hid (Below w.heap.size w wr)) (fun i _=>ts.length -(intOf i).toNat)
  case atStart=>exact⟨0,by omega,rfl,(fun j _ _ h=>by omega),HT,Below.refl _ _⟩
  case round=>
   clear HT;obtain⟨k,hk,rfl,HJ,HT,H0⟩:=hrel
   by_cases hlt:k<ts.length
   ·obtain⟨s,hs⟩:∃s,ts[k]?=some s:=⟨_,gE hlt⟩
    obtain⟨hf,ad,rfl,hadl,c0⟩:=HT.out k s hs;have HS:=zh hs;have HF:=zh hf;clear hs hf hadl
    by_cases hq:s.toList=zE0
    ·have HO:=zh (zMq HS.out HJ.out (zYz hq));have hq2:(s.toList==zE0)=true:=beq_iff_eq.2 hq;unfold zE0 at hq2 hq;clear HJ;go_wp2_with fail;go_roundw
     case rel=>exact⟨k+1,by omega,by go_num,HO,HT,H0⟩
     case measure=>simp[intOf];omega
    ·have HNO:=zh (yAf hq);have hq2:(s.toList==zE0)=false:=bn hq;unfold zE0 at hq2;clear hq;go_wp2_with fail;refine(zHq s _ HF.out).mono ?_;rintro e w1 ⟨rfl,hb⟩;have NT:=zh (HT.out.keep hb);have NB:=jt H0 hb;clear HT H0 hb c0;cases hy:symB s.toList
     ·rw[hy] at HNO;have HBAD:=zh (zWi HS.out HNO.out);clear hy;go_wp2_with fail;go_ret;exact⟨zA1 HBAD.out.symm,NB.out⟩
     ·rw[hy] at HNO;have HO:=zh (zMq HS.out HJ.out HNO.out);clear hy HJ;go_wp2_with fail;go_roundw
      case rel=>exact⟨k+1,by omega,by go_num,HO,NT,NB⟩
      case measure=>simp[intOf];omega
   ·obtain rfl:k=ts.length:=by omega
    go_wp2_with fail;go_ret;exact⟨zA1 (HQ.out HJ.out).symm,H0.out⟩
end Go.Proofs.YtadcldfbmkfkaaaGreatDoor.Ch
namespace Go.Proofs.YtadcldfbmkfkaaaGreatDoor.Sp
open At
inductive Trm where
 |mk (kind:Int) (nam vr form:ByteArray) (args:List Trm)
def Trm.kind:Trm→Int
 | .mk k _ _ _ _=>k
def Trm.nam:Trm→ByteArray
 | .mk _ a _ _ _=>a
def Trm.vr:Trm→ByteArray
 | .mk _ _ v _ _=>v
def Trm.form:Trm→ByteArray
 | .mk _ _ _ f _=>f
def Trm.args:Trm→List Trm
 | .mk _ _ _ _ ts=>ts
mutual
def cntM:Trm→Nat
 | .mk _ _ _ _ ts=>cntL ts+1
def cntL:List Trm→Nat
 |[]=>0
 |t::ts=>cntM t+cntL ts
end
def zC9 (a:Nat)(l:List UInt8):Bool:=l.all fun c=>decide (a≤c.toNat)&&decide (c.toNat≤126)
def idB (l:List UInt8):Bool:=zAl l&&symB l
def idP (l:List UInt8):Bool:= !l.isEmpty&&(letB (l.headD 0)&&symB l)
theorem zZc (l:List UInt8):idP l=idB l:=by
 unfold idP idB
 match l with
 |[]=>rfl
 |[c]=>
  rw[show zAl [c]=letB c by simp[zAl,zB2],show symB [c]=(letB c||hasB zEw c) from rfl];show(true&&(letB c&&_))=_;rw[Bool.true_and]
 |c::d::r=>
  rw[show symB (c::d::r)=(decide (2≤(c::d::r).length)&&(decide ((c::d::r).length≤16)&&(zB2 (c::d::r)&&(!inB zAz (c::d::r)&& !inB zAv (c::d::r))))) from rfl];unfold zAl;rw[show(c::d::r).isEmpty=false from rfl,show(c::d::r).headD 0=c from rfl,Bool.not_false,Bool.true_and];have h1:decide (1≤(c::d::r).length)=true:=by simp
  rw[h1,Bool.true_and];cases hl:zB2 (c::d::r)
  ·simp
  ·have hc:letB c=true:=by
    unfold zB2 at hl;rw[List.all_cons,Bool.and_eq_true] at hl;exact hl.1
   rw[hc,Bool.true_and];cases decide ((c::d::r).length≤16)<;>simp
def ownM (k:Int)(a v f:List UInt8)(n:Nat):Bool:=
 if k=1 then(v.isEmpty&&(f.isEmpty&&decide (n=0)))&&numP a
 else if k=2 then(v.isEmpty&&(f.isEmpty&&decide (n=0)))&&idB a
 else if k=3 then(v.isEmpty&&(f.isEmpty&&decide (n=0)))&&(zC9 32 a&&decide (a.length≤200))
 else if k=4 then(zC9 33 f&&decide (f.length≤16))&&(zAl a&&v.isEmpty)
 else if k=5 then(zC9 33 f&&decide (f.length≤16))&&(zAl a&&(idB v&&decide (0<n)))
 else false
mutual
def zE4:Trm→Bool
 | .mk k a v f ts=>ownM k a.data.toList v.data.toList f.data.toList ts.length&&zBw ts
def zBw:List Trm→Bool
 |[]=>true
 |t::ts=>zE4 t&&zBw ts
end
def zAx (t:Trm):Bool:=zE4 t&&decide (cntM t≤1000)
mutual
def chkM:Trm→Nat→Bool×Nat
 | .mk k a v f ts,n=>if 1000<n+1∨ownM k a.data.toList v.data.toList f.data.toList ts.length=false then(false,n+1) else zCh ts (n+1)
def zCh:List Trm→Nat→Bool×Nat
 |[],n=>(true,n)
 |t::ts,n=>if(chkM t n).1 then zCh ts (chkM t n).2 else(false,(chkM t n).2)
end
mutual
theorem zIb:∀(t:Trm) (n:Nat),((chkM t n).1=true↔zE4 t=true∧n+cntM t≤1000)∧((chkM t n).1=true→(chkM t n).2=n+cntM t)
 | .mk k a v f ts,n=>by
  unfold chkM zE4 cntM
  by_cases h:1000<n+1∨ownM k a.data.toList v.data.toList f.data.toList ts.length=false
  ·rw[if_pos h];refine⟨⟨fun e=>by simp at e,fun⟨h1,h2⟩=>?_⟩,fun e=>by simp at e⟩;rw[Bool.and_eq_true] at h1;rcases h with h|h
   ·omega
   ·rw[h] at h1;simp at h1
  ·rw[if_neg h];simp only[not_or,Bool.not_eq_false] at h;obtain⟨g1,g2⟩:=h;obtain⟨i1,i2⟩:=zNz ts (n+1) (by omega);rw[g2,Bool.true_and];refine⟨i1.trans ⟨fun⟨a,b⟩=>⟨a,by omega⟩,fun⟨a,b⟩=>⟨a,by omega⟩⟩,fun e=>?_⟩;rw[i2 e];omega
theorem zNz:∀(ts:List Trm) (n:Nat),n≤1000→((zCh ts n).1=true↔zBw ts=true∧n+cntL ts≤1000)∧((zCh ts n).1=true→(zCh ts n).2=n+cntL ts)
 |[],n,hn=>by
  unfold zCh zBw cntL;simp;omega
 |t::ts,n,hn=>by
  unfold zCh zBw cntL;obtain⟨a1,a2⟩:=zIb t n;cases hc:(chkM t n).1
  ·rw[if_neg (by simp)];rw[hc] at a1;refine⟨⟨fun e=>by simp at e,fun⟨h1,h2⟩=>?_⟩,fun e=>by simp at e⟩;simp only[Bool.and_eq_true] at h1;have:=a1.2 ⟨h1.1,by omega⟩;cases this
  ·rw[if_pos rfl];obtain⟨f1,f2⟩:=a1.1 hc;have e2:=a2 hc;rw[e2];obtain⟨b1,b2⟩:=zNz ts (n+cntM t) f2;rw[f1,Bool.true_and];refine⟨b1.trans ⟨fun⟨p,q⟩=>⟨p,by omega⟩,fun⟨p,q⟩=>⟨p,by omega⟩⟩,fun e=>?_⟩;rw[b2 e];omega
end
theorem zK8 (t:Trm):(chkM t 0).1=zAx t:=by
 unfold zAx;rw[Bool.eq_iff_iff,(zIb t 0).1,Bool.and_eq_true,decide_eq_true_eq,Nat.zero_add]
theorem zU3 {t:Trm}(h:zAx t=true):(chkM t 0).2=cntM t:=by
 rw[(zIb t 0).2 (by rw[zK8,h]),Nat.zero_add]
theorem zEj (t:Trm):1≤cntM t:=by cases t;rw[cntM];omega
theorem zFb:∀{ts:List Trm} {i:Nat} {t:Trm},ts[i]?=some t→cntM t≤cntL ts
 |[],i,t,h=>by simp at h
 |x::r,0,t,h=>by simp at h;subst h;rw[cntL];omega
 |x::r,i+1,t,h=>by rw[List.getElem?_cons_succ] at h;have:=zFb h;rw[cntL];omega
theorem zNt {ks:List Trm}{k:Nat}{x:Trm}(h:ks[k]?=some x):cntL (ks.take (k+1))=cntL (ks.take k)+cntM x:=by
 rw[List.take_add_one,h,Option.toList];generalize ks.take k=l
 induction l with
 |nil=>simp[cntL]
 |cons a r ih=>rw[List.cons_append,cntL,cntL,ih];omega
theorem zU5 (ks:List Trm)(k:Nat):cntL (ks.take k)≤cntL ks:=by
 induction ks generalizing k with
 |nil=>simp[cntL]
 |cons a r ih=>
  cases k with
  |zero=>simp[cntL]
  |succ k=>rw[List.take_succ_cons,cntL,cntL];have:=ih k;omega
theorem zM6 (ks:List Trm):ks.length≤cntL ks:=by
 induction ks with
 |nil=>simp
 |cons a r ih=>rw[List.length_cons,cntL];have:=zEj a;omega
theorem zP9 {ks:List Trm}{k:Nat}{x:Trm}(h:ks[k]?=some x):zBw (ks.take (k+1))=(zBw (ks.take k)&&zE4 x):=by
 rw[List.take_add_one,h,Option.toList];generalize ks.take k=l
 induction l with
 |nil=>simp[zBw]
 |cons a r ih=>rw[List.cons_append,zBw,zBw,ih];simp[Bool.and_assoc]
theorem zN3 {ks:List Trm}{k:Nat}(h:zBw (ks.take k)=false):zBw ks=false:=by
 induction ks generalizing k with
 |nil=>rw[List.take_nil] at h;rw[zBw] at h;cases h
 |cons a r ih=>
  cases k with
  |zero=>rw[List.take_zero,zBw] at h;cases h
  |succ k=>
   rw[List.take_succ_cons,zBw] at h;rw[zBw];cases ha:zE4 a
   ·rfl
   ·rw[ha,Bool.true_and] at h;rw[ih h];rfl
theorem zIy:∀{ts:List Trm} {i:Nat} {t:Trm},zBw ts=true→ts[i]?=some t→zE4 t=true
 |[],i,t,_,h=>by simp at h
 |x::r,0,t,hf,h=>by simp at h;subst h;rw[zBw,Bool.and_eq_true] at hf;exact hf.1
 |x::r,i+1,t,hf,h=>by rw[List.getElem?_cons_succ] at h;rw[zBw,Bool.and_eq_true] at hf;exact zIy hf.2 h
def sizM (t:Trm):Int:=if zE4 t=true∧cntM t≤1000 then(cntM t:Int) else -1
theorem zTn (t:Trm):decide (0<sizM t)=zAx t:=by
 unfold sizM zAx;have:=zEj t
 by_cases h:zE4 t=true∧cntM t≤1000
 ·rw[if_pos h,h.1,decide_eq_true h.2];simp;omega
 ·rw[if_neg h];cases hf:zE4 t
  ·rfl
  ·rw[Bool.true_and,decide_eq_false (fun h2=>h ⟨hf,h2⟩)];rfl
end Go.Proofs.YtadcldfbmkfkaaaGreatDoor.Sp
namespace Go.Proofs.YtadcldfbmkfkaaaGreatDoor.El
open At Ch Sp
inductive Mea (α:Type) where
 |ok (a:α)
 |bad (e:Int) (pos:List Int)
def Mea.then_ {α β:Type}(m:Mea α)(f:α→Mea β):Mea β:=match m with
 | .ok a=>f a
 | .bad e p=>.bad e p
def zBx (rs:List Rul)(s:List UInt8):Bool:= !s.isEmpty&&rs.any fun r=>decide (r.sym.data.toList=s)
def unsc (n:Tre):Tre:=if n.kind=7∨n.kind=8∨n.kind=9 then(match n.kids with
 |b::_=>match b.kids with
  |[x]=>x
  |_=>n
 |[]=>n) else n
def zD4 (rs:List Rul)(n:Tre):Bool:=decide ((unsc n).kind=2)&&zBx rs (unsc n).text.data.toList
def zJ7:ByteArray:=⟨#[35]⟩
def tokN (rs:List Rul)(n:Tre):Option ByteArray:=
 if zD4 rs n=true then some (unsc n).text else if n.kind=2∧idB n.text.data.toList=false then none else some zJ7
def zBm (rs:List Rul):List Tre→Sum (List ByteArray) Nat
 |[]=>.inl []
 |n::ns=>match tokN rs n with
  |none=>.inr 0
  |some t=>match zBm rs ns with
   | .inl ts=>.inl (t::ts)
   | .inr i=>.inr (i+1)
def kndR (rs:List Rul)(r:Int):Int:=match rs[r.toNat]? with
 |some x=>x.kind
 |none=>0
def zHa (ks:List Rd):Int:=match ks with
 |_::k::_=>k.at_
 |_=>0
def opI (rs:List Rul)(x:Rd)(fin:Int):Int:=
 if kndR rs x.rule=1 then zHa x.kids -1 else if kndR rs x.rule=2 then x.at_ else if kndR rs x.rule=3 then fin -1 else -1
def zB0 (rs:List Rul)(x:Rd)(fin:Int):List Int:=
 if kndR rs x.rule=1 then[zHa x.kids -1,fin] else if kndR rs x.rule=2 then[fin] else if kndR rs x.rule=3 then[fin -1] else[zHa x.kids,fin]
mutual
def asgR (rs:List Rul):Rd→Int→List (Int×Int)
 | .mk r a ks,fin=>if r<0 then[] else(if 0≤opI rs (.mk r a ks) fin then[(opI rs (.mk r a ks) fin,r)] else[])++asgL rs ks (zB0 rs (.mk r a ks) fin)
def asgL (rs:List Rul):List Rd→List Int→List (Int×Int)
 |k::ks,e::es=>asgR rs k e++asgL rs ks es
 |_,_=>[]
end
def zGd (ws:List (Int×Int))(n:Nat):List Int:=ws.foldl (fun l p=>l.set p.1.toNat p.2) (List.replicate n 0)
structure Prt where
 opnd:Trm
 scr:List Trm
 fin:ByteArray
 vr:ByteArray
def zerT:Trm:=.mk 0 ⟨#[]⟩ ⟨#[]⟩ ⟨#[]⟩ []
def zerP:Prt:=⟨zerT,[],⟨#[]⟩,⟨#[]⟩⟩
def infS:ByteArray:=⟨#[105,110,102,105,120]⟩
def preS:ByteArray:=⟨#[112,114,101,102,105,120]⟩
def posS:ByteArray:=⟨#[112,111,115,116,102,105,120]⟩
def juxS:ByteArray:=⟨#[106,117,120,116,97,112,111,115,101]⟩
def zE8:ByteArray:=⟨#[98,105,110,100]⟩
def zCz (k:Int):ByteArray:=if k=1 then infS else if k=2 then preS else if k=3 then posS else juxS
def mkOp (nam:ByteArray)(k:Int)(p:Option Prt)(args:List Trm):Trm:=match p with
 |none=>.mk 4 nam ⟨#[]⟩ (zCz k) args
 |some p=>if p.vr.data.toList=[] then .mk 4 nam ⟨#[]⟩ (zCz k++p.fin) (p.scr++args) else .mk 5 nam p.vr (zE8++p.fin) (p.scr++args)
def zI8 (rs:List Rul)(r:Int):ByteArray:=match rs[r.toNat]? with
 |some x=>x.nam
 |none=>⟨#[]⟩
mutual
def trmR (rs:List Rul)(ps:List Prt):Rd→Int→Trm
 | .mk r a ks,fin=>if r<0 then(match ps[a.toNat]? with
   |some p=>p.opnd
   |none=>zerT) else mkOp (zI8 rs r) (kndR rs r) (if 0≤opI rs (.mk r a ks) fin then ps[(opI rs (.mk r a ks) fin).toNat]? else none) (trmL rs ps ks (zB0 rs (.mk r a ks) fin))
def trmL (rs:List Rul)(ps:List Prt):List Rd→List Int→List Trm
 |k::ks,e::es=>trmR rs ps k e::trmL rs ps ks es
 |_,_=>[]
end
def zMk (rs:List Rul)(sub:Tre):Option ByteArray:=match sub.kids with
 |a::b::_::_=>if(a.kind=2∧idB a.text.data.toList=true∧zBx rs a.text.data.toList=false)∧b.kind=2∧b.text.data.toList=[61] then some a.text else none
 |_=>none
def subS:ByteArray:=⟨#[115,117,98]⟩
def supS:ByteArray:=⟨#[115,117,112]⟩
def zCg:ByteArray:=⟨#[98,111,116,104]⟩
def divS:ByteArray:=⟨#[100,105,118,105,100,101]⟩
def zCy:ByteArray:=⟨#[102,114,97,99]⟩
def zR2:ByteArray:=⟨#[115,113,114,116]⟩
def zC8:ByteArray:=⟨#[114,111,111,116]⟩
def indS:ByteArray:=⟨#[105,110,100,101,120]⟩
def powS:ByteArray:=⟨#[112,111,119,101,114]⟩
def zYc:ByteArray:=⟨#[105,110,100,101,120,112,111,119,101,114]⟩
def accS:ByteArray:=⟨#[97,99,99,101,110,116]⟩
def matS:ByteArray:=⟨#[109,97,116,114,105,120]⟩
def fenS:ByteArray:=⟨#[102,101,110,99,101]⟩
def absS:ByteArray:=⟨#[97,98,115]⟩
def grpS:ByteArray:=⟨#[103,114,111,117,112]⟩
def endS (k:Int):ByteArray:=if k=7 then subS else if k=8 then supS else zCg
def zB3 (n:Tre):ByteArray×ByteArray:=
 if n.kind=5 then(divS,zCy)
 else if n.kind=6 then((match n.kids with
  |d::_=>if d.kids.isEmpty then zR2 else zC8
  |[]=>zC8),zC8)
 else if n.kind=7 then(indS,subS) else if n.kind=8 then(powS,supS) else if n.kind=9 then(zYc,zCg)
 else if n.kind=10 then(n.text,accS)
 else if n.kind=12 then(matS,matS++bys (Lib.decDigits n.cols.toNat))
 else((if n.text.data.toList=[124,124] then absS else grpS),fenS++n.text)
def zAp (M:List Tre→List Int→Nat→Mea Trm)(path:List Int):List Tre→Nat→Nat→Mea (List Trm)
 |[],_,_=>.ok []
 |n::ns,s,b=>(M n.kids (path++[(s:Int)]) b).then_ fun t=>(zAp M path ns (s+1) 0).then_ fun ts=>.ok (t::ts)
def zBu (M:List Tre→List Int→Nat→Mea Trm)(n:Tre)(path:List Int):Mea Prt:=
 if n.kind=2 then .ok ⟨.mk 2 n.text ⟨#[]⟩ ⟨#[]⟩ [],[],⟨#[]⟩,⟨#[]⟩⟩
 else if n.kind=3 then .ok ⟨.mk 1 n.text ⟨#[]⟩ ⟨#[]⟩ [],[],⟨#[]⟩,⟨#[]⟩⟩
 else if n.kind=4 then .ok ⟨.mk 3 n.text ⟨#[]⟩ ⟨#[]⟩ [],[],⟨#[]⟩,⟨#[]⟩⟩
 else((match n.kids with
  |d::ks=>if n.kind=6∧d.kids.isEmpty=true then zAp M path ks 1 0 else zAp M path (d::ks) 0 0
  |[]=>.ok []):Mea (List Trm)).then_ fun ts=>.ok ⟨.mk 4 (zB3 n).1 ⟨#[]⟩ (zB3 n).2 ts,[],⟨#[]⟩,⟨#[]⟩⟩
def varN (rs:List Rul)(n:Tre)(p:Bool):Option ByteArray:=if p=true∧(n.kind=7∨n.kind=9) then(match n.kids with
 |_::sub::_=>zMk rs sub
 |_=>none) else none
def scrF (rs:List Rul)(M:List Tre→List Int→Nat→Mea Trm)(n:Tre)(path:List Int)(p:Bool):Mea Prt:=
 if n.kind=2 then .ok zerP
 else(zAp M path n.kids.tail 1 (if(varN rs n p).isSome then 2 else 0)).then_ fun ts=>.ok ⟨zerT,ts,endS n.kind,(varN rs n p).getD ⟨#[]⟩⟩
def zAy (rs:List Rul)(M:List Tre→List Int→Nat→Mea Trm)(path:List Int)(kd:Nat→Int)(k:Nat):List Tre→List ByteArray→Nat→Mea (List Prt)
 |n::ns,t::ts,i=>(if t.data.toList=[35] then zBu M n (path++[((k+i:Nat):Int)]) else scrF rs M n (path++[((k+i:Nat):Int)]) (decide (kd i=2))).then_ fun p=>(zAy rs M path kd k ns ts (i+1)).then_ fun ps=>.ok (p::ps)
 |_,_,_=>.ok []
def zFx (rs:List Rul)(ts:List ByteArray):List Rd:=if(zAg rs&&zFh ts)=true then allR rs ts 0 ts.length else[]
def zI6 (rs:List Rul)(M:List Tre→List Int→Nat→Mea Trm)(items:List Tre)(path:List Int)(k:Nat):Mea Trm:=
 if items.length≤k then .bad 15 (path++[(k:Int)])
 else match zBm rs (items.drop k) with
  | .inr i=>.bad 15 (path++[((k+i:Nat):Int)])
  | .inl ts=>match zFx rs ts with
   |[]=>.bad 15 (path++[(k:Int)])
   |[x]=>(zAy rs M path (fun i=>kndR rs ((zGd (asgR rs x ts.length) ts.length).getD i 0)) k (items.drop k) ts 0).then_ fun ps=>.ok (trmR rs ps x ts.length)
   |_::_::_=>.bad 14 (path++[(k:Int)])
def zAf (rs:List Rul):Nat→List Tre→List Int→Nat→Mea Trm
 |0,_,path,_=>.bad 0 path
 |f+1,items,path,k=>zI6 rs (zAf rs f) items path k
end Go.Proofs.YtadcldfbmkfkaaaGreatDoor.El
namespace Go.Proofs.YtadcldfbmkfkaaaGreatDoor
open Go.Maps (Keyed)
theorem zLy {H:Type}{P:Program}{e:TypeId}(he:P.underlying e=some .bool){v:Value}{z:DataW H×List MemPlace}(h:plainElem P e v=some z):∃a,v= .bool a∧z=(.lit (.bool a),[]):=by
 unfold plainElem at h;rw[he] at h;cases v<;>simp at h
 exact⟨_,rfl,h.symm⟩
theorem zK0 {H:Type}{P:Program}{w:World}{k b n:Nat}{D:DataW H}{t e:TypeId}(h:w.ownsMap P k (plainElem P e) b n D)(K:Keyed P k)(ht:P.underlying t=some (.map k e))(he:P.underlying e=some .bool)(hz:(zeroValue e).run P w= .ok (.bool false) w)
  {key:Value} {kl:Lit} (hkey:keyOf P k key=some kl):∃c,(Instr.lookup t (.map (some b)) key false).run P w= .ok (.bool c) w∧D.atKey kl (.lit (.bool false))= .lit (.bool c):=by
 obtain⟨v,ps,hrun,hv⟩:=h.lookup K ht hz (plainElem_bool he false) hkey;obtain⟨c,rfl,hc⟩:=zLy he hv;simp only[Prod.mk.injEq] at hc;exact⟨c,hrun,hc.1⟩
theorem zCi {H:Type}{P:Program}(w:World){ops:Array Oper}{rest:List Oper}{o:Oper}{a:Act}{Q:Exit→Act→World→Prop}
  (hg:o.guard=none) (m x:Operand) (t:TypeId) (hop:o.op=Op.lookup t m x false)
  (k e:TypeId) (K:Keyed P k) (ht:P.underlying t=some (.map k e)) (he:P.underlying e=some .bool) (hz:(zeroValue e).run P w= .ok (.bool false) w) (b n:Nat) (D:DataW H)
  (hm:a.eval m= .map (some b)) (hown:w.ownsMap P k (plainElem P e) b n D) (key:Value) (kl:Lit) (hx:a.eval x=key) (hkey:keyOf P k key=some kl)
  (c:Bool) (hc:D.atKey kl (.lit (.bool false))= .lit (.bool c)) (hK:wpList P ops Q rest (a.put o.dst (.bool c)) w):
  wpList P ops Q (o::rest) a w:=by
 refine wpList_plain hg fun K' hK'=>?_
 obtain⟨c',hrun,hat⟩:=zK0 hown K ht he hz hkey;obtain rfl:c=c':=by
  rw[hc] at hat
  simpa using hat
 unfold Oper.wp;simp[execOp,hop,hm,hx,hrun,Result.andThen];exact hK' _ _ hK
theorem zEd {H:Type}{P:Program}(w:World){ops:Array Oper}{rest:List Oper}{o:Oper}{a:Act}{Q:Exit→Act→World→Prop}
  (hg:o.guard=none) (m x v:Operand) (t:TypeId) (hop:o.op=Op.insert t m x v)
  (k e:TypeId) (K:Keyed P k) (ht:P.underlying t=some (.map k e)) (R:Value→Option (DataW H×List MemPlace)) (b n:Nat) (D:DataW H)
  (hm:a.eval m= .map (some b)) (hown:w.ownsMap P k R b n D) (hn:n<maxLen) (key val:Value) (kl:Lit) (hx:a.eval x=key) (hv:a.eval v=val) (hkey:keyOf P k key=some kl)
  (d:DataW H) (ps:List MemPlace) (hval:R val=some (d,ps))
  (hK:∀w',w'.ownsMap P k R b (n+1) (D.put kl d)→w.grownBy w' (some b)→wpList P ops Q rest (a.put o.dst undef) w'):
  wpList P ops Q (o::rest) a w:=by
 refine wpList_plain hg fun K' hK'=>?_
 obtain⟨w',hrun,r1,r2⟩:=hown.update K ht hn hkey hval;unfold Oper.wp;simp[execOp,hop,hm,hx,hv,hrun,Result.andThen];exact hK' _ _ (hK w' r1 r2)
def zFz (D:DataW Unit)(ss:List (List UInt8)):Prop:=∀x:List UInt8,D.atKey (.string x) (.lit (.bool false))= .lit (.bool (ss.contains x))
theorem zQm:zFz (.map []) []:=fun x=>by simp[DataW.atKey]
theorem zLv {D:DataW Unit}{ss:List (List UInt8)}(h:zFz D ss)(hD:Maps.IsMap D)(s:List UInt8):zFz (D.put (.string s) (.lit (.bool true))) (ss++[s]):=fun x=>by
 by_cases e:x=s
 ·subst e;rw[Maps.atKey_put_same hD (by trivial)];simp
 ·rw[Maps.atKey_put_other (by simpa using e),h x]
  congr 2
  simp[e]
end Go.Proofs.YtadcldfbmkfkaaaGreatDoor
namespace Go.Proofs.YtadcldfbmkfkaaaGreatDoor
open Go.RowKit
theorem zPl:(Tryz.prog.info? 9).map (fun i=>(i.zero,i.size,i.bytes))=some (some (.string ⟨#[]⟩),1,16):=by kernel_rfl
end Go.Proofs.YtadcldfbmkfkaaaGreatDoor
namespace Go.Proofs.YtadcldfbmkfkaaaGreatDoor.Sy
open Go.RowKit
theorem own_below {w w':World}{base:Nat}{e:TypeId}{size:Nat}{v:Value}{n:Nat}{xs:List Value}(h:w.ownsRow base e size v n xs)(hb:Below w.heap.size w w'):w'.ownsRow base e size v n xs:=
 h.kept (row:=none) ⟨hb.os,hb.tape,hb.output,hb.size,fun i hi _=>hb.block i hi⟩ (by cases v.ownBlock<;>simp)
theorem info_parts {P:Program}{t:TypeId}{z:Value}{a b:Nat}(h:(P.info? t).map (fun i=>(i.zero,i.size,i.bytes))=some (some z,a,b)):∃i,P.info? t=some i∧i.zero=some z∧i.size=a∧i.bytes=b:=by
 cases hi:P.info? t with
 |none=>rw[hi] at h;cases h
 |some i=>
  rw[hi] at h;simp only[Option.map_some,Option.some.injEq,Prod.mk.injEq] at h;exact⟨i,rfl,h.1,h.2.1,h.2.2⟩
theorem zQz (w:World)(cs:List Value)(t:TypeId):∀j u,cs[j]?=some u→(w.alloc (.cells cs.toArray t)).cell? ((⟨w.heap.size,0,none⟩:Addr).add j)=some u:=by
 intro j u hj;rw[show(⟨w.heap.size,0,none⟩:Addr).add j=⟨w.heap.size,j,none⟩ by unfold Addr.add;simp;omega,Blk.cell (Blk.new w t _)]
 simpa using hj
def conB (ps:List (List UInt8))(x:List UInt8):Bool:=ps.contains x
def zFa (acc:List (List UInt8))(r:Rul):List (List UInt8):=if r.sym.data.toList=[]∨acc.contains r.sym.data.toList=true then acc else acc++[r.sym.data.toList]
def zF3 (rs:List Rul):List (List UInt8):=rs.foldl zFa []
theorem zKm {rs:List Rul}{k:Nat}{r:Rul}(h:rs[k]?=some r):zF3 (rs.take (k+1))=zFa (zF3 (rs.take k)) r:=by
 unfold zF3;rw[List.take_add_one,h];simp
theorem zJz:∀(rs:List Rul) (k:Nat),(zF3 (rs.take k)).length≤k
 |rs,0=>by simp[zF3]
 |rs,k+1=>by
  have ih:=zJz rs k;cases h:rs[k]? with
  |none=>rw[List.take_add_one,h];simp;omega
  |some r=>
   rw[zKm h];unfold zFa
   split<;>simp<;>omega
def zCo (w:World)(B:Nat)(v:Value)(ps:List (List UInt8)):Prop:=w.ownsRow B 9 1 v ps.length (ps.map fun p=>Value.string (bys p))
theorem zCo.keep {w w':World}{B:Nat}{v:Value}{ps:List (List UInt8)}(h:zCo w B v ps)(hb:Below w.heap.size w w'):zCo w' B v ps:=own_below h hb
def zU2 (w:World)(A:Option Addr)(ps:List (List UInt8)):Prop:=∀(j:Nat) (p:List UInt8),ps[j]?=some p→∃g:Nat,A=some ⟨g,0,none⟩∧g<w.heap.size∧w.cell? ⟨g,j,none⟩=some (.string (bys p))
theorem zCo.form {w:World}{B:Nat}{v:Value}{ps:List (List UInt8)}(h:zCo w B v ps):∃A cap,v= .slice A ps.length cap∧ps.length≤cap∧cap≤9223372036854775807∧zU2 w A ps:=by
 obtain⟨h1,h2⟩:=h;rcases h2 with⟨rfl,h0⟩|⟨g,cap,cur,rfl,hg,hb,hn,hc,hs,ht⟩
 ·obtain rfl:ps=[]:=List.length_eq_zero_iff.1 h0;exact⟨none,0,rfl,by simp,by omega,fun j p hj=>by simp at hj⟩
 ·have hb':Blk w g 9 cur:=hb;refine⟨_,cap,rfl,hn,by unfold maxLen at hc;omega,fun j p hj=>⟨g,rfl,hb'.lt,?_⟩⟩;rw[hb'.cell];have h3:(ps.map fun p=>Value.string (bys p))[j]?=some (.string (bys p)):=by simp[hj]
  rw[←ht,List.getElem?_take] at h3
  split at h3
  ·simpa using h3
  ·cases h3
theorem zU2.keep {w w':World}{A:Option Addr}{ps:List (List UInt8)}(h:zU2 w A ps)(hb:Below w.heap.size w w'):zU2 w' A ps:=fun j p hj=>by
 obtain⟨g,h1,h2,h3⟩:=h j p hj;exact⟨g,h1,ll h2 hb.size,(hb.cell (p:=⟨g,j,none⟩) h2).trans h3⟩
theorem zMs {acc:List (List UInt8)}{r:Rul}(h:r.sym.data.toList=[]∨acc.contains r.sym.data.toList=true):zFa acc r=acc:=if_pos h
theorem zOw {acc:List (List UInt8)}{r:Rul}(h1:r.sym.data.toList≠[])(h2:acc.contains r.sym.data.toList=false):zFa acc r=acc++[r.sym.data.toList]:=if_neg (fun h=>by
 rcases h with h|h
 ·exact h1 h
 ·rw[h2] at h;cases h)
theorem zT8 {w:World}{B n:Nat}{v:Value}{ps:List (List UInt8)}{s:ByteArray}(hn:ps.length=n)(h:w.ownsRow B 9 1 v (n+1) ((ps.map fun p=>Value.string (bys p))++[.string s])):zCo w B v (ps++[s.data.toList]):=by
 unfold zCo;rw[List.length_append,hn,List.map_append,List.map_cons,List.map_nil,zXi];exact h
def SymP (rs:List Rul)(w:World)(e:Ending)(w':World):Prop:=∃v,e= .returned v∧zCo w' w.heap.size v (zF3 rs)∧Below w.heap.size w w'
theorem law9:Maps.Keyed Tryz.prog 9:=Maps.string_keyed Tryz.underlying9
theorem zZ2 (w:World):(zeroValue 4).run Tryz.prog w= .ok (.bool false) w:=by simp[Tryz.zeroValue4]
abbrev zBp (w:World)(b n:Nat)(D:DataW Unit):Prop:=w.ownsMap Tryz.prog 9 (plainElem Tryz.prog 4) b n D
theorem zG5 {w:World}{b n m B:Nat}{D:DataW Unit}{v:Value}{ps:List (List UInt8)}(h:zBp w b n D)(ho:w.ownsRow B 9 1 v m (ps.map fun p=>Value.string (bys p))):v.ownBlock≠some b:=by
 intro e;obtain⟨es,clock,hb,_⟩:=h;rcases ho.2 with⟨rfl,_⟩|⟨g,cap,cur,rfl,_,hg,_⟩
 ·cases e
 ·obtain rfl:g=b:=by simpa [Value.ownBlock] using e
  rw[hg] at hb;cases hb
set_option maxRecDepth 100000 in
set_option maxHeartbeats 800000 in
theorem zOc (A:Option Addr)(cap:Nat)(rs:List Rul)(w:World)(hR:zAi w A rs)(hn:rs.length≤1000000):Calls Tryz.prog 72 #[.slice A rs.length cap] w (SymP rs w):=by
 obtain⟨i0,hi,hz0,hz1,hz2⟩:=info_parts zPl;have HR:=zh hR;clear hR;have hmade:=World.ownsMap_made (H:=Unit) w Tryz.prog 9 (plainElem Tryz.prog 4);have hmm:= @run_makeMap Tryz.prog;go_enter Tryz.func72,Tryz.ntmps72;go_wp2_with (refine zEd (H:=Unit) _ rfl _ _ _ 110 rfl 9 4 law9 Tryz.underlying110 _ w.heap.size 0 (.map []) rfl hmade (by unfold maxLen;omega) _ _ (.string []) rfl rfl (Go.WideMaps.keyOf_string_mk Tryz.underlying9 (by unfold maxLen;decide)) (.lit (.bool true)) [] (plainElem_bool Tryz.underlying4 true) ?_)
 intro w1 hm1 hgrow1;have hb1:=zh ((zA0 w (.map #[] 0)).grown hgrow1 (by simp) (fun k hk=>by cases hk;exact Nat.le_refl _));have hm1':=zh (show zBp w1 w.heap.size 1 (DataW.put (.map []) (.string []) (.lit (.bool true))) from hm1);have hs1:Hid (zFz (DataW.put (.map []) (.string []) (.lit (.bool true))) ([]::[])):=zLv zQm ⟨_,rfl⟩ [];clear hm1 hgrow1 hmade hmm;generalize DataW.put (.map []) (.string []) (.lit (.bool true))=D1 at*;go_wp2_with fail
 go_loopw [3,11] (fun v i wr=>∃(k:Nat) (D:DataW Unit),k≤rs.length∧i= .int .i64 k∧Hid (zBp wr w.heap.size (k+1) D)∧Hid (zFz D ([]::zF3 (rs.take k)))∧Hid (zCo wr w.heap.size v (zF3 (rs.take k)))∧Hid (Below w.heap.size w wr)) (fun _ i _=>rs.length -(intOf i).toNat)
 case atStart=>exact⟨0,D1,by omega,rfl,hm1',hs1,World.ownsRow_nil _ _ _ _,hb1⟩
 case round=>
  clear hm1' hs1 hb1;obtain⟨k,D,hk,rfl,HM,HSE,HO,HB⟩:=hrel
  by_cases hlt:k<rs.length
  ·obtain⟨x,hx⟩:∃x,rs[k]?=some x:=⟨_,gE hlt⟩
   obtain⟨hf,ad,rfl,hadl,c0,c1,c2,c3,c4,c5⟩:=(HR.out.keep HB.out).at_ hx;have HS:=zh (zKm hx);have hfit:x.sym.size≤9223372036854775807:=hf.1;have hlen:=zJz rs k;clear hx hf;generalize zF3 (rs.take k)=acc at*;have hmap:=(show zBp wr w.heap.size (k+1) D from HM.out).alloc (.cells x.c 64);have HKEY:=zh (Go.WideMaps.keyOf_string_mk (P:=Tryz.prog) (k:=9) Tryz.underlying9 (s:=x.sym) (by unfold maxLen;omega));have hat:D.atKey (.string x.sym.data.toList) (.lit (.bool false))= .lit (.bool (conB ([]::acc) x.sym.data.toList)):=HSE.out x.sym.data.toList;have HAT:=zh hat;clear hat;cases hc:conB ([]::acc) x.sym.data.toList
   ·rw[hc] at HAT;have h1:x.sym.data.toList≠[]∧acc.contains x.sym.data.toList=false:=by
     unfold conB at hc;rw[List.contains_cons,Bool.or_eq_false_iff,beq_eq_false_iff_ne] at hc;exact hc
    have HAD:=zh (zOw h1.1 h1.2);have HSN:=zh (show zFz (D.put (.string x.sym.data.toList) (.lit (.bool true))) ([]::zFa acc x) by rw[HAD.out];exact zLv HSE.out (World.ownsMap.isMap HM.out) _);clear hc h1;go_wp2_with (first|(at_lookup;refine zCi (H:=Unit) _ rfl _ _ 110 rfl 9 4 law9 Tryz.underlying110 Tryz.underlying4 (zZ2 _) w.heap.size (k+1) D rfl hmap _ _ rfl HKEY.out false HAT.out ?_)|(at_mapUpdate;refine wpList_mapUpdate_own _ rfl _ _ _ 110 rfl 9 4 law9 Tryz.underlying110 _ w.heap.size (k+1) D rfl hmap (by unfold maxLen;omega) _ _ _ rfl rfl HKEY.out (.lit (.bool true)) [] (plainElem_bool Tryz.underlying4 true) ?_))
    intro w2 hm2 hgrow2;have hO':=(show wr.ownsRow w.heap.size 9 1 u3 acc.length (acc.map fun p=>Value.string (bys p)) from HO.out).alloc (.cells x.c 64);have hne:=zG5 hmap hO';have hO2:=hO'.kept hgrow2 (.inr hne);have KX:=zh ((Blk.new wr 64 x.c).grown hgrow2 (fun e=>by
     have h8:=hmap.lt;have h9:zBp wr w.heap.size (k+1) D:=HM.out;have h10:=h9.lt;have:wr.heap.size=w.heap.size:=by simpa using e
     omega))
    have HB2:=zh ((HB.out.alloc HB.out.size (.cells x.c 64)).grown hgrow2 (by have:=HB.out.size;simp;omega) (fun k hk=>by cases hk;exact Nat.le_refl _));have HM2:=zh (show zBp w2 w.heap.size (k+1+1) (D.put (.string x.sym.data.toList) (.lit (.bool true))) from hm2);clear hmap hO' hne hgrow2 hm2 HM HO HB c0 c1 c2 c3 c4 c5;have hown:=hO2.alloc (.cells #[.string x.sym] 9);have HBL:=zh hO2.lt;have HNR:=zh (zG5 HM2.out hO2);have HSZ:=zh HB2.out.size;have cK:=fun i=>KX.out.cell i
    have lK:=KX.out.lt;go_wp2_with (at_builtin;refine wpList_append_own _ rfl (.tmp 23) (.tmp 26) 44 rfl w.heap.size 9 i0 (.string ⟨#[]⟩) 1 16 Tryz.underlying44 hi hz0 hz1 hz2 rfl (by decide) _ _ _ rfl hown ⟨w2.heap.size,0,none⟩ 1 1 [.string x.sym] rfl rfl (zQz _ _ _) ?c2a ?c3a ?c4a ?c5a ?_)
    case c2a=>intro u hu;simp at hu;subst hu;rfl
    case c3a=>unfold maxLen;omega
    case c4a=>omega
    case c5a=>have:=HSZ.out;simp;omega
    intro v' w3 hown' hgrow _;have NB:=zh ((HB2.out.alloc HB2.out.size (.cells #[.string x.sym] 9)).grown hgrow (by have:=HSZ.out;simp;omega) (fun k hk=>(HBL.out k hk).1));have NM:=zh (show zBp w3 w.heap.size (k+1+1) (D.put (.string x.sym.data.toList) (.lit (.bool true))) from(HM2.out.alloc _).kept hgrow (fun e=>HNR.out e.symm));have NO:=zh (zT8 rfl hown');clear hown hown' hgrow hO2 cK lK;go_wp2_with fail;go_roundw
    case rel=>exact⟨k+1,_,by omega,by go_num,NM,zh (by rw[HS.out];exact HSN.out),zh (by rw[HS.out,HAD.out];exact NO.out),NB⟩
    case measure=>simp[intOf];omega
   ·rw[hc] at HAT;have h1:x.sym.data.toList=[]∨acc.contains x.sym.data.toList=true:=by
     unfold conB at hc;rw[List.contains_cons,Bool.or_eq_true,beq_iff_eq] at hc;exact hc
    have HSK:=zh (zMs (acc:=acc) h1);clear hc h1;go_wp2_with (at_lookup;refine zCi (H:=Unit) _ rfl _ _ 110 rfl 9 4 law9 Tryz.underlying110 Tryz.underlying4 (zZ2 _) w.heap.size (k+1) D rfl hmap _ _ rfl HKEY.out true HAT.out ?_)
    go_roundw
    case rel=>exact⟨k+1,D,by omega,by go_num,zh (World.ownsMap.mono hmap (by omega)),by rw[HS.out,HSK.out];exact HSE,zh (by rw[HS.out,HSK.out];exact HO.out.keep (zA0 _ _)),zh (HB.out.alloc HB.out.size _)⟩
    case measure=>simp[intOf];omega
  ·obtain rfl:k=rs.length:=by omega
   have HT:=zh (show rs.take rs.length=rs from List.take_length);go_wp2_with fail;go_ret;exact⟨_,rfl,by have:=HO.out;rwa [HT.out] at this,HB.out⟩
end Go.Proofs.YtadcldfbmkfkaaaGreatDoor.Sy
namespace Go.Proofs.YtadcldfbmkfkaaaGreatDoor.At
open Go.RowKit
def zFs (c:UInt8):Bool:=decide (32≤c.toNat)&&decide (c.toNat≤126)
set_option maxHeartbeats 400000 in
theorem zL3 (s:ByteArray)(w:World)(hs:s.size≤9223372036854775807):Calls Tryz.prog 169 #[.string s] w fun e w'=>e= .returned (.bool (zI3 s.toList))∧w=w':=by
 go_enter Tryz.func169,Tryz.ntmps169;go_wp2_with fail
 go_loop [3] (fun i=>∃k:Nat,k≤s.size∧i= .int .i64 k∧Hid (∀(j:Nat) (hj:j<s.size),j<k→zCu s[j]=true)) (fun i=>s.size -(intOf i).toNat)
 case atStart=>exact⟨0,by omega,rfl,fun j _ h=>by omega⟩
 case round=>
  obtain⟨k,hk,rfl,HJ⟩:=hrel
  by_cases hlt:k<s.size
  ·by_cases c1:(s[k].toNat:Int)<48
   ·have HF:=zh (zAq (p:=zCu) hlt (by unfold zCu;rw[decide_eq_false (by omega)];rfl));go_wp2_with fail;go_ret;exact⟨zA1 (by unfold zI3;rw[HF.out];rfl),rfl⟩
   ·by_cases c2:57<(s[k].toNat:Int)
    ·have HF:=zh (zAq (p:=zCu) hlt (by unfold zCu;rw[decide_eq_false (p:=s[k].toNat≤57) (by omega),Bool.and_false]));go_wp2_with fail;go_ret;exact⟨zA1 (by unfold zI3;rw[HF.out];rfl),rfl⟩
    ·have HL:=zh (show zCu s[k]=true by unfold zCu;rw[decide_eq_true (by omega),decide_eq_true (by omega)];rfl);go_wp2_with fail;go_round
     case rel=>exact⟨k+1,by omega,by go_num,fun j hj h=>by
      rcases Nat.lt_or_ge j k with h'|h'
      ·exact HJ.out j hj h'
      ·obtain rfl:j=k:=by omega
       exact HL.out⟩
     case measure=>simp[intOf];omega
  ·have HF:=zh (zDs (s:=s) (p:=zCu) fun j hj=>HJ.out j hj (by omega));go_wp2_with fail;go_ret;exact⟨zA1 (by unfold zI3;rw[HF.out];rfl),rfl⟩
set_option maxHeartbeats 400000 in
theorem zUh (s:ByteArray)(w:World)(hs:s.size≤9223372036854775807):Calls Tryz.prog 124 #[.string s] w fun e w'=>e= .returned (.bool (decide (s.size≤200)&&zK2 s.toList))∧w=w':=by
 go_enter Tryz.func124,Tryz.ntmps124;go_wp2_with fail
 go_loop [3] (fun i=>∃k:Nat,k≤s.size∧i= .int .i64 k∧Hid (∀(j:Nat) (hj:j<s.size),j<k→zFs s[j]=true)) (fun i=>s.size -(intOf i).toNat)
 case atStart=>exact⟨0,by omega,rfl,fun j _ h=>by omega⟩
 case round=>
  obtain⟨k,hk,rfl,HJ⟩:=hrel
  by_cases hlt:k<s.size
  ·by_cases c1:(s[k].toNat:Int)<32
   ·have HF:=zh (zAq (p:=zFs) hlt (by unfold zFs;rw[decide_eq_false (by omega)];rfl));go_wp2_with fail;go_ret;exact⟨zA1 (by rw[show zK2 s.toList=false from HF.out,Bool.and_false]),rfl⟩
   ·by_cases c2:126<(s[k].toNat:Int)
    ·have HF:=zh (zAq (p:=zFs) hlt (by unfold zFs;rw[decide_eq_false (p:=s[k].toNat≤126) (by omega),Bool.and_false]));go_wp2_with fail;go_ret;exact⟨zA1 (by rw[show zK2 s.toList=false from HF.out,Bool.and_false]),rfl⟩
    ·have HL:=zh (show zFs s[k]=true by unfold zFs;rw[decide_eq_true (by omega),decide_eq_true (by omega)];rfl);go_wp2_with fail;go_round
     case rel=>exact⟨k+1,by omega,by go_num,fun j hj h=>by
      rcases Nat.lt_or_ge j k with h'|h'
      ·exact HJ.out j hj h'
      ·obtain rfl:j=k:=by omega
       exact HL.out⟩
     case measure=>simp[intOf];omega
  ·have HF:=zh (zDs (s:=s) (p:=zFs) fun j hj=>HJ.out j hj (by omega));go_wp2_with fail;go_ret;exact⟨zA1 (by rw[show zK2 s.toList=true from HF.out,Bool.and_true];simp;omega),rfl⟩
set_option maxHeartbeats 400000 in
theorem zVl (s:ByteArray)(w:World)(hs:s.size≤9223372036854775807):Calls Tryz.prog 160 #[.string s] w fun e w'=>e= .returned (.bool (zK2 s.toList))∧w=w':=by
 go_enter Tryz.func160,Tryz.ntmps160;go_wp2_with fail
 go_loop [3] (fun i=>∃k:Nat,k≤s.size∧i= .int .i64 k∧Hid (∀(j:Nat) (hj:j<s.size),j<k→zFs s[j]=true)) (fun i=>s.size -(intOf i).toNat)
 case atStart=>exact⟨0,by omega,rfl,fun j _ h=>by omega⟩
 case round=>
  obtain⟨k,hk,rfl,HJ⟩:=hrel
  by_cases hlt:k<s.size
  ·by_cases c1:(s[k].toNat:Int)<32
   ·have HF:=zh (zAq (p:=zFs) hlt (by unfold zFs;rw[decide_eq_false (by omega)];rfl));go_wp2_with fail;go_ret;exact⟨zA1 (by rw[show zK2 s.toList=false from HF.out]),rfl⟩
   ·by_cases c2:126<(s[k].toNat:Int)
    ·have HF:=zh (zAq (p:=zFs) hlt (by unfold zFs;rw[decide_eq_false (p:=s[k].toNat≤126) (by omega),Bool.and_false]));go_wp2_with fail;go_ret;exact⟨zA1 (by rw[show zK2 s.toList=false from HF.out]),rfl⟩
    ·have HL:=zh (show zFs s[k]=true by unfold zFs;rw[decide_eq_true (by omega),decide_eq_true (by omega)];rfl);go_wp2_with fail;go_round
     case rel=>exact⟨k+1,by omega,by go_num,fun j hj h=>by
      rcases Nat.lt_or_ge j k with h'|h'
      ·exact HJ.out j hj h'
      ·obtain rfl:j=k:=by omega
       exact HL.out⟩
     case measure=>simp[intOf];omega
  ·have HF:=zh (zDs (s:=s) (p:=zFs) fun j hj=>HJ.out j hj (by omega));go_wp2_with fail;go_ret;exact⟨zA1 (by rw[show zK2 s.toList=true from HF.out]),rfl⟩
theorem zUg (s:ByteArray)(w:World):Calls Tryz.prog 122 #[.string s] w fun e w'=>e= .returned (.bool s.toList.isEmpty)∧w=w':=by
 go_enter Tryz.func122,Tryz.ntmps122;go_wp2_with fail;go_ret;exact⟨rfl,rfl⟩
theorem zFl (c:UInt8)(w:World):Calls Tryz.prog 196 #[.int .u8 (c.toNat:Int)] w fun e w'=>e= .returned (.bool (zCu c))∧w=w':=by
 by_cases h1:48≤c.toNat
 ·have HR:=zh (show zCu c=decide ((c.toNat:Int)≤57) by unfold zCu;rw[decide_eq_true h1,Bool.true_and,decide_eq_decide];omega);go_enter Tryz.func196,Tryz.ntmps196;go_wp2_with fail;go_ret;exact⟨zA1 (by rw[HR.out]),rfl⟩
 ·have HR:=zh (show zCu c=false by unfold zCu;rw[decide_eq_false h1];rfl);go_enter Tryz.func196,Tryz.ntmps196;go_wp2_with fail;go_ret;exact⟨zA1 HR.out.symm,rfl⟩
end Go.Proofs.YtadcldfbmkfkaaaGreatDoor.At
namespace Go.Proofs.YtadcldfbmkfkaaaGreatDoor.At
open Go.Shelf Go.RowKit Go.Lib
variable {P : Program} {ρ : Ren}
set_option maxHeartbeats 2000000 in
set_option maxRecDepth 100000 in
theorem zY2 (L:Lays.n220 P ρ)(s:ByteArray)(c:UInt8)(w:World)(hs:s.size≤9223372036854775807):
  Calls P (ρ.f 220) #[.string s,.string ⟨#[c]⟩] w fun e w'=>e= .returned (.tuple #[.string ⟨(Lib.cut s.data.toList [c]).1.toArray⟩,.string ⟨(Lib.cut s.data.toList [c]).2.1.toArray⟩,.bool (Lib.cut s.data.toList [c]).2.2])∧∃n,w'=w.drewN n:=by
 rcases Lib.indexB_cases s ⟨#[c]⟩ with hix|⟨i,hix,hroom⟩
 ·obtain⟨e1,e2,e3⟩:=Lib.cutB_miss s ⟨#[c]⟩ hix;rw[show[c]=(⟨#[c]⟩:ByteArray).data.toList from rfl,e1,e2,e3];have hix1:=Lib.hid (show Lib.indexByte s.data.toList c=_ from(Lib.index_one s.data.toList c).symm.trans hix);clear e1 e2 e3 hix;have t3:=L.t3;have t4:=L.t4;have t9:=L.t9;have a3:∀w,(isAgg (ρ.t 3)).run P w= .ok false w:=run_isAgg_plain L.t3 rfl;have a4:∀w,(isAgg (ρ.t 4)).run P w= .ok false w:=run_isAgg_plain L.t4 rfl;have a9:∀w,(isAgg (ρ.t 9)).run P w= .ok false w:=run_isAgg_plain L.t9 rfl;have e219:∀args w,(callFunc (ρ.f 219) args).run P w= .ok (.enter (ρ.f 219) args) w:=enters_of L.f219 (by kernel_rfl) rfl;have mixed:=L.mixed;have z3:=L.z3;have v3:=L.v3;have z4:=L.z4;have v4:=L.v4;have z9:=L.z9;have v9:=L.v9;go_enter L.f220,Body.n220_ntmps ρ;go_wp2_with (go_at_fn (ρ.f 219);refine(Any.stringslite_Index_one {L with} _ _ _).mono ?_;rintro e w' ⟨rfl,rfl⟩;rw[hix1.out])
  go_ret3
  exact⟨rfl,0,rfl⟩
 ·obtain⟨e1,e2,e3⟩:=Lib.cutB_hit s ⟨#[c]⟩ i hix;rw[show[c]=(⟨#[c]⟩:ByteArray).data.toList from rfl,e1,e2,e3];have hix1:=Lib.hid (show Lib.indexByte s.data.toList c=_ from(Lib.index_one s.data.toList c).symm.trans hix);clear e1 e2 e3 hix;have hsz:(⟨#[c]⟩:ByteArray).size=1:=rfl;rw[hsz] at hroom;have c1:(0:Int)≤↑i:=by omega
  have c2:(↑i:Int)≤↑s.size:=by omega
  have c3:(0:Int)≤↑i+1:=by omega
  have c4:(↑i+1:Int)≤↑s.size:=by omega
  clear hsz;have t3:=L.t3;have t4:=L.t4;have t9:=L.t9;have a3:∀w,(isAgg (ρ.t 3)).run P w= .ok false w:=run_isAgg_plain L.t3 rfl;have a4:∀w,(isAgg (ρ.t 4)).run P w= .ok false w:=run_isAgg_plain L.t4 rfl;have a9:∀w,(isAgg (ρ.t 9)).run P w= .ok false w:=run_isAgg_plain L.t9 rfl;have e219:∀args w,(callFunc (ρ.f 219) args).run P w= .ok (.enter (ρ.f 219) args) w:=enters_of L.f219 (by kernel_rfl) rfl;have mixed:=L.mixed;have z3:=L.z3;have v3:=L.v3;have z4:=L.z4;have v4:=L.v4;have z9:=L.z9;have v9:=L.v9;go_enter L.f220,Body.n220_ntmps ρ;go_wp2_with (go_at_fn (ρ.f 219);refine(Any.stringslite_Index_one {L with} _ _ _).mono ?_;rintro e w' ⟨rfl,rfl⟩;rw[hix1.out])
  go_region_o
  go_wp2
  go_ret3
  exact⟨rfl,1,rfl⟩
theorem zZ1 (L:Lays.n145 P ρ)(s:ByteArray)(c:UInt8)(w:World)(hs:s.size≤9223372036854775807):
  Calls P (ρ.f 145) #[.string s,.string ⟨#[c]⟩] w fun e w'=>e= .returned (.tuple #[.string ⟨(Lib.cut s.data.toList [c]).1.toArray⟩,.string ⟨(Lib.cut s.data.toList [c]).2.1.toArray⟩,.bool (Lib.cut s.data.toList [c]).2.2])∧∃n,w'=w.drewN n:=by
 have t4:=L.t4;have t9:=L.t9;have t59:=L.t59;have a4:∀w,(isAgg (ρ.t 4)).run P w= .ok false w:=run_isAgg_plain L.t4 rfl;have a9:∀w,(isAgg (ρ.t 9)).run P w= .ok false w:=run_isAgg_plain L.t9 rfl;have a59:∀w,(isAgg (ρ.t 59)).run P w= .ok false w:=run_isAgg_plain L.t59 rfl;have e220:∀args w,(callFunc (ρ.f 220) args).run P w= .ok (.enter (ρ.f 220) args) w:=enters_of L.f220 (by kernel_rfl) rfl;have mixed:=L.mixed;have z4:=L.z4;have v4:=L.v4;have z9:=L.z9;have v9:=L.v9;have z59:=L.z59;have v59:=L.v59;go_enter L.f145,Body.n145_ntmps ρ;go_wp2_with (go_at_fn (ρ.f 220);refine(zY2 {L with} _ _ _ hs).mono ?_;rintro e w' ⟨rfl,n,rfl⟩)
 go_ret3
 exact⟨rfl,n,rfl⟩
end Go.Proofs.YtadcldfbmkfkaaaGreatDoor.At
namespace Go.Proofs
open Go.RowKit
theorem Tryz.zJn (s:ByteArray)(c:UInt8)(w:World)(hs:s.size≤9223372036854775807):
  Calls Tryz.prog 168 #[.string s,.string ⟨#[c]⟩] w fun e w'=>e= .returned (.tuple #[.string ⟨(Lib.cut s.data.toList [c]).1.toArray⟩,.string ⟨(Lib.cut s.data.toList [c]).2.1.toArray⟩,.bool (Lib.cut s.data.toList [c]).2.2])∧∃n,w'=w.drewN n:=YtadcldfbmkfkaaaGreatDoor.At.zZ1 Tryz.lays145 s c w hs
end Go.Proofs
namespace Go.Proofs.YtadcldfbmkfkaaaGreatDoor.At
end Go.Proofs.YtadcldfbmkfkaaaGreatDoor.At
namespace Go.Proofs.YtadcldfbmkfkaaaGreatDoor.At
open Go.RowKit
inductive zBc (w:World):Tre→Array Value→Prop
 |mk (k:Int) (s:ByteArray) (c:Int) (ks:List Tre) (A:Option Addr) (cap:Nat) (ad:Addr) (cs:Nat→Array Value) (hs:s.size≤9223372036854775807) (hn:ks.length≤cap) (hc:cap≤9223372036854775807)
   (hA:ks=[]∨(A=some ad∧ad.block<w.heap.size)) (hcell:∀i,i<ks.length→∀j,j<4→w.cell? (ad.add (i*4+j))=(cs i)[j]?)
   (hk:∀(i:Nat) (h:i<ks.length),zBc w ks[i] (cs i)):zBc w (.mk k s c ks) #[.int .i64 k,.string s,.int .i64 c,.slice A ks.length cap]
def zB7 (w:World)(A:Option Addr)(ts:List Tre):Prop:=∀(i:Nat) (t:Tre),ts[i]?=some t→∃ad:Addr,A=some ad∧ad.block<w.heap.size∧∃c,zBc w t c∧∀j,j<4→w.cell? (ad.add (i*4+j))=c[j]?
theorem zD7 (a:Addr)(n:Nat):(a.add n).block=a.block:=by unfold Addr.add;split<;>rfl
theorem zBc.keep {w w':World}(hb:Below w.heap.size w w'){t:Tre}{c:Array Value}(h:zBc w t c):zBc w' t c:=by
 induction h with
 |mk k s c ks A cap ad cs hs hn hc hA hcell hk ih=>
  refine .mk k s c ks A cap ad cs hs hn hc (hA.imp id fun⟨h1,h2⟩=>⟨h1,Nat.lt_of_lt_of_le h2 hb.size⟩) (fun i hi j hj=>?_) ih;rcases hA with h|⟨h1,h2⟩
  ·subst h;simp at hi
  ·rw[hb.cell (by rw[zD7];exact h2)];exact hcell i hi j hj
theorem zB7.keep {w w':World}(hb:Below w.heap.size w w'){A:Option Addr}{ts:List Tre}(h:zB7 w A ts):zB7 w' A ts:=fun i t hi=>by
 obtain⟨ad,h1,h2,c,h3,h4⟩:=h i t hi;exact⟨ad,h1,Nat.lt_of_lt_of_le h2 hb.size,c,h3.keep hb,fun j hj=>by rw[hb.cell (by rw[zD7];exact h2)];exact h4 j hj⟩
theorem zBc.form {w:World}{t:Tre}{c:Array Value}(h:zBc w t c):∃A cap,c= #[.int .i64 t.kind,.string t.text,.int .i64 t.cols,.slice A t.kids.length cap]∧t.text.size≤9223372036854775807∧t.kids.length≤cap∧cap≤9223372036854775807∧zB7 w A t.kids:=by
 cases h with
 |mk k s c ks A cap ad cs hs hn hc hA hcell hk=>
  refine⟨A,cap,rfl,hs,hn,hc,fun i t hi=>?_⟩;obtain⟨hl,rfl⟩:=List.getElem?_eq_some_iff.1 hi;rcases hA with h|⟨h1,h2⟩
  ·rw[show(Tre.mk k s c ks).kids=ks from rfl] at hl;subst h;simp at hl
  ·exact⟨ad,h1,h2,cs i,hk i hl,hcell i hl⟩
theorem zBc.of {w:World}{k:Int}{s:ByteArray}{c:Int}{ks:List Tre}{A:Option Addr}{cap:Nat}(hs:s.size≤9223372036854775807)(hn:ks.length≤cap)(hc:cap≤9223372036854775807)(h:zB7 w A ks):zBc w (.mk k s c ks) #[.int .i64 k,.string s,.int .i64 c,.slice A ks.length cap]:=by
 cases ks with
 |nil=>exact .mk k s c [] A cap ⟨0,0,none⟩ (fun _=> #[]) hs hn hc (.inl rfl) (fun i hi=>by simp at hi) (fun i hi=>by simp at hi)
 |cons t ts=>
  obtain⟨ad,hA,hlt,_⟩:=h 0 t rfl;have hx:∀i,∃cc:Array Value,∀(hi:i<(t::ts).length),zBc w (t::ts)[i] cc∧∀j,j<4→w.cell? (ad.add (i*4+j))=cc[j]?:=fun i=>by
   by_cases hi:i<(t::ts).length
   ·obtain⟨ad',hA',_,cc,h1,h2⟩:=h i _ (gE hi);obtain rfl:=sj (hA.symm.trans hA');exact⟨cc,fun _=>⟨h1,h2⟩⟩
   ·exact⟨#[],fun h=>absurd h hi⟩
  exact .mk k s c (t::ts) A cap ad (fun i=>(hx i).choose) hs hn hc (.inr ⟨hA,hlt⟩) (fun i hi=>((hx i).choose_spec hi).2) (fun i hi=>((hx i).choose_spec hi).1)
theorem zBk {w:World}{a:Addr}{n j:Nat}{v:Option Value}(h:w.cell? (a.add (n+(j+1)))=v):w.cell? ⟨(a.add n).block,(a.add n).off+(j+1),none⟩=v:=by
 rw[←Addr.add_add] at h;unfold Addr.add at h⊢
 simpa using h
theorem zB7.at_ {w:World}{A:Option Addr}{ts:List Tre}(h:zB7 w A ts){i:Nat}{t:Tre}(hi:ts[i]?=some t):
  ∃ad A2 cap2,A=some ad∧ad.block<w.heap.size∧t.text.size≤9223372036854775807∧t.kids.length≤cap2∧cap2≤9223372036854775807∧zB7 w A2 t.kids∧zBc w t #[.int .i64 t.kind,.string t.text,.int .i64 t.cols,.slice A2 t.kids.length cap2]∧w.cell? (ad.add (i*4))=some (.int .i64 t.kind)∧w.cell? ⟨(ad.add (i*4)).block,(ad.add (i*4)).off+1,none⟩=some (.string t.text)∧w.cell? ⟨(ad.add (i*4)).block,(ad.add (i*4)).off+2,none⟩=some (.int .i64 t.cols)∧w.cell? ⟨(ad.add (i*4)).block,(ad.add (i*4)).off+3,none⟩=some (.slice A2 t.kids.length cap2):=by
 obtain⟨ad,h1,h2,c,h3,h4⟩:=h i t hi;obtain⟨A2,cap2,rfl,hs,hn,hc,hk⟩:=h3.form;exact⟨ad,A2,cap2,h1,h2,hs,hn,hc,hk,h3,h4 0 (by omega),zBk (j:=0) (h4 1 (by omega)),zBk (j:=1) (h4 2 (by omega)),zBk (j:=2) (h4 3 (by omega))⟩
theorem yAc (l:List UInt8):(⟨l.toArray⟩:ByteArray).toList=l:=by rw[ByteArray.toList_eq]
theorem size_mk (l:List UInt8):(⟨l.toArray⟩:ByteArray).size=l.length:=by simp[ByteArray.size]
theorem yA8 (l:List UInt8):(Lib.cut l [46]).1.length≤l.length∧(Lib.cut l [46]).2.1.length≤l.length:=by
 rcases zMm 46 l with h|⟨a,b,rfl,h⟩
 ·rw[zPo 46 h];simp
 ·rw[zUw 46 h];simp;omega
set_option maxHeartbeats 400000 in
theorem zQo (s:ByteArray)(w:World)(hs:s.size≤9223372036854775807):Calls Tryz.prog 123 #[.string s] w fun e w'=>e= .returned (.bool (numP s.data.toList))∧Below w.heap.size w w':=by
 have hlen:s.data.toList.length=s.size:=by simp
 obtain⟨l1,l2⟩:=yA8 s.data.toList;have HQ:=zh (show numP s.data.toList=(decide (s.size≤20)&&(zI3 (Lib.cut s.data.toList [46]).1&&(!(Lib.cut s.data.toList [46]).2.2||zI3 (Lib.cut s.data.toList [46]).2.1))) by unfold numP;rw[hlen]);have HC:=zh (Tryz.zJn s 46 w hs);rw[hlen] at l1 l2;clear hlen;generalize (Lib.cut s.data.toList [46]).1=a at*;generalize (Lib.cut s.data.toList [46]).2.1=b at*;generalize (Lib.cut s.data.toList [46]).2.2=p at*;have HA:=zh (fun w1=>zL3 (⟨a.toArray⟩:ByteArray) w1 (by rw[size_mk];omega));have HB:=zh (fun w1=>zL3 (⟨b.toArray⟩:ByteArray) w1 (by rw[size_mk];omega));rw[yAc] at HA HB
 by_cases h20:s.size≤20
 ·rw[decide_eq_true h20,Bool.true_and] at HQ;go_enter Tryz.func123,Tryz.ntmps123;go_wp2_with fail;refine HC.out.mono ?_;rintro e w' ⟨rfl,n,rfl⟩;go_wp2_with fail;refine(HA.out _).mono ?_;rintro e w' ⟨rfl,rfl⟩;cases ha:zI3 a
  ·rw[ha] at HQ;clear ha;go_wp2_with fail;go_ret;exact⟨zA1 (by rw[HQ.out];rfl),below_drewN (Below.refl _ _) n⟩
  ·rw[ha,Bool.true_and] at HQ;clear ha;cases p
   ·go_wp2_with fail;go_ret;exact⟨zA1 (by rw[HQ.out];rfl),below_drewN (Below.refl _ _) n⟩
   ·rw[Bool.not_true,Bool.false_or] at HQ;go_wp2_with fail;refine(HB.out _).mono ?_;rintro e w' ⟨rfl,rfl⟩;generalize zI3 b=d at*;go_wp2_with fail;go_ret;exact⟨zA1 (by rw[HQ.out]),below_drewN (Below.refl _ _) n⟩
 ·rw[decide_eq_false h20,Bool.false_and] at HQ;go_enter Tryz.func123,Tryz.ntmps123;go_wp2_with fail;refine HC.out.mono ?_;rintro e w' ⟨rfl,n,rfl⟩;go_wp2_with fail;go_ret;exact⟨zA1 (by rw[HQ.out]),below_drewN (Below.refl _ _) n⟩
theorem zVd (c:UInt8):decide (0≤Lib.indexByte [40,41,91,93,123,125,60,62,47,124,46] c)=hasB zHx c:=by
 have h:∀n:Nat,n<256→decide (0≤Lib.indexByte [40,41,91,93,123,125,60,62,47,124,46] (UInt8.ofNat n))=hasB zHx (UInt8.ofNat n):=by decide+kernel
 have:=h c.toNat c.toNat_lt
 rwa [UInt8.ofNat_toNat] at this
theorem two_bytes (s:ByteArray)(h:s.size=2):∃a b:UInt8,s=⟨#[a,b]⟩:=by
 obtain⟨⟨l⟩⟩:=s
 match l,h with
 |[a,b],_=>exact⟨a,b,rfl⟩
 |[],h=>simp[ByteArray.size] at h
 |[_],h=>simp[ByteArray.size] at h
 |_::_::_::_,h=>simp[ByteArray.size] at h
theorem zQl (a b:UInt8):zOh (⟨#[a,b]⟩:ByteArray).data.toList=(hasB zHx a&&hasB zHx b):=rfl
theorem zT2 {s:ByteArray}(h:s.size≠2):zOh s.data.toList=false:=by
 have hl:s.data.toList.length=s.size:=by simp
 unfold zOh
 split
 ·rename_i a b he
  rw[he] at hl;simp at hl;omega
 ·rfl
set_option maxHeartbeats 400000 in
theorem zUe (s:ByteArray)(w:World):Calls Tryz.prog 126 #[.string s] w fun e w'=>e= .returned (.bool (zOh s.data.toList))∧Below w.heap.size w w':=by
 by_cases h:s.size=2
 ·obtain⟨a,b,rfl⟩:=two_bytes s h;clear h;rw[zQl];have HA:=zh (Tryz.strings_IndexByte ⟨#[40,41,91,93,123,125,60,62,47,124,46]⟩ a.toNat);have HB:=zh (Tryz.strings_IndexByte ⟨#[40,41,91,93,123,125,60,62,47,124,46]⟩ b.toNat);have DA:=zh (zVd a);have DB:=zh (zVd b);rw[show((a.toNat:Int).toNat.toUInt8)=a by simp,show(⟨#[40,41,91,93,123,125,60,62,47,124,46]⟩:ByteArray).data.toList=[40,41,91,93,123,125,60,62,47,124,46] from rfl] at HA;rw[show((b.toNat:Int).toNat.toUInt8)=b by simp,show(⟨#[40,41,91,93,123,125,60,62,47,124,46]⟩:ByteArray).data.toList=[40,41,91,93,123,125,60,62,47,124,46] from rfl] at HB;generalize Lib.indexByte [40,41,91,93,123,125,60,62,47,124,46] a=x at*;generalize Lib.indexByte [40,41,91,93,123,125,60,62,47,124,46] b=y at*;go_enter Tryz.func126,Tryz.ntmps126;go_wp2_with fail;refine(HA.out _).mono ?_;rintro e w' ⟨rfl,rfl⟩
  by_cases hx:0≤x
  ·go_wp2_with fail;refine(HB.out _).mono ?_;rintro e w' ⟨rfl,rfl⟩;go_wp2_with fail;go_ret;exact⟨zA1 (by rw[←DA.out,←DB.out,decide_eq_true hx,Bool.true_and]),Below.refl _ _⟩
  ·go_wp2_with fail;go_ret;exact⟨zA1 (by rw[←DA.out,decide_eq_false (by omega),Bool.false_and]),Below.refl _ _⟩
 ·have HQ:=zh (zT2 h);have hq:((s.size:Int)==2)=false:=by rw[beq_eq_false_iff_ne];omega
  clear h;go_enter Tryz.func126,Tryz.ntmps126;go_wp2_with fail;go_ret;exact⟨zA1 HQ.out.symm,Below.refl _ _⟩
theorem zC1 {k:IntKind}{a b:Int}(h:a=b):Ending.returned (.int k a)= .returned (.int k b):=by rw[h]
theorem zE7 {ks:List Tre}{i:Nat}{t:Tre}(h:ks[i]?=some t):zA7 t≤zA3 ks:=by
 induction ks generalizing i with
 |nil=>simp at h
 |cons x r ih=>
  rw[zA3];cases i with
  |zero=>simp at h;subst h;omega
  |succ i=>have:=ih (i:=i) (by simpa using h);omega
mutual
def zEt:Tre→Int→Int
 | .mk _ _ _ ks,n=>zBd ks (n -1)
def zBd:List Tre→Int→Int
 |[],n=>n
 |t::ts,n=>if 0≤n then zBd ts (zEt t n) else n
end
mutual
theorem zQ1:∀(t:Tre) (n:Int),zEt t n≤n -1∧(0≤zEt t n→zEt t n=n -zA7 t)∧-1 -zA7 t≤zEt t n -n
 | .mk k s c ks,n=>by
  rw[zEt,zA7];obtain⟨h1,h2,h3⟩:=zLt ks (n -1);exact⟨h1,fun h=>by have:=h2 h;omega,by omega⟩
theorem zLt:∀(ts:List Tre) (n:Int),zBd ts n≤n∧(0≤zBd ts n→zBd ts n=n -zA3 ts)∧-1 -zA3 ts≤zBd ts n -n
 |[],n=>by rw[zBd,zA3];exact⟨Int.le_refl _,fun _=>by simp,by omega⟩
 |t::ts,n=>by
  rw[zBd,zA3];obtain⟨h1,h2,h3⟩:=zQ1 t n;obtain⟨g1,g2,g3⟩:=zLt ts (zEt t n)
  split
  ·refine⟨by omega,fun h=>?_,?_⟩
   ·have:=g2 h;have:=h2 (by omega);omega
   ·cases Int.lt_or_le (zEt t n) 0 with
    |inl hl=>
     have:zBd ts (zEt t n)=zEt t n:=by
      cases ts with
      |nil=>rfl
      |cons x r=>rw[zBd,if_neg (by omega)]
     omega
    |inr hl=>
     have:=h2 hl;omega
  ·exact⟨Int.le_refl _,fun h=>by omega,by omega⟩
end
def okAt (s:ByteArray)(j:Nat)(h:j<s.size):Prop:=(s[j]=46∧0<j∧j+1<s.size)∨zCu s[j]=true
theorem zFm (s:ByteArray)(j:Nat)(h:j<s.size):s.data.toList[j]?=some s[j]:=by
 rw[gE (by simpa using h)];rfl
theorem zZz {s:ByteArray}(H:∀(j:Nat) (hj:j<s.size),okAt s j hj):numR s.data.toList=(decide (0<s.size)&&(decide (s.size≤20)&&decide (s.data.toList.count 46≤1))):=by
 have hl:s.data.toList.length=s.size:=by simp
 unfold numR;have h1:s.data.toList.all (fun c=>c==46||zCu c)=true:=by
  rw[List.all_eq_true];intro x hx;obtain⟨j,hj,rfl⟩:=List.mem_iff_getElem.1 hx;rcases H j (by omega) with⟨h,_⟩|h
  ·rw[Bool.or_eq_true];exact .inl (by rw[beq_iff_eq];exact h)
  ·rw[Bool.or_eq_true];exact .inr h
 have h2:s.data.toList.head?≠some 46:=by
  intro e;rw[List.head?_eq_getElem?] at e;have h0:0<s.size:=by
   rcases Nat.eq_zero_or_pos s.size with h0|h0
   ·rw[List.getElem?_eq_none (by omega)] at e;cases e
   ·exact h0
  rw[zFm s 0 h0] at e;rcases H 0 h0 with⟨_,h,_⟩|h
  ·omega
  ·exact zO4 _ h (sj e)
 have h3:s.data.toList.getLast?≠some 46:=by
  intro e;rw[List.getLast?_eq_getElem?,hl] at e;have h0:0<s.size:=by
   rcases Nat.eq_zero_or_pos s.size with h0|h0
   ·rw[List.getElem?_eq_none (by omega)] at e;cases e
   ·exact h0
  rw[zFm s (s.size -1) (by omega)] at e;rcases H (s.size -1) (by omega) with⟨_,_,h⟩|h
  ·omega
  ·exact zO4 _ h (sj e)
 rw[h1,decide_eq_true h2,decide_eq_true h3,hl];rfl
theorem zQ8 {s:ByteArray}{k:Nat}(hk:k<s.size)(h:¬okAt s k hk):numR s.data.toList=false:=by
 have hl:s.data.toList.length=s.size:=by simp
 unfold okAt at h;unfold numR
 by_cases h46:s[k]=46
 ·have hk':k=0∨k+1=s.size:=by
   rcases Nat.eq_zero_or_pos k with h0|h0
   ·exact .inl h0
   ·exact .inr (Classical.byContradiction fun hc=>h (.inl ⟨h46,h0,by omega⟩))
  rcases hk' with rfl|hk'
  ·have h2:s.data.toList.head?=some 46:=by rw[List.head?_eq_getElem?,zFm s 0 hk,h46]
   rw[h2];simp
  ·have h3:s.data.toList.getLast?=some 46:=by rw[List.getLast?_eq_getElem?,hl,show s.size -1=k by omega,zFm s k hk,h46]
   rw[h3];simp
 ·have hd:zCu s[k]=false:=by
   cases hd:zCu s[k]
   ·rfl
   ·exact absurd (.inr hd) h
  have h1:s.data.toList.all (fun c=>c==46||zCu c)=false:=by
   rw[List.all_eq_false];refine⟨s[k],List.mem_of_getElem? (zFm s k hk),?_⟩;rw[hd,beq_eq_false_iff_ne.2 h46];simp
  rw[h1];rfl
theorem zHs {s:ByteArray}{k:Nat}(hk:k<s.size):(s.data.toList.take (k+1)).count 46=(s.data.toList.take k).count 46+(if s[k]=46 then 1 else 0):=by
 rw[List.take_add_one,zFm s k hk,Option.toList,List.count_append,List.count_singleton]
 by_cases h:s[k]=46<;>simp[h]
set_option maxHeartbeats 800000 in
theorem zPp (s:ByteArray)(w:World)(hs:s.size≤9223372036854775807):Calls Tryz.prog 159 #[.string s] w fun e w'=>e= .returned (.bool (numR s.data.toList))∧w=w':=by
 have hl:s.data.toList.length=s.size:=by simp
 have HL:=zh hl;clear hl;go_enter Tryz.func159,Tryz.ntmps159;go_wp2_with fail
 go_loop [3,4] (fun p i=>∃k c:Nat,k≤s.size∧c≤k∧i= .int .i64 k∧p= .int .i64 c∧Hid (c=(s.data.toList.take k).count 46)∧Hid (∀(j:Nat) (hj:j<s.size),j<k→okAt s j hj)) (fun _ i=>s.size -(intOf i).toNat)
 case atStart=>exact⟨0,0,by omega,by omega,rfl,rfl,rfl,fun j _ h=>by omega⟩
 case round=>
  obtain⟨k,c,hk,hck,rfl,rfl,HC,HJ⟩:=hrel
  by_cases hlt:k<s.size
  ·have HT:=zh (zHs hlt)
   by_cases h46:s[k]=46
   ·have hq:((s[k].toNat:Int)==46)=true:=by rw[h46];rfl
    have HD:=zh (show zCu s[k]=false by rw[h46];rfl)
    by_cases hin:0<k∧k+1<s.size
    ·obtain⟨h0,h1⟩:=hin;have h1':(k:Int)<(s.size:Int) -1:=by omega
     have HK:=zh (show okAt s k hlt from .inl ⟨h46,h0,h1⟩);have HS:=zh (show c+1=(s.data.toList.take (k+1)).count 46 by rw[HT.out,←HC.out,if_pos h46]);clear h46;go_wp2_with fail;go_round
     case rel=>exact⟨k+1,c+1,by omega,by omega,by go_num,by go_num,HS,fun j hj h=>by
      rcases Nat.lt_or_ge j k with h'|h'
      ·exact HJ.out j hj h'
      ·obtain rfl:j=k:=by omega
       exact HK.out⟩
     case measure=>simp[intOf];omega
    ·have HB:=zh (zQ8 hlt (fun h=>by
      rcases h with⟨_,a,b⟩|h
      ·exact hin ⟨a,b⟩
      ·rw[HD.out] at h;cases h))
     clear h46
     by_cases h0:0<k
     ·have h1:¬(k:Int)<(s.size:Int) -1:=by omega
      clear hin;go_wp2_with fail;refine(zFl s[k] _).mono ?_;rintro e w' ⟨rfl,rfl⟩;rw[HD.out];go_wp2_with fail;go_ret;exact⟨zA1 HB.out.symm,rfl⟩
     ·clear hin;go_wp2_with fail;refine(zFl s[k] _).mono ?_;rintro e w' ⟨rfl,rfl⟩;rw[HD.out];go_wp2_with fail;go_ret;exact⟨zA1 HB.out.symm,rfl⟩
   ·have hq:((s[k].toNat:Int)==46)=false:=by
     rw[beq_eq_false_iff_ne];intro e;apply h46;exact UInt8.toNat_inj.1 (show s[k].toNat=46 by omega)
    cases hd:zCu s[k]
    ·have HD:=zh hd;have HB:=zh (zQ8 hlt (fun h=>by
      rcases h with⟨a,_⟩|h
      ·exact h46 a
      ·rw[HD.out] at h;cases h))
     clear h46 hd;go_wp2_with fail;refine(zFl s[k] _).mono ?_;rintro e w' ⟨rfl,rfl⟩;rw[HD.out];go_wp2_with fail;go_ret;exact⟨zA1 HB.out.symm,rfl⟩
    ·have HD:=zh hd;have HK:=zh (show okAt s k hlt from .inr hd);have HS:=zh (show c=(s.data.toList.take (k+1)).count 46 by rw[HT.out,←HC.out,if_neg h46];rfl);clear h46 hd;go_wp2_with fail;refine(zFl s[k] _).mono ?_;rintro e w' ⟨rfl,rfl⟩;rw[HD.out];go_wp2_with fail;go_round
     case rel=>exact⟨k+1,c,by omega,by omega,by go_num,rfl,HS,fun j hj h=>by
      rcases Nat.lt_or_ge j k with h'|h'
      ·exact HJ.out j hj h'
      ·obtain rfl:j=k:=by omega
       exact HK.out⟩
     case measure=>simp[intOf];omega
  ·obtain rfl:k=s.size:=by omega
   have HQ:=zh (zZz (s:=s) fun j hj=>HJ.out j hj hj);rw[show s.data.toList.take s.size=s.data.toList by rw[←HL.out];exact List.take_length] at HC;rw[←HC.out] at HQ;clear HL HC HJ
   by_cases h0:0<s.size
   ·by_cases h20:s.size≤20
    ·rw[decide_eq_true h0,decide_eq_true h20] at HQ;go_wp2_with fail;go_ret;exact⟨zA1 (by rw[HQ.out];simp;omega),rfl⟩
    ·rw[decide_eq_true h0,decide_eq_false h20] at HQ;go_wp2_with fail;go_ret;exact⟨zA1 (by rw[HQ.out];rfl),rfl⟩
   ·rw[decide_eq_false h0] at HQ;go_wp2_with fail;go_ret;exact⟨zA1 (by rw[HQ.out];rfl),rfl⟩
end Go.Proofs.YtadcldfbmkfkaaaGreatDoor.At
