/- What the reference computes of a list, plain; that it is what the program computes. -/
import Derived.Test.YtchllommcolijaaGreatDoorHb80c3e97
import Derived.Test.YtchllommcolijaaGreatDoorHa8b92636
import Derived.Test.YtchllommcolijaaGreatDoorH6e1fd50f
import Derived.Test.YtchllommcolijaaGreatDoorHc7d0967d
namespace Go.Proofs.YtchllommcolijaaGreatDoor.El
open At Ch Sp Sy Go.RowKit
abbrev zerC:Array Value:= #[.int .i64 0,.string ⟨#[]⟩,.string ⟨#[]⟩,.slice none 0 0,.string ⟨#[]⟩]
theorem zP3 (ok:Nat→Prop)(w:World):TmAt ok w zerT zerC:=TmAt.zero ok w 0 ⟨#[]⟩ (by decide)
theorem zE7 (x:World)(g:Nat)(c0 c1 c2 c3 c4:Value):x.grownBy (((((x.setCell ⟨g,0,none⟩ c0).setCell ⟨g,1,none⟩ c1).setCell ⟨g,2,none⟩ c2).setCell ⟨g,3,none⟩ c3).setCell ⟨g,4,none⟩ c4) (some g):=
 zBj (zBj (zBj (zBj (zA9 x ⟨g,0,none⟩ c0) (zA9 _ ⟨g,1,none⟩ c1)) (zA9 _ ⟨g,2,none⟩ c2)) (zA9 _ ⟨g,3,none⟩ c3)) (zA9 _ ⟨g,4,none⟩ c4)
theorem set5 {x:World}{g:Nat}{t:TypeId}{d0 d1 d2 d3 d4:Value}(h:Blk x g t #[d0,d1,d2,d3,d4])(c0 c1 c2 c3 c4:Value):Blk (((((x.setCell ⟨g,0,none⟩ c0).setCell ⟨g,1,none⟩ c1).setCell ⟨g,2,none⟩ c2).setCell ⟨g,3,none⟩ c3).setCell ⟨g,4,none⟩ c4) g t #[c0,c1,c2,c3,c4]:=((((h.set_ 0 c0).set_ 1 c1).set_ 2 c2).set_ 3 c3).set_ 4 c4
theorem zM7 {B:Nat}{w x:World}(h:Below B w x)(hB:B≤x.heap.size){g:Nat}(hg:B≤g)(c0 c1 c2 c3 c4:Value):Below B w (((((x.setCell ⟨g,0,none⟩ c0).setCell ⟨g,1,none⟩ c1).setCell ⟨g,2,none⟩ c2).setCell ⟨g,3,none⟩ c3).setCell ⟨g,4,none⟩ c4):=
 h.grown (zE7 x g c0 c1 c2 c3 c4) hB fun r e=>by have:=sj e;omega
theorem _root_.Go.Proofs.YtchllommcolijaaGreatDoor.Sp.AppT.zPz {P:Nat→Prop}{w w':World}{B:Nat}{v:Value}{xs:List Trm}{row:Option Nat}(h:AppT P w B v xs)(hg:w.grownBy w' row)(hv:∀b,v.ownBlock=some b→row≠some b)(hP:∀b,P b→some b≠row):AppT P w' B v xs:=by
 obtain⟨css,h1,h2,h3⟩:=h;refine⟨css,World.ownsRow.kept h1 hg ?_,h2,fun j c x hj hx=>(h3 j c x hj hx).grown hg (fun b _ hb=>hP b hb.2) (fun _ _ h=>h)⟩;cases hq:v.ownBlock with
 |none=>exact .inl rfl
 |some b=>exact .inr fun e=>hv b hq e.symm
theorem _root_.Go.Proofs.YtchllommcolijaaGreatDoor.Sp.AppT.weak {P P':Nat→Prop}{w:World}{B:Nat}{v:Value}{xs:List Trm}(h:AppT P w B v xs)(hP:∀b,b<w.heap.size→P b→P' b):AppT P' w B v xs:=OwnT.any h fun b hb ho=>⟨ho.1,hP b hb ho.2⟩
theorem _root_.Go.Proofs.YtchllommcolijaaGreatDoor.Sp.AppT.ltT {P:Nat→Prop}{w:World}{B:Nat}{v:Value}{xs:List Trm}(h:AppT P w B v xs):∀r,v.ownBlock=some r→B≤r∧r<w.heap.size:=OwnT.lt h
def LRes (lo hi:Nat)(m:Mea Trm)(w:World)(c f:Value):Prop:=match m with
 | .ok t=>∃cc,c= .agg cc∧f= .pointer none∧TmAt (fun b=>lo≤b∧b<hi) w t cc
 | .bad er p=>c= .agg zerC∧∃g,f= .pointer (some ⟨g,0,none⟩)∧zDo (fun b=>lo≤b∧b<hi) w g er p
theorem LRes.keep {lo hi:Nat}{m:Mea Trm}{w w':World}{c f:Value}(h:LRes lo hi m w c f)(hb:Below w.heap.size w w'):LRes lo hi m w' c f:=by
 cases m with
 |ok t=>obtain⟨cc,h1,h2,h3⟩:=h;exact⟨cc,h1,h2,h3.keep hb⟩
 |bad er p=>obtain⟨h1,g,h2,h3⟩:=h;exact⟨h1,g,h2,h3.keep hb⟩
def MeaP (m:Mea Trm)(w:World)(e:Ending)(w':World):Prop:=(match m with
 | .ok t=>∃c,e= .returned (.tuple #[.agg c,.pointer none])∧TmAt (fun b=>w.heap.size≤b) w' t c
 | .bad er p=>∃g,e= .returned (.tuple #[.agg zerC,.pointer (some ⟨g,0,none⟩)])∧zDo (fun b=>w.heap.size≤b) w' g er p)∧Below w.heap.size w w'
theorem zZz {ok:Nat→Prop}{w:World}{t:Trm}{c:Array Value}(h:TmAt ok w t c):TmAt (fun b=>ok b∧b<w.heap.size) w t c:=h.any fun _ hb ho=>⟨ho,hb⟩
theorem MeaP.res {m:Mea Trm}{w:World}{e:Ending}{w':World}(h:MeaP m w e w'):∃c f,e= .returned (.tuple #[c,f])∧LRes w.heap.size w'.heap.size m w' c f∧Below w.heap.size w w':=by
 obtain⟨h1,hb⟩:=h;cases m with
 |ok t=>
  obtain⟨c,rfl,ht⟩:=h1;exact⟨_,_,rfl,⟨c,rfl,rfl,zZz ht⟩,hb⟩
 |bad er p=>
  obtain⟨g,rfl,hf⟩:=h1;exact⟨_,_,rfl,⟨rfl,g,rfl,hf.any fun _ h1 h2=>⟨h2,h1⟩⟩,hb⟩
def zQo (m:Mea Prt)(w:World)(e:Ending)(w':World):Prop:=(match m with
 | .ok p=>∃c,e= .returned (.tuple #[.agg c,.pointer none])∧TmAt (fun b=>w.heap.size≤b) w' p.opnd c
 | .bad er q=>∃g,e= .returned (.tuple #[.agg zerC,.pointer (some ⟨g,0,none⟩)])∧zDo (fun b=>w.heap.size≤b) w' g er q)∧Below w.heap.size w w'
def zSz (g:Nat)(A:Option Addr)(cap:Nat)(rs:List Rul)(f:Nat):Prop:=∀(items:List Tre) (path:List Int) (k:Nat) (A1 Ap:Option Addr) (c1 cp:Nat) (w:World),zG4 w g A cap rs→zB0 w A1 items→items.length≤c1→c1≤9223372036854775807→zAo w Ap path→path.length+zAc items+1≤900000→zAc items<f→zCm 1 items=true→k≤2→
 Calls Tryz.prog 17 #[.pointer (some ⟨g,0,none⟩),.slice A1 items.length c1,.slice Ap path.length cp,.int .i64 k] w (MeaP (zAe rs f items path k) w)
def zCf (n:Tre)(s:Nat):Bool:=decide (n.kind=6)&&(decide (s=0)&&(match n.kids with
 |d::_=>d.kids.isEmpty
 |[]=>false))
def zEo (M:List Tre→List Int→Nat→Mea Trm)(n:Tre)(path:List Int)(s:Nat):Mea (List Trm):=if zCf n s=true then zAs M path (n.kids.drop 1) 1 0 else zAs M path (n.kids.drop s) s 0
theorem zH9 {M:List Tre→List Int→Nat→Mea Trm}{path:List Int}{ks:List Tre}{s b:Nat}{d:Tre}(h:ks[s]?=some d):zAs M path (ks.drop s) s b=(M d.kids (path++[(s:Int)]) b).then_ fun t=>(zAs M path (ks.drop (s+1)) (s+1) 0).then_ fun ts=>.ok (t::ts):=by
 obtain⟨hl,rfl⟩:=List.getElem?_eq_some_iff.1 h;rw[List.drop_eq_getElem_cons hl,zAs]
theorem zMc {M:List Tre→List Int→Nat→Mea Trm}{n:Tre}{path:List Int}{s:Nat}(h:zCf n s=true):zEo M n path s=zEo M n path (s+1):=by
 have hs:s=0:=by
  unfold zCf at h;simp only[Bool.and_eq_true,decide_eq_true_eq] at h;exact h.2.1
 subst hs;unfold zEo;rw[if_pos h,if_neg];unfold zCf;simp
theorem zTa {M:List Tre→List Int→Nat→Mea Trm}{n:Tre}{path:List Int}{s:Nat}{d:Tre}(h:zCf n s=false)(hd:n.kids[s]?=some d):zEo M n path s=(M d.kids (path++[(s:Int)]) 0).then_ fun t=>(zEo M n path (s+1)).then_ fun ts=>.ok (t::ts):=by
 have h1:zCf n (s+1)=false:=by unfold zCf;simp
 unfold zEo;rw[if_neg (by rw[h];simp),if_neg (by rw[h1];simp),zH9 hd]
theorem rest_end {M:List Tre→List Int→Nat→Mea Trm}{n:Tre}{path:List Int}(h:n.kids≠[]):zEo M n path n.kids.length= .ok []:=by
 have h1:zCf n n.kids.length=false:=by
  unfold zCf;rw[decide_eq_false (show ¬n.kids.length=0 from fun e=>h (List.length_eq_zero_iff.1 e))];simp
 unfold zEo;rw[if_neg (by rw[h1];simp),List.drop_length,zAs]
theorem zT9 {M:List Tre→List Int→Nat→Mea Trm}{n:Tre}{path:List Int}(h2:n.kind≠2)(h3:n.kind≠3)(h4:n.kind≠4)(hk:n.kids≠[]):zDa M n path=(zEo M n path 0).then_ fun ts=>.ok ⟨.mk 4 (zAz n).1 ⟨#[]⟩ (zAz n).2 ts,[],⟨#[]⟩,⟨#[]⟩⟩:=by
 unfold zDa;rw[if_neg h2,if_neg h3,if_neg h4]
 congr 1
 unfold zEo zCf;cases hn:n.kids with
 |nil=>exact absurd hn hk
 |cons d ks=>
  simp only[List.drop_succ_cons,List.drop_zero]
  by_cases h:n.kind=6∧d.kids.isEmpty=true
  ·rw[if_pos h,if_pos (by rw[decide_eq_true h.1,h.2];rfl)]
  ·rw[if_neg h,if_neg (by
    intro e;simp only[Bool.and_eq_true,decide_eq_true_eq] at e;exact h ⟨e.1,e.2.2⟩)]
def zDi (tot:Mea (List Trm))(xs:List Trm)(rest:Mea (List Trm)):Prop:=tot=rest.then_ fun ts=>.ok (xs++ts)
theorem zDi.start (m:Mea (List Trm)):zDi m [] m:=by
 unfold zDi;cases m<;>rfl
theorem zDi.bad {tot:Mea (List Trm)}{xs:List Trm}{m:Mea Trm}{F:Trm→Mea (List Trm)}{er:Int}{p:List Int}(h:zDi tot xs (m.then_ F))(hm:m= .bad er p):tot= .bad er p:=by
 unfold zDi at h;rw[h,hm];rfl
theorem zDi.next {tot:Mea (List Trm)}{xs:List Trm}{m:Mea Trm}{r:Mea (List Trm)}{t:Trm}(h:zDi tot xs (m.then_ fun t=>r.then_ fun ts=>.ok (t::ts)))(hm:m= .ok t):zDi tot (xs++[t]) r:=by
 unfold zDi at*;rw[h,hm];cases r with
 |ok ts=>simp[Mea.then_]
 |bad e p=>rfl
theorem zDi.end {tot:Mea (List Trm)}{xs:List Trm}(h:zDi tot xs (.ok [])):tot= .ok xs:=by
 unfold zDi at h;rw[h];simp[Mea.then_]
theorem zD1 {n d:Tre}{s:Nat}(h:zB8 n=true)(hd:n.kids[s]?=some d):zB8 d=true∧zBk n.kind d.kind=false:=by
 obtain⟨k,t,c,ks⟩:=n;rw[zB8,Bool.and_eq_true] at h;have key:∀(ks:List Tre) (s:Nat),zCm k ks=true→ks[s]?=some d→zB8 d=true∧zBk k d.kind=false:=by
  intro ks
  induction ks with
  |nil=>intro s _ h;simp at h
  |cons x ks ih=>
   intro s h hs;rw[zCm] at h;simp only[Bool.and_eq_true,Bool.not_eq_true'] at h;cases s with
   |zero=>
        obtain rfl:x=d:=by simpa using hs
        exact⟨h.2.1,h.1⟩
   |succ s=>exact ih s h.2.2 (by simpa using hs)
 exact key ks s h.2 hd
theorem zIc {n d:Tre}{s:Nat}(h:zB8 n=true)(hk:n.kind≠1)(hd:n.kids[s]?=some d):zCm 1 d.kids=true:=by
 obtain⟨h1,h2⟩:=zD1 h hd;have h3:d.kind=1:=by
  unfold zBk at h2;rw[decide_eq_false hk] at h2
  by_cases e:d.kind=1
  ·exact e
  ·rw[decide_eq_false e] at h2;cases h2
 obtain⟨k,t,c,ks⟩:=d;rw[zB8,Bool.and_eq_true] at h1;change k=1 at h3;rw[h3] at h1;exact h1.2
theorem zDz {n:Tre}(h:zB8 n=true):zDu n.kind n.text.data.toList=true∧zBv n.kind n.cols n.kids.length=true:=by
 obtain⟨k,t,c,ks⟩:=n;rw[zB8,Bool.and_eq_true,ownT,Bool.and_eq_true] at h;exact h.1
theorem zWu {l:List UInt8}(h:symB l=true):l.length≤16:=by
 unfold symB at h
 split at h
 ·simp
 ·simp only[Bool.and_eq_true,decide_eq_true_eq] at h;exact h.2.1
theorem zRm {k:Int}{l:List UInt8}(h:zDu k l=true):l.length≤1000:=by
 unfold zDu at h
 split at h
 ·have:=zWu h;omega
 ·split at h
  ·unfold numP at h;rw[Bool.and_eq_true,decide_eq_true_eq] at h;omega
  ·split at h
   ·rw[Bool.and_eq_true,decide_eq_true_eq] at h;omega
   ·split at h
    ·unfold inB at h;have hm:=List.contains_iff_mem.1 h;have:∀a∈zAu,a.length≤1000:=by decide
     exact this _ hm
    ·split at h
     ·unfold zOh at h
      split at h
      ·simp
      ·cases h
     ·rw[List.isEmpty_iff] at h;rw[h];simp
theorem zCj {n:Tre}(h:zB8 n=true):n.text.size≤1000:=by
 have:=zRm (zDz h).1
 simpa using this
theorem zDv (a b:ByteArray):(a++b).size=a.size+b.size:=by simp
theorem zJt {n:Tre}(h:n.text.size≤1000)(hc:n.kind=12→n.cols<100):(zAz n).1.size≤2000∧(zAz n).2.size≤2000:=by
 have q:divS.size≤2000∧zQx.size≤2000∧zJr.size≤2000∧zE3.size≤2000∧indS.size≤2000∧subS.size≤2000∧powS.size≤2000∧supS.size≤2000∧zQc.size≤2000∧zIf.size≤2000∧accS.size≤2000∧matS.size≤1000∧fenS.size≤1000∧absS.size≤2000∧grpS.size≤2000:=by decide
 obtain⟨q1,q2,q3,q4,q5,q6,q7,q8,q9,q10,q11,q12,q13,q14,q15⟩:=q;unfold zAz
 split
 ·exact⟨q1,q2⟩
 split
 ·refine⟨?_,q4⟩;dsimp only
  split
  ·split
   ·exact q3
   ·exact q4
  ·exact q4
 split
 ·exact⟨q5,q6⟩
 split
 ·exact⟨q7,q8⟩
 split
 ·exact⟨q9,q10⟩
 split
 ·exact⟨by show n.text.size≤2000;omega,q11⟩
 split
 ·next h12=>
  refine⟨by show matS.size≤2000;omega,?_⟩;have h1:(Lib.decDigits n.cols.toNat).length≤20:=by rw[Lib.decDigits_length];exact Lib.nDigits_le20 _ (by have:=hc h12;omega)
  have h2:(bys (Lib.decDigits n.cols.toNat)).size≤20:=by simpa [bys,ByteArray.size] using h1
  show(matS++bys (Lib.decDigits n.cols.toNat)).size≤2000;rw[zDv];omega
 ·refine⟨?_,?_⟩
  ·show(if n.text.data.toList=[124,124] then absS else grpS).size≤2000
   split
   ·exact q14
   ·exact q15
  ·show(fenS++n.text).size≤2000;rw[zDv];omega
theorem zGd {n:Tre}(h:zB8 n=true)(e:n.kind=12):0≤n.cols∧n.cols<100:=by
 have h:=(zDz h).2;unfold zBv at h;rw[if_pos e,Bool.and_eq_true,decide_eq_true_eq] at h;omega
theorem zHd {n d:Tre}{s:Nat}(hd:n.kids[s]?=some d):zAc d.kids+2≤zAa n:=by
 obtain⟨k,t,c,ks⟩:=n;obtain⟨k',t',c',ks'⟩:=d;rw[zAa];have key:∀(ks:List Tre) (s:Nat),ks[s]?=some (.mk k' t' c' ks')→zAc ks'+1≤zAc ks:=by
  intro ks
  induction ks with
  |nil=>intro s h;simp at h
  |cons x ks ih=>
   intro s hs;rw[zAc];cases s with
   |zero=>
    obtain rfl:x= .mk k' t' c' ks':=by simpa using hs
    rw[zAa];omega
   |succ s=>have:=ih s (by simpa using hs);omega
 have:=key ks s hd;show zAc ks'+2≤_;omega
theorem fin5 {B:Nat}{w x:World}{g:Nat}{t:TypeId}{d0 d1 d2 d3 d4:Value}(h:Blk x g t #[d0,d1,d2,d3,d4])(hb:Below B w x)(hg:B≤g)(c0 c1 c2 c3 c4:Value):∃w9,((((x.setCell ⟨g,0,none⟩ c0).setCell ⟨g,1,none⟩ c1).setCell ⟨g,2,none⟩ c2).setCell ⟨g,3,none⟩ c3).setCell ⟨g,4,none⟩ c4=w9∧RowKit.Hid (Blk w9 g t #[c0,c1,c2,c3,c4])∧RowKit.Hid (Below B w w9)∧RowKit.Hid (x.grownBy w9 (some g)):=
 ⟨_,rfl,Lib.hid (set5 h c0 c1 c2 c3 c4),Lib.hid (zM7 hb (Nat.le_trans hg (Nat.le_of_lt h.lt)) hg c0 c1 c2 c3 c4),Lib.hid (zE7 x g c0 c1 c2 c3 c4)⟩
theorem fin5n {x:World}{g:Nat}{t:TypeId}{d0 d1 d2 d3 d4:Value}(h:Blk x g t #[d0,d1,d2,d3,d4])(c0 c1 c2 c3 c4:Value):∃w9,((((x.setCell ⟨g,0,none⟩ c0).setCell ⟨g,1,none⟩ c1).setCell ⟨g,2,none⟩ c2).setCell ⟨g,3,none⟩ c3).setCell ⟨g,4,none⟩ c4=w9∧RowKit.Hid (Blk w9 g t #[c0,c1,c2,c3,c4])∧RowKit.Hid (x.grownBy w9 (some g)):=
 ⟨_,rfl,Lib.hid (set5 h c0 c1 c2 c3 c4),Lib.hid (zE7 x g c0 c1 c2 c3 c4)⟩
theorem jF {x:World}{g:Nat}{t:TypeId}{c0 c1 c2 c3 c4:Value}(h:RowKit.Hid (Blk x g t #[c0,c1,c2,c3,c4])):x.cell? ⟨g,0,none⟩=some c0∧x.cell? ⟨g,1,none⟩=some c1∧x.cell? ⟨g,2,none⟩=some c2∧x.cell? ⟨g,3,none⟩=some c3∧x.cell? ⟨g,4,none⟩=some c4:=
 ⟨h.out.cell 0,h.out.cell 1,h.out.cell 2,h.out.cell 3,h.out.cell 4⟩
theorem zJ2:∀{ts:List Tre} {i:Nat} {n:Tre},ts[i]?=some n→zAa n≤zAc ts
 |[],i,n,h=>by simp at h
 |t::ts,0,n,h=>by
  obtain rfl:t=n:=by simpa using h
  rw[zAc];omega
 |t::ts,i+1,n,h=>by
  have:=zJ2 (ts:=ts) (i:=i) (n:=n) (by simpa using h);rw[zAc];omega
theorem zLi {rs:List Rul}:∀{l:List Tre} {i:Nat},zB5 rs l= .inr i→i<l.length
 |[],i,h=>by simp[zB5] at h
 |x::l,i,h=>by
  simp only[zB5] at h;rw[List.length_cons];cases ht:tokN rs x with
  |none=>rw[ht] at h;simp only[Sum.inr.injEq] at h;omega
  |some t=>
   rw[ht] at h;dsimp only at h;cases hl:zB5 rs l with
   |inl us=>rw[hl] at h;cases h
   |inr j=>
    rw[hl] at h;simp only[Sum.inr.injEq] at h;have:=zLi hl;omega
theorem zJk {k:Int}:∀{ts:List Tre},zCm k ts=true→∀t∈ts,zB8 t=true∧zBk k t.kind=false
 |[],_,t,h=>by cases h
 |x::ts,hf,t,h=>by
  rw[zCm] at hf;simp only[Bool.and_eq_true,Bool.not_eq_true'] at hf;rcases List.mem_cons.1 h with rfl|h
  ·exact⟨hf.2.1,hf.1⟩
  ·exact zJk hf.2.2 t h
theorem zUb {n:Tre}(h:zB8 n=true):(unsc n).text.size≤1000:=by
 unfold unsc
 split
 ·split
  ·next b ks hks=>
   split
   ·next x hx=>
    have hb:=(zD1 (s:=0) (d:=b) h (by rw[hks];rfl)).1;exact zCj (zD1 (s:=0) (d:=x) hb (by rw[hx];rfl)).1
   ·exact zCj h
  ·exact zCj h
 ·exact zCj h
theorem zJn {rs:List Rul}:∀{l:List Tre} {ts:List ByteArray},(∀n∈l,zB8 n=true)→zB5 rs l= .inl ts→∀t∈ts,t.size≤1000
 |[],ts,_,h,t,ht=>by
  simp only[zB5,Sum.inl.injEq] at h;rw[←h] at ht;cases ht
 |x::l,ts,hf,h,t,ht=>by
  simp only[zB5,zKu] at h;cases hr:rolB rs x with
  |false=>rw[hr] at h;simp at h
  |true=>
   rw[hr,if_pos rfl] at h;dsimp only at h;cases hl:zB5 rs l with
   |inr j=>rw[hl] at h;cases h
   |inl us=>
    rw[hl] at h;simp only[Sum.inl.injEq] at h;rw[←h] at ht;rcases List.mem_cons.1 ht with rfl|ht
    ·unfold tokS
     split
     ·exact zUb (hf x List.mem_cons_self)
     ·decide
    ·exact zJn (fun n hn=>hf n (List.mem_cons_of_mem _ hn)) hl t ht
theorem zBl.at_ {w:World}{B:Nat}{v:Value}{ts:List ByteArray}(h:zBl w B v ts)(hs:∀t∈ts,t.size≤1000):∃AT cT,v= .slice AT ts.length cT∧ts.length≤cT∧cT≤9223372036854775807∧zBp w AT ts:=by
 obtain⟨h1,h2⟩:=h;rcases h2 with⟨rfl,h0⟩|⟨gq,cp,cur,rfl,hg,hb,hn,hc,hz,ht⟩
 ·obtain rfl:ts=[]:=List.length_eq_zero_iff.1 h0;exact⟨none,0,rfl,Nat.le_refl _,by omega,fun i t hi=>by simp at hi⟩
 ·have hb:Blk w gq 9 cur:=hb;refine⟨_,cp,rfl,hn,by unfold maxLen at hc;omega,fun i t hi=>⟨by have:=hs t (List.mem_of_getElem? hi);omega,⟨gq,0,none⟩,rfl,hb.lt,?_⟩⟩;have hcell:=hb.cell i;have h3:(ts.map Value.string)[i]?=some (.string t):=by rw[List.getElem?_map,hi];rfl
  rw[←ht,List.getElem?_take] at h3
  split at h3
  ·rw[show(⟨gq,0,none⟩:Addr).add i=⟨gq,i,none⟩ by unfold Addr.add;split<;>simp_all,hcell,←Array.getElem?_toList];exact h3
  ·cases h3
theorem zN9:∀ts:List Tre,ts.length≤zAc ts
 |[]=>Nat.le_refl _
 |t::ts=>by
  obtain⟨k,a,b,ks⟩:=t;rw[List.length_cons,zAc,zAa];have:=zN9 ts;omega
theorem zMy {w:World}{ad:Addr}{ts:List Tre}(h:zB0 w (some ad) ts)(k:Nat):zB0 w (some (ad.add (k*4))) (ts.drop k):=fun i t hi=>by
 rw[List.getElem?_drop] at hi;obtain⟨ad',h1,h2,c,h3,h4⟩:=h (k+i) t hi;obtain rfl:=sj h1;refine⟨_,rfl,by rw[zA3];exact h2,c,h3,fun j hj=>?_⟩;rw[Ch.zKo,←h4 j hj]
 congr 2
 omega
theorem zMj {ok:Nat→Prop}{w:World}{A:Option Addr}{ks:List Trm}(h:zCs ok w A ks):∃css:List (Array Value),css.length=ks.length∧(∀(j:Nat) c x,css[j]?=some c→ks[j]?=some x→TmAt ok w x c)∧Reads w w.heap.size 5 A ks.length (css.flatMap (·.toList)):=by
 have ex:∀i:Nat,∃c:Array Value,∀x,ks[i]?=some x→TmAt ok w x c∧∃ad:Addr,A=some ad∧ad.block<w.heap.size∧∀j,j<5→w.cell? (ad.add (i*5+j))=c[j]?:=fun i=>by
  cases hx:ks[i]? with
  |none=>exact⟨#[],fun x h=>by cases h⟩
  |some x=>
   obtain⟨ad,h1,h2,_,c,h4,h5⟩:=h i x hx;refine⟨c,fun y hy=>?_⟩;cases hy;exact⟨h4,ad,h1,h2,h5⟩
 obtain⟨cs,hcs⟩:=Classical.axiomOfChoice ex;have hlen:((List.range ks.length).map cs).length=ks.length:=by simp
 have hget:∀(j:Nat) c,((List.range ks.length).map cs)[j]?=some c→j<ks.length∧c=cs j:=fun j c hj=>by
  rw[List.getElem?_map] at hj;rcases Nat.lt_or_ge j ks.length with hl|hl
  ·rw[List.getElem?_range hl] at hj;exact⟨hl,(sj hj).symm⟩
  ·rw[List.getElem?_eq_none (by simpa using hl)] at hj;cases hj
 have hsz:∀c∈(List.range ks.length).map cs,c.size=5:=fun c hc=>by
  obtain⟨j,hj⟩:=List.mem_iff_getElem?.1 hc;obtain⟨hl,rfl⟩:=hget j c hj;exact(hcs j _ (gE hl)).1.size
 refine⟨(List.range ks.length).map cs,hlen,fun j c x hj hx=>?_,?_,fun hn=>?_⟩
 ·obtain⟨_,rfl⟩:=hget j c hj;exact(hcs j x hx).1
 ·have key:∀l:List (Array Value),(∀c∈l,c.size=5)→(l.flatMap (·.toList)).length=l.length*5:=by
   intro l
   induction l with
   |nil=>intro _;rfl
   |cons c l ih=>
    intro h;rw[List.flatMap_cons,List.length_append,ih fun c hc=>h c (List.mem_cons_of_mem _ hc),List.length_cons,Array.length_toList,h c List.mem_cons_self];omega
  rw[key _ hsz,hlen]
 ·obtain⟨_,ad,hA,hlt,_⟩:=hcs 0 _ (gE hn);refine⟨ad,hA,hlt,fun j u hj=>?_⟩;have hjl:j<((List.range ks.length).map cs).length*5:=by
   have h1:=(List.getElem?_eq_some_iff.1 hj).1;have key:∀l:List (Array Value),(∀c∈l,c.size=5)→(l.flatMap (·.toList)).length=l.length*5:=by
    intro l
    induction l with
    |nil=>intro _;rfl
    |cons c l ih=>
     intro h;rw[List.flatMap_cons,List.length_append,ih fun c hc=>h c (List.mem_cons_of_mem _ hc),List.length_cons,Array.length_toList,h c List.mem_cons_self];omega
   rw[key _ hsz] at h1;exact h1
  rw[hlen] at hjl;have hq:j/5<ks.length:=by omega
  obtain⟨_,ad',hA',_,hc'⟩:=hcs (j/5) _ (gE hq);obtain rfl:ad=ad':=sj (hA.symm.trans hA');have h5:=hc' (j%5) (Nat.mod_lt _ (by omega));have hce:((List.range ks.length).map cs)[j/5]?=some (cs (j/5)):=by rw[List.getElem?_map,List.getElem?_range hq];rfl
  have h6:=Sp.flat5 _ (j/5) (j%5) (cs (j/5)) hsz hce (Nat.mod_lt _ (by omega));rw[show j/5*5+j%5=j by omega] at h5 h6;rw[h5,←h6,hj]
theorem _root_.Go.Proofs.YtchllommcolijaaGreatDoor.Sp.AppT.copy {ok P:Nat→Prop}{w w':World}{B:Nat}{v:Value}{ks:List Trm}{css:List (Array Value)}(hl:css.length=ks.length)(hc:∀(j:Nat) c x,css[j]?=some c→ks[j]?=some x→TmAt ok w x c)(ho:w'.ownsRow B 31 5 v ks.length (css.flatMap (·.toList)))(hb:Below w.heap.size w w')(hok:∀b,b<w.heap.size→ok b→P b∧b<B):AppT P w' B v ks:=by
 refine⟨css,ho,hl,fun j c x hj hx=>((hc j c x hj hx).any (ok':=fun b=>P b∧b<B) hok|>.keep hb).any fun b _ h=>⟨fun e=>?_,h.1⟩⟩;have:=(World.ownsRow.lt ho b e).1;omega
mutual
def pfxR (rs:List Rul):Rd→List Int
 | .mk r a ks=>(if 0≤r∧kndR rs r=2 then[a] else[])++pfxL rs ks
def pfxL (rs:List Rul):List Rd→List Int
 |[]=>[]
 |k::ks=>pfxR rs k++pfxL rs ks
end
theorem zNz {rs:List Rul}{x:Rd}{i j:Nat}(h:OkR rs x i j):∀q:Int,q∈pfxR rs x↔∃n:Int,(q,n)∈asgR rs x (j:Int)∧kndR rs n=2:=by
 induction h with
 |leaf i=>intro q;rw[zLl,pfxR];simp[pfxL]
 |inf n u i k j y z hu hk h1 h2 hz a b ha hb=>
  intro q;rw[zIr hu hk hz,pfxR,pfxL,pfxL,pfxL,if_neg (by rw[zBg hu,hk];omega)];simp only[List.nil_append,List.append_nil,List.mem_append,ha,hb,List.mem_cons];constructor
  ·rintro(⟨m,h3,h4⟩|⟨m,h3,h4⟩)
   ·exact⟨m,.inr (.inl h3),h4⟩
   ·exact⟨m,.inr (.inr h3),h4⟩
  ·rintro⟨m,h3|h3|h3,h4⟩
   ·injection h3 with _ h3;rw[h3,zBg hu,hk] at h4;omega
   ·exact .inl ⟨m,h3,h4⟩
   ·exact .inr ⟨m,h3,h4⟩
 |pre n u i j y hu hk h1 a ha=>
  intro q;rw[zIs hu hk,pfxR,pfxL,pfxL,if_pos ⟨by omega,by rw[zBg hu,hk]⟩];simp only[List.append_nil,List.mem_append,ha,List.mem_cons];constructor
  ·rintro((rfl|h3)|⟨m,h3,h4⟩)
   ·exact⟨(n:Int),.inl rfl,by rw[zBg hu,hk]⟩
   ·cases h3
   ·exact⟨m,.inr h3,h4⟩
  ·rintro⟨m,h3|h3,h4⟩
   ·injection h3 with h3 _;exact .inl (.inl h3)
   ·exact .inr ⟨m,h3,h4⟩
 |pos n u i j y hu hk h1 a ha=>
  intro q;rw[zJd hu hk (by omega),pfxR,pfxL,pfxL,if_neg (by rw[zBg hu,hk];omega)];simp only[List.nil_append,List.append_nil,ha,List.mem_cons];constructor
  ·rintro⟨m,h3,h4⟩;exact⟨m,.inr h3,h4⟩
  ·rintro⟨m,h3|h3,h4⟩
   ·injection h3 with _ h3;rw[h3,zBg hu,hk] at h4;omega
   ·exact⟨m,h3,h4⟩
 |jux n u i k j y z hu hk h1 h2 hz a b ha hb=>
  intro q;rw[zJ7 hu hk hz,pfxR,pfxL,pfxL,pfxL,if_neg (by rw[zBg hu,hk];omega)];simp only[List.nil_append,List.append_nil,List.mem_append,ha,hb];constructor
  ·rintro(⟨m,h3,h4⟩|⟨m,h3,h4⟩)
   ·exact⟨m,.inl h3,h4⟩
   ·exact⟨m,.inr h3,h4⟩
  ·rintro⟨m,h3|h3,h4⟩
   ·exact .inl ⟨m,h3,h4⟩
   ·exact .inr ⟨m,h3,h4⟩
theorem zJy:∀(ws:List (Int×Int)) (l:List Int) (q:Nat),(∀p∈ws,p.1.toNat≠q)→(ws.foldl (fun l p=>l.set p.1.toNat p.2) l)[q]?=l[q]?
 |[],_,_,_=>rfl
 |p::ws,l,q,h=>by
  rw[List.foldl_cons,zJy ws _ q fun r hr=>h r (List.mem_cons_of_mem _ hr),List.getElem?_set_ne (h p List.mem_cons_self)]
theorem fold_at:∀(ws:List (Int×Int)) (l:List Int),(ws.map Prod.fst).Nodup→(∀p∈ws,0≤p.1∧p.1.toNat<l.length)→∀(q:Nat) (n:Int),((q:Int),n)∈ws→(ws.foldl (fun l p=>l.set p.1.toNat p.2) l)[q]?=some n
 |[],_,_,_,_,_,h=>by cases h
 |p::ws,l,hn,hr,q,n,h=>by
  rw[List.map_cons,List.nodup_cons] at hn;rw[List.foldl_cons];rcases List.mem_cons.1 h with h|h
  ·rw[zJy ws _ q,←h,Int.toNat_natCast,List.getElem?_set_self]
   ·have:=(hr p List.mem_cons_self).2;rw[←h] at this
    simpa using this
   ·intro r hr2 e;have h1:=(hr r (List.mem_cons_of_mem _ hr2)).1;refine hn.1 (List.mem_map.2 ⟨r,hr2,?_⟩);rw[←h];show r.1=(q:Int);omega
  ·refine fold_at ws _ hn.2 (fun r hr2=>?_) q n h;rw[List.length_set];exact hr r (List.mem_cons_of_mem _ hr2)
theorem zGk {rs:List Rul}{x:Rd}{j:Nat}(h:OkR rs x 0 j){q:Nat}{n:Int}(hm:((q:Int),n)∈asgR rs x (j:Int)):(zG5 (asgR rs x (j:Int)) j).getD q 0=n:=by
 unfold zG5;rw[List.getD_eq_getElem?_getD,fold_at _ _ (zU4 h) (fun p hp=>?_) q n hm]
 ·rfl
 ·obtain⟨a,b,rfl,_,h2,_⟩:=zEb h p hp;rw[List.length_replicate,Int.toNat_natCast];exact⟨by show(0:Int)≤(a:Int);omega,h2⟩
theorem cover {rs:List Rul}{ts:List ByteArray}:∀(m i j:Nat) (x:Rd),j -i≤m→x∈allR rs ts i j→∀q,i≤q→q<j→tokB ts q zCi=true∨∃n:Nat,((q:Int),(n:Int))∈asgR rs x (j:Int)
 |0,i,j,x,hm,h=>by have:=zFv h;omega
 |m+1,i,j,x,hm,h=>by
  intro q h1 h2;have hij:=zFv h;rcases(zH4 hij).1 h with⟨rfl,ht,rfl⟩|⟨n,u,hu,hr⟩
  ·obtain rfl:q=i:=by omega
   exact .inl ht
  ·rcases hr with⟨hk,k,y,z,h3,h4,_,hy,hz,rfl⟩|⟨hk,y,_,hy,rfl⟩|⟨hk,y,_,hy,rfl⟩|⟨hk,k,y,z,h3,h4,hy,hz,rfl⟩
   ·rw[zIr hu hk (zB6 hz).1];rcases Nat.lt_trichotomy q k with h5|rfl|h5
    ·rcases cover m i k y (by omega) (zAr.1 hy).1 q h1 h5 with h6|⟨c,h6⟩
     ·exact .inl h6
     ·exact .inr ⟨c,List.mem_cons_of_mem _ (List.mem_append_left _ h6)⟩
    ·exact .inr ⟨n,List.mem_cons_self⟩
    ·rcases cover m (k+1) j z (by omega) (zAr.1 hz).1 q (by omega) h2 with h6|⟨c,h6⟩
     ·exact .inl h6
     ·exact .inr ⟨c,List.mem_cons_of_mem _ (List.mem_append_right _ h6)⟩
   ·rw[zIs hu hk]
    by_cases h5:q=i
    ·subst h5;exact .inr ⟨n,List.mem_cons_self⟩
    ·rcases cover m (i+1) j y (by omega) (zAr.1 hy).1 q (by omega) h2 with h6|⟨c,h6⟩
     ·exact .inl h6
     ·exact .inr ⟨c,List.mem_cons_of_mem _ h6⟩
   ·rw[zJd hu hk (by omega)]
    by_cases h5:q=j -1
    ·subst h5;exact .inr ⟨n,List.mem_cons_self⟩
    ·rcases cover m i (j -1) y (by omega) (zAr.1 hy).1 q h1 (by omega) with h6|⟨c,h6⟩
     ·exact .inl h6
     ·exact .inr ⟨c,List.mem_cons_of_mem _ h6⟩
   ·rw[zJ7 hu hk (zB6 hz).1]
    by_cases h5:q<k
    ·rcases cover m i k y (by omega) (zAr.1 hy).1 q h1 h5 with h6|⟨c,h6⟩
     ·exact .inl h6
     ·exact .inr ⟨c,List.mem_append_left _ h6⟩
    ·rcases cover m k j z (by omega) (zAr.1 hz).1 q (by omega) h2 with h6|⟨c,h6⟩
     ·exact .inl h6
     ·exact .inr ⟨c,List.mem_append_right _ h6⟩
theorem zXa {rs:List Rul}{ts:List ByteArray}{x:Rd}{j:Nat}(hx:x∈allR rs ts 0 j){q:Nat}(hq:q<j)(ht:tokB ts q zCi=false):decide ((q:Int)∈pfxR rs x)=decide (kndR rs ((zG5 (asgR rs x (j:Int)) j).getD q 0)=2):=by
 have hok:=zBs _ 0 j x (Nat.le_refl _) hx;rcases cover _ 0 j x (Nat.le_refl _) hx q (Nat.zero_le _) hq with h|⟨n,h⟩
 ·rw[h] at ht;cases ht
 ·rw[zGk hok h];refine decide_eq_decide.2 ⟨fun h1=>?_,fun h1=>(zNz hok _).2 ⟨_,h,h1⟩⟩;obtain⟨m,h2,h3⟩:=(zNz hok _).1 h1;have h4:=zGk hok h;rw[zGk hok h2] at h4;rw[←h4];exact h3
def zBn (n:Tre)(k:Nat):ByteArray×ByteArray:=
 if n.kind=5 then(divS,zQx)
 else if n.kind=6 then(if k=1 then zJr else zE3,zE3)
 else if n.kind=7 then(indS,subS) else if n.kind=8 then(powS,supS) else if n.kind=9 then(zQc,zIf)
 else if n.kind=10 then(n.text,accS)
 else if n.kind=12 then(matS,matS++bys (Lib.decDigits n.cols.toNat))
 else((if n.text.data.toList=[124,124] then absS else grpS),fenS++n.text)
def opdT (n:Tre)(ts:List Trm):Trm:=
 if n.kind=2 then .mk 2 n.text ⟨#[]⟩ ⟨#[]⟩ [] else if n.kind=3 then .mk 1 n.text ⟨#[]⟩ ⟨#[]⟩ [] else if n.kind=4 then .mk 3 n.text ⟨#[]⟩ ⟨#[]⟩ []
 else .mk 4 (zBn n ts.length).1 ⟨#[]⟩ (zBn n ts.length).2 ts
def sltF (rs:List Rul)(M:List Tre→List Int→Nat→Mea Trm)(n:Tre)(path:List Int)(op pre:Bool):Mea (List Trm):=
 if op=true then zAs M path n.kids.tail 1 (if(varN rs n pre).isSome then 2 else 0)
 else match n.kids with
  |d::ks=>if n.kind=6∧d.kids.isEmpty=true then zAs M path ks 1 0 else zAs M path (d::ks) 0 0
  |[]=>.ok []
def sfxS (k:Int):ByteArray:=if k=7 then subS else if k=8 then supS else if k=9 then zIf else⟨#[]⟩
def zerN:Tre:=.mk 0 ⟨#[]⟩ 0 []
def mkB (rs:List Rul)(nam:ByteArray)(k:Int)(p:Option (Tre×List Trm))(args:List Trm):Trm:=match p with
 |none=>.mk 4 nam ⟨#[]⟩ (zB4 k) args
 |some (n,ts)=>match varN rs n (decide (k=2)) with
  |none=>.mk 4 nam ⟨#[]⟩ (zB4 k++sfxS n.kind) (ts++args)
  |some v=>.mk 5 nam v (zH0++sfxS n.kind) (ts++args)
mutual
def bldR (rs:List Rul)(items:List Tre)(xs:List (List Trm)):Rd→Int→Trm
 | .mk r a ks,fin=>if r<0 then opdT ((items[a.toNat]?).getD zerN) ((xs[a.toNat]?).getD [])
  else mkB rs (zJ1 rs r) (kndR rs r) (if 0≤opI rs (.mk r a ks) fin then some ((items[(opI rs (.mk r a ks) fin).toNat]?).getD zerN,(xs[(opI rs (.mk r a ks) fin).toNat]?).getD []) else none) (bldL rs items xs ks (zAw rs (.mk r a ks) fin))
def bldL (rs:List Rul)(items:List Tre)(xs:List (List Trm)):List Rd→List Int→List Trm
 |k::ks,e::es=>bldR rs items xs k e::bldL rs items xs ks es
 |_,_=>[]
end
def zBm (rs:List Rul)(M:List Tre→List Int→Nat→Mea Trm)(path:List Int)(pb:Nat→Bool)(k:Nat):List Tre→List ByteArray→Nat→Mea (List (List Trm))
 |n::ns,t::ts,i=>(sltF rs M n (path++[((k+i:Nat):Int)]) (!decide (t.data.toList=[35])) (pb i)).then_ fun p=>(zBm rs M path pb k ns ts (i+1)).then_ fun ps=>.ok (p::ps)
 |_,_,_=>.ok []
def zJo (rs:List Rul)(t:ByteArray)(n:Tre)(kd:Int)(ts:List Trm):Prt:=
 if t.data.toList=[35] then⟨opdT n ts,[],⟨#[]⟩,⟨#[]⟩⟩ else if n.kind=2 then zerP else⟨zerT,ts,endS n.kind,(varN rs n (decide (kd=2))).getD ⟨#[]⟩⟩
def zIo (rs:List Rul)(kd:Nat→Int):List Tre→List ByteArray→List (List Trm)→Nat→List Prt
 |n::ns,t::ts,x::xs,i=>zJo rs t n (kd i) x::zIo rs kd ns ts xs (i+1)
 |_,_,_,_=>[]
theorem zRz (rs:List Rul)(kd:Nat→Int):∀(ns:List Tre) (ts:List ByteArray) (xs:List (List Trm)) (i q:Nat) (n:Tre) (t:ByteArray) (x:List Trm),ns[q]?=some n→ts[q]?=some t→xs[q]?=some x→(zIo rs kd ns ts xs i)[q]?=some (zJo rs t n (kd (i+q)) x)
 |[],_,_,_,q,_,_,_,h,_,_=>by simp at h
 |_::_,[],_,_,q,_,_,_,_,h,_=>by simp at h
 |_::_,_::_,[],_,q,_,_,_,_,_,h=>by simp at h
 |a::ns,b::ts,c::xs,i,0,n,t,x,h1,h2,h3=>by
  rw[List.getElem?_cons_zero] at h1 h2 h3;injection h1 with h1;injection h2 with h2;injection h3 with h3;subst h1;subst h2;subst h3;rfl
 |a::ns,b::ts,c::xs,i,q+1,n,t,x,h1,h2,h3=>by
  rw[List.getElem?_cons_succ] at h1 h2 h3;rw[zIo,List.getElem?_cons_succ,zRz rs kd ns ts xs (i+1) q n t x h1 h2 h3,show i+1+q=i+(q+1) by omega]
theorem zEa {M:List Tre→List Int→Nat→Mea Trm}{path:List Int}:∀{ks:List Tre} {s b:Nat} {ts:List Trm},zAs M path ks s b= .ok ts→ts.length=ks.length
 |[],_,_,ts,h=>by rw[zAs] at h;injection h with h;rw[←h];rfl
 |n::ns,s,b,ts,h=>by
  rw[zAs] at h;cases h1:M n.kids (path++[(s:Int)]) b with
  |bad e p=>rw[h1] at h;cases h
  |ok t=>
   rw[h1] at h;simp only[Mea.then_] at h;cases h2:zAs M path ns (s+1) 0 with
   |bad e p=>rw[h2] at h;cases h
   |ok us=>
    rw[h2] at h;simp only at h;injection h with h;rw[←h,List.length_cons,List.length_cons,zEa h2]
def kindOk (n:Tre):Prop:=(n.kind=2∨n.kind=3∨n.kind=4→n.kids=[])∧(n.kind=6→n.kids.length=2)
theorem zSd {rs:List Rul}{M:List Tre→List Int→Nat→Mea Trm}{n:Tre}{path:List Int}{pre:Bool}(h:kindOk n):zDa M n path=(sltF rs M n path false pre).then_ fun ts=>.ok ⟨opdT n ts,[],⟨#[]⟩,⟨#[]⟩⟩:=by
 unfold zDa sltF opdT;rw[if_neg (by decide:¬(false=true))]
 by_cases h2:n.kind=2
 ·rw[if_pos h2,h.1 (.inl h2)];simp only[Mea.then_,if_pos h2]
 rw[if_neg h2]
 by_cases h3:n.kind=3
 ·rw[if_pos h3,h.1 (.inr (.inl h3))];simp only[Mea.then_,if_pos h3,if_neg h2]
 rw[if_neg h3]
 by_cases h4:n.kind=4
 ·rw[if_pos h4,h.1 (.inr (.inr h4))];simp only[Mea.then_,if_pos h4,if_neg h2,if_neg h3]
 rw[if_neg h4];simp only[if_neg h2,if_neg h3,if_neg h4]
 by_cases h6:n.kind=6
 ·have hk:=h.2 h6
  match hq:n.kids with
  |[]=>rw[hq] at hk;simp at hk
  |d::ks=>
   rw[hq,List.length_cons] at hk;dsimp only;have hsh:∀m:Nat,(zAz n=zBn n m)↔(if d.kids.isEmpty=true then zJr else zE3)=(if m=1 then zJr else zE3):=by
    intro m;unfold zAz zBn;have h5:¬n.kind=5:=by omega
    rw[if_neg h5,if_pos h6,if_neg h5,if_pos h6,hq];dsimp only;rw[Prod.mk.injEq];exact⟨fun e=>e.1,fun e=>⟨e,rfl⟩⟩
   by_cases hd:d.kids.isEmpty=true
   ·rw[if_pos ⟨h6,hd⟩];cases hs:zAs M path ks 1 0 with
    |bad e p=>rfl
    |ok ts=>
     have:=zEa hs;simp only[Mea.then_];rw[(hsh ts.length).2 (by rw[if_pos hd,if_pos (by omega)])]
   ·rw[if_neg (fun e=>hd e.2)];cases hs:zAs M path (d::ks) 0 0 with
    |bad e p=>rfl
    |ok ts=>
     have:=zEa hs;rw[List.length_cons] at this;simp only[Mea.then_];rw[(hsh ts.length).2 (by rw[if_neg hd,if_neg (by omega)])]
 ·have hsh:∀m:Nat,zAz n=zBn n m:=by
   intro m;unfold zAz zBn;rw[if_neg h6,if_neg h6]
  congr 1
  funext ts
  rw[hsh ts.length]
theorem zW5 {rs:List Rul}{M:List Tre→List Int→Nat→Mea Trm}{n:Tre}{path:List Int}{pre:Bool}(h:kindOk n):scrF rs M n path pre=(sltF rs M n path true pre).then_ fun ts=>.ok (if n.kind=2 then zerP else⟨zerT,ts,endS n.kind,(varN rs n pre).getD ⟨#[]⟩⟩):=by
 unfold scrF sltF;rw[if_pos rfl]
 by_cases h2:n.kind=2
 ·rw[if_pos h2,h.1 (.inl h2),List.tail_nil,zAs];simp only[Mea.then_,if_pos h2]
 ·rw[if_neg h2];simp only[if_neg h2]
theorem zKd {rs:List Rul}{M:List Tre→List Int→Nat→Mea Trm}{path:List Int}{pb:Nat→Bool}{kd:Nat→Int}{k:Nat}:∀(ns:List Tre) (ts:List ByteArray) (i:Nat),(∀n∈ns,kindOk n)→(∀(q:Nat) (t:ByteArray),ts[q]?=some t→t.data.toList≠[35]→pb (i+q)=decide (kd (i+q)=2))→
  zBi rs M path kd k ns ts i=(zBm rs M path pb k ns ts i).then_ fun xs=>.ok (zIo rs kd ns ts xs i)
 |[],_,_,_,_=>by simp[zBi,zBm,Mea.then_,zIo]
 |_::_,[],_,_,_=>by simp[zBi,zBm,Mea.then_,zIo]
 |n::ns,t::ts,i,hk,hp=>by
  have ih:=zKd (rs:=rs) (M:=M) (path:=path) (pb:=pb) (kd:=kd) (k:=k) ns ts (i+1) (fun m hm=>hk m (List.mem_cons_of_mem _ hm)) (fun q u hu hne=>by have:=hp (q+1) u (by simpa using hu) hne;rw[show i+1+q=i+(q+1) by omega];exact this);rw[zBi,zBm,ih];have hkn:=hk n List.mem_cons_self;have hh:(if t.data.toList=[35] then zDa M n (path++[((k+i:Nat):Int)]) else scrF rs M n (path++[((k+i:Nat):Int)]) (decide (kd i=2)))=(sltF rs M n (path++[((k+i:Nat):Int)]) (!decide (t.data.toList=[35])) (pb i)).then_ fun x=>.ok (zJo rs t n (kd i) x):=by
   by_cases h:t.data.toList=[35]
   ·rw[if_pos h,decide_eq_true h,Bool.not_true,zSd (rs:=rs) (pre:=pb i) hkn]
    congr 1
    funext x
    unfold zJo;rw[if_pos h]
   ·have:=hp 0 t rfl h;rw[Nat.add_zero] at this;rw[if_neg h,decide_eq_false h,Bool.not_false,this,zW5 hkn]
    congr 1
    funext x
    unfold zJo;rw[if_neg h]
  rw[hh];cases sltF rs M n (path++[((k+i:Nat):Int)]) (!decide (t.data.toList=[35])) (pb i) with
  |bad e p=>rfl
  |ok x=>
   simp only[Mea.then_];cases zBm rs M path pb k ns ts (i+1) with
   |bad e p=>rfl
   |ok xs=>simp only[zIo]
theorem yA2 {l:List UInt8}(h:idB l=true):l≠[]:=by
 rintro rfl;revert h;decide
theorem zTp {rs:List Rul}{n:Tre}{p:Bool}{v:ByteArray}(h:varN rs n p=some v):v.data.toList≠[]∧(n.kind=7∨n.kind=9)∧p=true:=by
 unfold varN at h
 split at h
 ·next hk=>
  refine⟨?_,hk.2,hk.1⟩
  split at h
  ·unfold zG1 at h
   split at h
   ·split at h
    ·next hc=>injection h with h;rw[←h];exact yA2 hc.1.2.1
    ·cases h
   ·cases h
  ·cases h
 ·cases h
theorem zYq {rs:List Rul}{t:ByteArray}{n:Tre}{kd:Int}{ts:List Trm}{nam:ByteArray}{args:List Trm}(ht:t.data.toList≠[35])(hk:n.kind=2∨scrB n.kind=true)(h0:n.kind=2→ts=[]):mkOp nam kd (some (zJo rs t n kd ts)) args=mkB rs nam kd (some (n,ts)) args:=by
 unfold zJo;rw[if_neg ht]
 by_cases h2:n.kind=2
 ·rw[if_pos h2,h0 h2];have hv:varN rs n (decide (kd=2))=none:=by
   cases hv:varN rs n (decide (kd=2)) with
   |none=>rfl
   |some v=>have:=(zTp hv).2.1;omega
  unfold mkOp mkB;dsimp only;rw[hv,if_pos (by decide:zerP.vr.data.toList=[])];dsimp only;have hs:sfxS n.kind=⟨#[]⟩:=by unfold sfxS;rw[if_neg (by omega),if_neg (by omega),if_neg (by omega)]
  rw[hs];rfl
 ·rw[if_neg h2];have hk2:=hk.resolve_left h2;unfold scrB at hk2;have hk3:=of_decide_eq_true hk2;have hs:sfxS n.kind=endS n.kind:=by
   unfold sfxS endS
   split
   ·rfl
   split
   ·rfl
   ·rw[if_pos (by omega)]
  unfold mkOp mkB;dsimp only;rw[hs];cases hv:varN rs n (decide (kd=2)) with
  |none=>
   rw[if_pos (by decide)]
  |some v=>
   rw[if_neg (by rw[Option.getD_some];exact(zTp hv).1)];rfl
theorem zLt {rs:List Rul}{n:Nat}{u:Rul}{i k j:Nat}{y z:Rd}(hu:rs[n]?=some u)(hk:u.kind=1)(hz:z.at_=((k+1:Nat):Int)):opI rs (.mk n i [y,z]) (j:Int)=(k:Int)∧zAw rs (.mk n i [y,z]) (j:Int)=[(k:Int),(j:Int)]:=by
 unfold opI zAw zGn;rw[show Rd.rule (.mk n i [y,z])=(n:Int) from rfl,zBg hu,if_pos hk,if_pos hk];show z.at_ -1=_∧[z.at_ -1,_]=_;rw[hz,show(((k+1:Nat):Int) -1)=(k:Int) by omega];exact⟨rfl,rfl⟩
theorem zMi {rs:List Rul}{n:Nat}{u:Rul}{i j:Nat}{y:Rd}(hu:rs[n]?=some u)(hk:u.kind=2):opI rs (.mk n i [y]) (j:Int)=(i:Int)∧zAw rs (.mk n i [y]) (j:Int)=[(j:Int)]:=by
 have h1:¬u.kind=1:=by omega
 unfold opI zAw;rw[show Rd.rule (.mk n i [y])=(n:Int) from rfl,zBg hu,if_neg h1,if_pos hk,if_neg h1,if_pos hk];exact⟨rfl,rfl⟩
theorem zM8 {rs:List Rul}{n:Nat}{u:Rul}{i j:Nat}{y:Rd}(hu:rs[n]?=some u)(hk:u.kind=3)(hj:0<j):opI rs (.mk n i [y]) (j:Int)=((j -1:Nat):Int)∧zAw rs (.mk n i [y]) (j:Int)=[((j -1:Nat):Int)]:=by
 have h1:¬u.kind=1:=by omega
 have h2:¬u.kind=2:=by omega
 have hj1:(j:Int) -1=((j -1:Nat):Int):=by omega
 unfold opI zAw;rw[show Rd.rule (.mk n i [y])=(n:Int) from rfl,zBg hu,if_neg h1,if_neg h2,if_pos hk,if_neg h1,if_neg h2,if_pos hk,hj1];exact⟨rfl,rfl⟩
theorem zN5 {rs:List Rul}{n:Nat}{u:Rul}{i k j:Nat}{y z:Rd}(hu:rs[n]?=some u)(hk:u.kind=4)(hz:z.at_=(k:Int)):opI rs (.mk n i [y,z]) (j:Int)= -1∧zAw rs (.mk n i [y,z]) (j:Int)=[(k:Int),(j:Int)]:=by
 have h1:¬u.kind=1:=by omega
 have h2:¬u.kind=2:=by omega
 have h3:¬u.kind=3:=by omega
 unfold opI zAw zGn;rw[show Rd.rule (.mk n i [y,z])=(n:Int) from rfl,zBg hu,if_neg h1,if_neg h2,if_neg h3,if_neg h1,if_neg h2,if_neg h3];show _∧[z.at_,_]=_;rw[hz];exact⟨rfl,rfl⟩
theorem zE0 (rs:List Rul)(ps:List Prt)(r a:Int)(ks:List Rd)(e:Int):trmR rs ps (.mk r a ks) e=if r<0 then(match ps[a.toNat]? with
   |some p=>p.opnd
   |none=>zerT) else mkOp (zJ1 rs r) (kndR rs r) (if 0≤opI rs (.mk r a ks) e then ps[(opI rs (.mk r a ks) e).toNat]? else none) (trmL rs ps ks (zAw rs (.mk r a ks) e)):=by
 rw[trmR];rfl
theorem zIb (rs:List Rul)(items:List Tre)(xs:List (List Trm))(r a:Int)(ks:List Rd)(fin:Int):bldR rs items xs (.mk r a ks) fin=if r<0 then opdT ((items[a.toNat]?).getD zerN) ((xs[a.toNat]?).getD [])
  else mkB rs (zJ1 rs r) (kndR rs r) (if 0≤opI rs (.mk r a ks) fin then some ((items[(opI rs (.mk r a ks) fin).toNat]?).getD zerN,(xs[(opI rs (.mk r a ks) fin).toNat]?).getD []) else none) (bldL rs items xs ks (zAw rs (.mk r a ks) fin)):=by rw[bldR]
def zUq (rs:List Rul)(ts:List ByteArray)(items:List Tre)(xs:List (List Trm))(ps:List Prt)(kd:Nat→Int)(m:Nat):Prop:=∀q,q<m→∃n t x,items[q]?=some n∧ts[q]?=some t∧xs[q]?=some x∧ps[q]?=some (zJo rs t n (kd q) x)∧(t.data.toList≠[35]→(n.kind=2∨scrB n.kind=true)∧(n.kind=2→x=[]))
theorem zQ4 {ts:List ByteArray}{q:Nat}{t:ByteArray}(h:ts[q]?=some t)(s:List UInt8):tokB ts q s=decide (t.data.toList=s):=by
 unfold tokB;rw[h];dsimp only;rw[ByteArray.toList_eq,Bool.eq_iff_iff,beq_iff_eq,decide_eq_true_iff]
theorem zWb {rs:List Rul}(hv:zAj rs=true){n:Nat}{u:Rul}(hu:rs[n]?=some u):u.sym.toList≠[35]:=by
 have h:=zGp hv hu;intro e;rcases zKx h with hk|hk|hk|⟨_,hk⟩
 ·unfold ownB at h;rw[if_pos hk,e] at h;simp only[Bool.and_eq_true] at h;exact absurd h.2.2.2.2 (by decide)
 ·unfold ownB at h;rw[if_neg (by omega),if_pos hk,e] at h;simp only[Bool.and_eq_true] at h;exact absurd h.2.2.2.2.1 (by decide)
 ·unfold ownB at h;rw[if_neg (by omega),if_neg (by omega),if_pos hk,e] at h;simp only[Bool.and_eq_true] at h;exact absurd h.2.2.2.2.1 (by decide)
 ·rw[hk] at e;cases e
theorem zEp {rs:List Rul}(hv:zAj rs=true){ts:List ByteArray}{items:List Tre}{xs:List (List Trm)}{ps:List Prt}{kd:Nat→Int}:∀(m i j:Nat) (x:Rd),j -i≤m→zUq rs ts items xs ps kd j→x∈allR rs ts i j→(∀p∈asgR rs x (j:Int),kd p.1.toNat=kndR rs p.2)→trmR rs ps x (j:Int)=bldR rs items xs x (j:Int)
 |0,i,j,x,hm,_,h=>by have:=zFv h;omega
 |m+1,i,j,x,hm,hI,h=>by
  intro hp;have hij:=zFv h;have sub:∀j',j'≤j→zUq rs ts items xs ps kd j':=fun j' hj q hq=>hI q (by omega)
  have opr:∀(q n:Nat) (u:Rul),q<j→rs[n]?=some u→tokB ts q u.sym.toList=true→((q:Int),(n:Int))∈asgR rs x (j:Int)→∀args1 args2:List Trm,args1=args2→mkOp (zJ1 rs n) (kndR rs n) (ps[q]?) args1=mkB rs (zJ1 rs n) (kndR rs n) (some ((items[q]?).getD zerN,(xs[q]?).getD [])) args2:=by
   rintro q n u hq hu htk hm2 args1 _ rfl;obtain⟨nn,t,x2,h1,h2,h3,h4,h5⟩:=hI q hq;rw[zQ4 h2] at htk;have hne:t.data.toList≠[35]:=by rw[of_decide_eq_true htk];exact zWb hv hu
   have hkq:kd q=kndR rs n:=by have:=hp _ hm2;rwa [Int.toNat_natCast] at this
   rw[h4,h1,h3,hkq,Option.getD_some,Option.getD_some];exact zYq hne (h5 hne).1 (h5 hne).2
  rcases(zH4 hij).1 h with⟨rfl,ht,rfl⟩|⟨n,u,hu,hr⟩
  ·obtain⟨nn,t,x2,h1,h2,h3,h4,h5⟩:=hI i (by omega);rw[zQ4 h2] at ht;have ht2:t.data.toList=[35]:=of_decide_eq_true ht;rw[zE0,zIb,if_pos (by decide),if_pos (by decide),Int.toNat_natCast,h4,h1,h3,Option.getD_some,Option.getD_some];show(zJo rs t nn (kd i) x2).opnd=_;unfold zJo;rw[if_pos ht2]
  ·rcases hr with⟨hk,k,y,z,h3,h4,htk,hy,hz,rfl⟩|⟨hk,y,htk,hy,rfl⟩|⟨hk,y,htk,hy,rfl⟩|⟨hk,k,y,z,h3,h4,hy,hz,rfl⟩
   ·have ha:=zIr (i:=i) (j:=j) (y:=y) hu hk (zB6 hz).1;have hn0:¬((n:Int)<0):=by omega
    have ho:=zLt (i:=i) (j:=j) (y:=y) hu hk (zB6 hz).1;rw[zE0,zIb,if_neg hn0,if_neg hn0,ho.1,ho.2,if_pos (Int.natCast_nonneg _),if_pos (Int.natCast_nonneg _),Int.toNat_natCast];refine opr k n u (by omega) hu htk (by rw[ha];exact List.mem_cons_self) _ _ ?_;rw[ha] at hp;have e1:=zEp hv m i k y (by omega) (sub k (by omega)) (zAr.1 hy).1 fun p hpm=>hp p (List.mem_cons_of_mem _ (List.mem_append_left _ hpm))
    have e2:=zEp hv m (k+1) j z (by omega) hI (zAr.1 hz).1 fun p hpm=>hp p (List.mem_cons_of_mem _ (List.mem_append_right _ hpm))
    simp only[trmL,bldL,e1,e2]
   ·have ha:=zIs (i:=i) (j:=j) (y:=y) hu hk;have hn0:¬((n:Int)<0):=by omega
    have ho:=zMi (i:=i) (j:=j) (y:=y) hu hk;rw[zE0,zIb,if_neg hn0,if_neg hn0,ho.1,ho.2,if_pos (Int.natCast_nonneg _),if_pos (Int.natCast_nonneg _),Int.toNat_natCast];refine opr i n u (by omega) hu htk (by rw[ha];exact List.mem_cons_self) _ _ ?_;rw[ha] at hp;have e1:=zEp hv m (i+1) j y (by omega) hI (zAr.1 hy).1 fun p hpm=>hp p (List.mem_cons_of_mem _ hpm)
    simp only[trmL,bldL,e1]
   ·have ha:=zJd (i:=i) (j:=j) (y:=y) hu hk (by omega);have hn0:¬((n:Int)<0):=by omega
    have ho:=zM8 (i:=i) (j:=j) (y:=y) hu hk (by omega);rw[zE0,zIb,if_neg hn0,if_neg hn0,ho.1,ho.2,if_pos (Int.natCast_nonneg _),if_pos (Int.natCast_nonneg _),Int.toNat_natCast];refine opr (j -1) n u (by omega) hu htk (by rw[ha];exact List.mem_cons_self) _ _ ?_;rw[ha] at hp;have e1:=zEp hv m i (j -1) y (by omega) (sub _ (by omega)) (zAr.1 hy).1 fun p hpm=>hp p (List.mem_cons_of_mem _ hpm)
    simp only[trmL,bldL,e1]
   ·have ha:=zJ7 (i:=i) (j:=j) (y:=y) hu hk (zB6 hz).1;have hn0:¬((n:Int)<0):=by omega
    have ho:=zN5 (i:=i) (j:=j) (y:=y) hu hk (zB6 hz).1;rw[zE0,zIb,if_neg hn0,if_neg hn0,ho.1,ho.2,if_neg (c:=0≤(-1:Int)) (by omega),if_neg (c:=0≤(-1:Int)) (by omega)];rw[ha] at hp;have e1:=zEp hv m i k y (by omega) (sub k (by omega)) (zAr.1 hy).1 fun p hpm=>hp p (List.mem_append_left _ hpm)
    have e2:=zEp hv m k j z (by omega) hI (zAr.1 hz).1 fun p hpm=>hp p (List.mem_append_right _ hpm)
    simp only[trmL,bldL,e1,e2];rfl
theorem zOa {rs:List Rul}:∀{l:List Tre} {ts:List ByteArray},zB5 rs l= .inl ts→∀(q:Nat) (n:Tre),l[q]?=some n→ts[q]?=some (tokS rs n)∧rolB rs n=true
 |[],ts,h,q,n,hn=>by simp at hn
 |x::l,ts,h,q,n,hn=>by
  simp only[zB5,zKu] at h;cases hr:rolB rs x with
  |false=>rw[hr] at h;simp at h
  |true=>
   rw[hr,if_pos rfl] at h;dsimp only at h;cases hl:zB5 rs l with
   |inr j=>rw[hl] at h;cases h
   |inl us=>
    rw[hl] at h;simp only[Sum.inl.injEq] at h;subst h;cases q with
    |zero=>
     rw[List.getElem?_cons_zero] at hn⊢;injection hn with hn;subst hn;exact⟨rfl,hr⟩
    |succ q=>
     rw[List.getElem?_cons_succ] at hn⊢;exact zOa hl q n hn
theorem zXk {rs:List Rul}{n:Tre}(h:(tokS rs n).data.toList≠[35]):zD3 rs n=true:=by
 unfold tokS at h
 split at h
 ·assumption
 ·exact absurd rfl h
theorem zTx {rs:List Rul}{n:Tre}(h:zD3 rs n=true):n.kind=2∨scrB n.kind=true:=by
 unfold zD3 at h;rw[Bool.and_eq_true,decide_eq_true_eq] at h;cases hs:scrB n.kind with
 |true=>exact .inr rfl
 |false=>rw[zO0 hs] at h;exact .inl h.1
theorem zMs {rs:List Rul}{M:List Tre→List Int→Nat→Mea Trm}{path:List Int}{pb:Nat→Bool}{k:Nat}:∀(ns:List Tre) (ts:List ByteArray) (i:Nat) (xs:List (List Trm)),ns.length=ts.length→zBm rs M path pb k ns ts i= .ok xs→xs.length=ns.length∧∀q n t,ns[q]?=some n→ts[q]?=some t→∃x,xs[q]?=some x∧sltF rs M n (path++[((k+(i+q):Nat):Int)]) (!decide (t.data.toList=[35])) (pb (i+q))= .ok x
 |[],ts,i,xs,_,h=>by
  rw[zBm] at h
  ·injection h with h;subst h;exact⟨rfl,fun q n t hn=>by simp at hn⟩
  ·intro n ns t ts h1;cases h1
 |n::ns,[],i,xs,hl,_=>by simp at hl
 |n::ns,t::ts,i,xs,hl,h=>by
  rw[zBm] at h;cases h1:sltF rs M n (path++[((k+i:Nat):Int)]) (!decide (t.data.toList=[35])) (pb i) with
  |bad e p=>rw[h1] at h;cases h
  |ok x=>
   rw[h1] at h;simp only[Mea.then_] at h;cases h2:zBm rs M path pb k ns ts (i+1) with
   |bad e p=>rw[h2] at h;cases h
   |ok us=>
    rw[h2] at h;simp only at h;injection h with h;subst h;obtain⟨h3,h4⟩:=zMs ns ts (i+1) us (by simpa using hl) h2;refine⟨by rw[List.length_cons,List.length_cons,h3],fun q m u hm hu=>?_⟩;cases q with
    |zero=>
     rw[List.getElem?_cons_zero] at hm hu;injection hm with hm;injection hu with hu;subst hm;subst hu;exact⟨x,rfl,h1⟩
    |succ q=>
     rw[List.getElem?_cons_succ] at hm hu;obtain⟨y,h5,h6⟩:=h4 q m u hm hu;exact⟨y,by rw[List.getElem?_cons_succ];exact h5,by rw[show i+(q+1)=i+1+q by omega];exact h6⟩
theorem zXi {rs:List Rul}{M:List Tre→List Int→Nat→Mea Trm}{path:List Int}{k:Nat}{items:List Tre}{ts:List ByteArray}{x:Rd}(hv:zAj rs=true)(ht:zB5 rs items= .inl ts)(hx:x∈allR rs ts 0 ts.length)(hk:∀n∈items,kindOk n):
  ((zBi rs M path (fun i=>kndR rs ((zG5 (asgR rs x ts.length) ts.length).getD i 0)) k items ts 0).then_ fun ps=>.ok (trmR rs ps x ts.length))=(zBm rs M path (fun i=>decide ((i:Int)∈pfxR rs x)) k items ts 0).then_ fun xs=>.ok (bldR rs items xs x ts.length):=by
 have hl:=zDt ht;have hok:=zBs _ 0 ts.length x (Nat.le_refl _) hx;rw[zKd (pb:=fun i=>decide ((i:Int)∈pfxR rs x)) items ts 0 hk (fun q t hq hne=>by
  rw[Nat.zero_add];exact zXa hx (List.getElem?_eq_some_iff.1 hq).1 (by rw[zQ4 hq];exact decide_eq_false hne))]
 cases hr:zBm rs M path (fun i=>decide ((i:Int)∈pfxR rs x)) k items ts 0 with
 |bad e p=>rfl
 |ok xs=>
  simp only[Mea.then_]
  congr 1
  obtain⟨h1,h2⟩:=zMs items ts 0 xs hl.symm hr;refine zEp hv (kd:=fun i=>kndR rs ((zG5 (asgR rs x ts.length) ts.length).getD i 0)) _ 0 ts.length x (Nat.le_refl _) (fun q hq=>?_) hx (fun p hp=>?_)
  ·obtain⟨n,hn⟩:∃n,items[q]?=some n:=⟨_,gE (by omega)⟩
   have h3:=zOa ht q n hn;obtain⟨y,h4,h5⟩:=h2 q n _ hn h3.1;refine⟨n,_,y,hn,h3.1,h4,by have:=zRz rs (fun i=>kndR rs ((zG5 (asgR rs x ts.length) ts.length).getD i 0)) items ts xs 0 q n _ y hn h3.1 h4;rwa [Nat.zero_add] at this,fun hne=>⟨zTx (zXk hne),fun h6=>?_⟩⟩;rw[decide_eq_false hne,Bool.not_false] at h5;unfold sltF at h5;rw[if_pos rfl,(hk n (List.mem_of_getElem? hn)).1 (.inl h6),List.tail_nil,zAs] at h5;injection h5 with h5;exact h5.symm
  ·obtain⟨a,b,rfl,_,h3,_⟩:=zEb hok p hp;have:=zGk hok hp;show kndR rs ((zG5 (asgR rs x ts.length) ts.length).getD (Int.toNat (a:Int)) 0)=_;rw[Int.toNat_natCast,this]
end Go.Proofs.YtchllommcolijaaGreatDoor.El
