/- Writing of the meaning of a tree gives the tree, plain: operands and operators. -/
import Derived.Test.YtadcldfbmkfkaaaGreatDoorH9f66bf91
namespace Go.Proofs.YtadcldfbmkfkaaaGreatDoor.Rn
open At Ch Sp Sy El Go.RowKit
theorem zFo (a b:ByteArray):(a++b).data.toList=a.data.toList++b.data.toList:=by simp
theorem zXs (l:List UInt8):(bys l).data.toList=l:=by unfold bys;simp
theorem itm (rs:List Rul)(nam vr frm:ByteArray)(args:List Trm)(rows:List (List Tre))(k:Int)(hk:k=4∨k=5)(h:zA4 rs args=some rows):zAk rs (.mk k nam vr frm args)=zDj rs nam vr frm (some rows):=by
 rw[zV9 rs nam vr frm args k hk,h]
theorem zCb {n:Tre}(h:zAt n=true){m:Nat}(hk:(if n.kind=1 then decide (n.kids.length≤200) else if n.kind=2∨n.kind=3∨n.kind=4 then decide (n.kids.length=0) else if n.kind=5∨n.kind=6∨n.kind=7∨n.kind=8 then decide (n.kids.length=2) else if n.kind=9 then decide (n.kids.length=3) else if n.kind=10∨n.kind=11 then decide (n.kids.length=1) else false)=decide (n.kids.length=m))(h12:n.kind≠12):n.kids.length=m:=by
 have h2:=(zBz h).2;unfold zBl at h2;rw[if_neg h12,Bool.and_eq_true,hk] at h2;exact of_decide_eq_true h2.2
theorem zWl {n:Tre}{rs:List Rul}{p:Bool}(h6:n.kind≠6):sltR rs n false p=n.kids.map Tre.kids:=by
 unfold sltR;rw[if_neg (by decide)];cases n.kids with
 |nil=>rfl
 |cons d ks=>
  dsimp only;rw[if_neg fun h=>h6 h.1]
theorem zMz {n:Tre}(h:zAt n=true)(hk:n.kind≠2∧n.kind≠3∧n.kind≠4∧n.kind≠10∧n.kind≠11):n.text=⟨#[]⟩:=by
 have h1:=(zBz h).1;unfold zDe at h1;rw[if_neg hk.1,if_neg hk.2.1,if_neg hk.2.2.1,if_neg hk.2.2.2.1,if_neg hk.2.2.2.2] at h1;exact zKf (List.isEmpty_iff.1 h1)
theorem zXl {n:Tre}(h:zAt n=true)(hk:n.kind≠1):n.kind=2∨n.kind=3∨n.kind=4∨n.kind=5∨n.kind=6∨n.kind=7∨n.kind=8∨n.kind=9∨n.kind=10∨n.kind=11∨n.kind=12:=by
 have h2:=(zBz h).2;unfold zBl at h2
 by_cases h12:n.kind=12
 ·omega
 rw[if_neg h12,Bool.and_eq_true,if_neg hk] at h2
 by_cases h3:n.kind=2∨n.kind=3∨n.kind=4
 ·omega
 by_cases h4:n.kind=5∨n.kind=6∨n.kind=7∨n.kind=8
 ·omega
 by_cases h5:n.kind=9
 ·omega
 by_cases h6:n.kind=10∨n.kind=11
 ·omega
 rw[if_neg h3,if_neg h4,if_neg h5,if_neg h6] at h2;cases h2.2
theorem zZ7 {rs:List Rul}{n:Tre}{y:List Trm}{p:Bool}(hf:zAt n=true)(hk:n.kind≠1)(hy:zA4 rs y=some (sltR rs n false p)):zAk rs (opdT n y)=some [n]:=by
 unfold opdT
 by_cases h2:n.kind=2
 ·rw[if_pos h2,zAk,if_neg (by decide),if_pos rfl,←zNo hf h2]
 rw[if_neg h2]
 by_cases h3:n.kind=3
 ·have:=zL9 hf (.inr (.inl h3));rw[h3] at this;rw[if_pos h3,zAk,if_pos rfl,←this]
 rw[if_neg h3]
 by_cases h4:n.kind=4
 ·have:=zL9 hf (.inr (.inr h4));rw[h4] at this;rw[if_pos h4,zAk,if_neg (by decide),if_neg (by decide),if_pos rfl,←this]
 rw[if_neg h4];rw[itm rs _ _ _ _ _ 4 (.inl rfl) hy];have hmap:n.kind≠6→sltR rs n false p=n.kids.map Tre.kids:=fun h=>zWl h
 have simple:∀(k:Nat) (fk:FK) (frm:ByteArray),n.kind≠6→n.kind≠12→n.kind≠10→n.kind≠11→n.kids.length=k→frmW frm.data.toList=some fk→(∀rows,fixW rs (zDd n y.length).1 ⟨#[]⟩ rows fk=zBr n.kind ⟨#[]⟩ rows k)→zDj rs (zDd n y.length).1 ⟨#[]⟩ frm (some (sltR rs n false p))=some [n]:=by
  intro k fk frm h6 h12 h10 h11 hlen hfr hfix;rw[zDl hfr,hfix,hmap h6];have:=zP8 hf hk h12 hlen
  rwa [zMz hf ⟨h2,h3,h4,h10,h11⟩] at this
 rcases zXl hf hk with h|h|h|h|h|h|h|h|h|h|h
 ·exact absurd h h2
 ·exact absurd h h3
 ·exact absurd h h4
 ·have hs:(zDd n y.length).2=zCy:=by unfold zDd;rw[if_pos h]
  rw[hs];refine simple 2 .frac _ (by omega) (by omega) (by omega) (by omega) (zCb hf ?_ (by omega)) (by decide) fun rows=>by rw[h];rfl
  rw[if_neg hk,if_neg (by omega),if_pos (by omega)]
 ·have hs:(zDd n y.length).2=zC8:=by unfold zDd;rw[if_neg (by omega),if_pos h]
  have hlen:n.kids.length=2:=zCb hf (by rw[if_neg hk,if_neg (by omega),if_pos (by omega)]) (by omega);have hpl:=zHf hf ⟨by omega,by omega,by omega,by omega,by omega⟩ (by omega);rw[h] at hpl;rw[hs,zDl (k:=.root) (by decide)];have hrw:=kids_rows hf hk;unfold sltR;rw[if_neg (by decide)]
  match hkk:n.kids,hlen with
  |[d,e],_=>
   have hd:=hrw d (by rw[hkk];simp);have he:=hrw e (by rw[hkk];simp);dsimp only
   by_cases h6:n.kind=6∧d.kids.isEmpty=true
   ·rw[if_pos h6];show some [Tre.mk 6 ⟨#[]⟩ 0 [rowT [],rowT e.kids]]=_;rw[←zJ2 he.1 he.2,show rowT []=d by rw[zJ2 hd.1 hd.2,List.isEmpty_iff.1 h6.2],hpl,hkk]
   ·rw[if_neg h6];show some [Tre.mk 6 ⟨#[]⟩ 0 [rowT d.kids,rowT e.kids]]=_;rw[←zJ2 he.1 he.2,←zJ2 hd.1 hd.2,hpl,hkk]
 ·have hs:(zDd n y.length).2=subS:=by unfold zDd;rw[if_neg (by omega),if_neg (by omega),if_pos h]
  rw[hs];refine simple 2 .sub _ (by omega) (by omega) (by omega) (by omega) (zCb hf ?_ (by omega)) (by decide) fun rows=>by rw[h];rfl
  rw[if_neg hk,if_neg (by omega),if_pos (by omega)]
 ·have hs:(zDd n y.length).2=supS:=by unfold zDd;rw[if_neg (by omega),if_neg (by omega),if_neg (by omega),if_pos h]
  rw[hs];refine simple 2 .sup _ (by omega) (by omega) (by omega) (by omega) (zCb hf ?_ (by omega)) (by decide) fun rows=>by rw[h];rfl
  rw[if_neg hk,if_neg (by omega),if_pos (by omega)]
 ·have hs:(zDd n y.length).2=zCg:=by unfold zDd;rw[if_neg (by omega),if_neg (by omega),if_neg (by omega),if_neg (by omega),if_pos h]
  rw[hs];refine simple 3 .both _ (by omega) (by omega) (by omega) (by omega) (zCb hf ?_ (by omega)) (by decide) fun rows=>by rw[h];rfl
  rw[if_neg hk,if_neg (by omega),if_neg (by omega),if_pos h]
 ·have hs:zDd n y.length=(n.text,accS):=by unfold zDd;rw[if_neg (by omega),if_neg (by omega),if_neg (by omega),if_neg (by omega),if_neg (by omega),if_pos h]
  rw[hs,zDl (k:=.accent) (show frmW accS.data.toList=some .accent by decide),hmap (by omega)];have:=zP8 (k:=1) hf hk (by omega) (zCb hf (by rw[if_neg hk,if_neg (by omega),if_neg (by omega),if_neg (by omega),if_pos (by omega)]) (by omega))
  rwa [h] at this
 ·have hs:(zDd n y.length).2=fenS++n.text:=by unfold zDd;rw[if_neg (by omega),if_neg (by omega),if_neg (by omega),if_neg (by omega),if_neg (by omega),if_neg (by omega),if_neg (by omega)]
  rw[hs,zNx (by rw[zFo];exact yAa _),hmap (by omega),zFo];have:=zP8 (k:=1) hf hk (by omega) (zCb hf (by rw[if_neg hk,if_neg (by omega),if_neg (by omega),if_neg (by omega),if_pos (by omega)]) (by omega));rw[h] at this;unfold opnW;rw[if_pos (List.prefix_append _ _),show(fenS.data.toList++n.text.data.toList).drop 5=n.text.data.toList from rfl];exact this
 ·have hs:(zDd n y.length).2=matS++bys (Lib.decDigits n.cols.toNat):=by unfold zDd;rw[if_neg (by omega),if_neg (by omega),if_neg (by omega),if_neg (by omega),if_neg (by omega),if_neg (by omega),if_pos h]
  have h5:=(zBz hf).2;unfold zBl at h5;rw[if_pos h,Bool.and_eq_true] at h5;have hc:=of_decide_eq_true h5.1;rw[hs,zNx (by rw[zFo];exact zYx _),hmap (by omega),zFo,zXs];unfold opnW;rw[if_neg (by simp[fenS,matS]),if_pos (List.prefix_append _ _),show(matS.data.toList++Lib.decDigits n.cols.toNat).drop 6=Lib.decDigits n.cols.toNat from rfl,zWs (by omega)];dsimp only;rw[zIp (kids_rows hf hk),show((n.cols.toNat:Nat):Int)=n.cols by omega];have ht:=zMz hf ⟨h2,h3,h4,by omega,by omega⟩;cases n with
  |mk k t c ks=>
   have e1:k=12:=h;have e2:t=⟨#[]⟩:=ht;rw[e1,e2];rfl
theorem zNp {ts:List Tre}{k:Int}(h:zC0 k ts=true):∀x∈ts,zAt x=true:=by
 induction ts with
 |nil=>intro x hx;cases hx
 |cons t r ih=>
  rw[zC0,Bool.and_eq_true,Bool.and_eq_true] at h;intro x hx;rcases List.mem_cons.1 hx with rfl|hx
  ·exact h.2.1
  ·exact ih h.2.2 x hx
theorem yAm {rs:List Rul}{n:Tre}(ho:zD4 rs n=true):(unsc n).kind=2:=by
 unfold zD4 at ho;rw[Bool.and_eq_true,decide_eq_true_eq] at ho;exact ho.1
theorem zWb {rs:List Rul}{n:Tre}(hf:zAt n=true)(hk:n.kind≠1)(ho:zD4 rs n=true):n=symT (unsc n).text∨∃r,(n.kind=7∨n.kind=8∨n.kind=9)∧n= .mk n.kind ⟨#[]⟩ 0 (rowT [symT (unsc n).text]::r)∧(∀d∈r,zAt d=true∧d.kind=1)∧r.length=scrN n.kind.toNat∧n.kids.tail=r:=by
 have hs:=yAm ho
 by_cases h7:n.kind=7∨n.kind=8∨n.kind=9
 ·have hr:=kids_rows hf hk;have hpl:=zHf hf ⟨by omega,by omega,by omega,by omega,by omega⟩ (by omega);cases hkk:n.kids with
  |nil=>
   unfold unsc at hs;rw[if_pos h7,hkk] at hs;dsimp only at hs;omega
  |cons b r=>
   have hb:=hr b (by rw[hkk];exact List.mem_cons_self);have hlen:n.kids.length=scrN n.kind.toNat+1:=by
    rcases h7 with h|h|h
    ·rw[zCb (m:=2) hf (by rw[if_neg hk,if_neg (by omega),if_pos (by omega)]) (by omega),h];rfl
    ·rw[zCb (m:=2) hf (by rw[if_neg hk,if_neg (by omega),if_pos (by omega)]) (by omega),h];rfl
    ·rw[zCb (m:=3) hf (by rw[if_neg hk,if_neg (by omega),if_neg (by omega),if_pos h]) (by omega),h];rfl
   rw[hkk,List.length_cons] at hlen;cases hbk:b.kids with
   |nil=>
    have hu:unsc n=n:=by
     unfold unsc;rw[if_pos h7,hkk];dsimp only;rw[hbk]
    rw[hu] at hs;omega
   |cons x q=>cases q with
    |nil=>
     have hu:unsc n=x:=by
      unfold unsc;rw[if_pos h7,hkk];dsimp only;rw[hbk]
     rw[hu] at hs⊢;have hx:=zNp (zLe hb.1 hb.2) x (by rw[hbk];exact List.mem_cons_self);have hx2:=zNo hx hs;refine .inr ⟨r,h7,?_,fun d hd=>hr d (by rw[hkk];exact List.mem_cons_of_mem _ hd),by omega,rfl⟩;rw[←hx2,←hbk,←zJ2 hb.1 hb.2,←hkk];exact hpl
    |cons x2 q=>
     have hu:unsc n=n:=by
      unfold unsc;rw[if_pos h7,hkk];dsimp only;rw[hbk]
     rw[hu] at hs;omega
 ·have hu:unsc n=n:=by unfold unsc;rw[if_neg h7]
  rw[hu] at hs⊢;exact .inl (zNo hf hs)
theorem zV0 {rs:List Rul}(hv:zAg rs=true){r:Nat}{u:Rul}(hu:rs[r]?=some u):namW rs u.kind u.nam.data.toList=some r:=by
 unfold namW;obtain⟨hr,he⟩:=List.getElem?_eq_some_iff.1 hu;rw[List.findIdx?_eq_some_iff_getElem];refine⟨hr,by rw[he];simp,fun j hj hp=>?_⟩;have hf:zBt rs rs.length=true:=by unfold zAg at hv;rw[Bool.and_eq_true] at hv;exact hv.2
 have h2:=(zJc hf hr hu).2;unfold zDn at h2;rw[Bool.not_eq_true',List.any_eq_false] at h2;have hjl:j<rs.length:=by omega
 have hm:rs[j]∈rs.take r:=List.mem_take_iff_getElem.2 ⟨j,by omega,rfl⟩;refine h2 _ hm ?_;unfold zB6;rw[Bool.and_eq_true,decide_eq_true_eq,decide_eq_true_eq] at hp;rw[hp.1,decide_eq_true rfl,Bool.true_and,Bool.or_eq_true];exact .inr (by rw[zGi hp.2];exact beq_self_eq_true _)
def asmW (kd:Int)(n:Tre)(A:List (List Tre)):Option (List Tre):=
 if kd=1 then(match A with
  |[a,b]=>some (a++[n]++b)
  |_=>none)
 else if kd=2 then(match A with
  |[a]=>some (n::a)
  |_=>none)
 else(match A with
  |[a]=>some (a++[n])
  |_=>none)
def argN (kd:Int):Nat:=if kd=1 then 2 else 1
def fkW (kd:Int)(e:Nat):FK:=if kd=1 then .inf e else if kd=2 then .pre e else .pos e
theorem zYt (kd:Int)(e:Int)(hk:kd=1∨kd=2∨kd=3)(he:e=2∨e=7∨e=8∨e=9):frmW (zCz kd++sfxS e).data.toList=some (fkW kd (if e=2 then 0 else e.toNat)):=by
 rw[zFo];rcases hk with rfl|rfl|rfl<;>rcases he with rfl|rfl|rfl|rfl<;>decide
theorem zX2 (e:Int)(he:e=7∨e=9):frmW (zE8++sfxS e).data.toList=some (.bind e.toNat):=by
 rw[zFo];rcases he with rfl|rfl<;>decide
theorem zVe {rs:List Rul}(hv:zAg rs=true){r:Nat}{u:Rul}(hu:rs[r]?=some u)(e:Nat)(R A:List (List Tre))(hR:R.length=scrN e):opW rs u.kind u.nam e (R++A) A.length=some (if e=0 then symT u.sym else .mk e ⟨#[]⟩ 0 (rowT [symT u.sym]::R.map rowT),A):=by
 unfold opW;rw[zV0 hv hu];dsimp only;rw[hu];dsimp only;rw[if_pos (by rw[List.length_append,hR]),←hR,List.take_left,List.drop_left]
theorem zYl (rs:List Rul)(nam vr:ByteArray)(kd:Int)(hk:kd=1∨kd=2∨kd=3)(e:Nat)(rows A:List (List Tre))(o:Tre)(h:opW rs kd nam e rows (argN kd)=some (o,A)):fixW rs nam vr rows (fkW kd e)=asmW kd o A:=by
 rcases hk with rfl|rfl|rfl
 ·show(match opW rs 1 nam e rows 2 with
   |some (o,[a,b])=>some (a++[o]++b)
   |_=>none)=_
  rw[show opW rs 1 nam e rows 2=some (o,A) from h]
  match A with
  |[a,b]=>rfl
  |[]=>rfl
  |[_]=>rfl
  |_::_::_::_=>rfl
 ·show(match opW rs 2 nam e rows 1 with
   |some (o,[a])=>some (o::a)
   |_=>none)=_
  rw[show opW rs 2 nam e rows 1=some (o,A) from h]
  match A with
  |[a]=>rfl
  |[]=>rfl
  |_::_::_=>rfl
 ·show(match opW rs 3 nam e rows 1 with
   |some (o,[a])=>some (a++[o])
   |_=>none)=_
  rw[show opW rs 3 nam e rows 1=some (o,A) from h]
  match A with
  |[a]=>rfl
  |[]=>rfl
  |_::_::_=>rfl
theorem zWq (rs:List Rul)(nam vr:ByteArray)(e:Nat)(rows A:List (List Tre))(o:Tre)(h:opW rs 2 nam e rows 1=some (o,A)):fixW rs nam vr rows (.bind e)=asmW 2 (zGc vr o) A:=by
 show(match opW rs 2 nam e rows 1 with
  |some (o,[a])=>some (zGc vr o::a)
  |_=>none)=_
 rw[h]
 match A with
 |[a]=>rfl
 |[]=>rfl
 |_::_::_=>rfl
theorem zWf {rs:List Rul}{n:Tre}{v:ByteArray}(hf:zAt n=true)(hk:n.kind≠1){p:Bool}(h:varN rs n p=some v):p=true∧(n.kind=7∨n.kind=9)∧∃b s r,n.kids=b::s::r∧s.kids=symT v::symT eqlS::s.kids.drop 2:=by
 unfold varN at h
 split at h
 ·next hc=>
  refine⟨hc.1,hc.2,?_⟩
  match hks:n.kids,h with
  |b::s::r,h=>
   refine⟨b,s,r,rfl,?_⟩;have hs:=kids_rows hf hk s (by rw[hks];simp);have hform:=zNp (zLe hs.1 hs.2);dsimp only at h;unfold zMk at h
   match hsk:s.kids,h with
   |a::c::d::q,h=>
    dsimp only at h
    split at h
    ·next hc2=>
     injection h with h;have ha:=zNo (hform a (by rw[hsk];simp)) hc2.1.1;have hb:=zNo (hform c (by rw[hsk];simp)) hc2.2.1;rw[ha,hb,h,zGi (a:=c.text) (b:=eqlS) hc2.2.2];rfl
    ·cases h
   |[],h=>cases h
   |[_],h=>cases h
   |[_,_],h=>cases h
  |[],h=>cases h
  |[_],h=>cases h
 ·cases h
theorem yAe {rs:List Rul}(hv:zAg rs=true){n:Tre}{y args:List Trm}{A:List (List Tre)}{r:Nat}{u:Rul}(hf:zAt n=true)(hk:n.kind≠1)(ho:zD4 rs n=true)(hu:rs[r]?=some u)(hsym:u.sym=(unsc n).text)(hkd:u.kind=1∨u.kind=2∨u.kind=3)
  (hy:zA4 rs y=some (sltR rs n true (decide (u.kind=2)))) (hA:zA4 rs args=some A) (hN:A.length=argN u.kind):zAk rs (mkB rs u.nam u.kind (some (n,y)) args)=asmW u.kind n A:=by
 have hrows:zA4 rs (y++args)=some (sltR rs n true (decide (u.kind=2))++A):=by rw[zQ4,hy,hA];rfl
 unfold mkB;dsimp only;rcases zWb hf hk ho with hn|⟨rr,h7,hn,hrr,hlen,htl⟩
 ·have hk2:n.kind=2:=by rw[hn];rfl
  have hkids:n.kids=[]:=by rw[hn];rfl
  have hvar:varN rs n (decide (u.kind=2))=none:=by
   unfold varN;rw[if_neg (by omega)]
  rw[hvar];dsimp only;rw[itm rs _ _ _ _ _ 4 (.inl rfl) hrows,hk2,zDl (zYt u.kind 2 hkd (.inl rfl)),if_pos rfl];have hs:sltR rs n true (decide (u.kind=2))=[]:=by unfold sltR;rw[if_pos rfl,hkids];rfl
  have ho2:=zVe hv hu 0 [] A rfl;rw[hN,if_pos rfl,hsym,←hn] at ho2;rw[hs];exact zYl rs u.nam ⟨#[]⟩ u.kind hkd 0 _ A n ho2
 ·have he7:n.kind=2∨n.kind=7∨n.kind=8∨n.kind=9:=.inr h7;have hcast:((n.kind.toNat:Nat):Int)=n.kind:=by omega
  have hne0:¬n.kind.toNat=0:=by omega
  have hs:sltR rs n true (decide (u.kind=2))=scrR (if(varN rs n (decide (u.kind=2))).isSome then 2 else 0) rr:=by unfold sltR;rw[if_pos rfl,htl]
  cases hvar:varN rs n (decide (u.kind=2)) with
  |none=>
   dsimp only;have hs2:sltR rs n true (decide (u.kind=2))=rr.map Tre.kids:=by
    rw[hs,hvar];cases rr<;>rfl
   rw[itm rs _ _ _ _ _ 4 (.inl rfl) hrows,zDl (zYt u.kind n.kind hkd he7),if_neg (by omega)];have ho2:=zVe hv hu n.kind.toNat (rr.map Tre.kids) A (by rw[List.length_map,hlen]);rw[hN,if_neg hne0,zIp hrr,hsym,hcast,←hn] at ho2;rw[hs2];exact zYl rs u.nam ⟨#[]⟩ u.kind hkd _ _ A n ho2
  |some v=>
   dsimp only;obtain⟨hp,h79,b,s,q,hks,hsk⟩:=zWf hf hk hvar;have hu2:u.kind=2:=of_decide_eq_true hp;have hrr2:rr=s::q:=by rw[←htl,hks];rfl
   have hs2:sltR rs n true (decide (u.kind=2))=s.kids.drop 2::q.map Tre.kids:=by
    rw[hs,hvar,hrr2];rfl
   rw[itm rs _ _ _ _ _ 5 (.inr rfl) hrows,zDl (zX2 n.kind h79)];have ho2:=zVe hv hu n.kind.toNat (s.kids.drop 2::q.map Tre.kids) A (by rw[←hlen,hrr2];simp);rw[hN,if_neg hne0,hu2,hcast,hsym] at ho2;rw[hs2];have hsr:=hrr s (by rw[hrr2];exact List.mem_cons_self);have hb:zGc v (.mk n.kind ⟨#[]⟩ 0 (rowT [symT (unsc n).text]::(s.kids.drop 2::q.map Tre.kids).map rowT))=n:=by
    rw[List.map_cons,zIp fun d hd=>hrr d (by rw[hrr2];exact List.mem_cons_of_mem _ hd)];show Tre.mk n.kind ⟨#[]⟩ 0 (rowT [symT (unsc n).text]::rowT (symT v::symT eqlS::s.kids.drop 2)::q)=n;rw[←hsk,←zJ2 hsr.1 hsr.2,←hrr2];exact hn.symm
   have:=zWq rs u.nam v n.kind.toNat _ A _ ho2;rw[hb] at this;rw[this,hu2]
def segT (l:List Tre)(i j:Nat):List Tre:=(l.drop i).take (j -i)
theorem zJl {l:List Tre}{i k j:Nat}(h1:i≤k)(h2:k≤j):segT l i k++segT l k j=segT l i j:=by
 unfold segT;rw[show l.drop k=(l.drop i).drop (k -i) by rw[List.drop_drop];congr 1;omega,show j -i=(k -i)+(j -k) by omega,List.take_add]
theorem zLg {l:List Tre}{k:Nat}{n:Tre}(h:l[k]?=some n):segT l k (k+1)=[n]:=by
 obtain⟨hk,he⟩:=List.getElem?_eq_some_iff.1 h;unfold segT;rw[List.drop_eq_getElem_cons hk,he,show k+1 -k=1 by omega];rfl
theorem zLf {rs:List Rul}{a:Trm}{x:List Tre}(h:zAk rs a=some x):zA4 rs [a]=some [x]:=by
 rw[zA4,h,zA4];rfl
theorem zQb {rs:List Rul}{a b:Trm}{x y:List Tre}(h:zAk rs a=some x)(h2:zAk rs b=some y):zA4 rs [a,b]=some [x,y]:=by
 rw[zA4,h,zLf h2];rfl
def ItsW (rs:List Rul)(ts:List ByteArray)(its:List Tre)(xs:List (List Trm))(pb:Nat→Bool):Prop:=∀q,q<its.length→∃n y,its[q]?=some n∧ts[q]?=some (tokS rs n)∧xs[q]?=some y∧zA4 rs y=some (sltR rs n (!decide ((tokS rs n).data.toList=[35])) (pb q))∧zAt n=true∧n.kind≠1
theorem zEv {rs:List Rul}(hv:zAg rs=true){ts:List ByteArray}{its:List Tre}{xs:List (List Trm)}{pb:Nat→Bool}(hI:ItsW rs ts its xs pb):∀(m i j:Nat) (x:Rd),j -i≤m→j≤its.length→x∈allR rs ts i j→(∀p∈asgR rs x (j:Int),pb p.1.toNat=decide (kndR rs p.2=2))→zAk rs (bldR rs its xs x (j:Int))=some (segT its i j)
 |0,i,j,x,hm,_,h=>by have:=zDy h;omega
 |m+1,i,j,x,hm,hj,h=>by
  intro hp;have hij:=zDy h;have opr:∀(q n:Nat) (u:Rul),q<j→rs[n]?=some u→(u.kind=1∨u.kind=2∨u.kind=3)→tokB ts q u.sym.toList=true→((q:Int),(n:Int))∈asgR rs x (j:Int)→∀(args:List Trm) (A:List (List Tre)),zA4 rs args=some A→A.length=argN u.kind→∃nn,its[q]?=some nn∧zAk rs (mkB rs (zI8 rs n) (kndR rs n) (some ((its[q]?).getD zerN,(xs[q]?).getD [])) args)=asmW u.kind nn A:=by
   intro q n u hq hu hkd htk hm2 args A hA hN;obtain⟨nn,y,h1,h2,h3,h4,h5,h6⟩:=hI q (by omega);rw[zKs h2] at htk;have htk2:=of_decide_eq_true htk;have hne:(tokS rs nn).data.toList≠[35]:=by rw[htk2];exact zQ2 hv hu
   have ho:=zTc hne;have hsym:u.sym=(unsc nn).text:=by
    unfold tokS at htk2;rw[if_pos ho,ByteArray.toList_eq] at htk2;exact(zGi htk2).symm
   have hpb:=hp _ hm2;rw[Int.toNat_natCast,zB5 hu] at hpb;rw[decide_eq_false hne,hpb] at h4;refine⟨nn,h1,?_⟩;rw[h1,h3,Option.getD_some,Option.getD_some,zB5 hu,show zI8 rs (n:Int)=u.nam by unfold zI8;rw[Int.toNat_natCast,hu]];exact yAe hv h5 h6 ho hu hsym hkd h4 hA hN
  rcases(zHp hij).1 h with⟨rfl,ht,rfl⟩|⟨n,u,hu,hr⟩
  ·obtain⟨nn,y,h1,h2,h3,h4,h5,h6⟩:=hI i (by omega);rw[zKs h2] at ht;have ht2:(tokS rs nn).data.toList=[35]:=of_decide_eq_true ht;rw[decide_eq_true ht2] at h4;rw[zFy,if_pos (by decide),Int.toNat_natCast,h1,h3,Option.getD_some,Option.getD_some,zLg h1];exact zZ7 h5 h6 h4
  ·rcases hr with⟨hk,k,y,z,h3,h4,htk,hy,hz,rfl⟩|⟨hk,y,htk,hy,rfl⟩|⟨hk,y,htk,hy,rfl⟩|⟨hk,k,y,z,h3,h4,hy,hz,rfl⟩
   ·have ha:=zHg (i:=i) (j:=j) (y:=y) hu hk (zAr hz).1;have hn0:¬((n:Int)<0):=by omega
    have ho:=zYi (i:=i) (j:=j) (y:=y) hu hk (zAr hz).1;have hjk:=zDy (zAd.1 hz).1;have hp2:=hp;rw[ha] at hp2;have e1:=zEv hv hI m i k y (by omega) (by omega) (zAd.1 hy).1 fun p hpm=>hp2 p (List.mem_cons_of_mem _ (List.mem_append_left _ hpm))
    have e2:=zEv hv hI m (k+1) j z (by omega) hj (zAd.1 hz).1 fun p hpm=>hp2 p (List.mem_cons_of_mem _ (List.mem_append_right _ hpm))
    obtain⟨nn,h1,h2⟩:=opr k n u (by omega) hu (.inl hk) htk (by rw[ha];exact List.mem_cons_self) [bldR rs its xs y (k:Int),bldR rs its xs z (j:Int)] _ (zQb e1 e2) (by rw[hk];rfl);rw[zFy,if_neg hn0,ho.1,ho.2,if_pos (Int.natCast_nonneg _),Int.toNat_natCast];simp only[bldL];rw[h2,hk];show some (segT its i k++[nn]++segT its (k+1) j)=_;rw[←zLg h1,zJl (by omega) (by omega),zJl (by omega) (by omega)]
   ·have ha:=zHc (i:=i) (j:=j) (y:=y) hu hk;have hn0:¬((n:Int)<0):=by omega
    have ho:=zYm (i:=i) (j:=j) (y:=y) hu hk;have hjk:=zDy (zAd.1 hy).1;have hp2:=hp;rw[ha] at hp2;have e1:=zEv hv hI m (i+1) j y (by omega) hj (zAd.1 hy).1 fun p hpm=>hp2 p (List.mem_cons_of_mem _ hpm)
    obtain⟨nn,h1,h2⟩:=opr i n u (by omega) hu (.inr (.inl hk)) htk (by rw[ha];exact List.mem_cons_self) [bldR rs its xs y (j:Int)] _ (zLf e1) (by rw[hk];rfl);rw[zFy,if_neg hn0,ho.1,ho.2,if_pos (Int.natCast_nonneg _),Int.toNat_natCast];simp only[bldL];rw[h2,hk];show some ([nn]++segT its (i+1) j)=_;rw[←zLg h1,zJl (by omega) (by omega)]
   ·have ha:=zHn (i:=i) (j:=j) (y:=y) hu hk (by omega);have hn0:¬((n:Int)<0):=by omega
    have ho:=zYu (i:=i) (j:=j) (y:=y) hu hk (by omega);have hjk:=zDy (zAd.1 hy).1;have hp2:=hp;rw[ha] at hp2;have e1:=zEv hv hI m i (j -1) y (by omega) (by omega) (zAd.1 hy).1 fun p hpm=>hp2 p (List.mem_cons_of_mem _ hpm)
    obtain⟨nn,h1,h2⟩:=opr (j -1) n u (by omega) hu (.inr (.inr hk)) htk (by rw[ha];exact List.mem_cons_self) [bldR rs its xs y ((j -1:Nat):Int)] _ (zLf e1) (by rw[hk];rfl);rw[zFy,if_neg hn0,ho.1,ho.2,if_pos (Int.natCast_nonneg _),Int.toNat_natCast];simp only[bldL];rw[h2,hk];show some (segT its i (j -1)++[nn])=_;rw[←zLg h1,zJl (by omega) (by omega),show j -1+1=j by omega]
   ·have ha:=zH9 (i:=i) (j:=j) (y:=y) hu hk (zAr hz).1;have hn0:¬((n:Int)<0):=by omega
    have ho:=zYe (i:=i) (j:=j) (y:=y) hu hk (zAr hz).1;have hp2:=hp;rw[ha] at hp2;have e1:=zEv hv hI m i k y (by omega) (by omega) (zAd.1 hy).1 fun p hpm=>hp2 p (List.mem_append_left _ hpm)
    have e2:=zEv hv hI m k j z (by omega) hj (zAd.1 hz).1 fun p hpm=>hp2 p (List.mem_append_right _ hpm)
    rw[zFy,if_neg hn0,ho.1,ho.2,if_neg (c:=0≤(-1:Int)) (by omega),zB5 hu,hk];simp only[bldL];show zAk rs (.mk 4 _ _ juxS _)=_;rw[itm rs _ _ _ _ _ 4 (.inl rfl) (zQb e1 e2),zDl (k:=.jux) (by decide)];show some (segT its i k++segT its k j)=_;rw[zJl (by omega) (by omega)]
theorem zQc {rs:List Rul}(hv:zAg rs=true):∀f,InvM rs (zAf rs f)
 |0=>fun _ _ _ _ _ h=>by rw[zAf] at h;cases h
 |f+1=>fun items path k t hf h=>by
  have ih:=zQc hv f;rw[zAf] at h;unfold zI6 at h
  split at h
  ·cases h
  ·next hk=>
   split at h
   ·cases h
   ·next ts hts=>
    split at h
    ·cases h
    ·next x hx=>
     have hfi:∀n∈items.drop k,zAt n=true∧n.kind≠1:=by
      intro n hn;obtain⟨h1,h2⟩:=zJ0 hf n (List.mem_of_mem_drop hn);refine⟨h1,fun e=>?_⟩;unfold zBi at h2;rw[e] at h2;cases h2
     have hxm:x∈allR rs ts 0 ts.length:=by
      unfold zFx at hx
      split at hx
      ·rw[hx];exact List.mem_cons_self
      ·cases hx
     have hlen:=zF4 hts;rw[zVz hv hts hxm fun n hn=>⟨fun hk3=>by have:=zL9 (hfi n hn).1 hk3;rw[this];rfl,fun h6=>zCb (hfi n hn).1 (by rw[if_neg (hfi n hn).2,if_neg (by omega),if_pos (by omega)]) (by omega)⟩] at h;obtain⟨xs,h1,h2⟩:=then_ok h;injection h2 with h2;obtain⟨_,hat⟩:=zJs _ _ _ _ hlen.symm h1;have hok:=zBv _ 0 ts.length x (Nat.le_refl _) hxm;have hI:ItsW rs ts (items.drop k) xs fun i=>decide ((i:Int)∈pfxR rs x):=by
      intro q hq;have hn:=gE hq;have ht:=(zM1 hts q _ hn).1;obtain⟨y,hy,hs⟩:=hat q _ _ hn ht;have hfo:=hfi _ (List.getElem_mem hq);refine⟨_,y,hn,ht,hy,?_,hfo.1,hfo.2⟩;rw[Nat.zero_add] at hs;exact yAb ih hfo.1 hfo.2 hs
     rw[←h2,zEv hv hI _ 0 ts.length x (Nat.le_refl _) (by omega) hxm fun p hp=>?_]
     ·unfold segT;rw[List.drop_zero,Nat.sub_zero,hlen,List.take_length]
     ·obtain⟨a,b,rfl,_,h4,_⟩:=zEe hok p hp;refine decide_eq_decide.2 ⟨fun h5=>?_,fun h5=>(zLa hok _).2 ⟨_,hp,h5⟩⟩;obtain⟨n2,h6,h7⟩:=(zLa hok _).1 h5;have e1:=zEp hok (q:=a) hp;rw[zEp hok (q:=a) (n:=n2) h6] at e1;show kndR rs b=2;rw[←e1];exact h7
    ·cases h
theorem yBa {rs:List Rul}{f:Nat}{n:Tre}{t:Trm}(h:zDv rs f n= .ok t):zAk rs t=some n.kids∧zAx t=true∧zFc n=true∧zAg rs=true:=by
 unfold zDv at h
 split at h
 ·next hc=>
  rw[Bool.and_eq_true] at hc;obtain⟨hv,hn⟩:=hc;obtain⟨h1,h2,h3,h4⟩:=zG8 hn;cases hl:zAf rs f n.kids [] 0 with
  |ok t2=>
   rw[hl] at h;dsimp only at h
   split at h
   ·next hm=>
    injection h with h;subst h;exact⟨zQc hv f _ _ _ _ h4 hl,hm,hn,hv⟩
   ·cases h
  |bad e p=>rw[hl] at h;cases h
 ·cases h
end Go.Proofs.YtadcldfbmkfkaaaGreatDoor.Rn
namespace Go.Proofs.YtadcldfbmkfkaaaGreatDoor.Sp
open At Go.RowKit
mutual
def eqM:Trm→Trm→Bool
 | .mk k a v f ts,u=>(k==u.kind&&(a.toList==u.nam.toList&&(v.toList==u.vr.toList&&(f.toList==u.form.toList&&decide (ts.length=u.args.length)))))&&eqL ts u.args
def eqL:List Trm→List Trm→Bool
 |[],us=>us.isEmpty
 |t::ts,us=>match us with
  |[]=>false
  |u::us=>eqM t u&&eqL ts us
end
theorem zLi {a b:ByteArray}(h:(a.toList==b.toList)=true):a=b:=by
 rw[beq_iff_eq,ByteArray.toList_eq,ByteArray.toList_eq] at h
 apply ByteArray.ext
 exact Array.toList_inj.1 h
mutual
theorem zUd:∀t u:Trm,eqM t u=true↔t=u
 | .mk k a v f ts,.mk k' a' v' f' us=>by
  unfold eqM;simp only[Trm.kind,Trm.nam,Trm.vr,Trm.form,Trm.args,Bool.and_eq_true,beq_iff_eq];constructor
  ·rintro⟨⟨rfl,h1,h2,h3,h4⟩,h5⟩;rw[zLi (beq_iff_eq.2 h1),zLi (beq_iff_eq.2 h2),zLi (beq_iff_eq.2 h3),(zGb ts us).1 h5]
  ·intro e;injection e with e1 e2 e3 e4 e5;subst e1;subst e2;subst e3;subst e4;subst e5;exact⟨⟨rfl,rfl,rfl,rfl,decide_eq_true rfl⟩,(zGb ts ts).2 rfl⟩
theorem zGb:∀ts us:List Trm,eqL ts us=true↔ts=us
 |[],us=>by unfold eqL;rw[List.isEmpty_iff];exact eq_comm
 |t::ts,[]=>by unfold eqL;simp
 |t::ts,u::us=>by
  unfold eqL;simp only[Bool.and_eq_true];rw[zUd t u,zGb ts us,List.cons.injEq]
end
theorem zPc {ts us:List Trm}{j:Nat}{x y:Trm}(h1:ts[j]?=some x)(h2:us[j]?=some y):eqL (ts.take (j+1)) (us.take (j+1))=(eqL (ts.take j) (us.take j)&&eqM x y):=by
 rw[Bool.eq_iff_iff,Bool.and_eq_true,zGb,zGb,zUd,List.take_add_one,List.take_add_one,h1,h2];have l1:j<ts.length:=(List.getElem?_eq_some_iff.1 h1).1;have l2:j<us.length:=(List.getElem?_eq_some_iff.1 h2).1;constructor
 ·intro e;have:=List.append_inj e (by simp;omega);exact⟨this.1,by simpa using this.2⟩
 ·rintro⟨e,rfl⟩;rw[e]
theorem zSq {ts us:List Trm}{j:Nat}(h:eqL (ts.take j) (us.take j)=false):eqL ts us=false:=by
 cases hq:eqL ts us
 ·rfl
 ·rw[(zGb ts us).1 hq] at h;rw[(zGb _ _).2 rfl] at h;cases h
set_option maxRecDepth 100000 in
set_option maxHeartbeats 4000000 in
theorem yAg:∀(z:Nat) (t u:Trm) (c d:Array Value) (w:World),cntM t≤z→MAt w t c→MAt w u d→Calls Tryz.prog 16 #[.agg c,.agg d] w fun e w'=>e= .returned (.bool (eqM t u))∧Below w.heap.size w w':=by
 intro z
 induction z with
 |zero=>intro t u c d w h;have:=zEj t;omega
 |succ z ih=>
  intro t u c d w hz hM hM2;have IH:=zh ih;clear ih;obtain⟨A,cap,rfl,ha,hv,hf,hl,hc,hk⟩:=hM.form;obtain⟨A',cap',rfl,ha',hv',hf',hl',hc',hk'⟩:=hM2.form;obtain⟨k,a,v,f,ts⟩:=t;obtain⟨k',a',v',f',us⟩:=u;dsimp only[Trm.kind,Trm.nam,Trm.vr,Trm.form,Trm.args] at ha hv hf hl hk ha' hv' hf' hl' hk'⊢;have HQ:=zh (show eqM (.mk k a v f ts) (.mk k' a' v' f' us)=((k==k'&&(a.toList==a'.toList&&(v.toList==v'.toList&&(f.toList==f'.toList&&decide (ts.length=us.length)))))&&eqL ts us) by unfold eqM;rfl);have HZ:=zh (show cntL ts≤z by rw[cntM] at hz;omega);have HW:=zh (show(w.alloc (.cells (trmC k a v A ts.length cap f) 31)).heap.size=w.heap.size+1 by simp);have B1:=zA0 w (.cells (trmC k a v A ts.length cap f) 31);have B2:=zA0 (w.alloc (.cells (trmC k a v A ts.length cap f) 31)) (.cells (trmC k' a' v' A' us.length cap' f') 31);have HB:=zh (B1.trans (B2.mono B1.size));have HK:=zh (hk.keep HB.out);have HK':=zh (hk'.keep HB.out);have K0:=zh (keep B2 (Blk.new w 31 (trmC k a v A ts.length cap f)));have K1:Hid (Blk ((w.alloc (.cells (trmC k a v A ts.length cap f) 31)).alloc (.cells (trmC k' a' v' A' us.length cap' f') 31)) (w.heap.size+1) 31 (trmC k' a' v' A' us.length cap' f')):=by
   show Blk _ _ _ _;rw[←HW.out];exact Blk.new _ _ _
  clear hM hM2 hk hk' B1 B2 HW hz;dsimp only[trmC] at HB HK HK' K0 K1;have c0:=K0.out.cell 0;have c1:=K0.out.cell 1;have c2:=K0.out.cell 2;have c3:=K0.out.cell 3;have c4:=K0.out.cell 4;have e0:=K1.out.cell 0;have e1:=K1.out.cell 1;have e2:=K1.out.cell 2;have e3:=K1.out.cell 3;have e4:=K1.out.cell 4;go_enter Tryz.func16,Tryz.ntmps16;cases q0:(k==k')
  ·rw[q0] at HQ;have n0:(k !=k')=true:=by rw[bne,q0];rfl
   go_wp2_with fail;go_ret;exact⟨zA1 (by rw[HQ.out];rfl),HB.out⟩
  have n0:(k !=k')=false:=by rw[bne,q0];rfl
  rw[q0,Bool.true_and] at HQ;replace q0:=zh q0;cases q1:(a.toList==a'.toList)
  ·rw[q1] at HQ;have n1:(!(a.toList==a'.toList))=true:=by rw[q1];rfl
   go_wp2_with fail;go_ret;exact⟨zA1 (by rw[HQ.out];rfl),HB.out⟩
  have n1:(!(a.toList==a'.toList))=false:=by rw[q1];rfl
  rw[q1,Bool.true_and] at HQ;replace q1:=zh q1;cases q2:(v.toList==v'.toList)
  ·rw[q2] at HQ;have n2:(!(v.toList==v'.toList))=true:=by rw[q2];rfl
   go_wp2_with fail;go_ret;exact⟨zA1 (by rw[HQ.out];rfl),HB.out⟩
  have n2:(!(v.toList==v'.toList))=false:=by rw[q2];rfl
  rw[q2,Bool.true_and] at HQ;replace q2:=zh q2;cases q4:(f.toList==f'.toList)
  ·rw[q4] at HQ;have n4:(!(f.toList==f'.toList))=true:=by rw[q4];rfl
   go_wp2_with fail;go_ret;exact⟨zA1 (by rw[HQ.out];rfl),HB.out⟩
  have n4:(!(f.toList==f'.toList))=false:=by rw[q4];rfl
  rw[q4,Bool.true_and] at HQ;replace q4:=zh q4
  by_cases hn:ts.length≠us.length
  ·have n3:((ts.length:Int) !=(us.length:Int))=true:=by rw[bne_iff_ne];omega
   rw[decide_eq_false hn] at HQ;clear hn;go_wp2_with fail;go_ret;exact⟨zA1 (by rw[HQ.out];rfl),HB.out⟩
  have n3:((ts.length:Int) !=(us.length:Int))=false:=by rw[bne_eq_false_iff_eq];omega
  replace hn:ts.length=us.length:=Classical.not_not.1 hn;rw[decide_eq_true hn,Bool.true_and] at HQ;replace hn:=zh hn;go_wp2_with fail;clear c0 c1 c2 c3 c4 e0 e1 e2 e3 e4;generalize (w.alloc (.cells #[.int .i64 k,.string a,.string v,.slice A ts.length cap,.string f] 31)).alloc (.cells #[.int .i64 k',.string a',.string v',.slice A' us.length cap',.string f'] 31)=w1 at*
  go_loopw [5] (fun i wr=>∃j:Nat,j≤ts.length∧i= .int .i64 j∧Hid (eqL (ts.take j) (us.take j)=true)∧Hid (Blk wr w.heap.size 31 #[.int .i64 k,.string a,.string v,.slice A ts.length cap,.string f])∧Hid (Blk wr (w.heap.size+1) 31 #[.int .i64 k',.string a',.string v',.slice A' us.length cap',.string f'])∧Hid (zDk wr A ts)∧Hid (zDk wr A' us)∧Hid (Below w.heap.size w wr)) (fun i _=>ts.length -(intOf i).toNat)
  case atStart=>exact⟨0,by omega,rfl,rfl,K0,K1,HK,HK',HB⟩
  case round=>
   clear K0 K1 HK HK' HB;obtain⟨j,hj,rfl,HJ,K0,K1,HK,HK',HB⟩:=hrel;have c3:=K0.out.cell 3;have e3:=K1.out.cell 3
   by_cases hlt:j<ts.length
   ·obtain⟨x,hx⟩:∃x,ts[j]?=some x:=⟨_,gE hlt⟩
    obtain⟨y,hy⟩:∃y,us[j]?=some y:=⟨_,gE (by have:=hn.out;omega)⟩
    obtain⟨ad,A2,cap2,rfl,hadl,hp⟩:=HK.out.at_ hx;obtain⟨ad',A3,cap3,rfl,hadl',hp'⟩:=HK'.out.at_ hy;have HX:=zh hp.whole;have HY:=zh hp'.whole;obtain⟨hb1,d0,d1,d2,d3,d4,-⟩:=hp;obtain⟨hb2,g0,g1,g2,g3,g4,-⟩:=hp';have HS:=zh (show cntM x≤z by have:=zFb hx;have:=HZ.out;omega);have HSN:=zh (zPc hx hy);rw[HJ.out,Bool.true_and] at HSN;have HFA:=zh (fun h=>zSq (ts:=ts) (us:=us) (j:=j+1) h);have hlu:(j:Int)<(us.length:Int):=by have:=hn.out;omega
    clear hx hy;go_wp2_with fail;go_upto_region 6 with(fail)
    refine zBh (by kernel_rfl) (by kernel_rfl) ?_;have EC:=fun e:Ext wr=>(keep e.bel K0.out).cell 3
    have EE:=fun e:Ext wr=>(keep e.bel K1.out).cell 3
    have D0:=fun e:Ext wr=>e.cell hb1 d0
    have D1:=fun e:Ext wr=>e.cell (p:=⟨(ad.add (j*5)).block,(ad.add (j*5)).off+1,none⟩) hb1 d1
    have D2:=fun e:Ext wr=>e.cell (p:=⟨(ad.add (j*5)).block,(ad.add (j*5)).off+2,none⟩) hb1 d2
    have D3:=fun e:Ext wr=>e.cell (p:=⟨(ad.add (j*5)).block,(ad.add (j*5)).off+3,none⟩) hb1 d3
    have D4:=fun e:Ext wr=>e.cell (p:=⟨(ad.add (j*5)).block,(ad.add (j*5)).off+4,none⟩) hb1 d4
    have G0:=fun e:Ext wr=>e.cell hb2 g0
    have G1:=fun e:Ext wr=>e.cell (p:=⟨(ad'.add (j*5)).block,(ad'.add (j*5)).off+1,none⟩) hb2 g1
    have G2:=fun e:Ext wr=>e.cell (p:=⟨(ad'.add (j*5)).block,(ad'.add (j*5)).off+2,none⟩) hb2 g2
    have G3:=fun e:Ext wr=>e.cell (p:=⟨(ad'.add (j*5)).block,(ad'.add (j*5)).off+3,none⟩) hb2 g3
    have G4:=fun e:Ext wr=>e.cell (p:=⟨(ad'.add (j*5)).block,(ad'.add (j*5)).off+4,none⟩) hb2 g4
    have HC:=zh (fun e:Ext wr=>Calls.ext (IH.out x y _ _ e.val HS.out (HX.out.keep e.bel) (HY.out.keep e.bel)));clear c3 e3 d0 d1 d2 d3 d4 g0 g1 g2 g3 g4
    repeat (go_big_quiet_step (fail))
    go_big_quiet_step ((rename_i e;exact HC.out e))
    repeat (go_big_quiet_step (fail))
    refine wpQuiet_nil ?_;intro wq hwq;obtain⟨⟨w9,hb⟩,e9⟩:=hwq;dsimp only at e9;subst e9;replace K0:=kp hb K0;replace K1:=kp hb K1;replace HK:=zh (HK.out.keep hb);replace HK':=zh (HK'.out.keep hb);replace HB:=jt HB hb;clear EC EE D0 D1 D2 D3 D4 G0 G1 G2 G3 G4 HC hb hb1 hb2 HX HY;cases hr:eqM x y
    ·have hq:eqL ts us=false:=HFA.out (by rw[HSN.out,hr]);rw[hq] at HQ;clear hr hq;go_wp2_with fail;go_ret;exact⟨zA1 (by rw[HQ.out]),HB.out⟩
    ·rw[hr] at HSN;clear hr;go_wp2_with fail;go_roundw
     case rel=>exact⟨j+1,by omega,by go_num,HSN,K0,K1,HK,HK',HB⟩
     case measure=>simp[intOf];omega
   ·obtain rfl:j=ts.length:=by omega
    have hq:eqL ts us=true:=by
     have h:=HJ.out;rw[List.take_length,hn.out,List.take_length] at h;exact h
    rw[hq] at HQ;clear hq;go_wp2_with fail;go_ret;exact⟨zA1 (by rw[HQ.out]),HB.out⟩
end Go.Proofs.YtadcldfbmkfkaaaGreatDoor.Sp
namespace Go.Proofs.YtadcldfbmkfkaaaGreatDoor.Rn
open At Ch Sp Sy El Go.RowKit
def zD6 (rs:List Rul)(f:Nat)(m:Trm):Option Tre:=match zAk rs m with
 |none=>none
 |some l=>match zDv rs f (rowT l) with
  | .ok t=>if eqM t m=true then some (rowT l) else none
  | .bad _ _=>none
mutual
def refW (rs:List Rul)(f:Nat):Trm→List Int→Option (List Int)
 | .mk k a v g ts,path=>match refL rs f ts path 0 with
  |some p=>some p
  |none=>if(zD6 rs f (.mk k a v g ts)).isNone then some path else none
def refL (rs:List Rul)(f:Nat):List Trm→List Int→Nat→Option (List Int)
 |[],_,_=>none
 |t::ts,path,i=>match refW rs f t (path++[(i:Int)]) with
  |some p=>some p
  |none=>refL rs f ts path (i+1)
end
def atM:Trm→List Int→Option Trm
 |m,[]=>some m
 |m,i::p=>if 0≤i then(match m.args[i.toNat]? with
   |some t=>atM t p
   |none=>none) else none
theorem zHl (rs:List Rul)(f:Nat)(m:Trm)(path:List Int):refW rs f m path=match refL rs f m.args path 0 with
  |some p=>some p
  |none=>if(zD6 rs f m).isNone then some path else none:=by
 cases m with
 |mk k a v g ts=>rw[refW];rfl
theorem zN2 {rs:List Rul}{f:Nat}:∀{ts:List Trm} {path:List Int} {i:Nat},refL rs f ts path i=none→∀t∈ts,(zD6 rs f t).isSome=true
 |[],_,_,_,t,h=>by cases h
 |t::ts,path,i,h,s,hs=>by
  rw[refL] at h
  split at h
  ·cases h
  ·next h1=>
   rcases List.mem_cons.1 hs with rfl|hs
   ·rw[zHl] at h1
    split at h1
    ·cases h1
    ·cases ht:zD6 rs f s with
     |some n=>rfl
     |none=>rw[ht] at h1;cases h1
   ·exact zN2 h s hs
mutual
theorem zZ3 {rs:List Rul}{f:Nat}:∀(m:Trm) (path path':List Int),refW rs f m path=none→refW rs f m path'=none
 | .mk k a v g ts,path,path',h=>by
  rw[refW] at h⊢
  split at h
  ·cases h
  ·next h2=>
   rw[zM2 ts path path' 0 0 h2];dsimp only
   split at h
   ·cases h
   ·next h3=>rw[if_neg h3]
theorem zM2 {rs:List Rul}{f:Nat}:∀(ts:List Trm) (path path':List Int) (i i':Nat),refL rs f ts path i=none→refL rs f ts path' i'=none
 |[],_,_,_,_,_=>by rw[refL]
 |t::ts,path,path',i,i',h=>by
  rw[refL] at h⊢
  split at h
  ·cases h
  ·next h2=>
   rw[zZ3 t _ (path'++[(i':Int)]) h2];exact zM2 ts path path' (i+1) (i'+1) h
end
mutual
theorem zNd {rs:List Rul}{f:Nat}:∀(m:Trm) (path p:List Int),refW rs f m path=some p→∃q s,p=path++q∧atM m q=some s∧zD6 rs f s=none∧refL rs f s.args [] 0=none
 | .mk k a v g ts,path,p,h=>by
  rw[refW] at h
  split at h
  ·next p2 h2=>
   injection h with h;subst h;obtain⟨j,q,t,s,h3,h4,h5,h6,h7⟩:=zNn ts path 0 p2 h2;refine⟨(((0+j:Nat):Int))::q,s,by rw[h3];simp,?_,h6,h7⟩;rw[atM,if_pos (by omega),show(((0+j:Nat):Int)).toNat=j by omega];show(match ts[j]? with
    |some t=>atM t q
    |none=>none)=_
   rw[h4];exact h5
  ·next h2=>
   split at h
   ·next h3=>
    injection h with h;refine⟨[],.mk k a v g ts,by rw[h,List.append_nil],by rw[atM],Option.isNone_iff_eq_none.1 h3,zM2 ts path [] 0 0 h2⟩
   ·cases h
theorem zNn {rs:List Rul}{f:Nat}:∀(ts:List Trm) (path:List Int) (i:Nat) (p:List Int),refL rs f ts path i=some p→∃j q t s,p=path++[((i+j:Nat):Int)]++q∧ts[j]?=some t∧atM t q=some s∧zD6 rs f s=none∧refL rs f s.args [] 0=none
 |[],_,_,_,h=>by rw[refL] at h;cases h
 |t::ts,path,i,p,h=>by
  rw[refL] at h
  split at h
  ·next p2 h2=>
   injection h with h;subst h;obtain⟨q,s,h3,h4,h5,h6⟩:=zNd t _ _ h2;exact⟨0,q,t,s,by rw[h3];rfl,rfl,h4,h5,h6⟩
  ·obtain⟨j,q,t2,s,h3,h4,h5,h6,h7⟩:=zNn ts path (i+1) p h;exact⟨j+1,q,t2,s,by rw[h3,show i+1+j=i+(j+1) by omega],h4,h5,h6,h7⟩
end
theorem zWc {rs:List Rul}{f:Nat}{s:Trm}(h:zD6 rs f s=none)(h2:refL rs f s.args [] 0=none):refW rs f s []=some []:=by
 rw[zHl,h2,h];rfl
theorem isNone_none {rs:List Rul}{f:Nat}{m:Trm}(h:zD6 rs f m=none)(path:List Int):∃p,refW rs f m path=some p:=by
 rw[zHl];cases refL rs f m.args path 0 with
 |some p=>exact⟨p,rfl⟩
 |none=>rw[h];exact⟨path,rfl⟩
theorem zPq:∀(q:List Int) (m s:Trm),atM m q=some s→zE4 m=true→zE4 s=true∧cntM s≤cntM m
 |[],m,s,h,hf=>by
  rw[atM] at h;injection h with h;rw[←h];exact⟨hf,Nat.le_refl _⟩
 |i::q,m,s,h,hf=>by
  rw[atM] at h
  split at h
  ·split at h
   ·next t ht=>
    cases m with
    |mk k a v g ts=>
     rw[zE4,Bool.and_eq_true] at hf;have h1:=zPq q t s h (zIy hf.2 ht);have h2:=zFb ht;rw[cntM];exact⟨h1.1,by have:cntM t≤cntL ts:=h2;omega⟩
   ·cases h
  ·cases h
end Go.Proofs.YtadcldfbmkfkaaaGreatDoor.Rn
namespace Go.Proofs.YtadcldfbmkfkaaaGreatDoor.El
open At Ch Sp Sy Go.RowKit
theorem zEj (n:Tre):zA7 n=zA3 n.kids+1:=by
 obtain⟨k,x,c,ks⟩:=n;rw[zA7];show _=zA3 ks+1;omega
end Go.Proofs.YtadcldfbmkfkaaaGreatDoor.El
namespace Go.Proofs.YtadcldfbmkfkaaaGreatDoor.Rn
open At Ch Sp Sy El Go.RowKit
theorem zBe:∀(a b:List Tre),zA3 (a++b)=zA3 a+zA3 b
 |[],b=>by rw[List.nil_append,zA3,Nat.zero_add]
 |t::a,b=>by rw[List.cons_append,zA3,zA3,zBe a b,Nat.add_assoc]
theorem zBf (l:List Tre):zA7 (rowT l)=zA3 l+1:=by unfold rowT;rw[zA7]
theorem count_one (n:Tre):zA3 [n]=zA7 n:=by rw[zA3,zA3];rfl
theorem zF2 (n p:Tre):zA3 [n,p]=zA7 n+zA7 p:=by rw[zA3,count_one]
theorem zRo (R:List (List Tre))(k:Nat):zA3 (R.map rowT)=zA3 ((R.take k).map rowT)+zA3 ((R.drop k).map rowT):=by
 rw[←zBe,←List.map_append,List.take_append_drop]
theorem zL5 {rs:List Rul}{kd:Int}{nam:ByteArray}{e:Nat}{R A:List (List Tre)}{n:Nat}{o:Tre}(h:opW rs kd nam e R n=some (o,A)):zA7 o+zA3 (A.map rowT)≤zA3 (R.map rowT)+3:=by
 unfold opW at h
 split at h
 ·cases h
 ·split at h
  ·cases h
  ·split at h
   ·injection h with h;injection h with h1 h2;rw[←h1,←h2,zRo R (scrN e)]
    split
    ·next u _ _ _=>rw[show zA7 (symT u.sym)=1 from rfl];omega
    ·next u _ _ _=>rw[zA7,zA3,zBf,count_one,show zA7 (symT u.sym)=1 from rfl];omega
   ·cases h
theorem zJf (v:ByteArray)(o:Tre):zA7 (zGc v o)≤zA7 o+2:=by
 match o with
 | .mk k t c (b:: .mk sk st sc ss::r)=>
  show zA7 (.mk k t c (b:: .mk sk st sc (symT v::symT eqlS::ss)::r))≤_;rw[zA7,zA3,zA3,zA7,zA3,zA3,zA7,zA3,zA3,zA7,show zA7 (symT v)=1 from rfl,show zA7 (symT eqlS)=1 from rfl];omega
 | .mk k t c []=>exact Nat.le_add_right _ _
 | .mk k t c [_]=>exact Nat.le_add_right _ _
theorem zEa {k:Int}{t:ByteArray}{R:List (List Tre)}{n:Nat}{l:List Tre}(h:zBr k t R n=some l):zA3 l≤zA3 (R.map rowT)+5:=by
 unfold zBr at h
 split at h
 ·injection h with h;rw[←h,count_one,zA7];omega
 ·cases h
theorem zW6 {rs:List Rul}{nam vr:ByteArray}{R:List (List Tre)}{k:FK}{l:List Tre}(h:fixW rs nam vr R k=some l):zA3 l≤zA3 (R.map rowT)+5:=by
 cases k with
 |frac=>exact zEa h
 |sub=>exact zEa h
 |sup=>exact zEa h
 |both=>exact zEa h
 |accent=>exact zEa h
 |root=>
  match R,h with
  |[a],h=>
   injection h with h;rw[←h,count_one,zA7,zF2,zBf,zBf,show([a].map rowT)=[rowT a] from rfl,count_one,zBf,zA3];omega
  |[a,b],h=>
   injection h with h;rw[←h,count_one,zA7,zF2,show([a,b].map rowT)=[rowT a,rowT b] from rfl,zF2];omega
  |[],h=>cases h
  |_::_::_::_,h=>cases h
 |jux=>
  match R,h with
  |[a,b],h=>
   injection h with h;rw[←h,zBe,show([a,b].map rowT)=[rowT a,rowT b] from rfl,zF2,zBf,zBf];omega
  |[],h=>cases h
  |[_],h=>cases h
  |_::_::_::_,h=>cases h
 |inf e=>
  rw[fixW] at h
  split at h
  ·next o a b ho=>
   injection h with h;have:=zL5 ho;rw[show([a,b].map rowT)=[rowT a,rowT b] from rfl,zF2,zBf,zBf] at this;rw[←h,zBe,zBe,count_one];omega
  ·cases h
 |pre e=>
  rw[fixW] at h
  split at h
  ·next o a ho=>
   injection h with h;have:=zL5 ho;rw[show([a].map rowT)=[rowT a] from rfl,count_one,zBf] at this;rw[←h,zA3];omega
  ·cases h
 |pos e=>
  rw[fixW] at h
  split at h
  ·next o a ho=>
   injection h with h;have:=zL5 ho;rw[show([a].map rowT)=[rowT a] from rfl,count_one,zBf] at this;rw[←h,zBe,count_one];omega
  ·cases h
 |bind e=>
  rw[fixW] at h
  split at h
  ·next o a ho=>
   injection h with h;have:=zL5 ho;have h2:=zJf vr o;rw[show([a].map rowT)=[rowT a] from rfl,count_one,zBf] at this;rw[←h,zA3];omega
  ·cases h
theorem zVy {f:List UInt8}{R:List (List Tre)}{l:List Tre}(h:opnW f R=some l):zA3 l≤zA3 (R.map rowT)+5:=by
 unfold opnW at h
 split at h
 ·exact zEa h
 ·split at h
  ·split at h
   ·injection h with h;rw[←h,count_one,zA7];omega
   ·cases h
  ·cases h
mutual
theorem zKn {rs:List Rul}:∀(m:Trm) (l:List Tre),zAk rs m=some l→zA3 l+1≤8*cntM m
 | .mk k nam vr frm args,l,h=>by
  rw[zAk] at h;rw[cntM]
  split at h
  ·injection h with h;rw[←h,count_one];show 1+1≤_;omega
  ·split at h
   ·injection h with h;rw[←h,count_one];show 1+1≤_;omega
   ·split at h
    ·injection h with h;rw[←h,count_one];show 1+1≤_;omega
    ·unfold zDj at h;cases hr:zA4 rs args with
     |none=>rw[hr] at h;cases h
     |some R=>
      have h1:=zJw args R hr;rw[hr,Option.bind_some] at h
      split at h
      ·have:=zW6 h;omega
      ·have:=zVy h;omega
theorem zJw {rs:List Rul}:∀(ms:List Trm) (R:List (List Tre)),zA4 rs ms=some R→zA3 (R.map rowT)≤8*cntL ms
 |[],R,h=>by
  rw[zA4] at h;injection h with h;rw[←h];exact Nat.le_refl _
 |m::ms,R,h=>by
  rw[zA4] at h;cases hi:zAk rs m with
  |none=>rw[hi] at h;cases h
  |some l=>
   cases hr:zA4 rs ms with
   |none=>rw[hi,hr] at h;cases h
   |some ls=>
    have h1:=zKn m l hi;have h2:=zJw ms ls hr;rw[hi,hr,Option.bind_some,Option.bind_some] at h;injection h with h;rw[←h,List.map_cons,zA3,zBf,cntL];omega
end
def ItmP (o:Option (List Tre))(w:World)(e:Ending)(w':World):Prop:=(match o with
 |none=>e= .returned (.tuple #[.slice none 0 0,.bool false])
 |some l=>∃A cap,e= .returned (.tuple #[.slice A l.length cap,.bool true])∧l.length≤cap∧cap≤9223372036854775807∧zAn (fun b=>w.heap.size≤b) w' A l)∧Below w.heap.size w w'
def yB7 (o:Option (List (List Tre)))(w:World)(e:Ending)(w':World):Prop:=ItmP (o.map (·.map rowT)) w e w'
def smS (a:ByteArray):Bool:=decide (a.size≤300)
mutual
def smM:Trm→Bool
 | .mk _ a v g ts=>smS a&&smS v&&smS g&&smML ts
def smML:List Trm→Bool
 |[]=>true
 |t::ts=>smM t&&smML ts
end
def szM (m:Trm):Nat:=cntM m+if smM m then 0 else 1000000
def szL (ts:List Trm):Nat:=(ts.map szM).sum
theorem zPf (m:Trm):1≤cntM m:=by cases m;rw[cntM];omega
theorem zUk:∀ts:List Trm,ts.length≤szL ts
 |[]=>Nat.le_refl _
 |t::ts=>by
  have h1:=zUk ts;have h2:=zPf t;unfold szL at h1⊢;rw[List.map_cons,List.sum_cons,List.length_cons];unfold szM at h1⊢;omega
theorem zSo:∀ts:List Trm,cntL ts≤szL ts
 |[]=>by rw[cntL];exact Nat.zero_le _
 |t::ts=>by
  have h1:=zSo ts;unfold szL at h1⊢;rw[List.map_cons,List.sum_cons,cntL];have h2:cntM t≤szM t:=Nat.le_add_right _ _;omega
theorem zMp:∀{ts:List Trm} {k:Nat} {t:Trm},ts[k]?=some t→szM t≤szL ts
 |[],k,t,h=>by simp at h
 |x::ts,0,t,h=>by
  obtain rfl:=sj h;unfold szL;rw[List.map_cons,List.sum_cons];omega
 |x::ts,k+1,t,h=>by
  have h1:=zMp (ts:=ts) (k:=k) h;unfold szL at h1⊢;rw[List.map_cons,List.sum_cons];omega
theorem zMf:∀{ts:List Trm},smML ts=true→szL ts=cntL ts
 |[],_=>by rw[cntL];rfl
 |t::ts,h=>by
  rw[smML,Bool.and_eq_true] at h;have h1:=zMf h.2;unfold szL at h1⊢;rw[List.map_cons,List.sum_cons,cntL,h1];unfold szM;rw[if_pos h.1];rfl
theorem yAk {m:Trm}{f:Nat}(h:szM m≤f)(hf:f≤100000):smM m=true:=by
 cases hs:smM m with
 |true=>rfl
 |false=>unfold szM at h;rw[hs,if_neg (by simp)] at h;omega
theorem zDi {m:Trm}{f:Nat}(h:szM m≤f)(hf:f≤100000):szL m.args+1=szM m:=by
 have hs:=yAk h hf;unfold szM;rw[if_pos hs];cases m with
 |mk k a v g ts=>
  rw[smM,Bool.and_eq_true] at hs;show szL ts+1=_;rw[zMf hs.2,cntM]
def zBo (W:WrB)(A:Option Addr)(cap:Nat)(rs:List Rul)(f:Nat):Prop:=∀(m:Trm) (c:Array Value) (w:World),szM m<f→f≤100000→zCn w W A cap rs→MAt w m c→
 Calls Tryz.prog 111 #[.pointer (some ⟨W.gw,0,none⟩),.agg c] w (ItmP (zAk rs m) w)
theorem zNc (rs:List Rul):∀(l:List Trm) (m:Trm),zA4 rs (l++[m])=(zA4 rs l).bind fun R=>(zAk rs m).map fun x=>R++[x]
 |[],m=>by
  show zA4 rs [m]=_;rw[zA4,zA4,zA4];cases zAk rs m<;>rfl
 |t::l,m=>by
  rw[List.cons_append,zA4,zNc rs l m,zA4];cases zAk rs t with
  |none=>rfl
  |some x=>cases zA4 rs l with
   |none=>rfl
   |some R=>cases zAk rs m<;>rfl
theorem zPw (rs:List Rul){m:Trm}(h:zAk rs m=none):∀(l r:List Trm),zA4 rs (l++m::r)=none
 |[],r=>by show zA4 rs (m::r)=_;rw[zA4,h];rfl
 |t::l,r=>by
  rw[List.cons_append,zA4,zPw rs h l r];cases zAk rs t<;>rfl
theorem zM4 (rs:List Rul):∀(l:List Trm) (R:List (List Tre)),zA4 rs l=some R→R.length=l.length
 |[],R,h=>by rw[zA4] at h;rw[←sj h];rfl
 |t::l,R,h=>by
  rw[zA4] at h;cases hi:zAk rs t with
  |none=>rw[hi] at h;cases h
  |some x=>
   cases hr:zA4 rs l with
   |none=>rw[hi,hr] at h;cases h
   |some S=>
    rw[hi,hr] at h;rw[←sj h,List.length_cons,List.length_cons,zM4 rs l S hr]
set_option maxRecDepth 100000 in
set_option maxHeartbeats 4000000 in
theorem zIk (W:WrB)(A:Option Addr)(cap:Nat)(rs:List Rul)(f:Nat)(HI:zBo W A cap rs f)(ts:List Trm)(A1:Option Addr)(c1:Nat)(w:World)(hts:szL ts<f)(hf:f≤100000)(hW:zCn w W A cap rs)(hT:zDk w A1 ts):
  Calls Tryz.prog 149 #[.pointer (some ⟨W.gw,0,none⟩),.slice A1 ts.length c1] w (yB7 (zA4 rs ts) w):=by
 obtain⟨i0,hi,hz0,hz1,hz2⟩:=zGl;have HT:=zh hT;have HW:=zh hW;have HF:=zh hts;have HL:=zh (show ts.length≤szL ts from zUk ts);have hn1:ts.length≤100000:=by have:=HF.out;have:=HL.out;omega
 clear hT hW hts;go_enter Tryz.func149,Tryz.ntmps149;go_wp2_with fail
 go_loopw [6,13] (fun v i wr=>∃(k:Nat) (R:List (List Tre)),k≤ts.length∧i= .int .i64 k∧Hid (zA4 rs (ts.take k)=some R)∧Hid (AppN (fun b=>w.heap.size≤b) wr w.heap.size v (R.map rowT))∧Hid (Below w.heap.size w wr)) (fun _ i _=>ts.length -(intOf i).toNat)
 case atStart=>exact⟨0,[],by omega,rfl,zh rfl,zh (AppN.nil _ _ _),zh (Below.refl _ _)⟩
 case round=>
  obtain⟨k,R,hk,rfl,HR,HA,HB⟩:=hrel;rcases Nat.lt_or_ge k ts.length with hlt|hge
  ·obtain⟨t,ht⟩:∃t,ts[k]?=some t:=⟨_,gE hlt⟩
   have HT1:=zh ht;obtain⟨ad,A2,cap2,rfl,hadl,hP⟩:=(HT.out.keep HB.out).at_ ht;have HM:=zh hP.whole;obtain⟨_,p0,p1,p2,p3,p4,_⟩:=hP;have hlt2:(k:Int)<(ts.length:Int):=by omega
   have hba:=zA0 wr (.cells (trmC t.kind t.nam t.vr A2 t.args.length cap2 t.form) 31);have HB2:=jt HB hba;have HA2:=zh (HA.out.keep hba);have HM2:=zh (HM.out.keep hba);have HW2:=zh (HW.out.keep HB2.out);have HK2:=zh (Blk.new wr 31 (trmC t.kind t.nam t.vr A2 t.args.length cap2 t.form));have HC:=zh (show szM t<f by have:=HF.out;have:=zMp ht;omega);clear ht hadl hba HM HA HB;go_upto_region 5 with(fail)
   generalize wr.alloc (.cells (trmC t.kind t.nam t.vr A2 t.args.length cap2 t.form) 31)=w2 at*;clear p0 p1 p2 p3 p4;have q0:=HK2.out.cell 0;have q1:=HK2.out.cell 1;have q2:=HK2.out.cell 2;have q3:=HK2.out.cell 3;have q4:=HK2.out.cell 4;go_wp2_with fail;refine(HI t _ w2 HC.out hf HW2.out HM2.out).mono ?_;rintro e w3 ⟨hres,hb⟩;clear q0 q1 q2 q3 q4;have HB3:=jt HB2 hb;have HA3:=zh (HA2.out.keep hb);have HSZ:=zh (show w.heap.size≤w2.heap.size from HB2.out.size);have HOL:=zh (show ∀b,u6.ownBlock=some b→b<w2.heap.size from fun b h=>(HA2.out.lt b h).2);clear hb HA2 HB2 HW2 HM2 HK2;cases hM:zAk rs t with
   |none=>
    rw[hM] at hres;obtain rfl:=hres;have HQ:=zh (show zA4 rs ts=none by rw[←List.take_append_drop k ts,List.drop_eq_getElem_cons hlt,show ts[k]=t from sj ((gE hlt).symm.trans HT1.out)];exact zPw rs hM _ _);clear hM;go_wp2_with fail
    go_ret2
    rw[HQ.out];exact⟨rfl,HB3.out⟩
   |some l=>
    rw[hM] at hres;obtain⟨A3,c3,rfl,hl3,hc3,hn3⟩:=hres;have HQ:=zh (show zA4 rs (ts.take (k+1))=some (R++[l]) by rw[zF1 HT1.out,zNc,HR.out,hM];rfl);have HN3:=zh (hn3.any (ok':=fun b=>u6.ownBlock≠some b∧w.heap.size≤b) fun b _ hb=>⟨fun e=>by have:=HOL.out b e;omega,by have:=HSZ.out;omega⟩);have HRL:=zh (show R.length=k by rw[zM4 rs _ R HR.out,List.length_take];omega);clear hM hn3;have hba:=zA0 w3 (.cells #[.int .i64 1,.string ⟨#[]⟩,.int .i64 0,.slice A3 l.length c3] 25);have HA4:=zh (HA3.out.keep hba);have HB4:=jt HB3 hba;have HD:=zh (NdAt.of (k:=1) (s:=⟨#[]⟩) (c:=0) (by decide) hl3 hc3 (HN3.out.keep hba));have HK4:=zh (Blk.new w3 25 #[.int .i64 1,.string ⟨#[]⟩,.int .i64 0,.slice A3 l.length c3]);have HSW:=zh (show w.heap.size≤w3.heap.size from HB3.out.size);clear hba HA3 HB3 HN3;obtain⟨css,ho,hl5,hr5⟩:=HA4.out;have hxl:(R.map rowT).length≤100000:=by rw[List.length_map,HRL.out];have:=HF.out;have:=HL.out;omega
    have HRA:=Sp.zCf HK4.out rfl (n:=4);have HON:=zUs HD.out;go_wp2_with (at_builtin;refine zAo _ rfl (.tmp 25) (.tmp 28) 23 rfl w.heap.size 25 i0 (.agg zerD) 4 56 Tryz.underlying23 hi hz0 hz1 hz2 rfl (by decide) _ _ _ rfl ho _ (some ⟨w3.heap.size,0,none⟩) 1 1 (#[.int .i64 1,.string ⟨#[]⟩,.int .i64 0,.slice A3 l.length c3]:Array Value).toList rfl HRA HON (by unfold maxLen;omega) (by omega) (by have:=HSW.out;simp;omega) ?_)
    intro v' w5 q2 q3 q4;have HAP:=AppN.push (B:=w.heap.size) (v':=v') hl5 hr5 HD.out (by rw[List.length_map];exact q2) q3 (by rw[World.size_alloc];exact q4);have hrow:∀b,u6.ownBlock=some b→w.heap.size≤b:=fun b hb=>(World.ownsRow.lt ho b hb).1
    have HB5:=zh (HB4.out.grown q3 HB4.out.size fun r e=>by have:=hrow r e;omega);have HA5:=zh (show AppN (fun b=>w.heap.size≤b) w5 w.heap.size v' ((R++[l]).map rowT) by rw[List.map_append];exact HAP);clear HAP ho hl5 hr5 q2 q3 q4 hrow HB4 HA4 HD HK4 HRA HON;go_wp2_with fail;go_roundw
    case rel=>exact⟨k+1,R++[l],by omega,by go_num,HQ,HA5,HB5⟩
    case measure=>simp[intOf];omega
  ·obtain rfl:k=ts.length:=by omega
   rw[List.take_length] at HR;obtain⟨A5,c5,e5,h51,h52,hn5⟩:=HA.out.form (fun b hb=>hb);subst e5;have HN5:=zh hn5;clear hn5 HA;go_wp2_with fail
   go_ret2
   unfold yB7;rw[HR.out];exact⟨⟨A5,c5,rfl,h51,h52,HN5.out⟩,HB.out⟩
theorem zD8 {ok:Nat→Prop}{w:World}{g:Nat}{k:Int}{s:ByteArray}{c:Int}{ks:List Tre}{A:Option Addr}{cap:Nat}(h:Blk w g 25 #[.int .i64 k,.string s,.int .i64 c,.slice A ks.length cap])(hs:s.size≤9223372036854775807)(hl:ks.length≤cap)(hc:cap≤9223372036854775807)(hk:zAn ok w A ks)(hg:ok g):zAn ok w (some ⟨g,0,none⟩) [.mk k s c ks]:=fun i x hi=>by
 match i,hi with
 |0,hi=>
  obtain rfl:Tre.mk k s c ks=x:=by simpa using hi
  exact⟨_,rfl,h.lt,hg,_,NdAt.of hs hl hc hk,fun j hj=>by rw[addg,h.cell];simp⟩
 |i+1,hi=>simp at hi
theorem zUz {ok:Nat→Prop}{w:World}{g:Nat}{x y:Tre}{x0 x1 x2 x3 y0 y1 y2 y3:Value}(h:Blk w g 25 #[x0,x1,x2,x3,y0,y1,y2,y3])(hx:NdAt ok w x #[x0,x1,x2,x3])(hy:NdAt ok w y #[y0,y1,y2,y3])(hg:ok g):zAn ok w (some ⟨g,0,none⟩) [x,y]:=fun i z hi=>by
 match i,hi with
 |0,hi=>
  obtain rfl:x=z:=by simpa using hi
  exact⟨_,rfl,h.lt,hg,_,hx,fun j hj=>by
   rw[addg,h.cell]
   match j,hj with
   |0,_|1,_|2,_|3,_=>rfl
   |j+4,hj=>omega⟩
 |1,hi=>
  obtain rfl:y=z:=by simpa using hi
  exact⟨_,rfl,h.lt,hg,_,hy,fun j hj=>by
   rw[addg,h.cell]
   match j,hj with
   |0,_|1,_|2,_|3,_=>rfl
   |j+4,hj=>omega⟩
 |i+2,hi=>simp at hi
theorem zAn.at_ {ok:Nat→Prop}{w:World}{A:Option Addr}{ts:List Tre}(h:zAn ok w A ts){i:Nat}{t:Tre}(hi:ts[i]?=some t):
  ∃ad A2 cap2,A=some ad∧ad.block<w.heap.size∧t.text.size≤9223372036854775807∧t.kids.length≤cap2∧cap2≤9223372036854775807∧zAn ok w A2 t.kids∧w.cell? (ad.add (i*4))=some (.int .i64 t.kind)∧w.cell? ⟨(ad.add (i*4)).block,(ad.add (i*4)).off+1,none⟩=some (.string t.text)∧w.cell? ⟨(ad.add (i*4)).block,(ad.add (i*4)).off+2,none⟩=some (.int .i64 t.cols)∧w.cell? ⟨(ad.add (i*4)).block,(ad.add (i*4)).off+3,none⟩=some (.slice A2 t.kids.length cap2):=by
 obtain⟨ad,h1,h2,_,c,h3,h4⟩:=h i t hi;obtain⟨A2,cap2,rfl,hs,hn,hc,hk⟩:=h3.form;exact⟨ad,A2,cap2,h1,h2,hs,hn,hc,hk,h4 0 (by omega),At.zBk (j:=0) (h4 1 (by omega)),At.zBk (j:=1) (h4 2 (by omega)),At.zBk (j:=2) (h4 3 (by omega))⟩
def zZe (o:Option (List (List Tre)))(kind:Int)(text:ByteArray)(n:Nat)(w:World)(e:Ending)(w':World):Prop:=((∃R g A cap,o=some R∧R.length=n∧e= .returned (.tuple #[.slice (some ⟨g,0,none⟩) 1 1,.bool true])∧Blk w' g 25 #[.int .i64 kind,.string text,.int .i64 0,.slice A n cap]∧n≤cap∧cap≤9223372036854775807∧zAn (fun b=>w.heap.size≤b∧b≠g) w' A (R.map rowT)∧w.heap.size≤g)
 ∨((o.bind fun R=>zBr kind text R n)=none∧e= .returned (.tuple #[.slice none 0 0,.bool false])))∧Below w.heap.size w w'
theorem zZe.itm {o:Option (List (List Tre))}{kind:Int}{text:ByteArray}{n:Nat}{w:World}{e:Ending}{w':World}(h:zZe o kind text n w e w')(ht:text.size≤9223372036854775807):ItmP (o.bind fun R=>zBr kind text R n) w e w':=by
 obtain⟨h,hb⟩:=h;refine⟨?_,hb⟩;rcases h with⟨R,g,A,cap,rfl,rfl,rfl,hk,h1,h2,hn,hg⟩|⟨h,rfl⟩
 ·rw[show((some R).bind fun R'=>zBr kind text R' R.length)=some [.mk kind text 0 (R.map rowT)] by show zBr kind text R R.length=_;unfold zBr;rw[if_pos rfl]];exact⟨_,1,rfl,Nat.le_refl _,by omega,zD8 (ks:=R.map rowT) (by rw[List.length_map];exact hk) ht (by rw[List.length_map];exact h1) h2 (hn.any fun b _ h=>h.1) hg⟩
 ·rw[h]
theorem zPz (m:Trm):cntM m=cntL m.args+1:=by cases m;rw[cntM];rfl
set_option maxRecDepth 100000 in
set_option maxHeartbeats 4000000 in
theorem zDm (W:WrB)(A:Option Addr)(cap:Nat)(rs:List Rul)(f:Nat)(HI:zBo W A cap rs f)(kind:Int)(text:ByteArray)(n:Nat)(m:Trm)(c:Array Value)(w:World)(hm:szM m≤f)(hf:f≤100000)(hW:zCn w W A cap rs)(hM:MAt w m c):
  Calls Tryz.prog 96 #[.pointer (some ⟨W.gw,0,none⟩),.int .i64 kind,.string text,.agg c,.int .i64 (n:Int)] w (zZe (zA4 rs m.args) kind text n w):=by
 obtain⟨A2,cap2,rfl,_,_,_,hl,hc,hk⟩:=hM.form;have B1:=zA0 w (.cells (trmC m.kind m.nam m.vr A2 m.args.length cap2 m.form) 31);have K0:=zh (Blk.new w 31 (trmC m.kind m.nam m.vr A2 m.args.length cap2 m.form));have HW1:=zh (hW.keep B1);have HK1:=zh (hk.keep B1);have HB:=zh B1;have HC:=zh (show szL m.args<f by have:=zDi hm hf;omega);clear hW hM hk B1 hm;go_enter Tryz.func96,Tryz.ntmps96;go_upto_region 1 with(fail)
 generalize w.alloc (.cells (trmC m.kind m.nam m.vr A2 m.args.length cap2 m.form) 31)=w1 at*;have k3:=K0.out.cell 3;go_wp2_with fail;refine(zIk W A cap rs f HI m.args A2 cap2 w1 HC.out hf HW1.out HK1.out).mono ?_;rintro e w2 ⟨hres,hb⟩;have HB2:=jt HB hb;have HS:=zh HB.out.size;clear hb HB K0 k3;cases hR:zA4 rs m.args with
 |none=>
  rw[hR] at hres;obtain rfl:e= .returned (.tuple #[.slice none 0 0,.bool false]):=hres;have HR:=zh hR;clear hR;go_wp2_with fail
  go_ret2
  exact⟨.inr ⟨by rw[HR.out];rfl,rfl⟩,HB2.out⟩
 |some R=>
  rw[hR] at hres;obtain⟨A3,c3,e3,hl3,hc3,hn3⟩:=hres;rw[List.length_map] at e3 hl3;subst e3;have HN3:=zh hn3;have HR:=zh hR;clear hR hn3
  by_cases hq:R.length=n
  ·have HQ:=zh hq;rw[hq] at hl3⊢;clear hq;have hba:=zA0 w2 (.cells #[.int .i64 kind,.string text,.int .i64 0,.slice A3 n c3] 25);have HK:=zh (Blk.new w2 25 #[.int .i64 kind,.string text,.int .i64 0,.slice A3 n c3]);have HN4:=zh ((HN3.out.keep hba).any (ok':=fun b=>w.heap.size≤b) fun b _ hb=>Nat.le_trans HS.out hb);have HN5:=zh (show zAn (fun b=>w.heap.size≤b∧b≠w2.heap.size) _ A3 (R.map rowT) from(HN3.out.any (ok':=fun b=>w.heap.size≤b∧b≠w2.heap.size) fun b hb h=>⟨Nat.le_trans HS.out h,by omega⟩).keep hba);have HB3:=jt HB2 hba;clear hba;go_wp2_with fail
   go_ret2
   exact⟨.inl ⟨R,w2.heap.size,A3,c3,HR.out,HQ.out,rfl,HK.out,hl3,hc3,HN5.out,HB2.out.size⟩,HB3.out⟩
  ·have q1:((R.length:Int) !=(n:Int))=true:=by rw[bne_iff_ne];omega
   have HQ:=zh (show((zA4 rs m.args).bind fun R=>zBr kind text R n)=none by rw[HR.out];show zBr kind text R n=none;unfold zBr;rw[if_neg hq]);clear hq;go_wp2_with fail
   go_ret2
   exact⟨.inr ⟨HQ.out,rfl⟩,HB2.out⟩
end Go.Proofs.YtadcldfbmkfkaaaGreatDoor.Rn
