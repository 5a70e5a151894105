/- Strings that are symbols or names: the leaf functions of the program and of the reference. -/
import Derived.Test.YtapgncbegadbnaaGreatDoorProg
import Derived.WalkKit
import Derived.WalkSpells
import Derived.WalkLawsBesides
import Derived.Handy
import Derived.Below
import Derived.Laws.OwnMore
import Derived.Deep.Draws
import Derived.Laws.Rows
import Derived.Laws.BitsAllLaws
import Derived.Test.YtapgncbegadbnaaGreatDoorH71a3ec8a
import Derived.Shelf.Small.Strs
import Derived.Shelf.Strconv.Itoa0
import Derived.Shelf.Strconv.Itoa1
import Derived.Shelf.LaysM
import Derived.Shelf.Strconv.Itoa2
import Derived.Shelf.Strconv.Itoa3
import Derived.Shelf.Strings.Search1
import Derived.Shelf.Strings.Search2
import Derived.Shelf.Strings.Search3
import Derived.Shelf.Strings.Cut
import Derived.Shelf.Strings.Shaped
set_option maxRecDepth 100000
set_option maxHeartbeats 800000
namespace Go.Proofs.YtapgncbegadbnaaGreatDoor
open Go.RowKit
theorem zh {p:Prop}(h:p):RowKit.Hid p:=Lib.hid h
theorem sj {α:Type _}{a b:α}(h:some a=some b):a=b:=Option.some.inj h
theorem gE {α:Type _}{l:List α}{i:Nat}(h:i<l.length):l[i]?=some l[i]:=List.getElem?_eq_getElem h
theorem jt {w x y:World}(h:RowKit.Hid (Below w.heap.size w x))(hb:Below x.heap.size x y):RowKit.Hid (Below w.heap.size w y):=Lib.hid (h.out.trans (hb.mono h.out.size))
theorem zA1 {a b:Bool}(h:a=b):Ending.returned (.bool a)= .returned (.bool b):=by rw[h]
theorem yAk (c:UInt8):letB c=(decide (97<=bits .or .u8 (c.toNat:Int) 32)&&decide (bits .or .u8 (c.toNat:Int) 32<=122)):=by
 have h:∀n:Nat,n<256->letB (UInt8.ofNat n)=(decide (97<=bits .or .u8 ((UInt8.ofNat n).toNat:Int) 32)&&decide (bits .or .u8 ((UInt8.ofNat n).toNat:Int) 32<=122)):=by decide+kernel
 have:=h c.toNat c.toNat_lt
 rwa [UInt8.ofNat_toNat] at this
theorem zE2 {s:ByteArray}{p:UInt8->Bool}(h:∀(j:Nat) (hj:j<s.size),p s[j]=true):s.toList.all p=true:=by
 rw[ByteArray.toList_eq,List.all_eq_true];intro x hx;obtain⟨j,hj,rfl⟩:=List.mem_iff_getElem.1 hx;exact h j (by simpa using hj)
theorem zAq {s:ByteArray}{p:UInt8->Bool}{k:Nat}(hk:k<s.size)(h:p s[k]=false):s.toList.all p=false:=by
 rw[ByteArray.toList_eq,List.all_eq_false];refine⟨s[k],?_,by simp[h]⟩;rw[Array.mem_toList_iff];exact Array.getElem_mem (xs:=s.data) hk
theorem zCe (s:ByteArray):s.toList.length=s.size:=by rw[ByteArray.toList_eq,Array.length_toList];rfl
theorem zGy (s:ByteArray)(w:World)(hs:s.size<=9223372036854775807):Calls Tryz.prog 99 #[.string s] w fun e w'=>e= .returned (.bool (zB9 s.toList))/\w=w':=by
 go_enter Tryz.func99,Tryz.ntmps99;go_wp2_with fail
 go_loop [3] (fun i=>∃k:Nat,k<=s.size/\i=qI k/\Hid (∀(j:Nat) (hj:j<s.size),j<k->letB s[j]=true)) (fun i=>s.size -(intOf i).toNat)
 case atStart=>exact⟨0,by omega,rfl,fun j _ h=>by omega⟩
 case round=>
  obtain⟨k,hk,rfl,HJ⟩:=hrel
  by_cases hlt:k<s.size
  ·have ho:=yAk s[k];cases hl:letB s[k]
   ·have HF:=Lib.hid (zAq hlt hl);rw[hl] at ho;have ho':bits .or .u8 (s[k].toNat:Int) 32<97\/122<bits .or .u8 (s[k].toNat:Int) 32:=by simp at ho;omega
    clear ho hl;rcases ho' with h|h
    ·go_wp2_with fail;go_ret;exact⟨zA1 HF.out.symm,rfl⟩
    ·go_wp2_with fail;go_ret;exact⟨zA1 HF.out.symm,rfl⟩
   ·rw[hl] at ho;have h1:97<=bits .or .u8 (s[k].toNat:Int) 32:=by simp at ho;omega
    have h2:bits .or .u8 (s[k].toNat:Int) 32<=122:=by simp at ho;omega
    have HL:=Lib.hid hl;clear ho hl;go_wp2_with fail;go_round
    case rel=>exact⟨k+1,by omega,by go_num,fun j hj h=>by
     rcases Nat.lt_or_ge j k with h'|h'
     ·exact HJ.out j hj h'
     ·obtain rfl:j=k:=by omega
      exact HL.out⟩
    case measure=>simp[intOf];omega
  ·have HF:=Lib.hid (zE2 (s:=s) (p:=letB) fun j hj=>HJ.out j hj (by omega));go_wp2_with fail;go_ret;exact⟨zA1 HF.out.symm,rfl⟩
theorem zPh (s:ByteArray)(w:World):Calls Tryz.prog 101 #[.string s] w fun e w'=>e= .returned (.bool (inB zB5 s.toList))/\w=w':=by
 cases h1:(s.toList==[102,114,97,99])
 ·cases h2:(s.toList==[114,111,111,116])
  ·cases h3:(s.toList==[109,97,116,114,105,120])
   ·cases h4:(s.toList==[102,101,110,99,101])
    ·have HR:Hid (inB zB5 s.toList=false):=by simp only[inB,zB5,List.contains_cons,h1,h2,h3,h4];rfl
     go_enter Tryz.func101,Tryz.ntmps101;go_wp2_with fail;go_ret;exact⟨zA1 HR.out.symm,rfl⟩
    ·have HR:Hid (inB zB5 s.toList=true):=by simp only[inB,zB5,List.contains_cons,h1,h2,h3,h4];rfl
     go_enter Tryz.func101,Tryz.ntmps101;go_wp2_with fail;go_ret;exact⟨zA1 HR.out.symm,rfl⟩
   ·have HR:Hid (inB zB5 s.toList=true):=by simp only[inB,zB5,List.contains_cons,h1,h2,h3];rfl
    go_enter Tryz.func101,Tryz.ntmps101;go_wp2_with fail;go_ret;exact⟨zA1 HR.out.symm,rfl⟩
  ·have HR:Hid (inB zB5 s.toList=true):=by simp only[inB,zB5,List.contains_cons,h1,h2];rfl
   go_enter Tryz.func101,Tryz.ntmps101;go_wp2_with fail;go_ret;exact⟨zA1 HR.out.symm,rfl⟩
 ·have HR:Hid (inB zB5 s.toList=true):=by simp only[inB,zB5,List.contains_cons,h1];rfl
  go_enter Tryz.func101,Tryz.ntmps101;go_wp2_with fail;go_ret;exact⟨zA1 HR.out.symm,rfl⟩
theorem zLx (s:ByteArray)(w:World):Calls Tryz.prog 73 #[.string s] w fun e w'=>e= .returned (.bool (inB zAx s.toList))/\w=w':=by
 cases h1:(s.toList==[104,97,116])
 ·cases h2:(s.toList==[98,97,114])
  ·cases h3:(s.toList==[118,101,99])
   ·cases h4:(s.toList==[100,111,116])
    ·cases h5:(s.toList==[116,105,108,100,101])
     ·cases h6:(s.toList==[99,104,101,99,107])
      ·have HR:Hid (inB zAx s.toList=false):=by simp only[inB,zAx,List.contains_cons,h1,h2,h3,h4,h5,h6];rfl
       go_enter Tryz.func73,Tryz.ntmps73;go_wp2_with fail;go_ret;exact⟨zA1 HR.out.symm,rfl⟩
      ·have HR:Hid (inB zAx s.toList=true):=by simp only[inB,zAx,List.contains_cons,h1,h2,h3,h4,h5,h6];rfl
       go_enter Tryz.func73,Tryz.ntmps73;go_wp2_with fail;go_ret;exact⟨zA1 HR.out.symm,rfl⟩
     ·have HR:Hid (inB zAx s.toList=true):=by simp only[inB,zAx,List.contains_cons,h1,h2,h3,h4,h5];rfl
      go_enter Tryz.func73,Tryz.ntmps73;go_wp2_with fail;go_ret;exact⟨zA1 HR.out.symm,rfl⟩
    ·have HR:Hid (inB zAx s.toList=true):=by simp only[inB,zAx,List.contains_cons,h1,h2,h3,h4];rfl
     go_enter Tryz.func73,Tryz.ntmps73;go_wp2_with fail;go_ret;exact⟨zA1 HR.out.symm,rfl⟩
   ·have HR:Hid (inB zAx s.toList=true):=by simp only[inB,zAx,List.contains_cons,h1,h2,h3];rfl
    go_enter Tryz.func73,Tryz.ntmps73;go_wp2_with fail;go_ret;exact⟨zA1 HR.out.symm,rfl⟩
  ·have HR:Hid (inB zAx s.toList=true):=by simp only[inB,zAx,List.contains_cons,h1,h2];rfl
   go_enter Tryz.func73,Tryz.ntmps73;go_wp2_with fail;go_ret;exact⟨zA1 HR.out.symm,rfl⟩
 ·have HR:Hid (inB zAx s.toList=true):=by simp only[inB,zAx,List.contains_cons,h1];rfl
  go_enter Tryz.func73,Tryz.ntmps73;go_wp2_with fail;go_ret;exact⟨zA1 HR.out.symm,rfl⟩
theorem zIg (n a b:Int)(w:World):Calls Tryz.prog 66 #[qI n,qI a,qI b] w fun e w'=>e= .returned (.bool (inR n a b))/\w=w':=by
 by_cases h1:a<=n
 ·by_cases h2:n<=b
  ·have HR:=Lib.hid (show inR n a b=true by unfold inR;rw[decide_eq_true h1,decide_eq_true h2];rfl);go_enter Tryz.func66,Tryz.ntmps66;go_wp2_with fail;go_ret;exact⟨zA1 (by first|exact HR.out.symm|(rw[HR.out];simp;omega)),rfl⟩
  ·have HR:=Lib.hid (show inR n a b=false by unfold inR;rw[decide_eq_false h2,Bool.and_false]);go_enter Tryz.func66,Tryz.ntmps66;go_wp2_with fail;go_ret;exact⟨zA1 (by first|exact HR.out.symm|(rw[HR.out];simp;omega)),rfl⟩
 ·have HR:=Lib.hid (show inR n a b=false by unfold inR;rw[decide_eq_false h1];rfl);go_enter Tryz.func66,Tryz.ntmps66;go_wp2_with fail;go_ret;exact⟨zA1 (by first|exact HR.out.symm|(rw[HR.out];simp;omega)),rfl⟩
theorem zGm (n a b:Int)(w:World):Calls Tryz.prog 94 #[qI n,qI a,qI b] w fun e w'=>e= .returned (.bool (inR n a b))/\w=w':=by
 by_cases h1:a<=n
 ·by_cases h2:n<=b
  ·have HR:=Lib.hid (show inR n a b=true by unfold inR;rw[decide_eq_true h1,decide_eq_true h2];rfl);go_enter Tryz.func94,Tryz.ntmps94;go_wp2_with fail;go_ret;exact⟨zA1 (by first|exact HR.out.symm|(rw[HR.out];simp;omega)),rfl⟩
  ·have HR:=Lib.hid (show inR n a b=false by unfold inR;rw[decide_eq_false h2,Bool.and_false]);go_enter Tryz.func94,Tryz.ntmps94;go_wp2_with fail;go_ret;exact⟨zA1 (by first|exact HR.out.symm|(rw[HR.out];simp;omega)),rfl⟩
 ·have HR:=Lib.hid (show inR n a b=false by unfold inR;rw[decide_eq_false h1];rfl);go_enter Tryz.func94,Tryz.ntmps94;go_wp2_with fail;go_ret;exact⟨zA1 (by first|exact HR.out.symm|(rw[HR.out];simp;omega)),rfl⟩
theorem zWb (s:ByteArray)(w:World)(hs:s.size<=9223372036854775807):Calls Tryz.prog 65 #[.string s] w fun e w'=>e= .returned (.bool (zAl s.toList))/\w=w':=by
 go_enter Tryz.func65,Tryz.ntmps65;go_wp2_with fail
 go_loop [3] (fun i=>∃k:Nat,k<=s.size/\i=qI k/\Hid (∀(j:Nat) (hj:j<s.size),j<k->letB s[j]=true)) (fun i=>s.size -(intOf i).toNat)
 case atStart=>exact⟨0,by omega,rfl,fun j _ h=>by omega⟩
 case round=>
  obtain⟨k,hk,rfl,HJ⟩:=hrel
  by_cases hlt:k<s.size
  ·have ho:=yAk s[k];cases hl:letB s[k]
   ·have HF:=Lib.hid (zAq hlt hl);rw[hl] at ho;have ho':bits .or .u8 (s[k].toNat:Int) 32<97\/122<bits .or .u8 (s[k].toNat:Int) 32:=by simp at ho;omega
    clear ho hl;rcases ho' with h|h
    ·go_wp2_with fail;go_ret;exact⟨zA1 (by unfold zAl zB9;rw[HF.out];rfl),rfl⟩
    ·go_wp2_with fail;go_ret;exact⟨zA1 (by unfold zAl zB9;rw[HF.out];rfl),rfl⟩
   ·rw[hl] at ho;have h1:97<=bits .or .u8 (s[k].toNat:Int) 32:=by simp at ho;omega
    have h2:bits .or .u8 (s[k].toNat:Int) 32<=122:=by simp at ho;omega
    have HL:=Lib.hid hl;clear ho hl;go_wp2_with fail;go_round
    case rel=>exact⟨k+1,by omega,by go_num,fun j hj h=>by
     rcases Nat.lt_or_ge j k with h'|h'
     ·exact HJ.out j hj h'
     ·obtain rfl:j=k:=by omega
      exact HL.out⟩
    case measure=>simp[intOf];omega
  ·have HF:=Lib.hid (zE2 (s:=s) (p:=letB) fun j hj=>HJ.out j hj (by omega));have HZ:=Lib.hid (zCe s)
   by_cases h1:1<=s.size
   ·by_cases h2:s.size<=16
    ·have HR:=Lib.hid (show zAl s.toList=true by unfold zAl zB9;rw[HF.out,HZ.out,decide_eq_true h1,decide_eq_true h2];rfl);go_wp2_with fail;go_ret;exact⟨zA1 (by first|exact HR.out.symm|(rw[HR.out];simp;omega)),rfl⟩
    ·have HR:=Lib.hid (show zAl s.toList=false by unfold zAl;rw[HZ.out,decide_eq_false h2,Bool.and_false,Bool.and_false]);go_wp2_with fail;go_ret;exact⟨zA1 (by first|exact HR.out.symm|(rw[HR.out];simp;omega)),rfl⟩
   ·have HR:=Lib.hid (show zAl s.toList=false by unfold zAl;rw[HZ.out,decide_eq_false h1,Bool.false_and,Bool.and_false]);go_wp2_with fail;go_ret;exact⟨zA1 (by first|exact HR.out.symm|(rw[HR.out];simp;omega)),rfl⟩
theorem zGq (c:UInt8)(w:World):Calls Tryz.prog 125 #[.int .u8 (c.toNat:Int)] w fun e w'=>e= .returned (.bool (letB c))/\w=w':=by
 have hc:=c.toNat_lt
 by_cases h1:97<=c.toNat
 ·by_cases h2:c.toNat<=122
  ·have HR:=Lib.hid (show letB c=true by unfold letB;rw[decide_eq_true h1,decide_eq_true h2];rfl);go_enter Tryz.func125,Tryz.ntmps125;go_wp2_with fail;go_ret;exact⟨zA1 (by first|exact HR.out.symm|(rw[HR.out];simp;omega)),rfl⟩
  ·have HR:=Lib.hid (show letB c=false by unfold letB;rw[decide_eq_false h2,Bool.and_false,decide_eq_false (show ¬c.toNat<=90 by omega),Bool.and_false];rfl);go_enter Tryz.func125,Tryz.ntmps125;go_wp2_with fail;go_ret;exact⟨zA1 (by first|exact HR.out.symm|(rw[HR.out];simp;omega)),rfl⟩
 ·by_cases h3:65<=c.toNat
  ·by_cases h4:c.toNat<=90
   ·have HR:=Lib.hid (show letB c=true by unfold letB;rw[decide_eq_true h3,decide_eq_true h4,Bool.or_eq_true];exact .inr rfl);go_enter Tryz.func125,Tryz.ntmps125;go_wp2_with fail;go_ret;exact⟨zA1 (by first|exact HR.out.symm|(rw[HR.out];simp;omega)),rfl⟩
   ·have HR:=Lib.hid (show letB c=false by unfold letB;rw[decide_eq_false h1,decide_eq_false h4,Bool.and_false];rfl);go_enter Tryz.func125,Tryz.ntmps125;go_wp2_with fail;go_ret;exact⟨zA1 (by first|exact HR.out.symm|(rw[HR.out];simp;omega)),rfl⟩
  ·have HR:=Lib.hid (show letB c=false by unfold letB;rw[decide_eq_false h1,decide_eq_false h3];rfl);go_enter Tryz.func125,Tryz.ntmps125;go_wp2_with fail;go_ret;exact⟨zA1 (by first|exact HR.out.symm|(rw[HR.out];simp;omega)),rfl⟩
def zTf (c:UInt8)(w:World)(e:Ending)(w':World):Prop:=∃n:Int,e= .returned (qI n)/\(letB c=true->0<=n)/\(letB c=false->n<0)/\w=w'
theorem zSq (c:UInt8)(w:World):Calls Tryz.prog 123 #[.int .u8 (c.toNat:Int)] w (zTf c w):=by
 have hc:=c.toNat_lt
 by_cases h1:97<=c.toNat
 ·by_cases h2:c.toNat<=122
  ·have HR:=Lib.hid (show letB c=true by unfold letB;rw[decide_eq_true h1,decide_eq_true h2];rfl);go_enter Tryz.func123,Tryz.ntmps123;go_wp2_with fail;go_ret;exact⟨_,rfl,(fun _=>by omega),(fun h=>absurd (h.symm.trans HR.out) (by decide)),rfl⟩
  ·have HR:=Lib.hid (show letB c=false by unfold letB;rw[decide_eq_false h2,Bool.and_false,decide_eq_false (show ¬c.toNat<=90 by omega),Bool.and_false];rfl);go_enter Tryz.func123,Tryz.ntmps123;go_wp2_with fail;go_ret;exact⟨_,rfl,(fun h=>absurd (h.symm.trans HR.out) (by decide)),(fun _=>by omega),rfl⟩
 ·by_cases h3:65<=c.toNat
  ·by_cases h4:c.toNat<=90
   ·have HR:=Lib.hid (show letB c=true by unfold letB;rw[decide_eq_true h3,decide_eq_true h4,Bool.or_eq_true];exact .inr rfl);go_enter Tryz.func123,Tryz.ntmps123;go_wp2_with fail;go_ret;exact⟨_,rfl,(fun _=>by omega),(fun h=>absurd (h.symm.trans HR.out) (by decide)),rfl⟩
   ·have HR:=Lib.hid (show letB c=false by unfold letB;rw[decide_eq_false h1,decide_eq_false h4,Bool.and_false];rfl);go_enter Tryz.func123,Tryz.ntmps123;go_wp2_with fail;go_ret;exact⟨_,rfl,(fun h=>absurd (h.symm.trans HR.out) (by decide)),(fun _=>by omega),rfl⟩
  ·have HR:=Lib.hid (show letB c=false by unfold letB;rw[decide_eq_false h1,decide_eq_false h3];rfl);go_enter Tryz.func123,Tryz.ntmps123;go_wp2_with fail;go_ret;exact⟨_,rfl,(fun h=>absurd (h.symm.trans HR.out) (by decide)),(fun _=>by omega),rfl⟩
theorem zI1 (s:ByteArray)(w:World)(hs:s.size<=9223372036854775807):Calls Tryz.prog 93 #[.string s] w fun e w'=>e= .returned (.bool (zAl s.toList))/\w=w':=by
 go_enter Tryz.func93,Tryz.ntmps93;go_wp2_with fail
 go_loop [3] (fun i=>∃k:Nat,k<=s.size/\i=qI k/\Hid (∀(j:Nat) (hj:j<s.size),j<k->letB s[j]=true)) (fun i=>s.size -(intOf i).toNat)
 case atStart=>exact⟨0,by omega,rfl,fun j _ h=>by omega⟩
 case round=>
  obtain⟨k,hk,rfl,HJ⟩:=hrel
  by_cases hlt:k<s.size
  ·go_wp2_with fail;refine(zSq s[k] _).mono ?_;rintro e w' ⟨n,rfl,hn1,hn2,rfl⟩;cases hl:letB s[k]
   ·have HF:=Lib.hid (zAq hlt hl);have hn:=hn2 hl;clear hn1 hn2 hl;go_wp2_with fail;go_ret;exact⟨zA1 (by unfold zAl zB9;rw[HF.out];rfl),rfl⟩
   ·have hn:=hn1 hl;have HL:=Lib.hid hl;clear hn1 hn2 hl;go_wp2_with fail;go_round
    case rel=>exact⟨k+1,by omega,by go_num,fun j hj h=>by
     rcases Nat.lt_or_ge j k with h'|h'
     ·exact HJ.out j hj h'
     ·obtain rfl:j=k:=by omega
      exact HL.out⟩
    case measure=>simp[intOf];omega
  ·have HF:=Lib.hid (zE2 (s:=s) (p:=letB) fun j hj=>HJ.out j hj (by omega));have HZ:=Lib.hid (zCe s)
   by_cases h1:1<=s.size
   ·by_cases h2:s.size<=16
    ·have HR:=Lib.hid (show zAl s.toList=true by unfold zAl zB9;rw[HF.out,HZ.out,decide_eq_true h1,decide_eq_true h2];rfl);go_wp2_with fail;go_ret;exact⟨zA1 (by first|exact HR.out.symm|(rw[HR.out];simp;omega)),rfl⟩
    ·have HR:=Lib.hid (show zAl s.toList=false by unfold zAl;rw[HZ.out,decide_eq_false h2,Bool.and_false,Bool.and_false]);go_wp2_with fail;go_ret;exact⟨zA1 (by first|exact HR.out.symm|(rw[HR.out];simp;omega)),rfl⟩
   ·have HR:=Lib.hid (show zAl s.toList=false by unfold zAl;rw[HZ.out,decide_eq_false h1,Bool.false_and,Bool.and_false]);go_wp2_with fail;go_ret;exact⟨zA1 (by first|exact HR.out.symm|(rw[HR.out];simp;omega)),rfl⟩
theorem zM8 (s:ByteArray)(c:UInt8)(w:World)(hs:s.size<=9223372036854775807):Calls Tryz.prog 122 #[.string s,.int .u8 (c.toNat:Int)] w fun e w'=>e= .returned (.bool (hasB s.toList c))/\w=w':=by
 go_enter Tryz.func122,Tryz.ntmps122;go_wp2_with fail
 go_loop [5] (fun i=>∃k:Nat,k<=s.size/\i=qI k/\Hid (∀(j:Nat) (hj:j<s.size),j<k->(!(s[j]==c))=true)) (fun i=>s.size -(intOf i).toNat)
 case atStart=>exact⟨0,by omega,rfl,fun j _ h=>by omega⟩
 case round=>
  obtain⟨k,hk,rfl,HJ⟩:=hrel
  by_cases hlt:k<s.size
  ·cases hl:(s[k]==c)
   ·have hq:((s[k].toNat:Int)==(c.toNat:Int))=false:=by
     rw[beq_eq_false_iff_ne] at hl⊢;intro e;apply hl;exact UInt8.toNat_inj.1 (by omega)
    have HL:=Lib.hid hl;clear hl;go_wp2_with fail;go_round
    case rel=>exact⟨k+1,by omega,by go_num,fun j hj h=>by
     rcases Nat.lt_or_ge j k with h'|h'
     ·exact HJ.out j hj h'
     ·obtain rfl:j=k:=by omega
      rw[HL.out];rfl⟩
    case measure=>simp[intOf];omega
   ·have hq:((s[k].toNat:Int)==(c.toNat:Int))=true:=by rw[beq_iff_eq] at hl⊢;rw[hl]
    have HF:=Lib.hid (show hasB s.toList c=true by
     unfold hasB;have:=zAq (p:=fun x=> !(x==c)) hlt (by rw[hl];rfl);rw[List.all_eq_false] at this;obtain⟨x,hx,hxc⟩:=this;have e:x=c:=by simpa using hxc
     rw[<-e];simpa using hx)
    clear hl;go_wp2_with fail;go_ret;exact⟨zA1 HF.out.symm,rfl⟩
  ·have HF:=Lib.hid (show hasB s.toList c=false by
    unfold hasB;have:=zE2 (s:=s) (p:=fun x=> !(x==c)) fun j hj=>HJ.out j hj (by omega)
    rw[List.all_eq_true] at this;rw[Bool.eq_false_iff];intro hc;have hm:c∈s.toList:=by simpa using hc
    have:=this c hm;simp at this)
   go_wp2_with fail;go_ret;exact⟨zA1 HF.out.symm,rfl⟩
theorem zSx:(⟨#[43,45,42,47,61,60,62,44,59,58,33,124,39,63,126,64]⟩:ByteArray).toList=zFf:=by rw[ByteArray.toList_eq];rfl
theorem zVf (c:UInt8)(w:World):Calls Tryz.prog 124 #[.int .u8 (c.toNat:Int)] w fun e w'=>e= .returned (.bool (letB c||hasB zFf c))/\w=w':=by
 have HH:=Lib.hid (zM8 ⟨#[43,45,42,47,61,60,62,44,59,58,33,124,39,63,126,64]⟩ c);rw[zSx] at HH;cases hl:letB c
 ·have HL:=Lib.hid hl;clear hl;go_enter Tryz.func124,Tryz.ntmps124;go_wp2_with fail;refine(zGq c _).mono ?_;rintro e w' ⟨rfl,rfl⟩;rw[HL.out];go_wp2_with fail;refine(HH.out _ (by decide)).mono ?_;rintro e w' ⟨rfl,rfl⟩;go_wp2_with fail;go_ret;exact⟨zA1 (Bool.false_or _).symm,rfl⟩
 ·have HL:=Lib.hid hl;clear hl;go_enter Tryz.func124,Tryz.ntmps124;go_wp2_with fail;refine(zGq c _).mono ?_;rintro e w' ⟨rfl,rfl⟩;rw[HL.out];go_wp2_with fail;go_ret;exact⟨zA1 (Bool.true_or _).symm,rfl⟩
end Go.Proofs.YtapgncbegadbnaaGreatDoor
namespace Go.Proofs
open Go.Shelf
def Tryz.lays137_ren:Go.Shelf.Ren:=⟨fun|137=>105|217=>130|266=>141|n=>n,fun|9=>9|5=>5|3=>3|n=>n,fun|n=>n⟩
theorem Tryz.lays137:Go.Proofs.Lays.n137 Tryz.prog Tryz.lays137_ren:={
 mixed:=by kernel_rfl
 f137:=Tryz.func105.trans (congrArg some (by kernel_rfl))
 f217:=Tryz.func130.trans (congrArg some (by kernel_rfl))
 f266:=Tryz.func141.trans (congrArg some (by kernel_rfl))
 t3:=Tryz.underlying3
 a3:=Tryz.isAgg3
 z3:=Tryz.sizeOf3
 v3:=Tryz.zeroValue3
 t5:=Tryz.underlying5
 a5:=Tryz.isAgg5
 z5:=Tryz.sizeOf5
 v5:=Tryz.zeroValue5
 t9:=Tryz.underlying9
 a9:=Tryz.isAgg9
 z9:=Tryz.sizeOf9
 v9:=Tryz.zeroValue9}
open Go.RowKit in
theorem Tryz.strings_IndexByte (s:ByteArray)(c:Int)(w:World):
  Calls Tryz.prog 105 #[.string s,.int .u8 c] w fun e w'=>e= .returned (.int .i64 (Lib.indexByte s.data.toList c.toNat.toUInt8))/\w'=w:=Any.strings_IndexByte Tryz.lays137 s c w
def Tryz.lays171_ren:Go.Shelf.Ren:=⟨fun|171=>106|243=>131|246=>142|283=>146|284=>147|285=>148|286=>149|129=>152|317=>151|318=>153|319=>154|320=>155|337=>156|338=>157|n=>n,fun|3=>3|9=>9|2=>2|4=>4|171=>193|0=>0|53=>194|37=>190|5=>5|173=>197|212=>203|51=>199|20=>20|213=>204|46=>192|232=>208|233=>209|n=>n,fun|17=>1|18=>2|19=>3|n=>n⟩
theorem Tryz.lays171:Go.Proofs.Lays.n171 Tryz.prog Tryz.lays171_ren:={
 mixed:=by kernel_rfl
 f129:=Tryz.func152.trans (congrArg some (by kernel_rfl))
 f171:=Tryz.func106.trans (congrArg some (by kernel_rfl))
 f243:=Tryz.func131.trans (congrArg some (by kernel_rfl))
 f246:=Tryz.func142.trans (congrArg some (by kernel_rfl))
 f283:=Tryz.func146.trans (congrArg some (by kernel_rfl))
 f284:=Tryz.func147.trans (congrArg some (by kernel_rfl))
 f285:=Tryz.func148.trans (congrArg some (by kernel_rfl))
 f286:=Tryz.func149.trans (congrArg some (by kernel_rfl))
 f317:=Tryz.func151.trans (congrArg some (by kernel_rfl))
 f318:=Tryz.func153.trans (congrArg some (by kernel_rfl))
 f319:=Tryz.func154.trans (congrArg some (by kernel_rfl))
 f320:=Tryz.func155.trans (congrArg some (by kernel_rfl))
 f337:=Tryz.func156.trans (congrArg some (by kernel_rfl))
 f338:=Tryz.func157.trans (congrArg some (by kernel_rfl))
 t0:=Tryz.underlying0
 a0:=Tryz.isAgg0
 z0:=Tryz.sizeOf0
 v0:=Tryz.zeroValue0
 t2:=Tryz.underlying2
 a2:=Tryz.isAgg2
 z2:=Tryz.sizeOf2
 v2:=Tryz.zeroValue2
 t3:=Tryz.underlying3
 a3:=Tryz.isAgg3
 z3:=Tryz.sizeOf3
 v3:=Tryz.zeroValue3
 t4:=Tryz.underlying4
 a4:=Tryz.isAgg4
 z4:=Tryz.sizeOf4
 v4:=Tryz.zeroValue4
 t5:=Tryz.underlying5
 a5:=Tryz.isAgg5
 z5:=Tryz.sizeOf5
 v5:=Tryz.zeroValue5
 t9:=Tryz.underlying9
 a9:=Tryz.isAgg9
 z9:=Tryz.sizeOf9
 v9:=Tryz.zeroValue9
 t20:=Tryz.underlying20
 a20:=Tryz.isAgg20
 z20:=Tryz.sizeOf20
 v20:=Tryz.zeroValue20
 t37:=Tryz.underlying190
 a37:=Tryz.isAgg190
 z37:=Tryz.sizeOf190
 v37:=Tryz.zeroValue190
 t46:=Tryz.underlying192
 a46:=Tryz.isAgg192
 z46:=Tryz.sizeOf192
 v46:=Tryz.zeroValue192
 t51:=Tryz.underlying199
 a51:=Tryz.isAgg199
 z51:=Tryz.sizeOf199
 v51:=Tryz.zeroValue199
 t53:=Tryz.underlying194
 a53:=Tryz.isAgg194
 z53:=Tryz.sizeOf194
 v53:=Tryz.zeroValue194
 t171:=Tryz.underlying193
 a171:=Tryz.isAgg193
 z171:=Tryz.sizeOf193
 v171:=Tryz.zeroValue193
 t173:=Tryz.underlying197
 a173:=Tryz.isAgg197
 z173:=Tryz.sizeOf197
 v173:=Tryz.zeroValue197
 t212:=Tryz.underlying203
 a212:=Tryz.isAgg203
 z212:=Tryz.sizeOf203
 v212:=Tryz.zeroValue203
 t213:=Tryz.underlying204
 a213:=Tryz.isAgg204
 z213:=Tryz.sizeOf204
 t232:=Tryz.underlying208
 a232:=Tryz.isAgg208
 z232:=Tryz.sizeOf208
 v232:=Tryz.zeroValue208
 t233:=Tryz.underlying209
 a233:=Tryz.isAgg209
 z233:=Tryz.sizeOf209
 v233:=Tryz.zeroValue209
 g17:=by kernel_rfl
 g18:=by kernel_rfl
 g19:=by kernel_rfl}
open Go.RowKit Go.Sort Go.Lib in
theorem Tryz.strconv_Itoa_small (i:Nat)(hi:i<100)(w:World):
  Calls Tryz.prog 106 #[.int .i64 i] w fun e w'=>e= .returned (.string ⟨(Lib.decDigits i).toArray⟩)/\w'=w:=Any.strconv_Itoa_small Tryz.lays171 i hi w
def Tryz.lays144_ren:Go.Shelf.Ren:=⟨fun|144=>100|143=>128|219=>140|217=>130|225=>143|224=>144|267=>145|266=>141|314=>150|n=>n,fun|9=>9|4=>4|3=>3|5=>5|46=>192|146=>200|51=>199|n=>n,fun|1=>0|n=>n⟩
theorem Tryz.lays144:Go.Proofs.Lays.n144 Tryz.prog Tryz.lays144_ren:={
 mixed:=by kernel_rfl
 f143:=Tryz.func128.trans (congrArg some (by kernel_rfl))
 f144:=Tryz.func100.trans (congrArg some (by kernel_rfl))
 f217:=Tryz.func130.trans (congrArg some (by kernel_rfl))
 f219:=Tryz.func140.trans (congrArg some (by kernel_rfl))
 f224:=Tryz.func144.trans (congrArg some (by kernel_rfl))
 f225:=Tryz.func143.trans (congrArg some (by kernel_rfl))
 f266:=Tryz.func141.trans (congrArg some (by kernel_rfl))
 f267:=Tryz.func145.trans (congrArg some (by kernel_rfl))
 f314:=Tryz.func150.trans (congrArg some (by kernel_rfl))
 t3:=Tryz.underlying3
 a3:=Tryz.isAgg3
 z3:=Tryz.sizeOf3
 v3:=Tryz.zeroValue3
 t4:=Tryz.underlying4
 a4:=Tryz.isAgg4
 z4:=Tryz.sizeOf4
 v4:=Tryz.zeroValue4
 t5:=Tryz.underlying5
 a5:=Tryz.isAgg5
 z5:=Tryz.sizeOf5
 v5:=Tryz.zeroValue5
 t9:=Tryz.underlying9
 a9:=Tryz.isAgg9
 z9:=Tryz.sizeOf9
 v9:=Tryz.zeroValue9
 t46:=Tryz.underlying192
 a46:=Tryz.isAgg192
 z46:=Tryz.sizeOf192
 v46:=Tryz.zeroValue192
 t51:=Tryz.underlying199
 a51:=Tryz.isAgg199
 z51:=Tryz.sizeOf199
 v51:=Tryz.zeroValue199
 t146:=Tryz.underlying200
 a146:=Tryz.isAgg200
 z146:=Tryz.sizeOf200
 v146:=Tryz.zeroValue200
 g1:=by kernel_rfl}
open Go.RowKit Go.Lib in
theorem Tryz.strings_Contains_one (s:ByteArray)(c:UInt8)(w:World):
  Calls Tryz.prog 100 #[.string s,.string ⟨#[c]⟩] w fun e w'=>e= .returned (.bool (decide (0<=Lib.indexByte s.data.toList c)))/\w'=w:=Any.strings_Contains_one Tryz.lays144 s c w
def Tryz.lays145_ren:Go.Shelf.Ren:=⟨fun|145=>103|220=>129|219=>140|217=>130|225=>143|224=>144|267=>145|266=>141|314=>150|n=>n,fun|9=>9|4=>4|59=>164|3=>3|5=>5|46=>192|146=>200|51=>199|n=>n,fun|1=>0|n=>n⟩
theorem Tryz.lays145:Go.Proofs.Lays.n145 Tryz.prog Tryz.lays145_ren:={
 mixed:=by kernel_rfl
 f145:=Tryz.func103.trans (congrArg some (by kernel_rfl))
 f217:=Tryz.func130.trans (congrArg some (by kernel_rfl))
 f219:=Tryz.func140.trans (congrArg some (by kernel_rfl))
 f220:=Tryz.func129.trans (congrArg some (by kernel_rfl))
 f224:=Tryz.func144.trans (congrArg some (by kernel_rfl))
 f225:=Tryz.func143.trans (congrArg some (by kernel_rfl))
 f266:=Tryz.func141.trans (congrArg some (by kernel_rfl))
 f267:=Tryz.func145.trans (congrArg some (by kernel_rfl))
 f314:=Tryz.func150.trans (congrArg some (by kernel_rfl))
 t3:=Tryz.underlying3
 a3:=Tryz.isAgg3
 z3:=Tryz.sizeOf3
 v3:=Tryz.zeroValue3
 t4:=Tryz.underlying4
 a4:=Tryz.isAgg4
 z4:=Tryz.sizeOf4
 v4:=Tryz.zeroValue4
 t5:=Tryz.underlying5
 a5:=Tryz.isAgg5
 z5:=Tryz.sizeOf5
 v5:=Tryz.zeroValue5
 t9:=Tryz.underlying9
 a9:=Tryz.isAgg9
 z9:=Tryz.sizeOf9
 v9:=Tryz.zeroValue9
 t46:=Tryz.underlying192
 a46:=Tryz.isAgg192
 z46:=Tryz.sizeOf192
 v46:=Tryz.zeroValue192
 t51:=Tryz.underlying199
 a51:=Tryz.isAgg199
 z51:=Tryz.sizeOf199
 v51:=Tryz.zeroValue199
 t59:=Tryz.underlying164
 a59:=Tryz.isAgg164
 z59:=Tryz.sizeOf164
 v59:=Tryz.zeroValue164
 t146:=Tryz.underlying200
 a146:=Tryz.isAgg200
 z146:=Tryz.sizeOf200
 v146:=Tryz.zeroValue200
 g1:=by kernel_rfl}
end Go.Proofs
namespace Go.Proofs.YtapgncbegadbnaaGreatDoor
open Go.RowKit
variable{B g:Nat}{t:TypeId}{cs:Array Value}{a w w':World}{ss:List ByteArray}{s:ByteArray}
def Blk (w:World)(g:Nat)(t:TypeId)(cs:Array Value):Prop:=w.heap[g]?=some (.cells cs t (0,0))
section
variable {w w' : World} {g : Nat} {t : TypeId} {cs : Array Value}
theorem Blk.lt (h:Blk w g t cs):g<w.heap.size:=by
 rcases Nat.lt_or_ge g w.heap.size with hlt|hge
 ·exact hlt
 ·unfold Blk at h;rw[Array.getElem?_eq_none hge] at h;cases h
theorem Blk.cell (h:Blk w g t cs)(i:Nat):w.cell? ⟨g,i,none⟩=cs[i]?:=cell_of_row w g i cs t (0,0) h
theorem Blk.frozen (h:Blk w g t cs)(i:Nat):w.frozen? ⟨g,i,none⟩=false:=by
 unfold Blk at h;simp[World.frozen?,h]
theorem Blk.new (w:World)(t:TypeId)(cs:Array Value):Blk (w.alloc (.cells cs t)) w.heap.size t cs:=heap_alloc_new w _
theorem Blk.drew (h:Blk w g t cs):Blk w.drew g t cs:=h
theorem Blk.drewN (h:Blk w g t cs)(n:Nat):Blk (w.drewN n) g t cs:=h
theorem Blk.alloc (h:Blk w g t cs)(o:Obj):Blk (w.alloc o) g t cs:=(Below.heap_alloc w o g h.lt).trans h
theorem Blk.set_ (h:Blk w g t cs)(i:Nat)(u:Value):Blk (w.setCell ⟨g,i,none⟩ u) g t (cs.setIfInBounds i u):=by
 unfold Blk at h⊢;simp[World.setCell,Array.getElem?_modify,h]
theorem Blk.far (h:Blk w g t cs){p:Addr}(hp:g≠p.block)(u:Value):Blk (w.setCell p u) g t cs:=(Below.heap_setCell w p u g hp).trans h
theorem Blk.below (h:Blk w g t cs)(hb:Below B w w')(hg:g<B):Blk w' g t cs:=(hb.block g hg).trans h
theorem Blk.grown {row:Option Nat}(h:Blk w g t cs)(hb:w.grownBy w' row)(hg:some g≠row):Blk w' g t cs:=(hb.block g h.lt hg).trans h
end
theorem keep {W w1:World}(hb:Below W.heap.size W w1)(h:Blk W g t cs):Blk w1 g t cs:=h.below hb h.lt
theorem zA3 (h:Below B a w):Below B a w.drew:=⟨h.os,h.tape,h.output,h.size,h.block⟩
theorem below_drewN (h:Below B a w)(n:Nat):Below B a (w.drewN n):=⟨h.os,h.tape,h.output,h.size,h.block⟩
theorem zA0 (w:World)(o:Obj):Below w.heap.size w (w.alloc o):=(Below.refl _ _).alloc (Nat.le_refl _) o
def zDr (w:World)(g:Nat)(ss:List ByteArray):Prop:=g<w.heap.size/\∀(j:Nat) (s:ByteArray),ss[j]?=some s->w.cell? ⟨g,j,none⟩=some (.string s)
theorem zDr.keep (h:zDr w g ss)(hb:Below w.heap.size w w'):zDr w' g ss:=
 ⟨Nat.lt_of_lt_of_le h.1 hb.size,fun j p hj=>(hb.cell (p:=⟨g,j,none⟩) h.1).trans (h.2 j p hj)⟩
theorem zDr.drew {w:World}{g:Nat}{ss:List ByteArray}(h:zDr w g ss):zDr w.drew g ss:=h
theorem zDr.alloc {w:World}{g:Nat}{ss:List ByteArray}(h:zDr w g ss)(o:Obj):zDr (w.alloc o) g ss:=h.keep (zA0 w o)
theorem zDr.new (w:World)(ss:List ByteArray)(t:TypeId):zDr (w.alloc (.cells (ss.map Value.string).toArray t)) w.heap.size ss:=by
 refine⟨by simp,fun j s hj=>?_⟩;rw[Blk.cell (Blk.new w t _)];simp[hj]
theorem yBj {x:ByteArray}{k:Nat}(hk:ss[k]?=some x)(h:(x.toList==s.toList)=true):inB (ss.map (·.toList)) s.toList=true:=by
 unfold inB;rw[List.contains_iff_mem];rw[<-beq_iff_eq.1 h];exact List.mem_map.2 ⟨x,List.mem_of_getElem? hk,rfl⟩
theorem zZl (h:∀(j:Nat) x,ss[j]?=some x->(x.toList==s.toList)=false):inB (ss.map (·.toList)) s.toList=false:=by
 unfold inB;rw[Bool.eq_false_iff];intro hc;rw[List.contains_iff_mem,List.mem_map] at hc;obtain⟨x,hx,he⟩:=hc;obtain⟨j,hj⟩:=List.mem_iff_getElem?.1 hx;have:=h j x hj;rw[he] at this;simp at this
theorem zP7 (g cap:Nat)(ss:List ByteArray)(s:ByteArray)(w:World)(hS:zDr w g ss)(hn:ss.length<=1000000):Calls Tryz.prog 120 #[.slice (some ⟨g,0,none⟩) ss.length cap,.string s] w fun e w'=>e= .returned (.bool (inB (ss.map (·.toList)) s.toList))/\w=w':=by
 have HS:=zh hS;clear hS;go_enter Tryz.func120,Tryz.ntmps120;go_wp2_with fail
 go_loop [5] (fun i=>∃k:Nat,k<=ss.length/\i=qI k/\Hid (∀(j:Nat) x,ss[j]?=some x->j<k->(x.toList==s.toList)=false)) (fun i=>ss.length -(intOf i).toNat)
 case atStart=>exact⟨0,by omega,rfl,fun j _ _ h=>by omega⟩
 case round=>
  obtain⟨k,hk,rfl,HJ⟩:=hrel
  by_cases hlt:k<ss.length
  ·obtain⟨x,hx⟩:∃x,ss[k]?=some x:=⟨_,gE hlt⟩
   have hc:=HS.out.2 k x hx;cases hq:(x.toList==s.toList)
   ·have HX:=zh hx;have HQ:=zh hq;clear hx;go_wp2_with fail;go_round
    case rel=>exact⟨k+1,by omega,by go_num,fun j y hj h=>by
     rcases Nat.lt_or_ge j k with h'|h'
     ·exact HJ.out j y hj h'
     ·obtain rfl:j=k:=by omega
      rw[HX.out] at hj;obtain rfl:=sj hj;exact HQ.out⟩
    case measure=>simp[intOf];omega
   ·have HR:=zh (yBj hx hq);clear hx;go_wp2_with fail;go_ret;exact⟨zA1 HR.out.symm,rfl⟩
  ·have HR:=zh (zZl (ss:=ss) (s:=s) fun j x hj=>HJ.out j x hj (by
    rcases Nat.lt_or_ge j ss.length with h|h
    ·omega
    ·rw[List.getElem?_eq_none h] at hj;cases hj))
   go_wp2_with fail;go_ret;exact⟨zA1 HR.out.symm,rfl⟩
def kwS:List ByteArray:=[⟨#[102,114,97,99]⟩,⟨#[114,111,111,116]⟩,⟨#[109,97,116,114,105,120]⟩,⟨#[102,101,110,99,101]⟩]
theorem zZz:kwS.map (·.toList)=zB5:=by
 simp only[kwS,List.map_cons,List.map_nil,ByteArray.toList_eq];rfl
theorem zMc (w:World):Calls Tryz.prog 126 #[] w fun e w'=>e= .returned (.slice (some ⟨w.heap.size,0,none⟩) 4 4)/\zDr w' w.heap.size kwS/\Below w.heap.size w w':=by
 go_enter Tryz.func126,Tryz.ntmps126;go_wp2_with fail;go_ret;exact⟨rfl,zDr.new w kwS _,zA0 _ _⟩
def acS:List ByteArray:=[⟨#[104,97,116]⟩,⟨#[98,97,114]⟩,⟨#[118,101,99]⟩,⟨#[100,111,116]⟩,⟨#[116,105,108,100,101]⟩,⟨#[99,104,101,99,107]⟩]
theorem zRn:acS.map (·.toList)=zAx:=by
 simp only[acS,List.map_cons,List.map_nil,ByteArray.toList_eq];rfl
theorem zIn (w:World):Calls Tryz.prog 121 #[] w fun e w'=>e= .returned (.slice (some ⟨w.heap.size,0,none⟩) 6 6)/\zDr w' w.heap.size acS/\Below w.heap.size w w':=by
 go_enter Tryz.func121,Tryz.ntmps121;go_wp2_with fail;go_ret;exact⟨rfl,zDr.new w acS _,zA0 _ _⟩
theorem zU0 (h:s.size=1):∃c:UInt8,s=⟨#[c]⟩:=Lib.one_byte s h
theorem zLd (c:UInt8):symB (⟨#[c]⟩:ByteArray).toList=(letB c||hasB zFf c):=by rw[ByteArray.toList_eq];rfl
theorem zJg (h:s.size≠1):symB s.toList=(decide (2<=s.size)&&(decide (s.size<=16)&&(zB9 s.toList&&(!inB zB5 s.toList&& !inB zAx s.toList)))):=by
 rw[<-zCe s] at h⊢;unfold symB
 split
 ·rename_i c hc;rw[hc] at h;exact absurd rfl h
 ·rfl
theorem zY7 (c:UInt8)(w:World):Calls Tryz.prog 95 #[.string ⟨#[c]⟩] w fun e w'=>e= .returned (.bool (symB (⟨#[c]⟩:ByteArray).toList))/\Below w.heap.size w w':=by
 rw[zLd];go_enter Tryz.func95,Tryz.ntmps95;go_wp2_with fail;refine(zVf c _).mono ?_;rintro e w' ⟨rfl,rfl⟩;generalize hb:(letB c||hasB zFf c)=b;have HBQ:=zh hb;clear hb;go_wp2_with fail;go_ret;exact⟨zA1 HBQ.out.symm,Below.refl _ _⟩
theorem zWd (s:ByteArray)(w:World)(hs:s.size<=9223372036854775807)(h1:s.size≠1):Calls Tryz.prog 95 #[.string s] w fun e w'=>e= .returned (.bool (symB s.toList))/\Below w.heap.size w w':=by
 have HM:=zh (zJg h1);have h1':((s.size:Int)==1)=false:=by rw[beq_eq_false_iff_ne];omega
 clear h1;go_enter Tryz.func95,Tryz.ntmps95;go_wp2_with fail
 go_loop [3] (fun i=>∃k:Nat,k<=s.size/\i=qI k/\Hid (∀(j:Nat) (hj:j<s.size),j<k->letB s[j]=true)) (fun i=>s.size -(intOf i).toNat)
 case atStart=>exact⟨0,by omega,rfl,fun j _ h=>by omega⟩
 case round=>
  obtain⟨k,hk,rfl,HJ⟩:=hrel
  by_cases hlt:k<s.size
  ·go_wp2_with fail;refine(zGq s[k] _).mono ?_;rintro e w' ⟨rfl,rfl⟩;cases hl:letB s[k]
   ·have HF:=zh (zAq hlt hl);clear hl;go_wp2_with fail;go_ret;exact⟨zA1 (by rw[HM.out];unfold zB9;rw[HF.out];simp),Below.refl _ _⟩
   ·have HL:=zh hl;clear hl;go_wp2_with fail;go_round
    case rel=>exact⟨k+1,by omega,by go_num,fun j hj h=>by
     rcases Nat.lt_or_ge j k with h'|h'
     ·exact HJ.out j hj h'
     ·obtain rfl:j=k:=by omega
      exact HL.out⟩
    case measure=>simp[intOf];omega
  ·have HF:=zh (show zB9 s.toList=true from zE2 (s:=s) (p:=letB) fun j hj=>HJ.out j hj (by omega))
   by_cases h2:2<=s.size
   ·by_cases h16:s.size<=16
    ·rw[decide_eq_true h2,decide_eq_true h16,HF.out] at HM;go_wp2_with fail;refine(zMc _).mono ?_;rintro e w1 ⟨rfl,hS,hb⟩;have HB:=zh hb;clear hb;go_wp2_with fail;refine(zP7 w.heap.size 4 kwS s _ hS (by decide)).mono ?_;rintro e w' ⟨rfl,rfl⟩;clear hS;rw[zZz];cases hk:inB zB5 s.toList
     ·rw[hk] at HM;clear hk;go_wp2_with fail;refine(zIn _).mono ?_;rintro e w2 ⟨rfl,hS,hb⟩;have HB2:=jt HB hb;clear hb;go_wp2_with fail;refine(zP7 w1.heap.size 6 acS s _ hS (by decide)).mono ?_;rintro e w' ⟨rfl,rfl⟩;clear hS;rw[zRn];cases ha:inB zAx s.toList
      ·rw[ha] at HM;clear ha;go_wp2_with fail;go_ret;exact⟨zA1 (by rw[HM.out];rfl),HB2.out⟩
      ·rw[ha] at HM;clear ha;go_wp2_with fail;go_ret;exact⟨zA1 (by rw[HM.out];rfl),HB2.out⟩
     ·rw[hk] at HM;clear hk;go_wp2_with fail;go_ret;exact⟨zA1 (by rw[HM.out];rfl),HB.out⟩
    ·rw[decide_eq_false h16,Bool.false_and,Bool.and_false] at HM;go_wp2_with fail;go_ret;exact⟨zA1 (by rw[HM.out]),Below.refl _ _⟩
   ·rw[decide_eq_false h2,Bool.false_and] at HM;go_wp2_with fail;go_ret;exact⟨zA1 (by rw[HM.out]),Below.refl _ _⟩
theorem zGb (s:ByteArray)(w:World)(hs:s.size<=9223372036854775807):Calls Tryz.prog 95 #[.string s] w fun e w'=>e= .returned (.bool (symB s.toList))/\Below w.heap.size w w':=by
 by_cases h:s.size=1
 ·obtain⟨c,rfl⟩:=zU0 h;exact zY7 c w
 ·exact zWd s w hs h
theorem contains_one (c:UInt8):decide (0<=Lib.indexByte zFf c)=hasB zFf c:=by
 have h:∀n:Nat,n<256->decide (0<=Lib.indexByte zFf (UInt8.ofNat n))=hasB zFf (UInt8.ofNat n):=by decide+kernel
 have:=h c.toNat c.toNat_lt
 rwa [UInt8.ofNat_toNat] at this
theorem zK4 (c:UInt8):zB9 (⟨#[c]⟩:ByteArray).toList=letB c:=by rw[ByteArray.toList_eq];simp[zB9]
theorem zQ7 (c:UInt8)(w:World):Calls Tryz.prog 67 #[.string ⟨#[c]⟩] w fun e w'=>e= .returned (.bool (symB (⟨#[c]⟩:ByteArray).toList))/\Below w.heap.size w w':=by
 rw[zLd];have HC:=zh (contains_one c);cases hl:letB c
 ·have HL:=zh hl;clear hl;go_enter Tryz.func67,Tryz.ntmps67;go_wp2_with fail;refine(zGy _ _ (by show 1<=9223372036854775807;omega)).mono ?_;rintro e w' ⟨rfl,rfl⟩;rw[zK4,HL.out];go_wp2_with fail;refine(Tryz.strings_Contains_one _ _ _).mono ?_;rintro e w' ⟨rfl,rfl⟩;rw[show(⟨#[43,45,42,47,61,60,62,44,59,58,33,124,39,63,126,64]⟩:ByteArray).data.toList=zFf from rfl,HC.out];generalize hb:hasB zFf c=b;have HBQ:=zh hb;clear hb;go_wp2_with fail;go_ret;exact⟨zA1 (by rw[HBQ.out,Bool.false_or]),Below.refl _ _⟩
 ·have HL:=zh hl;clear hl;go_enter Tryz.func67,Tryz.ntmps67;go_wp2_with fail;refine(zGy _ _ (by show 1<=9223372036854775807;omega)).mono ?_;rintro e w' ⟨rfl,rfl⟩;rw[zK4,HL.out];go_wp2_with fail;go_ret;exact⟨zA1 (Bool.true_or _).symm,Below.refl _ _⟩
theorem zY3 (s:ByteArray)(w:World)(hs:s.size<=9223372036854775807)(h1:s.size≠1):Calls Tryz.prog 67 #[.string s] w fun e w'=>e= .returned (.bool (symB s.toList))/\Below w.heap.size w w':=by
 have HM:=zh (zJg h1);have h1':((s.size:Int)==1)=false:=by rw[beq_eq_false_iff_ne];omega
 clear h1
 by_cases h2:2<=s.size
 ·by_cases h16:s.size<=16
  ·rw[decide_eq_true h2,decide_eq_true h16] at HM;go_enter Tryz.func67,Tryz.ntmps67;go_wp2_with fail;refine(zGy s _ hs).mono ?_;rintro e w' ⟨rfl,rfl⟩;cases hl:zB9 s.toList
   ·rw[hl] at HM;clear hl;go_wp2_with fail;go_ret;exact⟨zA1 (by rw[HM.out];rfl),Below.refl _ _⟩
   ·rw[hl] at HM;clear hl;go_wp2_with fail;refine(zPh s _).mono ?_;rintro e w' ⟨rfl,rfl⟩;cases hk:inB zB5 s.toList
    ·rw[hk] at HM;clear hk;go_wp2_with fail;refine(zLx s _).mono ?_;rintro e w' ⟨rfl,rfl⟩;cases ha:inB zAx s.toList
     ·rw[ha] at HM;clear ha;go_wp2_with fail;go_ret;exact⟨zA1 (by rw[HM.out];rfl),Below.refl _ _⟩
     ·rw[ha] at HM;clear ha;go_wp2_with fail;go_ret;exact⟨zA1 (by rw[HM.out];rfl),Below.refl _ _⟩
    ·rw[hk] at HM;clear hk;go_wp2_with fail;go_ret;exact⟨zA1 (by rw[HM.out];rfl),Below.refl _ _⟩
  ·rw[decide_eq_false h16,Bool.false_and,Bool.and_false] at HM;go_enter Tryz.func67,Tryz.ntmps67;go_wp2_with fail;go_ret;exact⟨zA1 (by rw[HM.out]),Below.refl _ _⟩
 ·rw[decide_eq_false h2,Bool.false_and] at HM;go_enter Tryz.func67,Tryz.ntmps67;go_wp2_with fail;go_ret;exact⟨zA1 (by rw[HM.out]),Below.refl _ _⟩
theorem zI5 (s:ByteArray)(w:World)(hs:s.size<=9223372036854775807):Calls Tryz.prog 67 #[.string s] w fun e w'=>e= .returned (.bool (symB s.toList))/\Below w.heap.size w w':=by
 by_cases h:s.size=1
 ·obtain⟨c,rfl⟩:=zU0 h;exact zQ7 c w
 ·exact zY3 s w hs h
theorem kp (hb:Below w.heap.size w w')(h:RowKit.Hid (Blk w g t cs)):RowKit.Hid (Blk w' g t cs):=Lib.hid (keep hb h.out)
theorem qa (h:RowKit.Hid (Blk w g t cs)):w.cell? ⟨g,0,none⟩=cs[0]?/\w.cell? ⟨g,1,none⟩=cs[1]?/\w.cell? ⟨g,2,none⟩=cs[2]?:=⟨h.out.cell 0,h.out.cell 1,h.out.cell 2⟩
theorem qb (h:RowKit.Hid (Blk w g t cs)):w.cell? ⟨g,0,none⟩=cs[0]?/\w.cell? ⟨g,1,none⟩=cs[1]?/\w.cell? ⟨g,2,none⟩=cs[2]?/\w.cell? ⟨g,3,none⟩=cs[3]?:=⟨h.out.cell 0,h.out.cell 1,h.out.cell 2,h.out.cell 3⟩
theorem qc (h:RowKit.Hid (Blk w g t cs)):w.cell? ⟨g,0,none⟩=cs[0]?/\w.cell? ⟨g,1,none⟩=cs[1]?/\w.cell? ⟨g,2,none⟩=cs[2]?/\w.cell? ⟨g,3,none⟩=cs[3]?/\w.cell? ⟨g,4,none⟩=cs[4]?:=⟨h.out.cell 0,h.out.cell 1,h.out.cell 2,h.out.cell 3,h.out.cell 4⟩
abbrev Rul.c (r:Rul):Array Value:= #[qI r.kind,.string r.sym,.string r.nam,qI r.prec,qI r.left,qI r.right]
abbrev Rul.v (r:Rul):Value:=.agg r.c
def Rul.fits (r:Rul):Prop:=r.sym.size<=9223372036854775807/\r.nam.size<=9223372036854775807
def yCl (r:Rul):Bool:=if r.kind=1 then symB r.sym.toList else if r.kind=2 then symB r.sym.toList&&decide (r.left=0) else if r.kind=3 then symB r.sym.toList&&decide (r.right=0) else decide (r.kind=4)&&r.sym.toList.isEmpty
theorem zTu (r:Rul):ownB r=(zAl r.nam.toList&&(inR r.prec 1 100&&(inR r.left 0 101&&(inR r.right 0 101&&yCl r)))):=rfl
theorem zGz (r:Rul)(w:World)(hf:r.fits):Calls Tryz.prog 34 #[r.v] w fun e w'=>e= .returned (.bool (ownB r))/\Below w.heap.size w w':=by
 have HO:=zh (zTu r);have HF:=zh hf;clear hf;go_enter Tryz.func34,Tryz.ntmps34;go_wp2_with fail;refine(zWb r.nam _ HF.out.2).mono ?_;rintro e w' ⟨rfl,rfl⟩;cases h1:zAl r.nam.toList
 ·rw[h1,Bool.false_and] at HO;clear h1;go_wp2_with fail;go_ret;exact⟨zA1 HO.out.symm,zA0 _ _⟩
 ·rw[h1] at HO;clear h1;go_wp2_with fail;refine(zIg r.prec 1 100 _).mono ?_;rintro e w' ⟨rfl,rfl⟩;cases h2:inR r.prec 1 100
  ·rw[h2,Bool.false_and,Bool.and_false] at HO;clear h2;go_wp2_with fail;go_ret;exact⟨zA1 HO.out.symm,zA0 _ _⟩
  ·rw[h2] at HO;clear h2;go_wp2_with fail;refine(zIg r.left 0 101 _).mono ?_;rintro e w' ⟨rfl,rfl⟩;cases h3:inR r.left 0 101
   ·rw[h3,Bool.false_and,Bool.and_false,Bool.and_false] at HO;clear h3;go_wp2_with fail;go_ret;exact⟨zA1 HO.out.symm,zA0 _ _⟩
   ·rw[h3] at HO;clear h3;go_wp2_with fail;refine(zIg r.right 0 101 _).mono ?_;rintro e w' ⟨rfl,rfl⟩;cases h4:inR r.right 0 101
    ·rw[h4,Bool.false_and,Bool.and_false,Bool.and_false,Bool.and_false] at HO;clear h4;go_wp2_with fail;go_ret;exact⟨zA1 HO.out.symm,zA0 _ _⟩
    ·rw[h4] at HO;clear h4;rw[Bool.true_and,Bool.true_and,Bool.true_and,Bool.true_and] at HO;unfold yCl at HO
     by_cases k1:r.kind=1
     ·rw[if_pos k1] at HO;have q1:(r.kind==1)=true:=by rw[k1];rfl
      clear k1;go_wp2_with fail;refine(zI5 r.sym _ HF.out.1).mono ?_;rintro e w1 ⟨rfl,hb⟩;have K0:=zh (keep hb (Blk.new w 53 r.c));have H0:=zh ((zA0 w _).trans (hb.mono (by simp)));have c0:=K0.out.cell;have l0:=K0.out.lt;clear hb;generalize symB r.sym.toList=b at HO⊢;go_wp2_with fail;go_ret;exact⟨zA1 HO.out.symm,H0.out⟩
     ·rw[if_neg k1] at HO;have q1:(r.kind==1)=false:=by rw[beq_eq_false_iff_ne];exact k1
      by_cases k2:r.kind=2
      ·rw[if_pos k2] at HO;have q2:(r.kind==2)=true:=by rw[k2];rfl
       clear k1 k2;go_wp2_with fail;refine(zI5 r.sym _ HF.out.1).mono ?_;rintro e w1 ⟨rfl,hb⟩;have K0:=zh (keep hb (Blk.new w 53 r.c));have H0:=zh ((zA0 w _).trans (hb.mono (by simp)));have c0:=K0.out.cell;have l0:=K0.out.lt;clear hb;cases hy:symB r.sym.toList
       ·rw[hy,Bool.false_and] at HO;clear hy;go_wp2_with fail;go_ret;exact⟨zA1 HO.out.symm,H0.out⟩
       ·rw[hy,Bool.true_and] at HO;clear hy
        by_cases hz:r.left=0
        ·rw[decide_eq_true hz] at HO;have qz:(r.left==0)=true:=by rw[hz];rfl
         clear hz;go_wp2_with fail;go_ret;exact⟨zA1 HO.out.symm,H0.out⟩
        ·rw[decide_eq_false hz] at HO;have qz:(r.left==0)=false:=by rw[beq_eq_false_iff_ne];exact hz
         clear hz;go_wp2_with fail;go_ret;exact⟨zA1 HO.out.symm,H0.out⟩
      ·rw[if_neg k2] at HO;have q2:(r.kind==2)=false:=by rw[beq_eq_false_iff_ne];exact k2
       by_cases k3:r.kind=3
       ·rw[if_pos k3] at HO;have q3:(r.kind==3)=true:=by rw[k3];rfl
        clear k1 k2 k3;go_wp2_with fail;refine(zI5 r.sym _ HF.out.1).mono ?_;rintro e w1 ⟨rfl,hb⟩;have K0:=zh (keep hb (Blk.new w 53 r.c));have H0:=zh ((zA0 w _).trans (hb.mono (by simp)));have c0:=K0.out.cell;have l0:=K0.out.lt;clear hb;cases hy:symB r.sym.toList
        ·rw[hy,Bool.false_and] at HO;clear hy;go_wp2_with fail;go_ret;exact⟨zA1 HO.out.symm,H0.out⟩
        ·rw[hy,Bool.true_and] at HO;clear hy
         by_cases hz:r.right=0
         ·rw[decide_eq_true hz] at HO;have qz:(r.right==0)=true:=by rw[hz];rfl
          clear hz;go_wp2_with fail;go_ret;exact⟨zA1 HO.out.symm,H0.out⟩
         ·rw[decide_eq_false hz] at HO;have qz:(r.right==0)=false:=by rw[beq_eq_false_iff_ne];exact hz
          clear hz;go_wp2_with fail;go_ret;exact⟨zA1 HO.out.symm,H0.out⟩
       ·rw[if_neg k3] at HO;have q3:(r.kind==3)=false:=by rw[beq_eq_false_iff_ne];exact k3
        by_cases k4:r.kind=4
        ·rw[decide_eq_true k4,Bool.true_and] at HO;have q4:(r.kind==4)=true:=by rw[k4];rfl
         clear k1 k2 k3 k4;go_wp2_with fail;go_ret;exact⟨zA1 (by first|exact HO.out.symm|(rw[HO.out])),zA0 _ _⟩
        ·rw[decide_eq_false k4,Bool.false_and] at HO;have q4:(r.kind==4)=false:=by rw[beq_eq_false_iff_ne];exact k4
         clear k1 k2 k3 k4;go_wp2_with fail;go_ret;exact⟨zA1 HO.out.symm,zA0 _ _⟩
theorem zZo (r:Rul)(w:World)(hf:r.fits):Calls Tryz.prog 57 #[r.v] w fun e w'=>e= .returned (.bool (ownB r))/\Below w.heap.size w w':=by
 have HO:=zh (zTu r);have HF:=zh hf;clear hf;go_enter Tryz.func57,Tryz.ntmps57;go_wp2_with fail;refine(zI1 r.nam _ HF.out.2).mono ?_;rintro e w' ⟨rfl,rfl⟩;cases h1:zAl r.nam.toList
 ·rw[h1,Bool.false_and] at HO;clear h1;go_wp2_with fail;go_ret;exact⟨zA1 HO.out.symm,zA0 _ _⟩
 ·rw[h1] at HO;clear h1;go_wp2_with fail;refine(zGm r.prec 1 100 _).mono ?_;rintro e w' ⟨rfl,rfl⟩;cases h2:inR r.prec 1 100
  ·rw[h2,Bool.false_and,Bool.and_false] at HO;clear h2;go_wp2_with fail;go_ret;exact⟨zA1 HO.out.symm,zA0 _ _⟩
  ·rw[h2] at HO;clear h2;go_wp2_with fail;refine(zGm r.left 0 101 _).mono ?_;rintro e w' ⟨rfl,rfl⟩;cases h3:inR r.left 0 101
   ·rw[h3,Bool.false_and,Bool.and_false,Bool.and_false] at HO;clear h3;go_wp2_with fail;go_ret;exact⟨zA1 HO.out.symm,zA0 _ _⟩
   ·rw[h3] at HO;clear h3;go_wp2_with fail;refine(zGm r.right 0 101 _).mono ?_;rintro e w' ⟨rfl,rfl⟩;cases h4:inR r.right 0 101
    ·rw[h4,Bool.false_and,Bool.and_false,Bool.and_false,Bool.and_false] at HO;clear h4;go_wp2_with fail;go_ret;exact⟨zA1 HO.out.symm,zA0 _ _⟩
    ·rw[h4] at HO;clear h4;rw[Bool.true_and,Bool.true_and,Bool.true_and,Bool.true_and] at HO;unfold yCl at HO
     by_cases k1:r.kind=1
     ·rw[if_pos k1] at HO;have q1:(r.kind==1)=true:=by rw[k1];rfl
      clear k1;go_wp2_with fail;refine(zGb r.sym _ HF.out.1).mono ?_;rintro e w1 ⟨rfl,hb⟩;have K0:=zh (keep hb (Blk.new w 53 r.c));have H0:=zh ((zA0 w _).trans (hb.mono (by simp)));have c0:=K0.out.cell;have l0:=K0.out.lt;clear hb;generalize symB r.sym.toList=b at HO⊢;go_wp2_with fail;go_ret;exact⟨zA1 HO.out.symm,H0.out⟩
     ·rw[if_neg k1] at HO;have q1:(r.kind==1)=false:=by rw[beq_eq_false_iff_ne];exact k1
      by_cases k2:r.kind=2
      ·rw[if_pos k2] at HO;have q2:(r.kind==2)=true:=by rw[k2];rfl
       clear k1 k2;go_wp2_with fail;refine(zGb r.sym _ HF.out.1).mono ?_;rintro e w1 ⟨rfl,hb⟩;have K0:=zh (keep hb (Blk.new w 53 r.c));have H0:=zh ((zA0 w _).trans (hb.mono (by simp)));have c0:=K0.out.cell;have l0:=K0.out.lt;clear hb;cases hy:symB r.sym.toList
       ·rw[hy,Bool.false_and] at HO;clear hy;go_wp2_with fail;go_ret;exact⟨zA1 HO.out.symm,H0.out⟩
       ·rw[hy,Bool.true_and] at HO;clear hy
        by_cases hz:r.left=0
        ·rw[decide_eq_true hz] at HO;have qz:(r.left==0)=true:=by rw[hz];rfl
         clear hz;go_wp2_with fail;go_ret;exact⟨zA1 HO.out.symm,H0.out⟩
        ·rw[decide_eq_false hz] at HO;have qz:(r.left==0)=false:=by rw[beq_eq_false_iff_ne];exact hz
         clear hz;go_wp2_with fail;go_ret;exact⟨zA1 HO.out.symm,H0.out⟩
      ·rw[if_neg k2] at HO;have q2:(r.kind==2)=false:=by rw[beq_eq_false_iff_ne];exact k2
       by_cases k3:r.kind=3
       ·rw[if_pos k3] at HO;have q3:(r.kind==3)=true:=by rw[k3];rfl
        clear k1 k2 k3;go_wp2_with fail;refine(zGb r.sym _ HF.out.1).mono ?_;rintro e w1 ⟨rfl,hb⟩;have K0:=zh (keep hb (Blk.new w 53 r.c));have H0:=zh ((zA0 w _).trans (hb.mono (by simp)));have c0:=K0.out.cell;have l0:=K0.out.lt;clear hb;cases hy:symB r.sym.toList
        ·rw[hy,Bool.false_and] at HO;clear hy;go_wp2_with fail;go_ret;exact⟨zA1 HO.out.symm,H0.out⟩
        ·rw[hy,Bool.true_and] at HO;clear hy
         by_cases hz:r.right=0
         ·rw[decide_eq_true hz] at HO;have qz:(r.right==0)=true:=by rw[hz];rfl
          clear hz;go_wp2_with fail;go_ret;exact⟨zA1 HO.out.symm,H0.out⟩
         ·rw[decide_eq_false hz] at HO;have qz:(r.right==0)=false:=by rw[beq_eq_false_iff_ne];exact hz
          clear hz;go_wp2_with fail;go_ret;exact⟨zA1 HO.out.symm,H0.out⟩
       ·rw[if_neg k3] at HO;have q3:(r.kind==3)=false:=by rw[beq_eq_false_iff_ne];exact k3
        by_cases k4:r.kind=4
        ·rw[decide_eq_true k4,Bool.true_and] at HO;have q4:(r.kind==4)=true:=by rw[k4];rfl
         clear k1 k2 k3 k4;go_wp2_with fail;go_ret;exact⟨zA1 (by first|exact HO.out.symm|(rw[HO.out])),zA0 _ _⟩
        ·rw[decide_eq_false k4,Bool.false_and] at HO;have q4:(r.kind==4)=false:=by rw[beq_eq_false_iff_ne];exact k4
         clear k1 k2 k3 k4;go_wp2_with fail;go_ret;exact⟨zA1 HO.out.symm,zA0 _ _⟩
theorem zLj (o r:Rul)(w:World):Calls Tryz.prog 58 #[o.v,r.v] w fun e w'=>e= .returned (.bool (zBd o r))/\Below w.heap.size w w':=by
 cases h1:(o.kind==r.kind)
 ·have HC:=zh (show zBd o r=false by unfold zBd;rw[decide_eq_false (by rw[beq_eq_false_iff_ne] at h1;exact h1)];rfl);go_enter Tryz.func58,Tryz.ntmps58;go_wp2_with fail;go_ret;exact⟨zA1 HC.out.symm,(zA0 w _).trans ((zA0 _ _).mono (by simp))⟩
 ·have hk:decide (o.kind=r.kind)=true:=decide_eq_true (beq_iff_eq.1 h1);cases h2:(o.sym.toList==r.sym.toList)
  ·have HC:=zh (show zBd o r=(o.nam.toList==r.nam.toList) by unfold zBd;rw[hk,h2];rfl);clear hk;go_enter Tryz.func58,Tryz.ntmps58;go_wp2_with fail;go_ret;exact⟨zA1 HC.out.symm,(zA0 w _).trans ((zA0 _ _).mono (by simp))⟩
  ·have HC:=zh (show zBd o r=true by unfold zBd;rw[hk,h2];rfl);clear hk;go_enter Tryz.func58,Tryz.ntmps58;go_wp2_with fail;go_ret;exact⟨zA1 HC.out.symm,(zA0 w _).trans ((zA0 _ _).mono (by simp))⟩
theorem zZ5 (o r:Rul)(g:Nat)(w:World)(hK:Blk w g 53 r.c):Calls Tryz.prog 69 #[o.v,qP g] w fun e w'=>e= .returned (.bool (zBd o r))/\Below w.heap.size w w':=by
 cases h1:(o.kind==r.kind)
 ·have HC:=zh (show zBd o r=false by unfold zBd;rw[decide_eq_false (by rw[beq_eq_false_iff_ne] at h1;exact h1)];rfl);have c0:=fun i=>hK.cell i
  have l0:=hK.lt;go_enter Tryz.func69,Tryz.ntmps69;go_wp2_with fail;go_ret;exact⟨zA1 HC.out.symm,zA0 _ _⟩
 ·have hk:decide (o.kind=r.kind)=true:=decide_eq_true (beq_iff_eq.1 h1);cases h2:(o.sym.toList==r.sym.toList)
  ·have HC:=zh (show zBd o r=(o.nam.toList==r.nam.toList) by unfold zBd;rw[hk,h2];rfl);clear hk;have c0:=fun i=>hK.cell i
   have l0:=hK.lt;go_enter Tryz.func69,Tryz.ntmps69;go_wp2_with fail;go_ret;exact⟨zA1 HC.out.symm,zA0 _ _⟩
  ·have HC:=zh (show zBd o r=true by unfold zBd;rw[hk,h2];rfl);clear hk;have c0:=fun i=>hK.cell i
   have l0:=hK.lt;go_enter Tryz.func69,Tryz.ntmps69;go_wp2_with fail;go_ret;exact⟨zA1 HC.out.symm,zA0 _ _⟩
end Go.Proofs.YtapgncbegadbnaaGreatDoor
