/- Symbols, of the program and of the reference. -/
import Derived.Test.YtapgncbegadbnaaGreatDoorHc0d325d7
import Derived.Lib.IndexBytes
set_option maxRecDepth 100000
set_option maxHeartbeats 2000000
namespace Go.Proofs.YtapgncbegadbnaaGreatDoor.Sy
open Go.RowKit
variable{w w':World}{n b B:Nat}{r:Rul}
theorem own_below {base:Nat}{e:TypeId}{size:Nat}{v:Value}{xs:List Value}(h:w.ownsRow base e size v n xs)(hb:Below w.heap.size w w'):w'.ownsRow base e size v n xs:=
 h.kept (row:=none) ⟨hb.os,hb.tape,hb.output,hb.size,fun i hi _=>hb.block i hi⟩ (by cases v.ownBlock<;>simp)
theorem info_parts {P:Program}{t:TypeId}{z:Value}{a:Nat}(h:(P.info? t).map (fun i=>(i.zero,i.size,i.bytes))=some (some z,a,b)):∃i,P.info? t=some i/\i.zero=some z/\i.size=a/\i.bytes=b:=by
 cases hi:P.info? t with
 |none=>rw[hi] at h;cases h
 |some i=>
  rw[hi] at h;simp only[Option.map_some,Option.some.injEq,Prod.mk.injEq] at h;exact⟨i,rfl,h.1,h.2.1,h.2.2⟩
theorem zL5 (w:World)(cs:List Value)(t:TypeId):∀j u,cs[j]?=some u->(w.alloc (.cells cs.toArray t)).cell? ((⟨w.heap.size,0,none⟩:Addr).add j)=some u:=by
 intro j u hj;rw[show(⟨w.heap.size,0,none⟩:Addr).add j=⟨w.heap.size,j,none⟩ by unfold Addr.add;simp;omega,Blk.cell (Blk.new w t _)]
 simpa using hj
def conB (ps:List (List UInt8))(x:List UInt8):Bool:=ps.contains x
def zFk (acc:List (List UInt8))(r:Rul):List (List UInt8):=if r.sym.data.toList=[]\/acc.contains r.sym.data.toList=true then acc else acc++[r.sym.data.toList]
def zDn (rs:List Rul):List (List UInt8):=rs.foldl zFk []
theorem zIf {rs:List Rul}{k:Nat}(h:rs[k]?=some r):zDn (rs.take (k+1))=zFk (zDn (rs.take k)) r:=by
 unfold zDn;rw[List.take_add_one,h];simp
theorem zFp:∀(rs:List Rul) (k:Nat),(zDn (rs.take k)).length<=k
 |rs,0=>by simp[zDn]
 |rs,k+1=>by
  have ih:=zFp rs k;cases h:rs[k]? with
  |none=>rw[List.take_add_one,h];simp;omega
  |some r=>
   rw[zIf h];unfold zFk
   split<;>simp<;>omega
def zCl (w:World)(B:Nat)(v:Value)(ps:List (List UInt8)):Prop:=w.ownsRow B 9 1 v ps.length (ps.map fun p=>Value.string (bys p))
theorem zCl.keep {v:Value}{ps:List (List UInt8)}(h:zCl w B v ps)(hb:Below w.heap.size w w'):zCl w' B v ps:=own_below h hb
def zQd (w:World)(A:Option Addr)(ps:List (List UInt8)):Prop:=∀(j:Nat) (p:List UInt8),ps[j]?=some p->∃g:Nat,A=some ⟨g,0,none⟩/\g<w.heap.size/\w.cell? ⟨g,j,none⟩=some (.string (bys p))
theorem zCl.form {v:Value}{ps:List (List UInt8)}(h:zCl w B v ps):∃A cap,v= .slice A ps.length cap/\ps.length<=cap/\cap<=9223372036854775807/\zQd w A ps:=by
 obtain⟨h1,h2⟩:=h;rcases h2 with⟨rfl,h0⟩|⟨g,cap,cur,rfl,hg,hb,hn,hc,hs,ht⟩
 ·obtain rfl:ps=[]:=List.length_eq_zero_iff.1 h0;exact⟨none,0,rfl,by simp,by omega,fun j p hj=>by simp at hj⟩
 ·have hb':Blk w g 9 cur:=hb;refine⟨_,cap,rfl,hn,by unfold maxLen at hc;omega,fun j p hj=>⟨g,rfl,hb'.lt,?_⟩⟩;rw[hb'.cell];have h3:(ps.map fun p=>Value.string (bys p))[j]?=some (.string (bys p)):=by simp[hj]
  rw[<-ht,List.getElem?_take] at h3
  split at h3
  ·simpa using h3
  ·cases h3
theorem zQd.keep {A:Option Addr}{ps:List (List UInt8)}(h:zQd w A ps)(hb:Below w.heap.size w w'):zQd w' A ps:=fun j p hj=>by
 obtain⟨g,h1,h2,h3⟩:=h j p hj;exact⟨g,h1,ll h2 hb.size,(hb.cell (p:=⟨g,j,none⟩) h2).trans h3⟩
theorem zVs (p:List UInt8)(s:ByteArray):((bys p).toList==s.toList)=(p==s.data.toList):=by rw[ByteArray.toList_eq,ByteArray.toList_eq,zQz]
theorem zP9 (A:Option Addr)(cap:Nat)(ps:List (List UInt8))(s:ByteArray)(w:World)(hS:zQd w A ps)(hn:ps.length<=1000000):Calls Tryz.prog 96 #[.slice A ps.length cap,.string s] w fun e w'=>e= .returned (.bool (conB ps s.data.toList))/\w=w':=by
 have HS:=zh hS;clear hS;go_enter Tryz.func96,Tryz.ntmps96;go_wp2_with fail
 go_loop [5] (fun i=>∃k:Nat,k<=ps.length/\i= .int .i64 k/\Hid (∀(j:Nat) p,ps[j]?=some p->j<k->(p==s.data.toList)=false)) (fun i=>ps.length -(intOf i).toNat)
 case atStart=>exact⟨0,by omega,rfl,fun j _ _ h=>by omega⟩
 case round=>
  obtain⟨k,hk,rfl,HJ⟩:=hrel
  by_cases hlt:k<ps.length
  ·obtain⟨p,hp⟩:∃p,ps[k]?=some p:=⟨_,gE hlt⟩
   obtain⟨g,rfl,hg,hc⟩:=HS.out k p hp;have HP:=zh hp;cases hq:((bys p).toList==s.toList)
   ·have HQ:=zh hq;clear hp;go_wp2;go_round
    case rel=>exact⟨k+1,by omega,by go_num,fun j y hj h=>by
     rcases Nat.lt_or_ge j k with h'|h'
     ·exact HJ.out j y hj h'
     ·obtain rfl:j=k:=by omega
      rw[HP.out] at hj;obtain rfl:=sj hj;rw[<-zVs];exact HQ.out⟩
    case measure=>simp[intOf];omega
   ·have HR:=zh (show conB ps s.data.toList=true by
     unfold conB;rw[zVs,beq_iff_eq] at hq;rw[List.contains_iff_mem,<-hq];exact List.mem_of_getElem? hp)
    clear hp;go_wp2;go_ret;exact⟨zA1 HR.out.symm,rfl⟩
  ·have HR:=zh (show conB ps s.data.toList=false by
    unfold conB;rw[Bool.eq_false_iff];intro hc;rw[List.contains_iff_mem] at hc;obtain⟨j,hj⟩:=List.mem_iff_getElem?.1 hc;have:=HJ.out j _ hj (by have:=(List.getElem?_eq_some_iff.1 hj).1;omega);simp at this)
   go_wp2;go_ret;exact⟨zA1 HR.out.symm,rfl⟩
theorem zFr {acc:List (List UInt8)}(h:r.sym.data.toList=[]\/acc.contains r.sym.data.toList=true):zFk acc r=acc:=if_pos h
theorem zKe {acc:List (List UInt8)}(h1:r.sym.data.toList≠[])(h2:acc.contains r.sym.data.toList=false):zFk acc r=acc++[r.sym.data.toList]:=if_neg (fun h=>by
 rcases h with h|h
 ·exact h1 h
 ·rw[h2] at h;cases h)
theorem zOb {v:Value}{ps:List (List UInt8)}{s:ByteArray}(hn:ps.length=n)(h:w.ownsRow B 9 1 v (n+1) ((ps.map fun p=>Value.string (bys p))++[.string s])):zCl w B v (ps++[s.data.toList]):=by
 unfold zCl;rw[List.length_append,hn,List.map_append,List.map_cons,List.map_nil,zZa];exact h
def SymP (rs:List Rul)(w:World)(e:Ending)(w':World):Prop:=∃v,e= .returned v/\zCl w' w.heap.size v (zDn rs)/\Below w.heap.size w w'
theorem zIj (A:Option Addr)(cap:Nat)(rs:List Rul)(w:World)(hR:zAc w A rs)(hn:rs.length<=1000000):Calls Tryz.prog 97 #[.slice A rs.length cap] w (SymP rs w):=by
 obtain⟨i0,hi,hz0,hz1,hz2⟩:=info_parts zJ4;have HR:=zh hR;clear hR;go_enter Tryz.func97,Tryz.ntmps97;go_wp2_with fail
 go_loopw [3,4] (fun v i wr=>∃k:Nat,k<=rs.length/\i= .int .i64 k/\Hid (zCl wr w.heap.size v (zDn (rs.take k)))/\Hid (Below w.heap.size w wr)) (fun _ i _=>rs.length -(intOf i).toNat)
 case atStart=>exact⟨0,by omega,rfl,World.ownsRow_nil _ _ _ _,Below.refl _ _⟩
 case round=>
  obtain⟨k,hk,rfl,HO,HB⟩:=hrel
  by_cases hlt:k<rs.length
  ·obtain⟨x,hx⟩:∃x,rs[k]?=some x:=⟨_,gE hlt⟩
   obtain⟨hf,ad,rfl,hadl,c0,c1,c2,c3,c4,c5⟩:=(HR.out.keep HB.out).at_ hx;have HS:=zh (zIf hx);have hfit:x.sym.size<=9223372036854775807:=hf.1;have hlen:=zFp rs k;clear hx hf c0 c2 c3 c4 c5;obtain⟨A2,cap2,rfl,hcl2,hcap2,hst⟩:=HO.out.form;have HST:=zh hst;clear hst;generalize zDn (rs.take k)=acc at*
   by_cases h0:x.sym.data.toList=[]
   ·have hq:x.sym.toList.isEmpty=true:=by rw[List.isEmpty_iff,ByteArray.toList_eq];exact h0
    have HSK:=zh (zFr (acc:=acc) (.inl h0));clear h0;go_wp2;go_roundw
    case rel=>exact⟨k+1,by omega,by go_num,by rw[HS.out,HSK.out];exact HO,HB⟩
    case measure=>simp[intOf];omega
   ·have hq:x.sym.toList.isEmpty=false:=by rw[Bool.eq_false_iff,ne_eq,List.isEmpty_iff,ByteArray.toList_eq];exact h0
    have hq':(!x.sym.toList.isEmpty)=true:=by rw[hq];rfl
    have H0:=zh h0;clear h0;go_wp2_with fail;refine(zP9 A2 cap2 acc x.sym wr HST.out (by omega)).mono ?_;rintro e w2 ⟨rfl,rfl⟩;cases hc:conB acc x.sym.data.toList
    ·have HAD:=zh (zKe H0.out hc);clear hc;have hown:=(show wr.ownsRow w.heap.size 9 1 (.slice A2 acc.length cap2) acc.length (acc.map fun p=>Value.string (bys p)) from HO.out).alloc (.cells #[.string x.sym] 9);have HBL:=zh (World.ownsRow.lt (show wr.ownsRow w.heap.size 9 1 (.slice A2 acc.length cap2) acc.length (acc.map fun p=>Value.string (bys p)) from HO.out));have HSZ:=zh HB.out.size;go_wp2_with (at_builtin;refine wpList_append_own _ rfl (.tmp 27) (.tmp 33) 37 rfl w.heap.size 9 i0 qE 1 16 Tryz.underlying37 hi hz0 hz1 hz2 rfl (by decide) _ _ _ rfl hown ⟨wr.heap.size,0,none⟩ 1 1 [.string x.sym] rfl rfl (zL5 _ _ _) ?c2a ?c3a ?c4a ?c5a ?_)
     case c2a=>intro u hu;simp at hu;subst hu;rfl
     case c3a=>unfold maxLen;omega
     case c4a=>omega
     case c5a=>have:=HSZ.out;simp;omega
     intro v' w3 hown' hgrow _;have NB:=zh ((HB.out.alloc HB.out.size (.cells #[.string x.sym] 9)).grown hgrow (by have:=HSZ.out;simp;omega) (fun k hk=>(HBL.out k hk).1));have NO:=zh (zOb rfl hown');clear hown hown' hgrow HO HB;go_wp2;go_roundw
     case rel=>exact⟨k+1,by omega,by go_num,by rw[HS.out,HAD.out];exact NO,NB⟩
     case measure=>simp[intOf];omega
    ·have HSK:=zh (zFr (acc:=acc) (r:=x) (.inr hc));clear hc;go_wp2;go_roundw
     case rel=>exact⟨k+1,by omega,by go_num,by rw[HS.out,HSK.out];exact HO,HB⟩
     case measure=>simp[intOf];omega
  ·obtain rfl:k=rs.length:=by omega
   have HT:=zh (show rs.take rs.length=rs from List.take_length);go_wp2;go_ret;exact⟨_,rfl,by have:=HO.out;rwa [HT.out] at this,HB.out⟩
theorem law9:Maps.Keyed Tryz.prog 9:=Maps.string_keyed Tryz.underlying9
theorem yBe (w:World):(zeroValue 4).run Tryz.prog w= .ok (.bool false) w:=by simp[Tryz.zeroValue4]
abbrev zC8 (w:World)(b n:Nat)(D:DataW Unit):Prop:=w.ownsMap Tryz.prog 9 (plainElem Tryz.prog 4) b n D
theorem zGu {m:Nat}{D:DataW Unit}{v:Value}{ps:List (List UInt8)}(h:zC8 w b n D)(ho:w.ownsRow B 9 1 v m (ps.map fun p=>Value.string (bys p))):v.ownBlock≠some b:=by
 intro e;obtain⟨es,clock,hb,_⟩:=h;rcases ho.2 with⟨rfl,_⟩|⟨g,cap,cur,rfl,_,hg,_⟩
 ·cases e
 ·obtain rfl:g=b:=by simpa [Value.ownBlock] using e
  rw[hg] at hb;cases hb
theorem zQe (A:Option Addr)(cap:Nat)(rs:List Rul)(w:World)(hR:zAc w A rs)(hn:rs.length<=1000000):Calls Tryz.prog 38 #[.slice A rs.length cap] w (SymP rs w):=by
 obtain⟨i0,hi,hz0,hz1,hz2⟩:=info_parts zJ4;have HR:=zh hR;clear hR;have hmade:=World.ownsMap_made (H:=Unit) w Tryz.prog 9 (plainElem Tryz.prog 4);have hmm:= @run_makeMap Tryz.prog;go_enter Tryz.func38,Tryz.ntmps38;go_wp2_with (refine zI8 (H:=Unit) _ rfl _ _ _ 91 rfl 9 4 law9 Tryz.underlying91 _ w.heap.size 0 (.map []) rfl hmade (by unfold maxLen;omega) _ _ (.string []) rfl rfl (Go.WideMaps.keyOf_string_mk Tryz.underlying9 (by unfold maxLen;decide)) (.lit (.bool true)) [] (plainElem_bool Tryz.underlying4 true) ?_)
 intro w1 hm1 hgrow1;have hb1:=zh ((zA0 w (.map #[] 0)).grown hgrow1 (by simp) (fun k hk=>by cases hk;exact Nat.le_refl _));have hm1':=zh (show zC8 w1 w.heap.size 1 (DataW.put (.map []) (.string []) (.lit (.bool true))) from hm1);have hs1:Hid (zGk (DataW.put (.map []) (.string []) (.lit (.bool true))) ([]::[])):=zN1 zQo ⟨_,rfl⟩ [];clear hm1 hgrow1 hmade hmm;generalize DataW.put (.map []) (.string []) (.lit (.bool true))=D1 at*;go_wp2_with fail
 go_loopw [3,11] (fun v i wr=>∃(k:Nat) (D:DataW Unit),k<=rs.length/\i= .int .i64 k/\Hid (zC8 wr w.heap.size (k+1) D)/\Hid (zGk D ([]::zDn (rs.take k)))/\Hid (zCl wr w.heap.size v (zDn (rs.take k)))/\Hid (Below w.heap.size w wr)) (fun _ i _=>rs.length -(intOf i).toNat)
 case atStart=>exact⟨0,D1,by omega,rfl,hm1',hs1,World.ownsRow_nil _ _ _ _,hb1⟩
 case round=>
  clear hm1' hs1 hb1;obtain⟨k,D,hk,rfl,HM,HSE,HO,HB⟩:=hrel
  by_cases hlt:k<rs.length
  ·obtain⟨x,hx⟩:∃x,rs[k]?=some x:=⟨_,gE hlt⟩
   obtain⟨hf,ad,rfl,hadl,c0,c1,c2,c3,c4,c5⟩:=(HR.out.keep HB.out).at_ hx;have HS:=zh (zIf hx);have hfit:x.sym.size<=9223372036854775807:=hf.1;have hlen:=zFp rs k;clear hx hf;generalize zDn (rs.take k)=acc at*;have hmap:=(show zC8 wr w.heap.size (k+1) D from HM.out).alloc (.cells x.c 53);have HKEY:=zh (Go.WideMaps.keyOf_string_mk (P:=Tryz.prog) (k:=9) Tryz.underlying9 (s:=x.sym) (by unfold maxLen;omega));have hat:D.atKey (.string x.sym.data.toList) (.lit (.bool false))= .lit (.bool (conB ([]::acc) x.sym.data.toList)):=HSE.out x.sym.data.toList;have HAT:=zh hat;clear hat;cases hc:conB ([]::acc) x.sym.data.toList
   ·rw[hc] at HAT;have h1:x.sym.data.toList≠[]/\acc.contains x.sym.data.toList=false:=by
     unfold conB at hc;rw[List.contains_cons,Bool.or_eq_false_iff,beq_eq_false_iff_ne] at hc;exact hc
    have HAD:=zh (zKe h1.1 h1.2);have HSN:=zh (show zGk (D.put (.string x.sym.data.toList) (.lit (.bool true))) ([]::zFk acc x) by rw[HAD.out];exact zN1 HSE.out (World.ownsMap.isMap HM.out) _);clear hc h1;go_wp2_with (first|(at_lookup;refine zCy (H:=Unit) _ rfl _ _ 91 rfl 9 4 law9 Tryz.underlying91 Tryz.underlying4 (yBe _) w.heap.size (k+1) D rfl hmap _ _ rfl HKEY.out false HAT.out ?_)|(at_mapUpdate;refine wpList_mapUpdate_own _ rfl _ _ _ 91 rfl 9 4 law9 Tryz.underlying91 _ w.heap.size (k+1) D rfl hmap (by unfold maxLen;omega) _ _ _ rfl rfl HKEY.out (.lit (.bool true)) [] (plainElem_bool Tryz.underlying4 true) ?_))
    intro w2 hm2 hgrow2;have hO':=(show wr.ownsRow w.heap.size 9 1 u3 acc.length (acc.map fun p=>Value.string (bys p)) from HO.out).alloc (.cells x.c 53);have hne:=zGu hmap hO';have hO2:=hO'.kept hgrow2 (.inr hne);have KX:=zh ((Blk.new wr 53 x.c).grown hgrow2 (fun e=>by
     have h8:=hmap.lt;have h9:zC8 wr w.heap.size (k+1) D:=HM.out;have h10:=h9.lt;have:wr.heap.size=w.heap.size:=by simpa using e
     omega))
    have HB2:=zh ((HB.out.alloc HB.out.size (.cells x.c 53)).grown hgrow2 (by have:=HB.out.size;simp;omega) (fun k hk=>by cases hk;exact Nat.le_refl _));have HM2:=zh (show zC8 w2 w.heap.size (k+1+1) (D.put (.string x.sym.data.toList) (.lit (.bool true))) from hm2);clear hmap hO' hne hgrow2 hm2 HM HO HB c0 c1 c2 c3 c4 c5;have hown:=hO2.alloc (.cells #[.string x.sym] 9);have HBL:=zh hO2.lt;have HNR:=zh (zGu HM2.out hO2);have HSZ:=zh HB2.out.size;have cK:=KX.out.cell;have lK:=KX.out.lt;go_wp2_with (at_builtin;refine wpList_append_own _ rfl (.tmp 23) (.tmp 26) 37 rfl w.heap.size 9 i0 qE 1 16 Tryz.underlying37 hi hz0 hz1 hz2 rfl (by decide) _ _ _ rfl hown ⟨w2.heap.size,0,none⟩ 1 1 [.string x.sym] rfl rfl (zL5 _ _ _) ?c2a ?c3a ?c4a ?c5a ?_)
    case c2a=>intro u hu;simp at hu;subst hu;rfl
    case c3a=>unfold maxLen;omega
    case c4a=>omega
    case c5a=>have:=HSZ.out;simp;omega
    intro v' w3 hown' hgrow _;have NB:=zh ((HB2.out.alloc HB2.out.size (.cells #[.string x.sym] 9)).grown hgrow (by have:=HSZ.out;simp;omega) (fun k hk=>(HBL.out k hk).1));have NM:=zh (show zC8 w3 w.heap.size (k+1+1) (D.put (.string x.sym.data.toList) (.lit (.bool true))) from(HM2.out.alloc _).kept hgrow (fun e=>HNR.out e.symm));have NO:=zh (zOb rfl hown');clear hown hown' hgrow hO2 cK lK;go_wp2;go_roundw
    case rel=>exact⟨k+1,_,by omega,by go_num,NM,zh (by rw[HS.out];exact HSN.out),zh (by rw[HS.out,HAD.out];exact NO.out),NB⟩
    case measure=>simp[intOf];omega
   ·rw[hc] at HAT;have h1:x.sym.data.toList=[]\/acc.contains x.sym.data.toList=true:=by
     unfold conB at hc;rw[List.contains_cons,Bool.or_eq_true,beq_iff_eq] at hc;exact hc
    have HSK:=zh (zFr (acc:=acc) h1);clear hc h1;go_wp2_with (at_lookup;refine zCy (H:=Unit) _ rfl _ _ 91 rfl 9 4 law9 Tryz.underlying91 Tryz.underlying4 (yBe _) w.heap.size (k+1) D rfl hmap _ _ rfl HKEY.out true HAT.out ?_)
    go_roundw
    case rel=>exact⟨k+1,D,by omega,by go_num,zh (World.ownsMap.mono hmap (by omega)),by rw[HS.out,HSK.out];exact HSE,zh (by rw[HS.out,HSK.out];exact HO.out.keep (zA0 _ _)),zh (HB.out.alloc HB.out.size _)⟩
    case measure=>simp[intOf];omega
  ·obtain rfl:k=rs.length:=by omega
   have HT:=zh (show rs.take rs.length=rs from List.take_length);go_wp2;go_ret;exact⟨_,rfl,by have:=HO.out;rwa [HT.out] at this,HB.out⟩
end Go.Proofs.YtapgncbegadbnaaGreatDoor.Sy
namespace Go.Proofs.YtapgncbegadbnaaGreatDoor.At
open Go.RowKit
def zGg (c:UInt8):Bool:=decide (32<=c.toNat)&&decide (c.toNat<=126)
theorem zLs (s:ByteArray)(w:World)(hs:s.size<=9223372036854775807):Calls Tryz.prog 104 #[.string s] w fun e w'=>e= .returned (.bool (zIx s.toList))/\w=w':=by
 go_enter Tryz.func104,Tryz.ntmps104;go_wp2_with fail
 go_loop [3] (fun i=>∃k:Nat,k<=s.size/\i=qI k/\Hid (∀(j:Nat) (hj:j<s.size),j<k->zD8 s[j]=true)) (fun i=>s.size -(intOf i).toNat)
 case atStart=>exact⟨0,by omega,rfl,fun j _ h=>by omega⟩
 case round=>
  obtain⟨k,hk,rfl,HJ⟩:=hrel
  by_cases hlt:k<s.size
  ·by_cases c1:(s[k].toNat:Int)<48
   ·have HF:=zh (zAq (p:=zD8) hlt (by unfold zD8;rw[decide_eq_false (by omega)];rfl));go_wp2;go_ret;exact⟨zA1 (by unfold zIx;rw[HF.out];rfl),rfl⟩
   ·by_cases c2:57<(s[k].toNat:Int)
    ·have HF:=zh (zAq (p:=zD8) hlt (by unfold zD8;rw[decide_eq_false (p:=s[k].toNat<=57) (by omega),Bool.and_false]));go_wp2;go_ret;exact⟨zA1 (by unfold zIx;rw[HF.out];rfl),rfl⟩
    ·have HL:=zh (show zD8 s[k]=true by unfold zD8;rw[decide_eq_true (by omega),decide_eq_true (by omega)];rfl);go_wp2;go_round
     case rel=>exact⟨k+1,by omega,by go_num,fun j hj h=>by
      rcases Nat.lt_or_ge j k with h'|h'
      ·exact HJ.out j hj h'
      ·obtain rfl:j=k:=by omega
       exact HL.out⟩
     case measure=>simp[intOf];omega
  ·have HF:=zh (zE2 (s:=s) (p:=zD8) fun j hj=>HJ.out j hj (by omega));go_wp2;go_ret;exact⟨zA1 (by unfold zIx;rw[HF.out];rfl),rfl⟩
theorem zVb (s:ByteArray)(w:World)(hs:s.size<=9223372036854775807):Calls Tryz.prog 72 #[.string s] w fun e w'=>e= .returned (.bool (decide (s.size<=200)&&zKu s.toList))/\w=w':=by
 go_enter Tryz.func72,Tryz.ntmps72;go_wp2_with fail
 go_loop [3] (fun i=>∃k:Nat,k<=s.size/\i=qI k/\Hid (∀(j:Nat) (hj:j<s.size),j<k->zGg s[j]=true)) (fun i=>s.size -(intOf i).toNat)
 case atStart=>exact⟨0,by omega,rfl,fun j _ h=>by omega⟩
 case round=>
  obtain⟨k,hk,rfl,HJ⟩:=hrel
  by_cases hlt:k<s.size
  ·by_cases c1:(s[k].toNat:Int)<32
   ·have HF:=zh (zAq (p:=zGg) hlt (by unfold zGg;rw[decide_eq_false (by omega)];rfl));go_wp2;go_ret;exact⟨zA1 (by rw[show zKu s.toList=false from HF.out,Bool.and_false]),rfl⟩
   ·by_cases c2:126<(s[k].toNat:Int)
    ·have HF:=zh (zAq (p:=zGg) hlt (by unfold zGg;rw[decide_eq_false (p:=s[k].toNat<=126) (by omega),Bool.and_false]));go_wp2;go_ret;exact⟨zA1 (by rw[show zKu s.toList=false from HF.out,Bool.and_false]),rfl⟩
    ·have HL:=zh (show zGg s[k]=true by unfold zGg;rw[decide_eq_true (by omega),decide_eq_true (by omega)];rfl);go_wp2;go_round
     case rel=>exact⟨k+1,by omega,by go_num,fun j hj h=>by
      rcases Nat.lt_or_ge j k with h'|h'
      ·exact HJ.out j hj h'
      ·obtain rfl:j=k:=by omega
       exact HL.out⟩
     case measure=>simp[intOf];omega
  ·have HF:=zh (zE2 (s:=s) (p:=zGg) fun j hj=>HJ.out j hj (by omega));go_wp2;go_ret;exact⟨zA1 (by rw[show zKu s.toList=true from HF.out,Bool.and_true];simp;omega),rfl⟩
theorem zW1 (s:ByteArray)(w:World)(hs:s.size<=9223372036854775807):Calls Tryz.prog 119 #[.string s] w fun e w'=>e= .returned (.bool (zKu s.toList))/\w=w':=by
 go_enter Tryz.func119,Tryz.ntmps119;go_wp2_with fail
 go_loop [3] (fun i=>∃k:Nat,k<=s.size/\i=qI k/\Hid (∀(j:Nat) (hj:j<s.size),j<k->zGg s[j]=true)) (fun i=>s.size -(intOf i).toNat)
 case atStart=>exact⟨0,by omega,rfl,fun j _ h=>by omega⟩
 case round=>
  obtain⟨k,hk,rfl,HJ⟩:=hrel
  by_cases hlt:k<s.size
  ·by_cases c1:(s[k].toNat:Int)<32
   ·have HF:=zh (zAq (p:=zGg) hlt (by unfold zGg;rw[decide_eq_false (by omega)];rfl));go_wp2;go_ret;exact⟨zA1 (by rw[show zKu s.toList=false from HF.out]),rfl⟩
   ·by_cases c2:126<(s[k].toNat:Int)
    ·have HF:=zh (zAq (p:=zGg) hlt (by unfold zGg;rw[decide_eq_false (p:=s[k].toNat<=126) (by omega),Bool.and_false]));go_wp2;go_ret;exact⟨zA1 (by rw[show zKu s.toList=false from HF.out]),rfl⟩
    ·have HL:=zh (show zGg s[k]=true by unfold zGg;rw[decide_eq_true (by omega),decide_eq_true (by omega)];rfl);go_wp2;go_round
     case rel=>exact⟨k+1,by omega,by go_num,fun j hj h=>by
      rcases Nat.lt_or_ge j k with h'|h'
      ·exact HJ.out j hj h'
      ·obtain rfl:j=k:=by omega
       exact HL.out⟩
     case measure=>simp[intOf];omega
  ·have HF:=zh (zE2 (s:=s) (p:=zGg) fun j hj=>HJ.out j hj (by omega));go_wp2;go_ret;exact⟨zA1 (by rw[show zKu s.toList=true from HF.out]),rfl⟩
theorem zXe (s:ByteArray)(w:World):Calls Tryz.prog 70 #[.string s] w fun e w'=>e= .returned (.bool s.toList.isEmpty)/\w=w':=by
 go_enter Tryz.func70,Tryz.ntmps70;go_wp2;go_ret;exact⟨rfl,rfl⟩
theorem zG6 (c:UInt8)(w:World):Calls Tryz.prog 137 #[.int .u8 (c.toNat:Int)] w fun e w'=>e= .returned (.bool (zD8 c))/\w=w':=by
 by_cases h1:48<=c.toNat
 ·have HR:=zh (show zD8 c=decide ((c.toNat:Int)<=57) by unfold zD8;rw[decide_eq_true h1,Bool.true_and,decide_eq_decide];omega);go_enter Tryz.func137,Tryz.ntmps137;go_wp2;go_ret;exact⟨zA1 (by rw[HR.out]),rfl⟩
 ·have HR:=zh (show zD8 c=false by unfold zD8;rw[decide_eq_false h1];rfl);go_enter Tryz.func137,Tryz.ntmps137;go_wp2;go_ret;exact⟨zA1 HR.out.symm,rfl⟩
end Go.Proofs.YtapgncbegadbnaaGreatDoor.At
namespace Go.Proofs.YtapgncbegadbnaaGreatDoor.At
open Go.Shelf Go.RowKit Go.Lib
variable {P : Program} {ρ : Ren}
theorem yA3 (L:Lays.n220 P ρ)(s:ByteArray)(c:UInt8)(w:World)(hs:s.size<=9223372036854775807):
  Calls P (ρ.f 220) #[.string s,.string ⟨#[c]⟩] w fun e w'=>e= .returned (.tuple #[.string ⟨(Lib.cut s.data.toList [c]).1.toArray⟩,.string ⟨(Lib.cut s.data.toList [c]).2.1.toArray⟩,.bool (Lib.cut s.data.toList [c]).2.2])/\∃n,w'=w.drewN n:=by
 rcases Lib.indexB_cases s ⟨#[c]⟩ with hix|⟨i,hix,hroom⟩
 ·obtain⟨e1,e2,e3⟩:=Lib.cutB_miss s ⟨#[c]⟩ hix;rw[show[c]=(⟨#[c]⟩:ByteArray).data.toList from rfl,e1,e2,e3];have hix1:=Lib.hid (show Lib.indexByte s.data.toList c=_ from(Lib.index_one s.data.toList c).symm.trans hix);clear e1 e2 e3 hix;have t3:=L.t3;have t4:=L.t4;have t9:=L.t9;have a3:∀w,(isAgg (ρ.t 3)).run P w= .ok false w:=run_isAgg_plain L.t3 rfl;have a4:∀w,(isAgg (ρ.t 4)).run P w= .ok false w:=run_isAgg_plain L.t4 rfl;have a9:∀w,(isAgg (ρ.t 9)).run P w= .ok false w:=run_isAgg_plain L.t9 rfl;have e219:∀args w,(callFunc (ρ.f 219) args).run P w= .ok (.enter (ρ.f 219) args) w:=enters_of L.f219 (by kernel_rfl) rfl;have mixed:=L.mixed;have z3:=L.z3;have v3:=L.v3;have z4:=L.z4;have v4:=L.v4;have z9:=L.z9;have v9:=L.v9;go_enter L.f220,Body.n220_ntmps ρ;go_wp2_with (go_at_fn (ρ.f 219);refine(Any.stringslite_Index_one {L with} _ _ _).mono ?_;rintro e w' ⟨rfl,rfl⟩;rw[hix1.out])
  go_ret3
  exact⟨rfl,0,rfl⟩
 ·obtain⟨e1,e2,e3⟩:=Lib.cutB_hit s ⟨#[c]⟩ i hix;rw[show[c]=(⟨#[c]⟩:ByteArray).data.toList from rfl,e1,e2,e3];have hix1:=Lib.hid (show Lib.indexByte s.data.toList c=_ from(Lib.index_one s.data.toList c).symm.trans hix);clear e1 e2 e3 hix;have hsz:(⟨#[c]⟩:ByteArray).size=1:=rfl;rw[hsz] at hroom;have c1:(0:Int)<=↑i:=by omega
  have c2:(↑i:Int)<=↑s.size:=by omega
  have c3:(0:Int)<=↑i+1:=by omega
  have c4:(↑i+1:Int)<=↑s.size:=by omega
  clear hsz;have t3:=L.t3;have t4:=L.t4;have t9:=L.t9;have a3:∀w,(isAgg (ρ.t 3)).run P w= .ok false w:=run_isAgg_plain L.t3 rfl;have a4:∀w,(isAgg (ρ.t 4)).run P w= .ok false w:=run_isAgg_plain L.t4 rfl;have a9:∀w,(isAgg (ρ.t 9)).run P w= .ok false w:=run_isAgg_plain L.t9 rfl;have e219:∀args w,(callFunc (ρ.f 219) args).run P w= .ok (.enter (ρ.f 219) args) w:=enters_of L.f219 (by kernel_rfl) rfl;have mixed:=L.mixed;have z3:=L.z3;have v3:=L.v3;have z4:=L.z4;have v4:=L.v4;have z9:=L.z9;have v9:=L.v9;go_enter L.f220,Body.n220_ntmps ρ;go_wp2_with (go_at_fn (ρ.f 219);refine(Any.stringslite_Index_one {L with} _ _ _).mono ?_;rintro e w' ⟨rfl,rfl⟩;rw[hix1.out])
  go_region_o
  go_wp2
  go_ret3
  exact⟨rfl,1,rfl⟩
theorem yBb (L:Lays.n145 P ρ)(s:ByteArray)(c:UInt8)(w:World)(hs:s.size<=9223372036854775807):
  Calls P (ρ.f 145) #[.string s,.string ⟨#[c]⟩] w fun e w'=>e= .returned (.tuple #[.string ⟨(Lib.cut s.data.toList [c]).1.toArray⟩,.string ⟨(Lib.cut s.data.toList [c]).2.1.toArray⟩,.bool (Lib.cut s.data.toList [c]).2.2])/\∃n,w'=w.drewN n:=by
 have t4:=L.t4;have t9:=L.t9;have t59:=L.t59;have a4:∀w,(isAgg (ρ.t 4)).run P w= .ok false w:=run_isAgg_plain L.t4 rfl;have a9:∀w,(isAgg (ρ.t 9)).run P w= .ok false w:=run_isAgg_plain L.t9 rfl;have a59:∀w,(isAgg (ρ.t 59)).run P w= .ok false w:=run_isAgg_plain L.t59 rfl;have e220:∀args w,(callFunc (ρ.f 220) args).run P w= .ok (.enter (ρ.f 220) args) w:=enters_of L.f220 (by kernel_rfl) rfl;have mixed:=L.mixed;have z4:=L.z4;have v4:=L.v4;have z9:=L.z9;have v9:=L.v9;have z59:=L.z59;have v59:=L.v59;go_enter L.f145,Body.n145_ntmps ρ;go_wp2_with (go_at_fn (ρ.f 220);refine(yA3 {L with} _ _ _ hs).mono ?_;rintro e w' ⟨rfl,n,rfl⟩)
 go_ret3
 exact⟨rfl,n,rfl⟩
end Go.Proofs.YtapgncbegadbnaaGreatDoor.At
namespace Go.Proofs
open Go.RowKit
theorem Tryz.zJu (s:ByteArray)(c:UInt8)(w:World)(hs:s.size<=9223372036854775807):
  Calls Tryz.prog 103 #[.string s,.string ⟨#[c]⟩] w fun e w'=>e= .returned (.tuple #[.string ⟨(Lib.cut s.data.toList [c]).1.toArray⟩,.string ⟨(Lib.cut s.data.toList [c]).2.1.toArray⟩,.bool (Lib.cut s.data.toList [c]).2.2])/\∃n,w'=w.drewN n:=YtapgncbegadbnaaGreatDoor.At.yBb Tryz.lays145 s c w hs
end Go.Proofs
namespace Go.Proofs.YtapgncbegadbnaaGreatDoor.At
structure Ent where
 text:ByteArray
 cls:Int
 lim:Bool
 stc:Bool
end Go.Proofs.YtapgncbegadbnaaGreatDoor.At
namespace Go.Proofs.YtapgncbegadbnaaGreatDoor.At
open Go.RowKit
variable{w:World}{t x:Tre}{k i:Nat}{s:ByteArray}{ks ts:List Tre}{A:Option Addr}{q:Int}
inductive zAv (w:World):Tre->Array Value->Prop
 |mk (k:Int) (s:ByteArray) (c:Int) (ks:List Tre) (A:Option Addr) (cap:Nat) (ad:Addr) (cs:Nat->Array Value) (hs:s.size<=9223372036854775807) (hn:ks.length<=cap) (hc:cap<=9223372036854775807)
   (hA:ks=[]\/(A=some ad/\ad.block<w.heap.size)) (hcell:∀i,i<ks.length->∀j,j<4->w.cell? (ad.add (i*4+j))=(cs i)[j]?)
   (hk:∀(i:Nat) (h:i<ks.length),zAv w ks[i] (cs i)):zAv w (.mk k s c ks) #[qI k,.string s,qI c,.slice A ks.length cap]
def zAo (w:World)(A:Option Addr)(ts:List Tre):Prop:=∀(i:Nat) (t:Tre),ts[i]?=some t->∃ad:Addr,A=some ad/\ad.block<w.heap.size/\∃c,zAv w t c/\∀j,j<4->w.cell? (ad.add (i*4+j))=c[j]?
theorem zDo (a:Addr)(n:Nat):(a.add n).block=a.block:=by unfold Addr.add;split<;>rfl
theorem zAv.keep {w':World}(hb:Below w.heap.size w w'){c:Array Value}(h:zAv w t c):zAv w' t c:=by
 induction h with
 |mk k s c ks A cap ad cs hs hn hc hA hcell hk ih=>
  refine .mk k s c ks A cap ad cs hs hn hc (hA.imp id fun⟨h1,h2⟩=>⟨h1,Nat.lt_of_lt_of_le h2 hb.size⟩) (fun i hi j hj=>?_) ih;rcases hA with h|⟨h1,h2⟩
  ·subst h;simp at hi
  ·rw[hb.cell (by rw[zDo];exact h2)];exact hcell i hi j hj
theorem zAo.keep {w w':World}(hb:Below w.heap.size w w'){A:Option Addr}{ts:List Tre}(h:zAo w A ts):zAo w' A ts:=fun i t hi=>by
 obtain⟨ad,h1,h2,c,h3,h4⟩:=h i t hi;exact⟨ad,h1,Nat.lt_of_lt_of_le h2 hb.size,c,h3.keep hb,fun j hj=>by rw[hb.cell (by rw[zDo];exact h2)];exact h4 j hj⟩
theorem zAv.form {c:Array Value}(h:zAv w t c):∃A cap,c=(qC t A cap)/\t.text.size<=9223372036854775807/\t.kids.length<=cap/\cap<=9223372036854775807/\zAo w A t.kids:=by
 cases h with
 |mk k s c ks A cap ad cs hs hn hc hA hcell hk=>
  refine⟨A,cap,rfl,hs,hn,hc,fun i t hi=>?_⟩;obtain⟨hl,rfl⟩:=List.getElem?_eq_some_iff.1 hi;rcases hA with h|⟨h1,h2⟩
  ·rw[show(Tre.mk k s c ks).kids=ks from rfl] at hl;subst h;simp at hl
  ·exact⟨ad,h1,h2,cs i,hk i hl,hcell i hl⟩
theorem zAv.of {k:Int}{c:Int}{cap:Nat}(hs:s.size<=9223372036854775807)(hn:ks.length<=cap)(hc:cap<=9223372036854775807)(h:zAo w A ks):zAv w (.mk k s c ks) #[qI k,.string s,qI c,.slice A ks.length cap]:=by
 cases ks with
 |nil=>exact .mk k s c [] A cap ⟨0,0,none⟩ (fun _=> #[]) hs hn hc (.inl rfl) (fun i hi=>by simp at hi) (fun i hi=>by simp at hi)
 |cons t ts=>
  obtain⟨ad,hA,hlt,_⟩:=h 0 t rfl;have hx:∀i,∃cc:Array Value,∀(hi:i<(t::ts).length),zAv w (t::ts)[i] cc/\∀j,j<4->w.cell? (ad.add (i*4+j))=cc[j]?:=fun i=>by
   by_cases hi:i<(t::ts).length
   ·obtain⟨ad',hA',_,cc,h1,h2⟩:=h i _ (gE hi);obtain rfl:=sj (hA.symm.trans hA');exact⟨cc,fun _=>⟨h1,h2⟩⟩
   ·exact⟨#[],fun h=>absurd h hi⟩
  exact .mk k s c (t::ts) A cap ad (fun i=>(hx i).choose) hs hn hc (.inr ⟨hA,hlt⟩) (fun i hi=>((hx i).choose_spec hi).2) (fun i hi=>((hx i).choose_spec hi).1)
theorem zBc {a:Addr}{n j:Nat}{v:Option Value}(h:w.cell? (a.add (n+(j+1)))=v):w.cell? ⟨(a.add n).block,(a.add n).off+(j+1),none⟩=v:=by
 rw[<-Addr.add_add] at h;unfold Addr.add at h⊢
 simpa using h
theorem zAo.at_ (h:zAo w A ts)(hi:ts[i]?=some t):
  ∃ad A2 cap2,A=some ad/\ad.block<w.heap.size/\t.text.size<=9223372036854775807/\t.kids.length<=cap2/\cap2<=9223372036854775807/\zAo w A2 t.kids/\zAv w t (qC t A2 cap2)/\w.cell? (ad.add (i*4))=some (qI t.kind)/\w.cell? ⟨(ad.add (i*4)).block,(ad.add (i*4)).off+1,none⟩=some (.string t.text)/\w.cell? ⟨(ad.add (i*4)).block,(ad.add (i*4)).off+2,none⟩=some (qI t.cols)/\w.cell? ⟨(ad.add (i*4)).block,(ad.add (i*4)).off+3,none⟩=some (.slice A2 t.kids.length cap2):=by
 obtain⟨ad,h1,h2,c,h3,h4⟩:=h i t hi;obtain⟨A2,cap2,rfl,hs,hn,hc,hk⟩:=h3.form;exact⟨ad,A2,cap2,h1,h2,hs,hn,hc,hk,h3,h4 0 (by omega),zBc (j:=0) (h4 1 (by omega)),zBc (j:=1) (h4 2 (by omega)),zBc (j:=2) (h4 3 (by omega))⟩
theorem yC0 (l:List UInt8):(⟨l.toArray⟩:ByteArray).toList=l:=by rw[ByteArray.toList_eq]
theorem size_mk (l:List UInt8):(⟨l.toArray⟩:ByteArray).size=l.length:=by simp[ByteArray.size]
theorem yBz (l:List UInt8):(Lib.cut l [46]).1.length<=l.length/\(Lib.cut l [46]).2.1.length<=l.length:=by
 rcases zNa 46 l with h|⟨a,b,rfl,h⟩
 ·rw[zR5 46 h];simp
 ·rw[zVy 46 h];simp;omega
theorem zS5 (s:ByteArray)(w:World)(hs:s.size<=9223372036854775807):Calls Tryz.prog 71 #[.string s] w fun e w'=>e= .returned (.bool (numP s.data.toList))/\Below w.heap.size w w':=by
 have hlen:s.data.toList.length=s.size:=by simp
 obtain⟨l1,l2⟩:=yBz s.data.toList;have HQ:=zh (show numP s.data.toList=(decide (s.size<=20)&&(zIx (Lib.cut s.data.toList [46]).1&&(!(Lib.cut s.data.toList [46]).2.2||zIx (Lib.cut s.data.toList [46]).2.1))) by unfold numP;rw[hlen]);have HC:=zh (Tryz.zJu s 46 w hs);rw[hlen] at l1 l2;clear hlen;generalize (Lib.cut s.data.toList [46]).1=a at*;generalize (Lib.cut s.data.toList [46]).2.1=b at*;generalize (Lib.cut s.data.toList [46]).2.2=p at*;have HA:=zh (fun w1=>zLs (⟨a.toArray⟩:ByteArray) w1 (by rw[size_mk];omega));have HB:=zh (fun w1=>zLs (⟨b.toArray⟩:ByteArray) w1 (by rw[size_mk];omega));rw[yC0] at HA HB
 by_cases h20:s.size<=20
 ·rw[decide_eq_true h20,Bool.true_and] at HQ;go_enter Tryz.func71,Tryz.ntmps71;go_wp2_with fail;refine HC.out.mono ?_;rintro e w' ⟨rfl,n,rfl⟩;go_wp2_with fail;refine(HA.out _).mono ?_;rintro e w' ⟨rfl,rfl⟩;cases ha:zIx a
  ·rw[ha] at HQ;clear ha;go_wp2;go_ret;exact⟨zA1 (by rw[HQ.out];rfl),below_drewN (Below.refl _ _) n⟩
  ·rw[ha,Bool.true_and] at HQ;clear ha;cases p
   ·go_wp2;go_ret;exact⟨zA1 (by rw[HQ.out];rfl),below_drewN (Below.refl _ _) n⟩
   ·rw[Bool.not_true,Bool.false_or] at HQ;go_wp2_with fail;refine(HB.out _).mono ?_;rintro e w' ⟨rfl,rfl⟩;generalize zIx b=d at*;go_wp2;go_ret;exact⟨zA1 (by rw[HQ.out]),below_drewN (Below.refl _ _) n⟩
 ·rw[decide_eq_false h20,Bool.false_and] at HQ;go_enter Tryz.func71,Tryz.ntmps71;go_wp2_with fail;refine HC.out.mono ?_;rintro e w' ⟨rfl,n,rfl⟩;go_wp2;go_ret;exact⟨zA1 (by rw[HQ.out]),below_drewN (Below.refl _ _) n⟩
theorem zUk (c:UInt8):decide (0<=Lib.indexByte [40,41,91,93,123,125,60,62,47,124,46] c)=hasB zIo c:=by
 have h:∀n:Nat,n<256->decide (0<=Lib.indexByte [40,41,91,93,123,125,60,62,47,124,46] (UInt8.ofNat n))=hasB zIo (UInt8.ofNat n):=by decide+kernel
 have:=h c.toNat c.toNat_lt
 rwa [UInt8.ofNat_toNat] at this
theorem two_bytes (s:ByteArray)(h:s.size=2):∃a b:UInt8,s=⟨#[a,b]⟩:=by
 obtain⟨⟨l⟩⟩:=s
 match l,h with
 |[a,b],_=>exact⟨a,b,rfl⟩
 |[],h=>simp[ByteArray.size] at h
 |[_],h=>simp[ByteArray.size] at h
 |_::_::_::_,h=>simp[ByteArray.size] at h
theorem zQw (a b:UInt8):zPl (⟨#[a,b]⟩:ByteArray).data.toList=(hasB zIo a&&hasB zIo b):=rfl
theorem zWa (h:s.size≠2):zPl s.data.toList=false:=by
 have hl:s.data.toList.length=s.size:=by simp
 unfold zPl
 split
 ·rename_i a b he
  rw[he] at hl;simp at hl;omega
 ·rfl
theorem zUn (s:ByteArray)(w:World):Calls Tryz.prog 74 #[.string s] w fun e w'=>e= .returned (.bool (zPl s.data.toList))/\Below w.heap.size w w':=by
 by_cases h:s.size=2
 ·obtain⟨a,b,rfl⟩:=two_bytes s h;clear h;rw[zQw];have HA:=zh (Tryz.strings_IndexByte ⟨#[40,41,91,93,123,125,60,62,47,124,46]⟩ a.toNat);have HB:=zh (Tryz.strings_IndexByte ⟨#[40,41,91,93,123,125,60,62,47,124,46]⟩ b.toNat);have DA:=zh (zUk a);have DB:=zh (zUk b);rw[show((a.toNat:Int).toNat.toUInt8)=a by simp,show(⟨#[40,41,91,93,123,125,60,62,47,124,46]⟩:ByteArray).data.toList=[40,41,91,93,123,125,60,62,47,124,46] from rfl] at HA;rw[show((b.toNat:Int).toNat.toUInt8)=b by simp,show(⟨#[40,41,91,93,123,125,60,62,47,124,46]⟩:ByteArray).data.toList=[40,41,91,93,123,125,60,62,47,124,46] from rfl] at HB;generalize Lib.indexByte [40,41,91,93,123,125,60,62,47,124,46] a=x at*;generalize Lib.indexByte [40,41,91,93,123,125,60,62,47,124,46] b=y at*;go_enter Tryz.func74,Tryz.ntmps74;go_wp2_with fail;refine(HA.out _).mono ?_;rintro e w' ⟨rfl,rfl⟩
  by_cases hx:0<=x
  ·go_wp2_with fail;refine(HB.out _).mono ?_;rintro e w' ⟨rfl,rfl⟩;go_wp2;go_ret;exact⟨zA1 (by rw[<-DA.out,<-DB.out,decide_eq_true hx,Bool.true_and]),Below.refl _ _⟩
  ·go_wp2;go_ret;exact⟨zA1 (by rw[<-DA.out,decide_eq_false (by omega),Bool.false_and]),Below.refl _ _⟩
 ·have HQ:=zh (zWa h);have hq:((s.size:Int)==2)=false:=by rw[beq_eq_false_iff_ne];omega
  clear h;go_enter Tryz.func74,Tryz.ntmps74;go_wp2;go_ret;exact⟨zA1 HQ.out.symm,Below.refl _ _⟩
theorem zAj {k:IntKind}{a b:Int}(h:a=b):Ending.returned (.int k a)= .returned (.int k b):=by rw[h]
theorem zDe (h:ks[i]?=some t):zA7 t<=zA4 ks:=by
 induction ks generalizing i with
 |nil=>simp at h
 |cons x r ih=>
  rw[zA4];cases i with
  |zero=>simp at h;subst h;omega
  |succ i=>have:=ih (i:=i) (by simpa using h);omega
def okAt (s:ByteArray)(j:Nat)(h:j<s.size):Prop:=(s[j]=46/\0<j/\j+1<s.size)\/zD8 s[j]=true
theorem zG7 (s:ByteArray)(j:Nat)(h:j<s.size):s.data.toList[j]?=some s[j]:=by
 rw[gE (by simpa using h)];rfl
theorem yBl (H:∀(j:Nat) (hj:j<s.size),okAt s j hj):numR s.data.toList=(decide (0<s.size)&&(decide (s.size<=20)&&decide (s.data.toList.count 46<=1))):=by
 have hl:s.data.toList.length=s.size:=by simp
 unfold numR;have h1:s.data.toList.all (fun c=>c==46||zD8 c)=true:=by
  rw[List.all_eq_true];intro x hx;obtain⟨j,hj,rfl⟩:=List.mem_iff_getElem.1 hx;rcases H j (by omega) with⟨h,_⟩|h
  ·rw[Bool.or_eq_true];exact .inl (by rw[beq_iff_eq];exact h)
  ·rw[Bool.or_eq_true];exact .inr h
 have h2:s.data.toList.head?≠some 46:=by
  intro e;rw[List.head?_eq_getElem?] at e;have h0:0<s.size:=by
   rcases Nat.eq_zero_or_pos s.size with h0|h0
   ·rw[List.getElem?_eq_none (by omega)] at e;cases e
   ·exact h0
  rw[zG7 s 0 h0] at e;rcases H 0 h0 with⟨_,h,_⟩|h
  ·omega
  ·exact zPc _ h (sj e)
 have h3:s.data.toList.getLast?≠some 46:=by
  intro e;rw[List.getLast?_eq_getElem?,hl] at e;have h0:0<s.size:=by
   rcases Nat.eq_zero_or_pos s.size with h0|h0
   ·rw[List.getElem?_eq_none (by omega)] at e;cases e
   ·exact h0
  rw[zG7 s (s.size -1) (by omega)] at e;rcases H (s.size -1) (by omega) with⟨_,_,h⟩|h
  ·omega
  ·exact zPc _ h (sj e)
 rw[h1,decide_eq_true h2,decide_eq_true h3,hl];rfl
theorem zRg (hk:k<s.size)(h:¬okAt s k hk):numR s.data.toList=false:=by
 have hl:s.data.toList.length=s.size:=by simp
 unfold okAt at h;unfold numR
 by_cases h46:s[k]=46
 ·have hk':k=0\/k+1=s.size:=by
   rcases Nat.eq_zero_or_pos k with h0|h0
   ·exact .inl h0
   ·exact .inr (Classical.byContradiction fun hc=>h (.inl ⟨h46,h0,by omega⟩))
  rcases hk' with rfl|hk'
  ·have h2:s.data.toList.head?=some 46:=by rw[List.head?_eq_getElem?,zG7 s 0 hk,h46]
   rw[h2];simp
  ·have h3:s.data.toList.getLast?=some 46:=by rw[List.getLast?_eq_getElem?,hl,show s.size -1=k by omega,zG7 s k hk,h46]
   rw[h3];simp
 ·have hd:zD8 s[k]=false:=by
   cases hd:zD8 s[k]
   ·rfl
   ·exact absurd (.inr hd) h
  have h1:s.data.toList.all (fun c=>c==46||zD8 c)=false:=by
   rw[List.all_eq_false];refine⟨s[k],List.mem_of_getElem? (zG7 s k hk),?_⟩;rw[hd,beq_eq_false_iff_ne.2 h46];simp
  rw[h1];rfl
theorem zI3 (hk:k<s.size):(s.data.toList.take (k+1)).count 46=(s.data.toList.take k).count 46+(if s[k]=46 then 1 else 0):=by
 rw[List.take_add_one,zG7 s k hk,Option.toList,List.count_append,List.count_singleton]
 by_cases h:s[k]=46<;>simp[h]
theorem zQn (s:ByteArray)(w:World)(hs:s.size<=9223372036854775807):Calls Tryz.prog 118 #[.string s] w fun e w'=>e= .returned (.bool (numR s.data.toList))/\w=w':=by
 have hl:s.data.toList.length=s.size:=by simp
 have HL:=zh hl;clear hl;go_enter Tryz.func118,Tryz.ntmps118;go_wp2_with fail
 go_loop [3,4] (fun p i=>∃k c:Nat,k<=s.size/\c<=k/\i=qI k/\p=qI c/\Hid (c=(s.data.toList.take k).count 46)/\Hid (∀(j:Nat) (hj:j<s.size),j<k->okAt s j hj)) (fun _ i=>s.size -(intOf i).toNat)
 case atStart=>exact⟨0,0,by omega,by omega,rfl,rfl,rfl,fun j _ h=>by omega⟩
 case round=>
  obtain⟨k,c,hk,hck,rfl,rfl,HC,HJ⟩:=hrel
  by_cases hlt:k<s.size
  ·have HT:=zh (zI3 hlt)
   by_cases h46:s[k]=46
   ·have hq:((s[k].toNat:Int)==46)=true:=by rw[h46];rfl
    have HD:=zh (show zD8 s[k]=false by rw[h46];rfl)
    by_cases hin:0<k/\k+1<s.size
    ·obtain⟨h0,h1⟩:=hin;have h1':(k:Int)<(s.size:Int) -1:=by omega
     have HK:=zh (show okAt s k hlt from .inl ⟨h46,h0,h1⟩);have HS:=zh (show c+1=(s.data.toList.take (k+1)).count 46 by rw[HT.out,<-HC.out,if_pos h46]);clear h46;go_wp2;go_round
     case rel=>exact⟨k+1,c+1,by omega,by omega,by go_num,by go_num,HS,fun j hj h=>by
      rcases Nat.lt_or_ge j k with h'|h'
      ·exact HJ.out j hj h'
      ·obtain rfl:j=k:=by omega
       exact HK.out⟩
     case measure=>simp[intOf];omega
    ·have HB:=zh (zRg hlt (fun h=>by
      rcases h with⟨_,a,b⟩|h
      ·exact hin ⟨a,b⟩
      ·rw[HD.out] at h;cases h))
     clear h46
     by_cases h0:0<k
     ·have h1:¬(k:Int)<(s.size:Int) -1:=by omega
      clear hin;go_wp2_with fail;refine(zG6 s[k] _).mono ?_;rintro e w' ⟨rfl,rfl⟩;rw[HD.out];go_wp2;go_ret;exact⟨zA1 HB.out.symm,rfl⟩
     ·clear hin;go_wp2_with fail;refine(zG6 s[k] _).mono ?_;rintro e w' ⟨rfl,rfl⟩;rw[HD.out];go_wp2;go_ret;exact⟨zA1 HB.out.symm,rfl⟩
   ·have hq:((s[k].toNat:Int)==46)=false:=by
     rw[beq_eq_false_iff_ne];intro e;apply h46;exact UInt8.toNat_inj.1 (show s[k].toNat=46 by omega)
    cases hd:zD8 s[k]
    ·have HD:=zh hd;have HB:=zh (zRg hlt (fun h=>by
      rcases h with⟨a,_⟩|h
      ·exact h46 a
      ·rw[HD.out] at h;cases h))
     clear h46 hd;go_wp2_with fail;refine(zG6 s[k] _).mono ?_;rintro e w' ⟨rfl,rfl⟩;rw[HD.out];go_wp2;go_ret;exact⟨zA1 HB.out.symm,rfl⟩
    ·have HD:=zh hd;have HK:=zh (show okAt s k hlt from .inr hd);have HS:=zh (show c=(s.data.toList.take (k+1)).count 46 by rw[HT.out,<-HC.out,if_neg h46];rfl);clear h46 hd;go_wp2_with fail;refine(zG6 s[k] _).mono ?_;rintro e w' ⟨rfl,rfl⟩;rw[HD.out];go_wp2;go_round
     case rel=>exact⟨k+1,c,by omega,by omega,by go_num,rfl,HS,fun j hj h=>by
      rcases Nat.lt_or_ge j k with h'|h'
      ·exact HJ.out j hj h'
      ·obtain rfl:j=k:=by omega
       exact HK.out⟩
     case measure=>simp[intOf];omega
  ·obtain rfl:k=s.size:=by omega
   have HQ:=zh (yBl (s:=s) fun j hj=>HJ.out j hj hj);rw[show s.data.toList.take s.size=s.data.toList by rw[<-HL.out];exact List.take_length] at HC;rw[<-HC.out] at HQ;clear HL HC HJ
   by_cases h0:0<s.size
   ·by_cases h20:s.size<=20
    ·rw[decide_eq_true h0,decide_eq_true h20] at HQ;go_wp2;go_ret;exact⟨zA1 (by rw[HQ.out];simp;omega),rfl⟩
    ·rw[decide_eq_true h0,decide_eq_false h20] at HQ;go_wp2;go_ret;exact⟨zA1 (by rw[HQ.out];rfl),rfl⟩
   ·rw[decide_eq_false h0] at HQ;go_wp2;go_ret;exact⟨zA1 (by rw[HQ.out];rfl),rfl⟩
theorem zQh:(⟨#[40,41,91,93,123,125,124,60,62,47,46]⟩:ByteArray).toList=zIo:=by rw[ByteArray.toList_eq];rfl
theorem tl (s:ByteArray):s.toList=s.data.toList:=ByteArray.toList_eq s
theorem zUd (k:Int)(s:ByteArray)(cols:Int)(A:Option Addr)(n cap:Nat)(w:World)(hs:s.size<=9223372036854775807):Calls Tryz.prog 91 #[.agg #[qI k,.string s,qI cols,.slice A n cap]] w fun e w'=>e= .returned (.bool (zE3 k s.data.toList))/\Below w.heap.size w w':=by
 have HL:=zh (show s.data.toList.length=s.size by simp)
 by_cases h2:k=2
 ·subst h2;have HQ:=zh (show zE3 2 s.data.toList=symB s.toList by unfold zE3;rw[if_pos rfl,tl]);go_enter Tryz.func91,Tryz.ntmps91;go_wp2_with fail;refine(zGb s _ hs).mono ?_;rintro e w1 ⟨rfl,hb⟩;have HB:=zh ((zA0 w _).trans (hb.mono (by simp)));clear hb;go_wp2;go_ret;exact⟨zA1 HQ.out.symm,HB.out⟩
 have q2:(k==2)=false:=beq_eq_false_iff_ne.2 h2
 by_cases h3:k=3
 ·subst h3;clear h2 q2;have HQ:=zh (show zE3 3 s.data.toList=numR s.data.toList by rw[zRa];rfl);go_enter Tryz.func91,Tryz.ntmps91;go_wp2_with fail;refine(zQn s _ hs).mono ?_;rintro e w1 ⟨rfl,rfl⟩;go_wp2;go_ret;exact⟨zA1 HQ.out.symm,zA0 _ _⟩
 have q3:(k==3)=false:=beq_eq_false_iff_ne.2 h3
 by_cases h4:k=4
 ·subst h4;clear h2 q2 h3 q3;have HQ:=zh (show zE3 4 s.data.toList=(decide (s.size<=200)&&zKu s.toList) by rw[<-HL.out,tl];rfl)
  by_cases h200:s.size<=200
  ·rw[decide_eq_true h200,Bool.true_and] at HQ;go_enter Tryz.func91,Tryz.ntmps91;go_wp2_with fail;refine(zW1 s _ hs).mono ?_;rintro e w1 ⟨rfl,rfl⟩;go_wp2;go_ret;exact⟨zA1 HQ.out.symm,zA0 _ _⟩
  ·rw[decide_eq_false h200,Bool.false_and] at HQ;go_enter Tryz.func91,Tryz.ntmps91;go_wp2;go_ret;exact⟨zA1 HQ.out.symm,zA0 _ _⟩
 have q4:(k==4)=false:=beq_eq_false_iff_ne.2 h4
 by_cases h10:k=10
 ·subst h10;clear h2 q2 h3 q3 h4 q4;have HQ:=zh (show zE3 10 s.data.toList=inB (acS.map (·.toList)) s.toList by rw[zRn,tl];rfl);go_enter Tryz.func91,Tryz.ntmps91;go_wp2_with fail;have K0:=zh (Blk.new w 25 #[qI 10,.string s,qI cols,.slice A n cap]);have H0:=zh (zA0 w (.cells #[qI 10,.string s,qI cols,.slice A n cap] 25));generalize w.alloc (.cells #[qI 10,.string s,qI cols,.slice A n cap] 25)=wz at*;have d1:=K0.out.drew.cell 1;have HN:Hid (acS.length=6):=rfl
  go_region_with (first
   |(go_at_call 121;refine(zIn _).mono ?_;rintro e w1 ⟨rfl,hS,hb⟩;have HS:=zh hS;have HB:=zh ((zA3 H0.out).trans (hb.mono H0.out.size));have e1:=(keep hb K0.out.drew).cell 1;clear hS hb)
   |(go_at_call 120;rw[<-HN.out];refine(zP7 _ 6 acS s _ HS.out (by decide)).mono ?_;rintro e w2 ⟨rfl,rfl⟩))
  all_goals
   go_wp2;go_ret;exact⟨zA1 HQ.out.symm,HB.out⟩
 have q10:(k==10)=false:=beq_eq_false_iff_ne.2 h10
 by_cases h11:k=11
 ·subst h11;clear h2 q2 h3 q3 h4 q4 h10 q10;have HQ:=zh (show zE3 11 s.data.toList=zPl s.data.toList from rfl)
  by_cases hz:s.size=2
  ·obtain⟨a,b,rfl⟩:=two_bytes s hz;clear hz HL hs;rw[zQw] at HQ;have HA:=zh (fun w1=>zM8 ⟨#[40,41,91,93,123,125,124,60,62,47,46]⟩ a w1 (by decide));have HB:=zh (fun w1=>zM8 ⟨#[40,41,91,93,123,125,124,60,62,47,46]⟩ b w1 (by decide));rw[zQh] at HA HB;go_enter Tryz.func91,Tryz.ntmps91;go_wp2_with fail;refine(HA.out _).mono ?_;rintro e w1 ⟨rfl,rfl⟩;cases ha:hasB zIo a
   ·rw[ha] at HQ;clear ha;go_wp2;go_ret;exact⟨zA1 HQ.out.symm,zA0 _ _⟩
   ·rw[ha] at HQ;clear ha;go_wp2_with fail;refine(HB.out _).mono ?_;rintro e w1 ⟨rfl,rfl⟩;go_wp2;go_ret;exact⟨zA1 (by rw[HQ.out,Bool.true_and]),zA0 _ _⟩
  ·rw[zWa hz] at HQ;have hq:((s.size:Int)==2)=false:=by rw[beq_eq_false_iff_ne];omega
   clear hz;go_enter Tryz.func91,Tryz.ntmps91;go_wp2;go_ret;exact⟨zA1 HQ.out.symm,zA0 _ _⟩
 have q11:(k==11)=false:=beq_eq_false_iff_ne.2 h11;have HQ:=zh (show zE3 k s.data.toList=s.toList.isEmpty by unfold zE3;rw[if_neg h2,if_neg h3,if_neg h4,if_neg h10,if_neg h11,tl]);clear h2 h3 h4 h10 h11;go_enter Tryz.func91,Tryz.ntmps91;go_wp2;go_ret;exact⟨zA1 HQ.out.symm,zA0 _ _⟩
theorem zXf (k:Int)(s:ByteArray)(c:Int)(A:Option Addr)(n cap:Nat)(w:World)(hn:n<=9223372036854775807):Calls Tryz.prog 92 #[.agg #[qI k,.string s,qI c,.slice A n cap]] w fun e w'=>e= .returned (.bool (zBu k c n))/\Below w.heap.size w w':=by
 by_cases h12:k=12
 ·subst h12;have HQ:=zh (show zBu 12 c n=(decide (1<=c/\c<=16)&&(decide (1<=n/\n<=256)&&decide ((n:Int)%c=0))) from rfl)
  by_cases c1:1<=c
  ·by_cases c2:c<=16
   ·rw[decide_eq_true ⟨c1,c2⟩,Bool.true_and] at HQ
    by_cases n1:1<=n
    ·by_cases n2:n<=256
     ·rw[decide_eq_true ⟨n1,n2⟩,Bool.true_and] at HQ;go_enter Tryz.func92,Tryz.ntmps92;go_wp2;go_ret;exact⟨zA1 (by rw[HQ.out];first|rfl|(simp;done)),zA0 _ _⟩
     ·rw[decide_eq_false (p:=1<=n/\n<=256) (by omega),Bool.false_and] at HQ;go_enter Tryz.func92,Tryz.ntmps92;go_wp2;go_ret;exact⟨zA1 (by rw[HQ.out]),zA0 _ _⟩
    ·rw[decide_eq_false (p:=1<=n/\n<=256) (by omega),Bool.false_and] at HQ;go_enter Tryz.func92,Tryz.ntmps92;go_wp2;go_ret;exact⟨zA1 (by rw[HQ.out]),zA0 _ _⟩
   ·rw[decide_eq_false (p:=1<=c/\c<=16) (by omega),Bool.false_and] at HQ;go_enter Tryz.func92,Tryz.ntmps92;go_wp2;go_ret;exact⟨zA1 (by rw[HQ.out]),zA0 _ _⟩
  ·rw[decide_eq_false (p:=1<=c/\c<=16) (by omega),Bool.false_and] at HQ;go_enter Tryz.func92,Tryz.ntmps92;go_wp2;go_ret;exact⟨zA1 (by rw[HQ.out]),zA0 _ _⟩
 have q12:(k==12)=false:=beq_eq_false_iff_ne.2 h12
 by_cases hc:c=0
 ·subst hc;have HQ:=zh (show zBu k 0 n=(if k=1 then decide (n<=200) else if k=2\/k=3\/k=4 then decide (n=0) else if k=5\/k=6\/k=7\/k=8 then decide (n=2) else if k=9 then decide (n=3) else if k=10\/k=11 then decide (n=1) else false) by unfold zBu;rw[if_neg h12,decide_eq_true rfl,Bool.true_and])
  by_cases h1:k=1
  ·subst h1;go_enter Tryz.func92,Tryz.ntmps92;go_wp2;go_ret;exact⟨zA1 (by rw[HQ.out,Bool.eq_iff_iff];simp;try omega),zA0 _ _⟩
  have q1:(k==1)=false:=beq_eq_false_iff_ne.2 h1
  by_cases h2:k=2
  ·subst h2;go_enter Tryz.func92,Tryz.ntmps92;go_wp2;go_ret;exact⟨zA1 (by rw[HQ.out,Bool.eq_iff_iff];simp;try omega),zA0 _ _⟩
  have q2:(k==2)=false:=beq_eq_false_iff_ne.2 h2
  by_cases h3:k=3
  ·subst h3;go_enter Tryz.func92,Tryz.ntmps92;go_wp2;go_ret;exact⟨zA1 (by rw[HQ.out,Bool.eq_iff_iff];simp;try omega),zA0 _ _⟩
  have q3:(k==3)=false:=beq_eq_false_iff_ne.2 h3
  by_cases h4:k=4
  ·subst h4;go_enter Tryz.func92,Tryz.ntmps92;go_wp2;go_ret;exact⟨zA1 (by rw[HQ.out,Bool.eq_iff_iff];simp;try omega),zA0 _ _⟩
  have q4:(k==4)=false:=beq_eq_false_iff_ne.2 h4
  by_cases h5:k=5
  ·subst h5;go_enter Tryz.func92,Tryz.ntmps92;go_wp2;go_ret;exact⟨zA1 (by rw[HQ.out,Bool.eq_iff_iff];simp;try omega),zA0 _ _⟩
  have q5:(k==5)=false:=beq_eq_false_iff_ne.2 h5
  by_cases h6:k=6
  ·subst h6;go_enter Tryz.func92,Tryz.ntmps92;go_wp2;go_ret;exact⟨zA1 (by rw[HQ.out,Bool.eq_iff_iff];simp;try omega),zA0 _ _⟩
  have q6:(k==6)=false:=beq_eq_false_iff_ne.2 h6
  by_cases h7:k=7
  ·subst h7;go_enter Tryz.func92,Tryz.ntmps92;go_wp2;go_ret;exact⟨zA1 (by rw[HQ.out,Bool.eq_iff_iff];simp;try omega),zA0 _ _⟩
  have q7:(k==7)=false:=beq_eq_false_iff_ne.2 h7
  by_cases h8:k=8
  ·subst h8;go_enter Tryz.func92,Tryz.ntmps92;go_wp2;go_ret;exact⟨zA1 (by rw[HQ.out,Bool.eq_iff_iff];simp;try omega),zA0 _ _⟩
  have q8:(k==8)=false:=beq_eq_false_iff_ne.2 h8
  by_cases h9:k=9
  ·subst h9;go_enter Tryz.func92,Tryz.ntmps92;go_wp2;go_ret;exact⟨zA1 (by rw[HQ.out,Bool.eq_iff_iff];simp;try omega),zA0 _ _⟩
  have q9:(k==9)=false:=beq_eq_false_iff_ne.2 h9
  by_cases h10:k=10
  ·subst h10;go_enter Tryz.func92,Tryz.ntmps92;go_wp2;go_ret;exact⟨zA1 (by rw[HQ.out,Bool.eq_iff_iff];simp;try omega),zA0 _ _⟩
  have q10:(k==10)=false:=beq_eq_false_iff_ne.2 h10
  by_cases h11:k=11
  ·subst h11;go_enter Tryz.func92,Tryz.ntmps92;go_wp2;go_ret;exact⟨zA1 (by rw[HQ.out,Bool.eq_iff_iff];simp;try omega),zA0 _ _⟩
  have q11:(k==11)=false:=beq_eq_false_iff_ne.2 h11;rw[if_neg h1,if_neg (by omega),if_neg (by omega),if_neg h9,if_neg (by omega)] at HQ;clear h1 h2 h3 h4 h5 h6 h7 h8 h9 h10 h11 h12;go_enter Tryz.func92,Tryz.ntmps92;go_wp2;go_ret;exact⟨zA1 (by rw[HQ.out]),zA0 _ _⟩
 ·have HQ:=zh (show zBu k c n=false by unfold zBu;rw[if_neg h12,decide_eq_false hc,Bool.false_and]);have qc:(c==0)=false:=beq_eq_false_iff_ne.2 hc;have qc2:(c !=0)=true:=by rw[bne,qc];rfl
  clear hc h12;go_enter Tryz.func92,Tryz.ntmps92;go_wp2;go_ret;exact⟨zA1 (by rw[HQ.out]),zA0 _ _⟩
abbrev nodC (k:Int)(s:ByteArray)(c:Int)(A:Option Addr)(n cap:Nat):Array Value:= #[qI k,.string s,qI c,.slice A n cap]
theorem zF4 (h:ks[k]?=some x):zA4 (ks.take (k+1))=zA4 (ks.take k)+zA7 x:=by
 rw[List.take_add_one,h,Option.toList];generalize ks.take k=l
 induction l with
 |nil=>simp[zA4]
 |cons a r ih=>rw[List.cons_append,zA4,zA4,ih];omega
theorem zPk (ks:List Tre)(k:Nat):zA4 (ks.take k)<=zA4 ks:=by
 induction ks generalizing k with
 |nil=>simp[zA4]
 |cons a r ih=>
  cases k with
  |zero=>simp[zA4]
  |succ k=>rw[List.take_succ_cons,zA4,zA4];have:=ih k;omega
theorem zQa (h:ks[k]?=some x):zC9 (ks.take (k+1))=max (zC9 (ks.take k)) (zCc x):=by
 rw[List.take_add_one,h,Option.toList];generalize ks.take k=l
 induction l with
 |nil=>simp[zC9]
 |cons a r ih=>rw[List.cons_append,zC9,zC9,ih];omega
mutual
theorem zGr:∀t:Tre,zCc t<=zA7 t
 | .mk k s c ks=>by rw[zCc,zA7];have:=zIp ks;omega
theorem zIp:∀ts:List Tre,zC9 ts<=zA4 ts
 |[]=>by rw[zC9,zA4];omega
 |t::ts=>by rw[zC9,zA4];have:=zGr t;have:=zIp ts;omega
end
theorem zSa (h:ks[k]?=some x):zC2 q (ks.take (k+1))=(zC2 q (ks.take k)&&(!zBk q x.kind&&zAt x)):=by
 rw[List.take_add_one,h,Option.toList];generalize ks.take k=l
 induction l with
 |nil=>simp[zC2]
 |cons a r ih=>rw[List.cons_append,zC2,zC2,ih];simp[Bool.and_assoc]
theorem zJp (h:zC2 q (ks.take k)=false):zC2 q ks=false:=by
 induction ks generalizing k with
 |nil=>rw[List.take_nil] at h;rw[zC2] at h;cases h
 |cons a r ih=>
  cases k with
  |zero=>rw[List.take_zero,zC2] at h;cases h
  |succ k=>
   rw[List.take_succ_cons,zC2] at h;rw[zC2];cases ha:(!zBk q a.kind)
   ·rfl
   ·cases hb:zAt a
    ·rfl
    ·rw[ha,hb,Bool.true_and,Bool.true_and] at h;rw[ih h];rfl
theorem zTg:∀(m:Nat) (t:Tre) (c:Array Value) (w:World),zA7 t<m->m<=1000000->zAv w t c->Calls Tryz.prog 55 #[.agg c] w fun e w'=>e= .returned (qI (zA7 t:Nat))/\Below w.heap.size w w':=by
 intro m
 induction m with
 |zero=>intro t c w h;omega
 |succ m ih=>
  intro t c w hm hm2 hN;have IH:=zh (fun t c w h hN=>ih t c w h (by omega) hN);clear ih;obtain⟨k,s,cols,ks⟩:=t;obtain⟨A2,cap2,rfl,hs,hl,hc,hk⟩:=hN.form;dsimp only[qC,Tre.kind,Tre.text,Tre.cols,Tre.kids] at hs hl hc hk⊢;have HK:=zh hk;have HQ:=zh (show zA7 (.mk k s cols ks)=zA4 ks+1 by rw[zA7]);rw[HQ.out] at hm;have HM:=zh hm;have hle:=zPk ks;have HLE:=zh hle;clear hk hN hle;go_enter Tryz.func55,Tryz.ntmps55;go_wp2_with fail;have K0:=zh (Blk.new w 25 (nodC k s cols A2 ks.length cap2));have H0:=zh (zA0 w (.cells (nodC k s cols A2 ks.length cap2) 25));have HK:=zh (HK.out.keep H0.out);dsimp only[nodC] at K0 H0 HK;generalize w.alloc (.cells #[qI k,.string s,qI cols,.slice A2 ks.length cap2] 25)=w1 at*
  go_loopw [3,4] (fun v i wr=>∃(j x:Nat),j<=ks.length/\i=qI j/\v=qI x/\x<=1000000/\Hid (x=zA4 (ks.take j)+1)/\Hid (Blk wr w.heap.size 25 (nodC k s cols A2 ks.length cap2))/\Hid (zAo wr A2 ks)/\Hid (Below w.heap.size w wr)) (fun _ i _=>ks.length -(intOf i).toNat)
  case atStart=>exact⟨0,1,by omega,rfl,rfl,by omega,rfl,K0,HK,H0⟩
  case round=>
   clear K0 HK H0;obtain⟨j,x,hj,rfl,rfl,hx0,HX,K0,HK,H0⟩:=hrel;have c0:=K0.out.cell 3;dsimp only[nodC] at c0
   by_cases hlt:j<ks.length
   ·obtain⟨y,hy⟩:∃y,ks[j]?=some y:=⟨_,gE hlt⟩
    obtain⟨ad,A3,cap3,rfl,hadl,hs3,hl3,hc3,hk3,hN3,d0,d1,d2,d3⟩:=HK.out.at_ hy;have HN3:=zh hN3;have hcy:=zDe hy;have hsn:=zF4 hy;have hle:=HLE.out (j+1);have HS:=zh (show x+zA7 y=zA4 (ks.take (j+1))+1 by rw[hsn,HX.out];omega);have hb1:x+zA7 y<=1000000:=by rw[HS.out];omega
    have HCU:Hid (zA7 y<m):=by show _<_;omega
    clear hy hk3 hN3 hsn hle hcy;generalize hcy:zA7 y=u at*;have HCY:=zh hcy;clear hcy;go_wp2_with fail;refine(IH.out y _ wr (by rw[HCY.out];exact HCU.out) HN3.out).mono ?_;rw[HCY.out];rintro e w2 ⟨rfl,hb⟩;have K0:=kp hb K0;have HK:=zh (HK.out.keep hb);have H0:=jt H0 hb;clear hb c0 d0 d1 d2 d3;go_wp2;go_roundw
    case rel=>exact⟨j+1,x+u,by omega,by go_num,by go_num,by omega,HS,K0,HK,H0⟩
    case measure=>simp[intOf];omega
   ·obtain rfl:j=ks.length:=by omega
    rw[List.take_length] at HX;go_wp2;go_ret;exact⟨zAj (by rw[HQ.out,<-HX.out]),H0.out⟩
theorem zTc:∀(m:Nat) (t:Tre) (c:Array Value) (w:World),zA7 t<m->m<=1000000->zAv w t c->Calls Tryz.prog 56 #[.agg c] w fun e w'=>e= .returned (qI (zCc t:Nat))/\Below w.heap.size w w':=by
 intro m
 induction m with
 |zero=>intro t c w h;omega
 |succ m ih=>
  intro t c w hm hm2 hN;have IH:=zh (fun t c w h hN=>ih t c w h (by omega) hN);clear ih;obtain⟨k,s,cols,ks⟩:=t;obtain⟨A2,cap2,rfl,hs,hl,hc,hk⟩:=hN.form;dsimp only[qC,Tre.kind,Tre.text,Tre.cols,Tre.kids] at hs hl hc hk⊢;have HK:=zh hk;have HQ:=zh (show zCc (.mk k s cols ks)=zC9 ks+1 by rw[zCc]);rw[zA7] at hm;have HM:=zh hm;clear hk hN;go_enter Tryz.func56,Tryz.ntmps56;go_wp2_with fail;have K0:=zh (Blk.new w 25 (nodC k s cols A2 ks.length cap2));have H0:=zh (zA0 w (.cells (nodC k s cols A2 ks.length cap2) 25));have HK:=zh (HK.out.keep H0.out);dsimp only[nodC] at K0 H0 HK;generalize w.alloc (.cells #[qI k,.string s,qI cols,.slice A2 ks.length cap2] 25)=w1 at*
  go_loopw [3,4] (fun v i wr=>∃(j x:Nat),j<=ks.length/\i=qI j/\v=qI x/\x<=1000000/\Hid (x=zC9 (ks.take j))/\Hid (Blk wr w.heap.size 25 (nodC k s cols A2 ks.length cap2))/\Hid (zAo wr A2 ks)/\Hid (Below w.heap.size w wr)) (fun _ i _=>ks.length -(intOf i).toNat)
  case atStart=>exact⟨0,0,by omega,rfl,rfl,by omega,rfl,K0,HK,H0⟩
  case round=>
   clear K0 HK H0;obtain⟨j,x,hj,rfl,rfl,hx0,HX,K0,HK,H0⟩:=hrel;have c0:=K0.out.cell 3;dsimp only[nodC] at c0
   by_cases hlt:j<ks.length
   ·obtain⟨y,hy⟩:∃y,ks[j]?=some y:=⟨_,gE hlt⟩
    obtain⟨ad,A3,cap3,rfl,hadl,hs3,hl3,hc3,hk3,hN3,d0,d1,d2,d3⟩:=HK.out.at_ hy;have HN3:=zh hN3;have hcy:=zDe hy;have hsn:=zQa hy;have hdc:=zGr y;have HS:=zh (show max x (zCc y)=zC9 (ks.take (j+1)) by rw[hsn,HX.out]);have hb1:zCc y<=1000000:=by omega
    have HCU:Hid (zA7 y<m):=by show _<_;omega
    clear hy hk3 hN3 hsn hcy hdc;generalize hcy:zCc y=u at*;have HCY:=zh hcy;clear hcy;go_wp2_with fail;refine(IH.out y _ wr HCU.out HN3.out).mono ?_;rw[HCY.out];rintro e w2 ⟨rfl,hb⟩;have K0:=kp hb K0;have HK:=zh (HK.out.keep hb);have H0:=jt H0 hb;clear hb c0 d0 d1 d2 d3;have hmx:max (x:Int) (u:Int)=((max x u:Nat):Int):=by omega
    have hmx2:(if(x:Int)<u then(u:Int) else x)=((max x u:Nat):Int):=by split<;>omega
    go_wp2_with fail
    all_goals
     go_roundw
     case rel=>exact⟨j+1,max x u,by omega,by go_num,(by first|rfl|(congr 1;omega)),by omega,HS,K0,HK,H0⟩
     case measure=>simp[intOf];omega
   ·obtain rfl:j=ks.length:=by omega
    rw[List.take_length] at HX;go_wp2;go_ret;exact⟨zAj (by rw[HQ.out,<-HX.out];rfl),H0.out⟩
structure zBm (w:World)(p:Addr)(t:Tre)(A:Option Addr)(cap:Nat):Prop where
 lt:p.block<w.heap.size
 kind:w.cell? p=some (qI t.kind)
 text:w.cell? ⟨p.block,p.off+1,none⟩=some (.string t.text)
 cols:w.cell? ⟨p.block,p.off+2,none⟩=some (qI t.cols)
 kids:w.cell? ⟨p.block,p.off+3,none⟩=some (.slice A t.kids.length cap)
 size:t.text.size<=9223372036854775807
 len:t.kids.length<=cap
 capl:cap<=9223372036854775807
 down:zAo w A t.kids
theorem zBm.keep {w w':World}{p:Addr}{t:Tre}{A:Option Addr}{cap:Nat}(h:zBm w p t A cap)(hb:Below w.heap.size w w'):zBm w' p t A cap:=
 ⟨ll h.lt hb.size,(hb.cell h.lt).trans h.kind,(hb.cell (p:=⟨p.block,p.off+1,none⟩) h.lt).trans h.text,(hb.cell (p:=⟨p.block,p.off+2,none⟩) h.lt).trans h.cols,(hb.cell (p:=⟨p.block,p.off+3,none⟩) h.lt).trans h.kids,h.size,h.len,h.capl,h.down.keep hb⟩
theorem zBm.drew {w:World}{p:Addr}{t:Tre}{A:Option Addr}{cap:Nat}(h:zBm w p t A cap):zBm w.drew p t A cap:=h.keep (zA3 (Below.refl _ _))
theorem zAo.ptr (h:zAo w A ts)(hi:ts[i]?=some t):∃ad A2 cap2,A=some ad/\zBm w (ad.add (i*4)) t A2 cap2:=by
 obtain⟨ad,A2,cap2,h1,h2,h3,h4,h5,h6,h7,d0,d1,d2,d3⟩:=h.at_ hi;exact⟨ad,A2,cap2,h1,⟨by rw[zDo];exact h2,d0,d1,d2,d3,h3,h4,h5,h6⟩⟩
end Go.Proofs.YtapgncbegadbnaaGreatDoor.At
