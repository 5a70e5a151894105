/- The tokens of items, by the program. -/
import Derived.Test.YtchllommcolijaaGreatDoorH0f5d51e8
namespace Go.Proofs.YtchllommcolijaaGreatDoor.El
open At Ch Sp Sy Go.RowKit
theorem zLp {w:World}{n:Tre}{c:Array Value}(h:zBd w n c):(unsc n).text.size≤9223372036854775807:=by
 obtain⟨A2,cap2,rfl,hsz,_,_,hk⟩:=h.form;unfold unsc
 split
 ·split
  ·next b ks hks=>
   split
   ·next x hx=>
    obtain⟨_,A3,_,_,_,_,_,_,hk3,_⟩:=hk.at_ (i:=0) (t:=b) (by rw[hks];rfl);obtain⟨_,_,_,_,_,hxz,_⟩:=hk3.at_ (i:=0) (t:=x) (by rw[hx];rfl);exact hxz
   ·exact hsz
  ·exact hsz
 ·exact hsz
def tokS (rs:List Rul)(n:Tre):ByteArray:=if zD3 rs n=true then(unsc n).text else zGh
def rolB (rs:List Rul)(n:Tre):Bool:=zD3 rs n|| !(decide (n.kind=2))||idB n.text.data.toList
theorem zKu (rs:List Rul)(n:Tre):tokN rs n=if rolB rs n=true then some (tokS rs n) else none:=by
 unfold tokN tokS rolB;cases zD3 rs n
 ·by_cases h:n.kind=2
  ·cases idB n.text.data.toList<;>simp[h]
  ·simp[h]
 ·simp
theorem zJh (rs:List Rul):∀(a b:List Tre),zB5 rs (a++b)=match zB5 rs a with
  | .inl ts=>(match zB5 rs b with
   | .inl us=>.inl (ts++us)
   | .inr i=>.inr (a.length+i))
  | .inr i=>.inr i
 |[],b=>by
  simp only[List.nil_append,zB5,List.length_nil,Nat.zero_add];cases zB5 rs b<;>rfl
 |x::a,b=>by
  simp only[List.cons_append,zB5];cases tokN rs x with
  |none=>rfl
  |some t=>
   dsimp only;rw[zJh rs a b];cases zB5 rs a with
   |inr i=>rfl
   |inl ts=>
    dsimp only;cases zB5 rs b with
    |inl us=>rfl
    |inr i=>simp only[List.length_cons];congr 1;omega
theorem zF8 {rs:List Rul}{l:List Tre}{k:Nat}{x:Tre}{ts:List ByteArray}(hx:l[k]?=some x)(h:zB5 rs (l.take k)= .inl ts)(hr:rolB rs x=true):zB5 rs (l.take (k+1))= .inl (ts++[tokS rs x]):=by
 rw[List.take_add_one,hx,Option.toList_some,zJh,h];simp only[zB5,zKu,if_pos hr]
theorem zKq {rs:List Rul}{l:List Tre}{k:Nat}{x:Tre}{ts:List ByteArray}(hx:l[k]?=some x)(h:zB5 rs (l.take k)= .inl ts)(hr:rolB rs x=false):zB5 rs l= .inr k:=by
 obtain⟨hk,hx'⟩:=List.getElem?_eq_some_iff.1 hx;have e:l=l.take k++x::l.drop (k+1):=by rw[←hx',←List.drop_eq_getElem_cons hk,List.take_append_drop]
 have hkl:(l.take k).length=k:=by rw[List.length_take];omega
 have:=zJh rs (l.take k) (x::l.drop (k+1));rw[←e,h] at this;rw[this];simp only[zB5,zKu,hr,Bool.false_eq_true,if_false,hkl,Nat.add_zero]
theorem zDt {rs:List Rul}:∀{l:List Tre} {ts:List ByteArray},zB5 rs l= .inl ts→ts.length=l.length
 |[],ts,h=>by simp only[zB5,Sum.inl.injEq] at h;rw[←h];rfl
 |x::l,ts,h=>by
  simp only[zB5] at h;cases ht:tokN rs x with
  |none=>rw[ht] at h;cases h
  |some t=>
   rw[ht] at h;dsimp only at h;cases hl:zB5 rs l with
   |inr i=>rw[hl] at h;cases h
   |inl us=>
    rw[hl] at h;simp only[Sum.inl.injEq] at h;rw[←h,List.length_cons,List.length_cons,zDt hl]
set_option maxRecDepth 100000 in
set_option maxHeartbeats 1600000 in
theorem zUc (g:Nat)(A:Option Addr)(cap:Nat)(rs:List Rul)(n:Tre)(c:Array Value)(w:World)(hR:zG4 w g A cap rs)(hN:zBd w n c)(hne:scrB n.kind=true→n.kids≠[]):Calls Tryz.prog 49 #[.pointer (some ⟨g,0,none⟩),.agg c] w fun e w'=>e= .returned (.tuple #[.string (tokS rs n),.bool (rolB rs n)])∧Below w.heap.size w w':=by
 obtain⟨A2,cap2,rfl,hsz,hl,hc,hk⟩:=hN.form;have hb0:=zA1 w (.cells #[.int .i64 n.kind,.string n.text,.int .i64 n.cols,.slice A2 n.kids.length cap2] 25);have HB:=zh hb0;have K1:=zh (Blk.new w 25 #[.int .i64 n.kind,.string n.text,.int .i64 n.cols,.slice A2 n.kids.length cap2]);have HR:=zh (hR.keep hb0);have HN:=zh (hN.keep hb0);have HNE:=zh hne;have HTZ:=zh hsz;clear hR hN hk hne hb0;go_enter Tryz.func49,Tryz.ntmps49;go_upto_region 1 with(fail)
 generalize w.alloc (.cells #[.int .i64 n.kind,.string n.text,.int .i64 n.cols,.slice A2 n.kids.length cap2] 25)=w1 at*;have k0:=K1.out.cell 0;have k1:=K1.out.cell 1;have k2:=K1.out.cell 2;have k3:=K1.out.cell 3;go_wp2_with fail;refine(zLw g A cap rs n _ w1 HR.out HN.out HNE.out).mono ?_;rintro e w2 ⟨rfl,hb⟩;replace K1:=kp hb K1;replace HB:=jt HB hb;clear hb k0 k1 k2 k3;have k0:=K1.out.cell 0;have k1:=K1.out.cell 1;cases hop:zD3 rs n
 ·by_cases h2:n.kind=2
  ·have q:(n.kind==2)=true:=beq_iff_eq.2 h2;have q':(n.kind !=2)=false:=by rw[bne,q];rfl
   have HS:=zh (show tokS rs n=zGh by unfold tokS;rw[hop];rfl);have HO:=zh (show rolB rs n=idB n.text.data.toList by unfold rolB;rw[hop,decide_eq_true h2];rfl);clear h2 hop;go_wp2_with fail;refine(zGg n.text w2 HTZ.out).mono ?_;rintro e w3 ⟨rfl,hb⟩;replace HB:=jt HB hb;clear hb;go_wp2_with fail;exact bodyPost_ret (v:=.tuple #[.string ⟨#[35]⟩,.bool (idB n.text.toList)]) (by simp[results,Tryz.results49,go_sem]) rfl ⟨by rw[HS.out,HO.out,ByteArray.toList_eq];rfl,HB.out⟩
  ·have q:(n.kind==2)=false:=bn h2;have q':(n.kind !=2)=true:=by rw[bne,q];rfl
   have HS:=zh (show tokS rs n=zGh by unfold tokS;rw[hop];rfl);have HO:=zh (show rolB rs n=true by unfold rolB;rw[hop,decide_eq_false h2];rfl);clear h2 hop;go_wp2_with fail;exact bodyPost_ret (v:=.tuple #[.string ⟨#[35]⟩,.bool true]) (by simp[results,Tryz.results49,go_sem]) rfl ⟨by rw[HS.out,HO.out];rfl,HB.out⟩
 ·have HS:=zh (show tokS rs n=(unsc n).text by unfold tokS;rw[hop];rfl);have HO:=zh (show rolB rs n=true by unfold rolB;rw[hop];rfl);clear hop;go_wp2_with fail;exact bodyPost_ret (v:=.tuple #[.string (unsc n).text,.bool true]) (by simp[results,Tryz.results49,go_sem]) rfl ⟨by rw[HS.out,HO.out],HB.out⟩
abbrev zBl (w:World)(B:Nat)(v:Value)(ts:List ByteArray):Prop:=w.ownsRow B 9 1 v ts.length (ts.map Value.string)
theorem zBl.snoc {w:World}{B:Nat}{v:Value}{ts:List ByteArray}{t:ByteArray}{n:Nat}{xs:List Value}(hn:n=ts.length+1)(hx:xs=ts.map Value.string++[.string t])(h:w.ownsRow B 9 1 v n xs):zBl w B v (ts++[t]):=by
 unfold zBl;rw[List.length_append,List.map_append];subst hn hx;exact h
def zWc (rs:List Rul)(l:List Tre)(w:World)(e:Ending)(w':World):Prop:=(match zB5 rs l with
 | .inl ts=>∃v,e= .returned (.tuple #[v,.int .i64 0,.bool true])∧zBl w' w.heap.size v ts
 | .inr i=>e= .returned (.tuple #[.slice none 0 0,.int .i64 (i:Int),.bool false]))∧Below w.heap.size w w'
set_option maxRecDepth 100000 in
set_option maxHeartbeats 4000000 in
theorem zQq (g:Nat)(A A1:Option Addr)(cap cap1:Nat)(rs:List Rul)(l:List Tre)(w:World)(hR:zG4 w g A cap rs)(hN:zB0 w A1 l)(hne:∀n∈l,scrB n.kind=true→n.kids≠[])(hn:l.length≤1000000):Calls Tryz.prog 26 #[.pointer (some ⟨g,0,none⟩),.slice A1 l.length cap1] w (zWc rs l w):=by
 obtain⟨i0,hi,hz0,hz1,hz2⟩:=info_parts zI2;have HR0:=zh hR;have HN0:=zh hN;have HNE:=zh hne;clear hR hN hne;go_enter Tryz.func26,Tryz.ntmps26;go_wp2_with fail
 go_loopw [4,13] (fun v i wr=>∃(k:Nat) (ts:List ByteArray),k≤l.length∧i= .int .i64 k∧Hid (zB5 rs (l.take k)= .inl ts)∧Hid (zBl wr w.heap.size v ts)∧Hid (Below w.heap.size w wr)) (fun _ i _=>l.length -(intOf i).toNat)
 case atStart=>exact⟨0,[],by omega,rfl,zh rfl,zh (World.ownsRow_nil _ _ _ _),zh (Below.refl _ _)⟩
 case round=>
  obtain⟨k,ts,hk,rfl,HT,HO,HB⟩:=hrel
  by_cases hlt:k<l.length
  ·obtain⟨x,hx⟩:∃x,l[k]?=some x:=⟨_,gE hlt⟩
   obtain⟨ad,A3,cap3,rfl,hadl,hsz,hl3,hc3,hk3,hn3,d0,d1,d2,d3⟩:=(HN0.out.keep HB.out).at_ hx;have HX:=zh hx;have HNX:=zh hn3;have HNEX:=zh (HNE.out x (List.mem_of_getElem? hx));have HLEN:=zh (show ts.length=k by have:=zDt HT.out;rw[List.length_take] at this;omega);have hba:=zA1 wr (.cells #[.int .i64 x.kind,.string x.text,.int .i64 x.cols,.slice A3 x.kids.length cap3] 25);clear hx hn3 hk3;go_upto_region 4 with(fail)
   have HBW:=jt HB hba;have HO1:=zh (show zBl _ w.heap.size u4 ts from World.ownsRow.alloc HO.out (.cells #[.int .i64 x.kind,.string x.text,.int .i64 x.cols,.slice A3 x.kids.length cap3] 25));have K1:=zh (Blk.new wr 25 #[.int .i64 x.kind,.string x.text,.int .i64 x.cols,.slice A3 x.kids.length cap3]);replace HNX:=zh (HNX.out.keep hba);have HR:=zh (HR0.out.keep HBW.out);clear hba HO HB d0 d1 d2 d3 hadl;generalize wr.alloc (.cells #[.int .i64 x.kind,.string x.text,.int .i64 x.cols,.slice A3 x.kids.length cap3] 25)=w1 at*;have k0:=K1.out.cell 0;have k1:=K1.out.cell 1;have k2:=K1.out.cell 2;have k3:=K1.out.cell 3;go_wp2_with fail;refine(zUc g A cap rs x _ w1 HR.out HNX.out HNEX.out).mono ?_;rintro e w2 ⟨rfl,hb⟩;obtain⟨cs2,HO2⟩:∃_:Unit,Hid (zBl w2 w.heap.size u4 ts):=⟨(),zh (World.ownsRow.kept (row:=none) HO1.out ⟨hb.os,hb.tape,hb.output,hb.size,fun i hi _=>hb.block i hi⟩ (by cases u4.ownBlock<;>simp))⟩
   have HB:=jt HBW hb;have HFIT:=zh (show(tokS rs x).size≤9223372036854775807 by
    unfold tokS
    split
    ·exact zLp HNX.out
    ·decide)
   clear hb k0 k1 k2 k3 K1 HNX HO1 HBW;cases hr:rolB rs x
   ·have HS:=zh (zKq HX.out HT.out hr);clear hr;go_wp2_with fail;exact bodyPost_ret (v:=.tuple #[.slice none 0 0,.int .i64 (k:Int),.bool false]) (by simp[results,Tryz.results26,go_sem]) rfl ⟨by rw[HS.out],HB.out⟩
   ·have HS:=zh (zF8 HX.out HT.out hr);clear hr;generalize tokS rs x=tx at*;obtain⟨A2,cap2,rfl,hcl2,hcap2,_⟩:∃A2 cap2,u4= .slice A2 ts.length cap2∧ts.length≤cap2∧cap2≤9223372036854775807∧True:=by
     obtain⟨h1,h2⟩:=HO2.out;rcases h2 with⟨rfl,h0⟩|⟨gq,cap,cur,rfl,hg,hb,hn,hc,hs,ht⟩
     ·exact⟨none,0,by rw[h0],by omega,by omega,trivial⟩
     ·exact⟨_,cap,rfl,by omega,by unfold maxLen at*;omega,trivial⟩
    have hown:=World.ownsRow.alloc HO2.out (.cells #[.string tx] 9);have HBL:=zh (World.ownsRow.lt HO2.out);have HSZ:=zh HB.out.size;go_wp2_with (at_builtin;refine wpList_append_own _ rfl (.tmp 27) (.tmp 29) 74 rfl w.heap.size 9 i0 (.string ⟨#[]⟩) 1 16 Tryz.underlying74 hi hz0 hz1 hz2 rfl (by decide) _ _ _ rfl hown ⟨w2.heap.size,0,none⟩ 1 1 [.string tx] rfl rfl (Ch.zD2 _ _ _) ?c2a ?c3a ?c4a ?c5a ?_)
    case c2a=>intro u hu;simp at hu;subst hu;rfl
    case c3a=>have:=HLEN.out;unfold maxLen;omega
    case c4a=>have:=HLEN.out;omega
    case c5a=>have:=HSZ.out;simp;omega
    intro v' w3 hown' hgrow _;have NB:=zh ((HB.out.alloc HB.out.size (.cells #[.string tx] 9)).grown hgrow (by have:=HSZ.out;simp;omega) (fun k hk=>(HBL.out k hk).1));have NO:=zh (zBl.snoc rfl rfl hown');clear hown hown' hgrow HO2 HB;go_wp2_with fail;go_roundw
    case rel=>exact⟨k+1,ts++[tx],by omega,by go_num,HS,NO,NB⟩
    case measure=>simp[intOf];omega
  ·obtain rfl:k=l.length:=by omega
   have HT:=zh (show zB5 rs l= .inl ts by have:=HT.out;rwa [List.take_length] at this);go_wp2_with fail;exact bodyPost_ret (v:=.tuple #[u4,.int .i64 0,.bool true]) (by simp[results,Tryz.results26,go_sem]) rfl ⟨by rw[HT.out];exact⟨_,rfl,HO.out⟩,HB.out⟩
end Go.Proofs.YtchllommcolijaaGreatDoor.El
