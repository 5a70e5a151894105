/- The first readings of an application, appended to those of the same rule. -/
import Derived.Test.YtapgncbegadbnaaGreatDoorHbb0327ee
set_option maxRecDepth 100000
set_option maxHeartbeats 4000000
namespace Go.Proofs.YtapgncbegadbnaaGreatDoor.Ch
open Go.RowKit
variable{w w' wr w2:World}{g i j k B:Nat}{rs:List Rul}{ts:List ByteArray}{xs l m:List Rd}{p r a:Int}{x z:Rd}{t:TypeId}{cs:Array Value}{bs:List Nat}{v' l':Value}{A:Option Addr}
abbrev App.c (a:App):Array Value:= #[qI a.rule,qI a.frm,qI a.left,qI a.right,qI a.to,qI a.kids]
theorem zO7 (F:Fin)(rs:List Rul)(ts:List ByteArray)(jx:Int)(a:App)(w:World)(hF:zIu w F rs ts)(ha:a.rule<rs.length):Calls Tryz.prog 132 #[.agg (F.c rs.length ts.length jx),.agg a.c] w fun e w'=>e= .returned (.tuple #[qI (lowR rs a.rule),qI (zFt rs a.rule)])/\Below w.heap.size w w':=by
 obtain⟨x,hx⟩:∃x,rs[a.rule]?=some x:=⟨_,gE ha⟩
 have HL:=zh (zJz hx);have HH:=zh (zMh hx);obtain⟨R,cR,T,cT,I,cI,P,cP,Q,cQ⟩:=F;obtain⟨r,frm,left,right,t2,kids⟩:=a;dsimp only at ha hx HL HH⊢;have hR:=hF.rules;dsimp only at hR;clear hF;have hb1:=zA0 w (.cells #[.slice R rs.length cR,.slice T ts.length cT,.slice I ts.length cI,.slice P ts.length cP,.slice Q ts.length cQ,qI jx] 140);have hb2:=hb1.alloc hb1.size (.cells #[qI r,qI frm,qI left,qI right,qI t2,qI kids] 172);obtain⟨_,ad,rfl,hadl,c0,c1,c2,c3,c4,c5⟩:=(hR.keep hb2).at_ hx;have HB:=zh hb2;clear hb1 hb2 hx hR;cases hk:(x.kind==2)
 ·rw[if_neg (by rw[beq_eq_false_iff_ne] at hk;exact hk)] at HL HH;go_enter Tryz.func132,Tryz.ntmps132;go_wp2_with fail
  go_quiet (fail)
  go_wp2_with fail
  go_ret2
  exact⟨by rw[HL.out,HH.out];rfl,below_drewN (HB.out.alloc HB.out.size _) _⟩
 ·rw[if_pos (by simpa using hk)] at HL HH;go_enter Tryz.func132,Tryz.ntmps132;go_wp2_with fail
  go_ret2
  exact⟨by rw[HL.out,HH.out];rfl,HB.out.alloc HB.out.size _⟩
structure TabAt (w:World)(g:Nat)(F:Fin)(rs:List Rul)(ts:List ByteArray)(gc:Nat)(rows:Nat->Nat)(fill:Nat->Nat->Bool):Prop where
 blk:Blk w g 144 #[.slice F.R rs.length F.cR,.slice F.T ts.length F.cT,.slice F.I ts.length F.cI,.slice F.P ts.length F.cP,.slice F.Q ts.length F.cQ,qI (zAf rs 4 []),.slice (some ⟨gc,0,none⟩) ts.length ts.length]
 fin:zIu w F rs ts
 outer:∃cs,Blk w gc 145 cs/\∀i,i<ts.length->cs[i]?=some (.slice (some ⟨rows i,0,none⟩) (ts.length+1) (ts.length+1))
 row:∀i,i<ts.length->∃cs,Blk w (rows i) 113 cs/\cs.size=ts.length+1/\∀j,fill i j=true->∃A cap bs,cs[j]?=some (.slice A bs.length cap)/\bs.length<=cap/\cap<=9223372036854775807/\zF0 w A bs/\Shs rs w bs (zGc rs ts i j)
theorem TabAt.keep {w w':World}{g:Nat}{F:Fin}{rs:List Rul}{ts:List ByteArray}{gc:Nat}{rows:Nat->Nat}{fill:Nat->Nat->Bool}(h:TabAt w g F rs ts gc rows fill)(hb:Below w.heap.size w w'):TabAt w' g F rs ts gc rows fill:=by
 obtain⟨h1,h2,⟨cs,h3,h4⟩,h5⟩:=h;refine⟨_root_.Go.Proofs.YtapgncbegadbnaaGreatDoor.keep hb h1,h2.keep hb,⟨cs,_root_.Go.Proofs.YtapgncbegadbnaaGreatDoor.keep hb h3,h4⟩,fun i hi=>?_⟩;obtain⟨cs,h6,h7,h8⟩:=h5 i hi;refine⟨cs,_root_.Go.Proofs.YtapgncbegadbnaaGreatDoor.keep hb h6,h7,fun j hj=>?_⟩;obtain⟨A,cap,bs,h9,ha,hb',hc,hd⟩:=h8 j hj;exact⟨A,cap,bs,h9,ha,hb',hc.keep hb,hd.keep hb⟩
theorem TabAt.drew {w:World}{g:Nat}{F:Fin}{rs:List Rul}{ts:List ByteArray}{gc:Nat}{rows:Nat->Nat}{fill:Nat->Nat->Bool}(h:TabAt w g F rs ts gc rows fill):TabAt w.drew g F rs ts gc rows fill:=h.keep (zA3 (Below.refl _ _))
theorem TabAt.at_ {F:Fin}{gc:Nat}{rows:Nat->Nat}{fill:Nat->Nat->Bool}(h:TabAt w g F rs ts gc rows fill)(hi:i<ts.length)(hf:fill i j=true):
  w.cell? ⟨g,6,none⟩=some (.slice (some ⟨gc,0,none⟩) ts.length ts.length)/\w.cell? ⟨gc,i,none⟩=some (.slice (some ⟨rows i,0,none⟩) (ts.length+1) (ts.length+1))/\∃A cap bs,w.cell? ⟨rows i,j,none⟩=some (.slice A bs.length cap)/\bs.length<=cap/\cap<=9223372036854775807/\zF0 w A bs/\Shs rs w bs (zGc rs ts i j):=by
 obtain⟨h1,_,⟨cs,h3,h4⟩,h5⟩:=h;obtain⟨cs',h6,_,h8⟩:=h5 i hi;obtain⟨A,cap,bs,h9,ha,hb,hc,hd⟩:=h8 j hf;exact⟨(h1.cell 6).trans rfl,(h3.cell i).trans (h4 i hi),A,cap,bs,(h6.cell j).trans h9,ha,hb,hc,hd⟩
def yAh (rs:List Rul)(xs:List Rd)(w:World)(e:Ending)(w':World):Prop:=∃v bs,e= .returned v/\OwnP w' w.heap.size v bs/\Shs rs w' bs xs/\Below w.heap.size w w'
theorem zPt :zA5 rs xs p=zA5 rs (xs.take k) p++zA5 rs (xs.drop k) p:=by rw[<-zCg,List.take_append_drop]
theorem zTq (hij:i<j)(h:(zA5 rs ((zGc rs ts i j).take k) p).length=2):zCj rs ts i j p=zA5 rs ((zGc rs ts i j).take k) p:=by
 unfold zCj;rw[<-zRw hij,zPt (k:=k),List.take_append,h,List.take_of_length_le (by omega)];simp
theorem zW7 (hij:i<j)(h:(zA5 rs (zGc rs ts i j) p).length<2):zCj rs ts i j p=zA5 rs (zGc rs ts i j) p:=by
 unfold zCj;rw[<-zRw hij,List.take_of_length_le (by omega)]
theorem zSy (hx:xs[k]?=some x):zA5 rs (xs.take (k+1)) p=zA5 rs (xs.take k) p++(if p<=zBn rs x.rule then[x] else[]):=by
 rw[List.take_add_one,hx,zCg]
 congr 1
 show zA5 rs [x] p=_;unfold zA5
 by_cases h:p<=zBn rs x.rule
 ·rw[if_pos h,List.filter_cons,if_pos (decide_eq_true h)];rfl
 ·rw[if_neg h,List.filter_cons,if_neg (by simpa using h)];rfl
theorem zHe (g:Nat)(F:Fin)(rs:List Rul)(ts:List ByteArray)(gc:Nat)(rows:Nat->Nat)(fill:Nat->Nat->Bool)(i j:Nat)(p:Int)(w:World)(hT:TabAt w g F rs ts gc rows fill)(hij:i<j)(hj:j<=ts.length)(hf:fill i j=true)(hn:rs.length<=1000000):Calls Tryz.prog 50 #[ptrV g,qI i,qI j,qI p] w (yAh rs (zCj rs ts i j p) w):=by
 obtain⟨i0,hi,hz0,hz1,hz2⟩:=info_parts zJ2;obtain⟨c6,ci,A,cap,bs,cj,hbc,hcc,hP,hS⟩:=hT.at_ (show i<ts.length by omega) hf;have HP:=zh hP;have HS:=zh hS;have HLN:=zh hS.1;have HST:=zh (fun k=>zTq (rs:=rs) (ts:=ts) (k:=k) (p:=p) hij);have HEN:=zh (zW7 (rs:=rs) (ts:=ts) (p:=p) hij);have hci:(i:Int)<(ts.length:Int):=by omega
 have hcj:(j:Int)<(ts.length:Int)+1:=by omega
 have hbl:bs.length<=3000000:=by
  rw[hS.1];unfold zGc;have h1:(zD0 ts i j).length<=1:=by unfold zD0;split<;>simp
  have h2:=zJn (f:=fun n=>(zB7 rs ts (allR rs ts) i j n).take 2) (b:=2) (l:=List.range rs.length) fun n _=>by simp;omega
  rw[List.length_range] at h2;rw[List.length_append];omega
 clear hP hS hT hf;generalize zGc rs ts i j=xs at*;go_enter Tryz.func50,Tryz.ntmps50;go_wp2_with fail;clear c6 ci cj hci hcj
 go_loopw [9,23] (fun v n wr=>∃(k:Nat) (cs:List Nat),k<=bs.length/\n=qI k/\Hid (OwnP wr w.heap.size v cs)/\Hid (Shs rs wr cs (zA5 rs (xs.take k) p))/\(cs.length=0\/cs.length=1)/\Hid (Below w.heap.size w wr)) (fun _ n _=>bs.length -(intOf n).toNat)
 case atStart=>exact⟨0,[],by omega,rfl,OwnP.nil _ _,Shs.nil,.inl rfl,Below.refl _ _⟩
 case round=>
  obtain⟨k,cs,hk,rfl,HO,HC,hcl,HB⟩:=hrel
  by_cases hlt:k<bs.length
  ·obtain⟨b,hb⟩:∃b,bs[k]?=some b:=⟨_,gE hlt⟩
   obtain⟨x,hx⟩:∃x,xs[k]?=some x:=⟨_,gE (by rw[<-HLN.out];exact hlt)⟩
   obtain⟨ga,rfl,_,c0⟩:=(HP.out.keep HB.out) k b hb;have HX:=zh (((HS.out.keep HB.out).2 k b x hb hx));obtain⟨k0,k1,hK⟩:=HX.out.blk;have c2:wr.cell? ⟨b,2,none⟩=some (qI (zBn rs x.rule)):=hK.cell 2;have HSN:=zh (zSy (rs:=rs) (p:=p) hx);clear hb hx hK
   by_cases hp:p<=zBn rs x.rule
   ·have HS2:=zh (show zA5 rs (xs.take (k+1)) p=zA5 rs (xs.take k) p++[x] by rw[HSN.out,if_pos hp]);obtain⟨A5,cap5,rfl,hcl5,hcap5,_⟩:=HO.out.form;have hown:=(show wr.ownsRow w.heap.size 115 1 (.slice A5 cs.length cap5) cs.length (cs.map ptrV) from HO.out).alloc (.cells #[ptrV b] 115);have HBL:=zh (World.ownsRow.lt (show wr.ownsRow w.heap.size 115 1 (.slice A5 cs.length cap5) cs.length (cs.map ptrV) from HO.out));have HSZ:=zh HB.out.size;generalize zBn rs x.rule=q at*;go_wp2_with (at_builtin;refine wpList_append_own_at _ rfl (.tmp 33) (.tmp 35) 113 rfl w.heap.size 115 i0 (.pointer none) 1 8 Tryz.underlying113 hi hz0 hz1 hz2 rfl (by decide) _ _ _ rfl hown ⟨wr.heap.size,0,none⟩ 1 1 [ptrV b] rfl rfl (zDd _ _ _) ?c2a ?c3a ?c4a ?c5a ?_)
    case c2a=>intro u hu;simp at hu;subst hu;rfl
    case c3a=>unfold maxLen;omega
    case c4a=>omega
    case c5a=>have:=HSZ.out;simp;omega
    intro v' w4 hown' hgrow _ hloc;have NB:=zh ((HB.out.alloc HB.out.size (.cells #[ptrV b] 115)).grown hgrow (by have:=HSZ.out;simp;omega) (fun k hk=>(HBL.out k hk).1));have NO:=zh (zHt rfl hown');have hrow:∀r,(Value.slice A5 cs.length cap5).ownBlock=some r->∃t cs',Blk (wr.alloc (.cells #[ptrV b] 115)) r t cs'/\t≠149:=by
     intro r hr;rcases hown.2 with⟨h1,_⟩|⟨g',cap',cur,h1,_,h2,_⟩
     ·rw[h1] at hr;cases hr
     ·rw[h1] at hr;obtain rfl:g'=r:=sj hr;exact⟨_,_,h2,by decide⟩
    have NC:=zh ((Shs.snoc (HC.out.keep (zA0 _ (.cells #[ptrV b] 115))) (HX.out.keep (zA0 _ (.cells #[ptrV b] 115)))).map fun g cs' hb=>hb.grown hgrow fun e=>by
     obtain⟨t,cs2,h1,h2⟩:=hrow g e.symm;exact h2 (zD6 h1 hb))
    rw[<-HS2.out] at NC;clear hown hown' hgrow hloc hrow HO HB HC HBL c0 c2;have hle:(cs++[b]).length=cs.length+1:=by simp
    obtain⟨A6,cap6,rfl,_,_,_⟩:=NO.out.form;have HL2:=zh NC.out.1;rcases hcl with h0|h1
    ·have hL1:(cs++[b]).length=1:=by rw[hle,h0]
     rw[hL1] at NO⊢;clear hle;go_wp2;go_roundw
     case rel=>exact⟨k+1,cs++[b],by omega,by go_num,NO,NC,.inr hL1,NB⟩
     case measure=>simp[intOf];omega
    ·have hL1:(cs++[b]).length=2:=by rw[hle,h1]
     have HF2:=zh (HST.out (k+1) (by rw[<-NC.out.1,hL1]));rw[hL1] at NO⊢;clear hle hL1;go_wp2;go_ret;exact⟨_,_,rfl,NO.out,by rw[HF2.out];exact NC.out,NB.out⟩
   ·have HS2:=zh (show zA5 rs (xs.take (k+1)) p=zA5 rs (xs.take k) p by rw[HSN.out,if_neg hp,List.append_nil]);have q0:¬p<=zBn rs x.rule:=hp;rw[<-HS2.out] at HC;generalize zBn rs x.rule=q at*;go_wp2;go_roundw
    case rel=>exact⟨k+1,cs,by omega,by go_num,HO,HC,hcl,HB⟩
    case measure=>simp[intOf];omega
  ·obtain rfl:k=bs.length:=by omega
   rw[HLN.out,List.take_length] at HC;have HF2:=zh (HEN.out (by rw[<-HC.out.1];omega));go_wp2;go_ret;exact⟨_,_,rfl,HO.out,by rw[HF2.out];exact HC.out,HB.out⟩
def yAj (fid:FuncId)(caps:Array Value)(rs:List Rul)(ts:List ByteArray)(i j:Nat)(Inv:List App->World->Prop):Prop:=
 ∀(l:List App) (a:App) (m:List App) (w:World),zE1 rs ts i j=l++a::m->Inv l w->Calls Tryz.prog fid (#[.agg a.c]++caps) w fun e w'=>e= .returned undef/\Inv (l++[a]) w'/\∀g cs,Blk w g 140 cs->Blk w' g 140 cs
def preB (rs:List Rul)(ts:List ByteArray)(i j:Nat):Bool:=(zCa rs 2 (tokL ts i)).isSome&&decide (i+1<j)
def zKv (rs:List Rul)(ts:List ByteArray)(i j:Nat):Bool:=(zCa rs 3 (tokL ts (j -1))).isSome&&decide (i+1<j)
def inB_ (rs:List Rul)(ts:List ByteArray)(j k:Nat):Bool:=(zCa rs 1 (tokL ts k)).isSome&&decide (k+1<j)
theorem zEx {kind:Int}{s:List UInt8}{r:Nat}(h:zCa rs kind s=some r):zAf rs kind s=r:=by unfold zAf;rw[h]
theorem zL4 {kind:Int}{s:List UInt8}(h:zCa rs kind s=none):zAf rs kind s= -1:=by unfold zAf;rw[h]
theorem yBa (h:preB rs ts i j=true):∃r:Nat,zAf rs 2 (tokL ts i)=r/\preA rs ts i j=[⟨r,i+1,j,0,0,1⟩]/\r<rs.length:=by
 unfold preB at h;rw[Bool.and_eq_true] at h;obtain⟨r,hr⟩:=Option.isSome_iff_exists.1 h.1;refine⟨r,zEx hr,?_,?_⟩
 ·unfold preA;rw[hr];exact if_pos (of_decide_eq_true h.2)
 ·obtain⟨x,hx,_⟩:=zCk hr;exact(List.getElem?_eq_some_iff.1 hx).1
theorem yD0 (h:preB rs ts i j=false):preA rs ts i j=[]:=by
 unfold preB at h;unfold preA;cases hr:zCa rs 2 (tokL ts i) with
 |none=>rfl
 |some r=>
  rw[hr] at h;exact if_neg (of_decide_eq_false (by simpa using h))
theorem zYq (h:zKv rs ts i j=true):∃r:Nat,zAf rs 3 (tokL ts (j -1))=r/\zGd rs ts i j=[⟨r,i,j -1,0,0,1⟩]/\r<rs.length:=by
 unfold zKv at h;rw[Bool.and_eq_true] at h;obtain⟨r,hr⟩:=Option.isSome_iff_exists.1 h.1;refine⟨r,zEx hr,?_,?_⟩
 ·unfold zGd;rw[hr];exact if_pos (of_decide_eq_true h.2)
 ·obtain⟨x,hx,_⟩:=zCk hr;exact(List.getElem?_eq_some_iff.1 hx).1
theorem yBc (h:zKv rs ts i j=false):zGd rs ts i j=[]:=by
 unfold zKv at h;unfold zGd;cases hr:zCa rs 3 (tokL ts (j -1)) with
 |none=>rfl
 |some r=>
  rw[hr] at h;exact if_neg (of_decide_eq_false (by simpa using h))
theorem yD6 (h:inB_ rs ts j k=true):∃r:Nat,zAf rs 1 (tokL ts k)=r/\inA rs ts i j k=[⟨r,i,k,k+1,j,2⟩]/\r<rs.length:=by
 unfold inB_ at h;rw[Bool.and_eq_true] at h;obtain⟨r,hr⟩:=Option.isSome_iff_exists.1 h.1;refine⟨r,zEx hr,?_,?_⟩
 ·unfold inA;rw[hr];exact if_pos (of_decide_eq_true h.2)
 ·obtain⟨x,hx,_⟩:=zCk hr;exact(List.getElem?_eq_some_iff.1 hx).1
theorem yDe (h:inB_ rs ts j k=false):inA rs ts i j k=[]:=by
 unfold inB_ at h;unfold inA;cases hr:zCa rs 1 (tokL ts k) with
 |none=>rfl
 |some r=>
  rw[hr] at h;exact if_neg (of_decide_eq_false (by simpa using h))
theorem zKf {kind:Int}{s:List UInt8}:decide (0<=zAf rs kind s)=(zCa rs kind s).isSome:=by
 cases h:zCa rs kind s with
 |none=>rw[zL4 h];rfl
 |some r=>rw[zEx h];exact decide_eq_true (by omega)
def midL (rs:List Rul)(ts:List ByteArray)(i j k:Nat):List App:=preA rs ts i j++zGd rs ts i j++(List.range' (i+1) (k -(i+1))).flatMap (midA rs ts i j)
theorem zNj (h:i<k):midL rs ts i j (k+1)=midL rs ts i j k++(inA rs ts i j k++juxA rs i j k):=by
 unfold midL;rw[show k+1 -(i+1)=(k -(i+1))+1 by omega,List.range'_concat,List.flatMap_append,List.append_assoc (preA rs ts i j++zGd rs ts i j)]
 congr 1
 rw[show i+1+1*(k -(i+1))=k by omega];simp[midA]
theorem zV5 (h:i<k)(hk:k<j):zE1 rs ts i j=midL rs ts i j k++(inA rs ts i j k++juxA rs i j k)++(List.range' (k+1) (j -(k+1))).flatMap (midA rs ts i j):=by
 rw[<-zNj h];unfold zE1 midL;rw[List.append_assoc (preA rs ts i j++zGd rs ts i j),<-List.flatMap_append,show k+1 -(i+1)=k -i by omega]
 congr 2
 rw[show List.range' (k+1) (j -(k+1))=List.range' (i+1+1*(k -i)) (j -(k+1)) by rw[show i+1+1*(k -i)=k+1 by omega],List.range'_append]
 congr 1
 omega
theorem zXt (fid:FuncId)(caps:Array Value)(F:Fin)(rs:List Rul)(ts:List ByteArray)(i j:Nat)(Inv:List App->World->Prop)(w:World)(hij:i<j)(hj:j<=ts.length)(hm:ts.length<=1000000)
  (hF:∀l w,Inv l w->zIu w F rs ts) (hK:∀l w w',Inv l w->Below w.heap.size w w'->Inv l w') (hV:yAj fid caps rs ts i j Inv) (h0:Inv [] w) (hcf:∀args w,Sem.run Tryz.prog (callFunc fid args) w= .ok (.enter fid args) w):
  Calls Tryz.prog 110 #[.agg (F.c rs.length ts.length (zAf rs 4 [])),qI i,qI j,.func (.func fid) #[] caps] w fun e w'=>e= .returned undef/\Inv (zE1 rs ts i j) w':=by
 obtain⟨R,cR,T,cT,I,cI,P,cP,Q,cQ⟩:=F;have HV:=zh hV;have HK:=zh hK;have HF:=zh hF;have HI:=zh (hK _ _ _ h0 (zA0 w (.cells #[.slice R rs.length cR,.slice T ts.length cT,.slice I ts.length cI,.slice P ts.length cP,.slice Q ts.length cQ,qI (zAf rs 4 [])] 140)));have K0:=zh (Blk.new w 140 #[.slice R rs.length cR,.slice T ts.length cT,.slice I ts.length cI,.slice P ts.length cP,.slice Q ts.length cQ,qI (zAf rs 4 [])]);clear hV hK hF h0;have hF0:=HF.out _ _ HI.out;obtain⟨gp,hp,cp⟩:=hF0.pre.num (zHk (rs:=rs) (kind:=2) (show i<ts.length by omega));obtain⟨gq,hq,cq⟩:=hF0.post.num (zHk (rs:=rs) (kind:=3) (show j -1<ts.length by omega));obtain⟨gi,hi,_⟩:=hF0.inf.num (zHk (rs:=rs) (kind:=1) (show i<ts.length by omega));dsimp only at hp hq hi;subst hp hq hi;clear hF0 cq;have HP:=zh (zKf (rs:=rs) (kind:=2) (s:=tokL ts i));have hil:(i:Int)<(ts.length:Int):=by omega
 go_enter Tryz.func110,Tryz.ntmps110;go_upto_region 2 with(fail)
 generalize w.alloc (.cells _ 140)=w1 at*
 go_cut [24] (fun b wc=>b= .bool (preB rs ts i j)/\wc=w1)
 case first=>
  cases hs:(zCa rs 2 (tokL ts i)).isSome
  ·have q0:=HP.out.trans hs;have HB:=zh (show preB rs ts i j=false by unfold preB;rw[hs];rfl);clear hs cp;generalize zAf rs 2 (tokL ts i)=x at*;go_wp2;go_meet;exact⟨by rw[HB.out],rfl⟩
  ·have q0:=HP.out.trans hs;have HB:=zh (show preB rs ts i j=decide (i+1<j) by unfold preB;rw[hs];rfl);clear hs cp;generalize zAf rs 2 (tokL ts i)=x at*;have HD:=zh (show decide ((i:Int)+1<(j:Int))=decide (i+1<j) from decide_eq_decide.2 (by omega));go_wp2;go_meet;exact⟨by rw[HB.out,<-HD.out],rfl⟩
 case rest=>
  obtain⟨rfl,hw⟩:=hcut;subst hw;go_upto_if 24 with(fail)
  go_cut [8] (fun _ wc=>Hid (Inv (preA rs ts i j) wc)/\Hid (Blk wc w.heap.size 140 #[.slice R rs.length cR,.slice T ts.length cT,.slice (some ⟨gi,0,none⟩) ts.length cI,.slice (some ⟨gp,0,none⟩) ts.length cP,.slice (some ⟨gq,0,none⟩) ts.length cQ,qI (zAf rs 4 [])]))
  case first=>
   cases hb:preB rs ts i j
   ·have HN:=zh (yD0 hb);clear hb;go_wp2;go_meet;exact⟨by rw[HN.out];exact HI,K0⟩
   ·obtain⟨r,hr,hA,hrl⟩:=yBa hb;have HN:=zh hA;clear hb hA;rw[hr];clear hr cp;go_wp2_with fail;have h:=HV.out [] ⟨r,i+1,j,0,0,1⟩ (zGd rs ts i j++(List.range' (i+1) (j -(i+1))).flatMap (midA rs ts i j)) wc (by unfold zE1;rw[HN.out,List.append_assoc];rfl) HI.out;refine h.mono ?_;clear h;rintro e w2 ⟨rfl,hi2,hk2⟩;have HI:=zh hi2;have K0:=zh (hk2 _ _ K0.out);clear hi2 hk2;go_wp2;go_meet;exact⟨by rw[HN.out];exact HI,K0⟩
  case rest=>
   clear HI K0 cp HP;obtain⟨HI,K0⟩:=hcut;have hF0:=HF.out _ _ HI.out;obtain⟨gq',hq,cq⟩:=hF0.post.num (zHk (rs:=rs) (kind:=3) (show j -1<ts.length by omega));obtain rfl:gq=gq':=by simpa using hq
   clear hF0 hq;have HP:=zh (zKf (rs:=rs) (kind:=3) (s:=tokL ts (j -1)));have hj1:((j -1:Nat):Int)=(j:Int) -1:=by omega
   have hj2:(0:Int)<=(j:Int) -1:=by omega
   have hj3:(j:Int) -1<(ts.length:Int):=by omega
   have hj4:((j:Int) -1).toNat=j -1:=by omega
   have c4:=K0.out.cell 4;go_upto_region 5 with(fail)
   clear c4;generalize hw2:wc=w2 at*;clear hw2 hj1 hj2 hj3 hj4
   go_cut [45] (fun b wc=>b= .bool (zKv rs ts i j)/\wc=w2)
   case first=>
    cases hs:(zCa rs 3 (tokL ts (j -1))).isSome
    ·have q0:=HP.out.trans hs;have HB:=zh (show zKv rs ts i j=false by unfold zKv;rw[hs];rfl);clear hs cq;generalize zAf rs 3 (tokL ts (j -1))=x at*;go_wp2;go_meet;exact⟨by rw[HB.out],rfl⟩
    ·have q0:=HP.out.trans hs;have HB:=zh (show zKv rs ts i j=decide (i+1<j) by unfold zKv;rw[hs];rfl);clear hs cq;generalize zAf rs 3 (tokL ts (j -1))=x at*;have HD:=zh (show decide ((i:Int)<(j:Int) -1)=decide (i+1<j) from decide_eq_decide.2 (by omega));go_wp2;go_meet;exact⟨by rw[HB.out,<-HD.out],rfl⟩
   case rest=>
    obtain⟨rfl,hw⟩:=hcut;subst hw;go_upto_if 45 with(fail)
    go_cut [9] (fun _ wc=>Hid (Inv (preA rs ts i j++zGd rs ts i j) wc)/\Hid (Blk wc w.heap.size 140 #[.slice R rs.length cR,.slice T ts.length cT,.slice (some ⟨gi,0,none⟩) ts.length cI,.slice (some ⟨gp,0,none⟩) ts.length cP,.slice (some ⟨gq,0,none⟩) ts.length cQ,qI (zAf rs 4 [])]))
    case first=>
     cases hb:zKv rs ts i j
     ·have HN:=zh (yBc hb);clear hb;go_wp2;go_meet;exact⟨by rw[HN.out,List.append_nil];exact HI,K0⟩
     ·obtain⟨r,hr,hA,hrl⟩:=zYq hb;have HN:=zh hA;clear hb hA;rw[hr];clear hr cq;go_wp2_with fail;have h:=HV.out (preA rs ts i j) ⟨r,i,j -1,0,0,1⟩ ((List.range' (i+1) (j -(i+1))).flatMap (midA rs ts i j)) wc (by unfold zE1;rw[HN.out,List.append_assoc];rfl) HI.out;rw[show App.c ⟨r,i,j -1,0,0,1⟩= #[qI r,qI i,qI ((j:Int) -1),qI 0,qI 0,qI 1] by show #[_,_,Value.int .i64 ((j -1:Nat):Int),_,_,_]=_;rw[show((j -1:Nat):Int)=(j:Int) -1 by omega];rfl] at h;refine h.mono ?_;clear h;rintro e w3 ⟨rfl,hi2,hk2⟩;have HI:=zh hi2;have K0:=zh (hk2 _ _ K0.out);clear hi2 hk2;go_wp2;go_meet;exact⟨by rw[HN.out];exact HI,K0⟩
    case rest=>
     clear HI K0 cq HP;obtain⟨HI,K0⟩:=hcut;have HI:Hid (Inv (midL rs ts i j (i+1)) wc):=by
      rw[show midL rs ts i j (i+1)=preA rs ts i j++zGd rs ts i j by unfold midL;rw[Nat.sub_self];exact List.append_nil _];exact HI
     go_wp2_with fail
     go_loopw [10] (fun k wr=>∃n:Nat,i<n/\n<=j/\k=qI n/\Hid (Inv (midL rs ts i j n) wr)/\Hid (Blk wr w.heap.size 140 #[.slice R rs.length cR,.slice T ts.length cT,.slice (some ⟨gi,0,none⟩) ts.length cI,.slice (some ⟨gp,0,none⟩) ts.length cP,.slice (some ⟨gq,0,none⟩) ts.length cQ,qI (zAf rs 4 [])])) (fun k _=>j -(intOf k).toNat)
     case atStart=>exact⟨i+1,by omega,by omega,by go_num,HI,K0⟩
     case round=>
      clear HI K0;obtain⟨k,hik,hkj,rfl,HI,K0⟩:=hrel
      by_cases hlt:k<j
      ·have HR:=zh (zV5 (rs:=rs) (ts:=ts) hik hlt);have HSC:=zh (zNj (rs:=rs) (ts:=ts) (j:=j) hik);have hF0:=HF.out _ _ HI.out;obtain⟨gi',hi,ci⟩:=hF0.inf.num (zHk (rs:=rs) (kind:=1) (show k<ts.length by omega));obtain rfl:gi=gi':=by simpa using hi
       clear hF0 hi;have HP:=zh (zKf (rs:=rs) (kind:=1) (s:=tokL ts k));have c2:=K0.out.cell 2;have hkn:(k:Int)<(ts.length:Int):=by omega
       go_upto_region 11 with(fail)
       clear c2 hkn
       go_cut [72] (fun b wc=>b= .bool (inB_ rs ts j k)/\wc=wr)
       case first=>
        cases hs:(zCa rs 1 (tokL ts k)).isSome
        ·have q0:=HP.out.trans hs;have HB:=zh (show inB_ rs ts j k=false by unfold inB_;rw[hs];rfl);clear hs ci;generalize zAf rs 1 (tokL ts k)=x at*;go_wp2;go_meet;exact⟨by rw[HB.out],rfl⟩
        ·have q0:=HP.out.trans hs;have HB:=zh (show inB_ rs ts j k=decide (k+1<j) by unfold inB_;rw[hs];rfl);clear hs ci;generalize zAf rs 1 (tokL ts k)=x at*;have HD:=zh (show decide ((k:Int)<(j:Int) -1)=decide (k+1<j) from decide_eq_decide.2 (by omega));go_wp2;go_meet;exact⟨by rw[HB.out,<-HD.out],rfl⟩
       case rest=>
        obtain⟨rfl,hw⟩:=hcut;subst hw;go_upto_if 72 with(fail)
        go_cut [11] (fun _ wc=>Hid (Inv (midL rs ts i j k++inA rs ts i j k) wc)/\Hid (Blk wc w.heap.size 140 #[.slice R rs.length cR,.slice T ts.length cT,.slice (some ⟨gi,0,none⟩) ts.length cI,.slice (some ⟨gp,0,none⟩) ts.length cP,.slice (some ⟨gq,0,none⟩) ts.length cQ,qI (zAf rs 4 [])]))
        case first=>
         cases hb:inB_ rs ts j k
         ·have HN:=zh (yDe (i:=i) hb);clear hb;go_wp2;go_meet;exact⟨by rw[HN.out,List.append_nil];exact HI,K0⟩
         ·obtain⟨r,hr,hA,hrl⟩:=yD6 (i:=i) hb;have HN:=zh hA;clear hb hA;rw[hr];clear hr ci;go_wp2_with fail;have h:=HV.out (midL rs ts i j k) ⟨r,i,k,k+1,j,2⟩ (juxA rs i j k++(List.range' (k+1) (j -(k+1))).flatMap (midA rs ts i j)) wc (by rw[HR.out,HN.out];simp) HI.out;refine h.mono ?_;clear h;rintro e w3 ⟨rfl,hi2,hk2⟩;have HI:=zh hi2;have K0:=zh (hk2 _ _ K0.out);clear hi2 hk2;go_wp2;go_meet;exact⟨by rw[HN.out];exact HI,K0⟩
        case rest=>
         clear HI K0 ci HP;obtain⟨HI,K0⟩:=hcut;have c5:=K0.out.cell 5;cases hj4:zCa rs 4 [] with
         |none=>
          have HN:=zh (show juxA rs i j k=[] by unfold juxA;rw[hj4]);have hx:=zL4 hj4;clear hj4;rw[hx] at c5;clear hx;have NI:=zh (show Inv (midL rs ts i j (k+1)) wc by rw[HSC.out,HN.out,List.append_nil];exact HI.out);clear HI;go_wp2;go_roundw
          case rel=>exact⟨k+1,by omega,by omega,by go_num,NI,K0⟩
          case measure=>simp[intOf];omega
         |some r=>
          have HN:=zh (show juxA rs i j k=[⟨r,i,k,k,j,2⟩] by unfold juxA;rw[hj4]);have hx:=zEx hj4;clear hj4;rw[hx] at c5;clear hx;go_wp2_with fail;have h:=HV.out (midL rs ts i j k++inA rs ts i j k) ⟨r,i,k,k,j,2⟩ ((List.range' (k+1) (j -(k+1))).flatMap (midA rs ts i j)) wc (by rw[HR.out,HN.out];simp) HI.out;refine h.mono ?_;clear h c5;rintro e w3 ⟨rfl,hi2,hk2⟩;have NI:=zh (show Inv (midL rs ts i j (k+1)) w3 by rw[HSC.out,HN.out,<-List.append_assoc];exact hi2);have K0:=zh (hk2 _ _ K0.out);clear hi2 hk2 HI;go_wp2;go_roundw
          case rel=>exact⟨k+1,by omega,by omega,by go_num,NI,K0⟩
          case measure=>simp[intOf];omega
      ·obtain rfl:k=j:=by omega
       go_wp2_with fail
       go_end0
       exact⟨rfl,by rw[show zE1 rs ts i k=midL rs ts i k k from rfl];exact HI.out⟩
theorem _root_.Go.Proofs.YtapgncbegadbnaaGreatDoor.jL {x:World}(hb:Below w.heap.size w x)(h:Blk w g t cs):Blk x g t cs:=h.below hb h.lt
theorem OwnP.row {v:Value}(h:OwnP w B v bs):∀r,v.ownBlock=some r->B<=r/\r<w.heap.size/\∃cs,Blk w r 115 cs:=by
 intro r hr;refine⟨(World.ownsRow.lt h r hr).1,(World.ownsRow.lt h r hr).2,?_⟩;rcases h.2 with⟨h1,_⟩|⟨g',cap',cur,h1,_,h2,_⟩
 ·rw[h1] at hr;cases hr
 ·rw[h1] at hr;obtain rfl:g'=r:=sj hr;exact⟨_,h2⟩
theorem Shs.grow {row:Option Nat}(h:Shs rs w bs xs)(hg:w.grownBy w' row)(hr:∀r,row=some r->∃cs,Blk w r 115 cs):Shs rs w' bs xs:=
 h.map fun g cs' hb=>hb.grown hg fun e=>by
  obtain⟨cs,h1⟩:=hr g e.symm;exact absurd (zD6 h1 hb) (by decide)
theorem _root_.Go.Proofs.YtapgncbegadbnaaGreatDoor.Blk.stay {row:Option Nat}(h:Blk w g t cs)(hg:w.grownBy w' row)(hr:∀r,row=some r->∃cs,Blk w r 115 cs)(ht:t≠115):Blk w' g t cs:=
 h.grown hg fun e=>by
  obtain⟨cs,h1⟩:=hr g e.symm;exact ht (zD6 h h1)
theorem zT9 {α:Type}{L:List α}{z:α}(h:(L.take 2).length<2):(L++[z]).take 2=L.take 2++[z]:=by
 rw[List.length_take] at h;rw[List.take_append,List.take_of_length_le (l:=[z]) (by simp;omega)]
theorem zSg {α:Type}{L:List α}{z:α}(h:¬(L.take 2).length<2):(L++[z]).take 2=L.take 2:=by
 rw[List.length_take] at h;rw[List.take_append,show 2 -L.length=0 by omega,List.take_zero,List.append_nil]
structure ExtS (rs:List Rul)(w0 w:World)(l:Value)(wr:World)(l':Value)(bs:List Nat)(L:List Rd):Prop where
 own:OwnP wr w0.heap.size l' bs
 shs:Shs rs wr bs (L.take 2)
 below:Below w0.heap.size w0 wr
 grown:w.grownBy wr l.ownBlock
 loc:l'.ownBlock=l.ownBlock\/∃b,w.heap.size<=b/\l'.ownBlock=some b
section
variable {rs : List Rul} {w0 w : World} {l : Value} {wr : World} {l' : Value} {bs : List Nat} {L : List Rd}
theorem zP8 {row:Option Nat}(h:w.grownBy wr row)(hb:Below wr.heap.size wr w'):w.grownBy w' row:=
 ⟨hb.os.trans h.os,hb.tape.trans h.tape,hb.output.trans h.output,Nat.le_trans h.size hb.size,fun i hi hne=>(hb.block i (ll hi h.size)).trans (h.block i hi hne)⟩
theorem ExtS.keep {w':World}(h:ExtS rs w0 w l wr l' bs L)(hb:Below wr.heap.size wr w'):ExtS rs w0 w l w' l' bs L:=
 ⟨h.own.keep hb,h.shs.keep hb,h.below.trans (hb.mono h.below.size),zP8 h.grown hb,h.loc⟩
theorem ExtS.len (h:ExtS rs w0 w l wr l' bs L):bs.length=(L.take 2).length:=h.shs.1
theorem ExtS.push {b:Nat}(h:ExtS rs w0 w l wr l' bs L)(hlt:bs.length<2)(hz:ShAt rs wr b z)(ho:OwnP w2 w0.heap.size v' (bs++[b]))(hg:wr.grownBy w2 l'.ownBlock)(hl:v'.ownBlock=l'.ownBlock\/v'.ownBlock=some wr.heap.size):ExtS rs w0 w l w2 v' (bs++[b]) (L++[z]):=by
 have hrow:=h.own.row;refine⟨ho,?_,h.below.grown hg h.below.size (fun k hk=>(hrow k hk).1),?_,?_⟩
 ·rw[zT9 (by rw[<-h.len];exact hlt)];exact(h.shs.snoc hz).grow hg fun r hr=>(hrow r hr).2.2
 ·refine⟨hg.os.trans h.grown.os,hg.tape.trans h.grown.tape,hg.output.trans h.grown.output,Nat.le_trans h.grown.size hg.size,fun i hi hne=>(hg.block i (ll hi h.grown.size) fun e=>?_).trans (h.grown.block i hi hne)⟩;rcases h.loc with h1|⟨b',h1,h2⟩
  ·exact hne (e.trans h1)
  ·rw[h2] at e;obtain rfl:=sj e;omega
 ·rcases hl with hl|hl
  ·rw[hl];exact h.loc
  ·exact .inr ⟨_,h.grown.size,hl⟩
theorem ExtS.full (h:ExtS rs w0 w l wr l' bs L)(hge:¬bs.length<2):ExtS rs w0 w l wr l' bs (L++[z]):=
 ⟨h.own,by rw[zSg (by rw[<-h.len];exact hge)];exact h.shs,h.below,h.grown,h.loc⟩
end
def zGn (rs:List Rul)(wr:World)(A:Option Addr)(bs:List Nat)(xs:List Rd)(l':Value):Prop:=zF0 wr A bs/\Shs rs wr bs xs/\∀g:Nat,A=some ⟨g,0,none⟩->g<wr.heap.size/\l'.ownBlock≠some g
theorem zGn.keep {rs:List Rul}{wr w':World}{A:Option Addr}{bs:List Nat}{xs:List Rd}{l':Value}(h:zGn rs wr A bs xs l')(hb:Below wr.heap.size wr w'):zGn rs w' A bs xs l':=⟨h.1.keep hb,h.2.1.keep hb,fun g hg=>⟨ll (h.2.2 g hg).1 hb.size,(h.2.2 g hg).2⟩⟩
theorem zGn.push {cs:List Nat}(h:zGn rs wr A bs xs l')(ho:OwnP wr B l' cs)(hg:wr.grownBy w2 l'.ownBlock)(hl:v'.ownBlock=l'.ownBlock\/v'.ownBlock=some wr.heap.size):zGn rs w2 A bs xs v':=by
 refine⟨fun j b hj=>?_,h.2.1.grow hg fun r hr=>(ho.row r hr).2.2,fun g hA=>?_⟩
 ·obtain⟨g,h1,⟨cs',h2⟩,h3⟩:=h.1 j b hj;have hne:some g≠l'.ownBlock:=fun e=>(h.2.2 g h1).2 e.symm
  have h4:=h2.grown hg hne;refine⟨g,h1,⟨cs',h4⟩,?_⟩;rw[h4.cell,<-h2.cell];exact h3
 ·have h5:=h.2.2 g hA;refine⟨ll h5.1 hg.size,?_⟩;rcases hl with hl|hl
  ·rw[hl];exact h5.2
  ·rw[hl];intro e;have:=sj e;omega
theorem zGn.zH6 {n cap:Nat}(ho:OwnP wr B (.slice A n cap) bs)(hs:Shs rs wr bs xs)(hP:zF0 wr A bs)(hl:∀b,l'.ownBlock=some b->b<B):zGn rs wr A bs xs l':=by
 refine⟨hP,hs,fun g hA=>?_⟩;subst hA;have h:=World.ownsRow.lt ho g rfl;exact⟨h.2,fun e=>by have:=hl g e;omega⟩
def ExtP (rs:List Rul)(w0:World)(l:Value)(L:List Rd)(w:World)(e:Ending)(w':World):Prop:=∃v' bs,e= .returned v'/\ExtS rs w0 w l w' v' bs L
theorem zVr (hx:l[k]?=some x):zBe r a (l.take (k+1))=zBe r a (l.take k)++[.mk r a [x]]:=by
 unfold zBe;rw[List.take_add_one,hx,List.map_append];rfl
theorem zSj (hx:l[k]?=some x):zAm r a (l.take (k+1)) m=zAm r a (l.take k) m++m.map fun y=>.mk r a [x,y]:=by
 unfold zAm;rw[List.take_add_one,hx,List.flatMap_append];simp
theorem zWc {y:Rd}(hy:m[k]?=some y):((m.take (k+1)).map fun y=>Rd.mk r a [x,y])=((m.take k).map fun y=>Rd.mk r a [x,y])++[.mk r a [x,y]]:=by
 rw[List.take_add_one,hy,List.map_append];rfl
theorem zSi (g:Nat)(F:Fin)(rs:List Rul)(ts:List ByteArray)(gc:Nat)(rows:Nat->Nat)(fill:Nat->Nat->Bool)(r frm left right t2 at_:Nat)(l:Value)(bs:List Nat)(xs:List Rd)(w0 w:World)(hT:TabAt w0 g F rs ts gc rows fill)(hb0:Below w0.heap.size w0 w)(ho:OwnP w w0.heap.size l bs)(hs:Shs rs w bs xs)(hx:xs.length<=2)(hr:r<rs.length)(h1:frm<left)(h2:left<=ts.length)(h3:fill frm left=true)(hn:rs.length<=1000000):
  Calls Tryz.prog 112 #[ptrV g,l,qI at_,.agg #[qI r,qI frm,qI left,qI right,qI t2,qI 1]] w (ExtP rs w0 l (xs++zHb rs ts at_ ⟨r,frm,left,right,t2,1⟩) w):=by
 obtain⟨i0,hi,hz0,hz1,hz2⟩:=info_parts zJ2;obtain⟨R,cR,T,cT,I,cI,P,cP,Q,cQ⟩:=F;obtain⟨ad,rfl⟩:∃ad,R=some ad:=by
  obtain⟨_,ad,hA,_⟩:=hT.fin.rules r rs[r] (gE hr);exact⟨ad,hA⟩
 have HR:=zh hr;have hba:=zA0 w (.cells #[qI r,qI frm,qI left,qI right,qI t2,qI 1] 172);have HT0:=zh hT;have HT:=zh (hT.keep (hb0.trans (hba.mono hb0.size)));have K0:=zh (Blk.new w 172 #[qI r,qI frm,qI left,qI right,qI t2,qI 1]);have HE:=zh (show ExtS rs w0 w l (w.alloc (.cells #[qI r,qI frm,qI left,qI right,qI t2,qI 1] 172)) l bs xs from ExtS.keep ⟨ho,by rw[List.take_of_length_le hx];exact hs,hb0,World.grownBy.refl w _,.inl rfl⟩ hba);clear hT hb0 ho hs hx hba hr;go_enter Tryz.func112,Tryz.ntmps112;go_upto_region 1 with(fail)
 generalize w.alloc (.cells _ 172)=w1 at*;refine ql [qP g,qP g,qP g,.agg #[.slice (some ad) rs.length cR,.slice T ts.length cT,.slice I ts.length cI,.slice P ts.length cP,.slice Q ts.length cQ,qI (zAf rs 4 [])],.agg #[qI r,qI frm,qI left,qI right,qI t2,qI 1],.tuple #[qI (lowR rs r),qI (zFt rs r)],.tuple #[qI (lowR rs r),qI (zFt rs r)],qI (lowR rs r),qI (zFt rs r),qI (lowR rs r),qI (zFt rs r)] (qt 11 []) (fun wq=>Hid (Blk wq w.heap.size 172 #[qI r,qI frm,qI left,qI right,qI t2,qI 1])/\Hid (ExtS rs w0 w l wq l bs xs)/\TabAt wq g ⟨some ad,cR,T,cT,I,cI,P,cP,Q,cQ⟩ rs ts gc rows fill) ⟨K0.out.drew,HE.out.keep (zA3 (Below.refl _ _)),HT.out.drew⟩ ?_ ?_
 ·refine⟨jA,jB,jB,jQ fun wq hI=>fun i=>(hI.2.2.blk.cell i),jQ fun wq hI=>hI.1.out.cell,fun wq hI=>?_,jA,jB,jB,jA,jA,trivial⟩
  ·refine jc 132 (#[.agg #[.slice (some ad) rs.length cR,.slice T ts.length cT,.slice I ts.length cI,.slice P ts.length cP,.slice Q ts.length cQ,qI (zAf rs 4 [])],.agg #[qI r,qI frm,qI left,qI right,qI t2,qI 1]]) wq (by kernel_rfl) ((zO7 ⟨some ad,cR,T,cT,I,cI,P,cP,Q,cQ⟩ rs ts (zAf rs 4 []) ⟨r,frm,left,right,t2,1⟩ wq hI.2.2.fin HR.out).mono ?_);rintro e wa ⟨rfl,hb5⟩;exact⟨_,rfl,rfl,keep hb5 hI.1.out,hI.2.1.out.keep hb5,hI.2.2.keep hb5⟩
 ·intro wq hI;have K0:=hI.1;have HE:=hI.2.1;have HT:=zh hI.2.2;clear hI;generalize hlo:lowR rs r=lo at*;generalize hhi:zFt rs r=hig at*;have HLO:=zh hlo;have HHI:=zh hhi;clear hlo hhi;obtain⟨u,hu⟩:∃u,rs[r]?=some u:=⟨_,gE HR.out⟩
  have HPR:=zh (zHu hu);obtain⟨_,ad',he',hadl,_,_,_,c3,_,_⟩:=HT.out.fin.rules.at_ hu;obtain rfl:=sj he';rw[<-HPR.out] at c3;clear he' hu;have ct0:=HT.out.blk.cell 0;have ca0:=K0.out.cell 0;have hrn:=HR.out;go_upto_region 2 with(fail)
  go_quiet (fail)
  have K0:=zh (Blk.drewN K0.out nq);have HE:=zh (HE.out.keep (below_drewN (Below.refl _ _) nq));have HT:=zh (HT.out.keep (below_drewN (Below.refl _ _) nq));generalize wq.drewN nq=w2 at*;clear c3 ct0 hrn hadl ca0;have ca1:=K0.out.cell 1;have ca2:=K0.out.cell 2;go_wp2_with fail;refine(zHe g _ rs ts gc rows fill frm left lo w2 HT.out h1 h2 h3 hn).mono ?_;rintro e w3 ⟨v1,bs1,rfl,ho1,hs1,hb⟩;have HSZ:=zh (show w2.heap.size<=w3.heap.size from hb.size);obtain⟨A1,cap1,rfl,hcl1,hcap1,hp1⟩:=ho1.form;have HS1:=zh (zGn.zH6 (l':=l) ho1 hs1 hp1 (fun b hb'=>(HE.out.own.row b hb').2.1));have HL1:=zh hs1.1;have hl1:bs1.length<=2:=by rw[hs1.1];exact zKi
  have K0:=kp hb K0;have HE:=zh (HE.out.keep hb);have HT:=zh (HT.out.keep hb);clear hb ho1 hs1 hp1 ca1 ca2 HSZ;generalize hF1:zCj rs ts frm left lo=F1 at*;have HF1:=zh hF1;clear hF1;go_wp2_with fail
  go_loopw [1,43] (fun l' n wr=>∃(k:Nat) (bs':List Nat),k<=bs1.length/\n=qI k/\Hid (ExtS rs w0 w l wr l' bs' (xs++zBe r at_ (F1.take k)))/\Hid (zGn rs wr A1 bs1 F1 l')/\Hid (Blk wr w.heap.size 172 #[qI r,qI frm,qI left,qI right,qI t2,qI 1])) (fun _ n _=>bs1.length -(intOf n).toNat)
  case atStart=>exact⟨0,bs,by omega,rfl,by rw[List.take_zero,zXr,List.append_nil];exact HE,HS1,K0⟩
  case round=>
   clear HE HS1 K0 HT;obtain⟨k,bs',hk,rfl,HE,HS1,K0⟩:=hrel
   by_cases hlt:k<bs1.length
   ·obtain⟨b,hb⟩:∃b,bs1[k]?=some b:=⟨_,gE hlt⟩
    obtain⟨x,hx⟩:∃x,F1[k]?=some x:=⟨_,gE (by rw[<-HL1.out];exact hlt)⟩
    obtain⟨ga,rfl,_,c0⟩:=HS1.out.1 k b hb;have HX:=zh (HS1.out.2.1.2 k b x hb hx);have HSN:=zh (zVr (r:=r) (a:=at_) hx);clear hb hx;have ca5:=K0.out.cell 5;have ca0:=K0.out.cell 0;obtain⟨A5,cap5,rfl,hcl5,hcap5,_⟩:=HE.out.own.form
    by_cases hl2:bs'.length<2
    ·have hbx:=(zA0 wr (.cells (shC rs r at_ (ptrV b) (.pointer none)) 149)).trans ((zA0 (wr.alloc (.cells (shC rs r at_ (ptrV b) (.pointer none)) 149)) (.cells #[ptrV wr.heap.size] 115)).mono (by simp));have KS:=zh ((Blk.new wr 149 (shC rs r at_ (ptrV b) (.pointer none))).alloc (.cells #[ptrV wr.heap.size] 115));have NE:=zh (HE.out.keep hbx);have NS:=zh (HS1.out.keep hbx);have NK:=kp hbx K0;have NX:=zh (HX.out.keep hbx);have hown:World.ownsRow _ w0.heap.size 115 1 (.slice A5 bs'.length cap5) bs'.length (bs'.map ptrV):=NE.out.own;have cn:=zDd (wr.alloc (.cells (shC rs r at_ (ptrV b) (.pointer none)) 149)) [ptrV wr.heap.size] 115;rw[World.size_alloc] at cn;clear hbx HE HS1 K0 HX;go_wp2_with (at_builtin;refine wpList_append_own_at _ rfl (.tmp 53) (.tmp 62) 113 rfl w0.heap.size 115 i0 (.pointer none) 1 8 Tryz.underlying113 hi hz0 hz1 hz2 rfl (by decide) _ _ _ rfl hown ⟨wr.heap.size+1,0,none⟩ 1 1 [ptrV wr.heap.size] rfl rfl cn ?c2a ?c3a ?c4a ?c5a ?_)
     case c2a=>intro u hu;simp at hu;subst hu;rfl
     case c3a=>unfold maxLen;omega
     case c4a=>omega
     case c5a=>exact NE.out.below.size
     intro v' w4 hown' hgrow _ hloc;have M1:=zh (NE.out.push hl2 (.one _ _ _ _ _ KS.out NX.out) (zHt rfl hown') hgrow (hloc.imp id fun h=>h.trans (by simp)));have M2:=zh (NS.out.push hown hgrow (hloc.imp id fun h=>h.trans (by simp)));have M3:=zh (NK.out.stay hgrow (fun r hr=>(OwnP.row hown r hr).2.2) (by decide));rw[List.append_assoc,<-HSN.out] at M1;clear hown hown' hgrow hloc NE NS NK NX KS cn c0 ca5 ca0;go_wp2;go_roundw
     case rel=>exact⟨k+1,_,by omega,by go_num,M1,M2,M3⟩
     case measure=>simp[intOf];omega
    ·have M1:=zh (HE.out.full (z:=.mk r at_ [x]) hl2);rw[List.append_assoc,<-HSN.out] at M1;clear HE;go_wp2;go_roundw
     case rel=>exact⟨k+1,_,by omega,by go_num,M1,HS1,K0⟩
     case measure=>simp[intOf];omega
   ·obtain rfl:k=bs1.length:=by omega
    rw[HL1.out,List.take_length] at HE;have HQ:=zh (show zHb rs ts at_ ⟨r,frm,left,right,t2,1⟩=zBe r at_ F1 by rw[<-HF1.out,<-HLO.out];rfl);go_wp2;go_ret;exact⟨_,_,rfl,by rw[HQ.out];exact HE.out⟩
theorem zTt (g:Nat)(F:Fin)(rs:List Rul)(ts:List ByteArray)(gc:Nat)(rows:Nat->Nat)(fill:Nat->Nat->Bool)(r frm left right t2 at_:Nat)(l:Value)(bs:List Nat)(xs:List Rd)(w0 w:World)(hT:TabAt w0 g F rs ts gc rows fill)(hb0:Below w0.heap.size w0 w)(ho:OwnP w w0.heap.size l bs)(hs:Shs rs w bs xs)(hx:xs.length<=2)(hr:r<rs.length)(h1:frm<left)(h2:left<=ts.length)(h3:fill frm left=true)(h4:right<t2)(h5:t2<=ts.length)(h6:fill right t2=true)(hn:rs.length<=1000000):
  Calls Tryz.prog 112 #[ptrV g,l,qI at_,.agg #[qI r,qI frm,qI left,qI right,qI t2,qI 2]] w (ExtP rs w0 l (xs++zHb rs ts at_ ⟨r,frm,left,right,t2,2⟩) w):=by
 obtain⟨i0,hi,hz0,hz1,hz2⟩:=info_parts zJ2;obtain⟨R,cR,T,cT,I,cI,P,cP,Q,cQ⟩:=F;obtain⟨ad,rfl⟩:∃ad,R=some ad:=by
  obtain⟨_,ad,hA,_⟩:=hT.fin.rules r rs[r] (gE hr);exact⟨ad,hA⟩
 have HR:=zh hr;have hba:=zA0 w (.cells #[qI r,qI frm,qI left,qI right,qI t2,qI 2] 172);have HT0:=zh hT;have HT:=zh (hT.keep (hb0.trans (hba.mono hb0.size)));have K0:=zh (Blk.new w 172 #[qI r,qI frm,qI left,qI right,qI t2,qI 2]);have HE:=zh (show ExtS rs w0 w l (w.alloc (.cells #[qI r,qI frm,qI left,qI right,qI t2,qI 2] 172)) l bs xs from ExtS.keep ⟨ho,by rw[List.take_of_length_le hx];exact hs,hb0,World.grownBy.refl w _,.inl rfl⟩ hba);clear hT hb0 ho hs hx hba hr;go_enter Tryz.func112,Tryz.ntmps112;go_upto_region 1 with(fail)
 generalize w.alloc (.cells _ 172)=w1 at*;refine ql [qP g,qP g,qP g,.agg #[.slice (some ad) rs.length cR,.slice T ts.length cT,.slice I ts.length cI,.slice P ts.length cP,.slice Q ts.length cQ,qI (zAf rs 4 [])],.agg #[qI r,qI frm,qI left,qI right,qI t2,qI 2],.tuple #[qI (lowR rs r),qI (zFt rs r)],.tuple #[qI (lowR rs r),qI (zFt rs r)],qI (lowR rs r),qI (zFt rs r),qI (lowR rs r),qI (zFt rs r)] (qt 11 []) (fun wq=>Hid (Blk wq w.heap.size 172 #[qI r,qI frm,qI left,qI right,qI t2,qI 2])/\Hid (ExtS rs w0 w l wq l bs xs)/\TabAt wq g ⟨some ad,cR,T,cT,I,cI,P,cP,Q,cQ⟩ rs ts gc rows fill) ⟨K0.out.drew,HE.out.keep (zA3 (Below.refl _ _)),HT.out.drew⟩ ?_ ?_
 ·refine⟨jA,jB,jB,jQ fun wq hI=>fun i=>(hI.2.2.blk.cell i),jQ fun wq hI=>hI.1.out.cell,fun wq hI=>?_,jA,jB,jB,jA,jA,trivial⟩
  ·refine jc 132 (#[.agg #[.slice (some ad) rs.length cR,.slice T ts.length cT,.slice I ts.length cI,.slice P ts.length cP,.slice Q ts.length cQ,qI (zAf rs 4 [])],.agg #[qI r,qI frm,qI left,qI right,qI t2,qI 2]]) wq (by kernel_rfl) ((zO7 ⟨some ad,cR,T,cT,I,cI,P,cP,Q,cQ⟩ rs ts (zAf rs 4 []) ⟨r,frm,left,right,t2,2⟩ wq hI.2.2.fin HR.out).mono ?_);rintro e wa ⟨rfl,hb5⟩;exact⟨_,rfl,rfl,keep hb5 hI.1.out,hI.2.1.out.keep hb5,hI.2.2.keep hb5⟩
 ·intro wq hI;have K0:=hI.1;have HE:=hI.2.1;have HT:=zh hI.2.2;clear hI;generalize hlo:lowR rs r=lo at*;generalize hhi:zFt rs r=hig at*;have HLO:=zh hlo;have HHI:=zh hhi;clear hlo hhi;obtain⟨u,hu⟩:∃u,rs[r]?=some u:=⟨_,gE HR.out⟩
  have HPR:=zh (zHu hu);obtain⟨_,ad',he',hadl,_,_,_,c3,_,_⟩:=HT.out.fin.rules.at_ hu;obtain rfl:=sj he';rw[<-HPR.out] at c3;clear he' hu;have ct0:=HT.out.blk.cell 0;have ca0:=K0.out.cell 0;have hrn:=HR.out;go_upto_region 2 with(fail)
  go_quiet (fail)
  have K0:=zh (Blk.drewN K0.out nq);have HE:=zh (HE.out.keep (below_drewN (Below.refl _ _) nq));have HT:=zh (HT.out.keep (below_drewN (Below.refl _ _) nq));generalize wq.drewN nq=w2 at*;clear c3 ct0 hrn hadl ca0;have ca1:=K0.out.cell 1;have ca2:=K0.out.cell 2;go_wp2_with fail;refine(zHe g _ rs ts gc rows fill frm left lo w2 HT.out h1 h2 h3 hn).mono ?_;rintro e w3 ⟨v1,bs1,rfl,ho1,hs1,hb⟩;have HSZ:=zh (show w2.heap.size<=w3.heap.size from hb.size);obtain⟨A1,cap1,rfl,hcl1,hcap1,hp1⟩:=ho1.form;have HS1:=zh (zGn.zH6 (l':=l) ho1 hs1 hp1 (fun b hb'=>(HE.out.own.row b hb').2.1));have HL1:=zh hs1.1;have hl1:bs1.length<=2:=by rw[hs1.1];exact zKi
  have K0:=kp hb K0;have HE:=zh (HE.out.keep hb);have HT:=zh (HT.out.keep hb);clear hb ho1 hs1 hp1 ca1 ca2 HSZ;generalize hF1:zCj rs ts frm left lo=F1 at*;have HF1:=zh hF1;clear hF1;go_wp2_with fail;generalize hF2:zCj rs ts right t2 hig=F2;have HF2:=zh hF2;clear hF2
  go_loopw [1,43] (fun l' n wr=>∃(k:Nat) (bs':List Nat),k<=bs1.length/\n=qI k/\Hid (ExtS rs w0 w l wr l' bs' (xs++zAm r at_ (F1.take k) F2))/\Hid (zGn rs wr A1 bs1 F1 l')/\Hid (Blk wr w.heap.size 172 #[qI r,qI frm,qI left,qI right,qI t2,qI 2])) (fun _ n _=>bs1.length -(intOf n).toNat)
  case atStart=>exact⟨0,bs,by omega,rfl,by rw[List.take_zero,show zAm r at_ [] F2=[] from rfl,List.append_nil];exact HE,HS1,K0⟩
  case round=>
   clear HE HS1 K0 HT;obtain⟨k,bs',hk,rfl,HE,HS1,K0⟩:=hrel
   by_cases hlt:k<bs1.length
   ·obtain⟨b,hb⟩:∃b,bs1[k]?=some b:=⟨_,gE hlt⟩
    obtain⟨x,hx⟩:∃x,F1[k]?=some x:=⟨_,gE (by rw[<-HL1.out];exact hlt)⟩
    obtain⟨ga,rfl,_,c0⟩:=HS1.out.1 k b hb;have HB1:=zh hb;have HX1:=zh hx;have HSN:=zh (zSj (r:=r) (a:=at_) (m:=F2) hx);clear hb hx;have ca5:=K0.out.cell 5;have ca3:=K0.out.cell 3;have ca4:=K0.out.cell 4;go_wp2_with fail;refine(zHe g _ rs ts gc rows fill right t2 hig wr (HT0.out.keep HE.out.below) h4 h5 h6 hn).mono ?_;rw[HF2.out];rintro e w5 ⟨v2,bs2,rfl,ho2,hs2,hb⟩;obtain⟨A2,cap2,rfl,hcl2,hcap2,hp2⟩:=ho2.form;have HS2:=zh (zGn.zH6 ho2 hs2 hp2 (fun b hb'=>(HE.out.own.row b hb').2.1));have HL2:=zh hs2.1;have hl2:bs2.length<=2:=by rw[hs2.1,<-HF2.out];exact zKi
    have K0:=kp hb K0;have HE:=zh (HE.out.keep hb);have HS1:=zh (HS1.out.keep hb);clear hb ho2 hs2 hp2 ca5 ca3 ca4 c0;go_wp2_with fail
    go_loopw [1,72] (fun l'' n wr=>∃(m:Nat) (bs':List Nat),m<=bs2.length/\n=qI m/\Hid (ExtS rs w0 w l wr l'' bs' (xs++zAm r at_ (F1.take k) F2++(F2.take m).map fun y=>Rd.mk r at_ [x,y]))/\Hid (zGn rs wr (some ⟨ga,0,none⟩) bs1 F1 l'')/\Hid (zGn rs wr A2 bs2 F2 l'')/\Hid (Blk wr w.heap.size 172 #[qI r,qI frm,qI left,qI right,qI t2,qI 2])) (fun _ n _=>bs2.length -(intOf n).toNat)
    case atStart=>exact⟨0,bs',by omega,rfl,by rw[List.take_zero,List.map_nil,List.append_nil];exact HE,HS1,HS2,K0⟩
    case round=>
     clear HE HS1 HS2 K0;obtain⟨m,bs'',hm,rfl,HE,HS1,HS2,K0⟩:=hrel
     by_cases hlm:m<bs2.length
     ·obtain⟨c,hc⟩:∃c,bs2[m]?=some c:=⟨_,gE hlm⟩
      obtain⟨y,hy⟩:∃y,F2[m]?=some y:=⟨_,gE (by rw[<-HL2.out];exact hlm)⟩
      obtain⟨gb,rfl,_,c0⟩:=HS2.out.1 m c hc;have HY:=zh (HS2.out.2.1.2 m c y hc hy);have HX:=zh (HS1.out.2.1.2 k b x HB1.out HX1.out);have HMN:=zh (zWc (r:=r) (a:=at_) (x:=x) hy);clear hc hy;have ca0:=K0.out.cell 0;obtain⟨A5,cap5,rfl,hcl5,hcap5,_⟩:=HE.out.own.form
      by_cases hlb:bs''.length<2
      ·have hbx:=(zA0 wr (.cells (shC rs r at_ (ptrV b) (ptrV c)) 149)).trans ((zA0 (wr.alloc (.cells (shC rs r at_ (ptrV b) (ptrV c)) 149)) (.cells #[ptrV wr.heap.size] 115)).mono (by simp));have KS:=zh ((Blk.new wr 149 (shC rs r at_ (ptrV b) (ptrV c))).alloc (.cells #[ptrV wr.heap.size] 115));have NE:=zh (HE.out.keep hbx);have NS:=zh (HS1.out.keep hbx);have NS2:=zh (HS2.out.keep hbx);have NK:=kp hbx K0;have NX:=zh (HX.out.keep hbx);have NY:=zh (HY.out.keep hbx);have hown:World.ownsRow _ w0.heap.size 115 1 (.slice A5 bs''.length cap5) bs''.length (bs''.map ptrV):=NE.out.own;have cn:=zDd (wr.alloc (.cells (shC rs r at_ (ptrV b) (ptrV c)) 149)) [ptrV wr.heap.size] 115;rw[World.size_alloc] at cn;clear hbx HE HS1 HS2 K0 HX HY;go_wp2_with (at_builtin;refine wpList_append_own_at _ rfl (.tmp 79) (.tmp 89) 113 rfl w0.heap.size 115 i0 (.pointer none) 1 8 Tryz.underlying113 hi hz0 hz1 hz2 rfl (by decide) _ _ _ rfl hown ⟨wr.heap.size+1,0,none⟩ 1 1 [ptrV wr.heap.size] rfl rfl cn ?c2a ?c3a ?c4a ?c5a ?_)
       case c2a=>intro u hu;simp at hu;subst hu;rfl
       case c3a=>unfold maxLen;omega
       case c4a=>omega
       case c5a=>exact NE.out.below.size
       intro v' w4 hown' hgrow _ hloc;have M1:=zh (NE.out.push hlb (.two _ _ _ _ _ _ _ KS.out NX.out NY.out) (zHt rfl hown') hgrow (hloc.imp id fun h=>h.trans (by simp)));have M2:=zh (NS.out.push hown hgrow (hloc.imp id fun h=>h.trans (by simp)));have M4:=zh (NS2.out.push hown hgrow (hloc.imp id fun h=>h.trans (by simp)));have M3:=zh (NK.out.stay hgrow (fun r hr=>(OwnP.row hown r hr).2.2) (by decide));rw[List.append_assoc,<-HMN.out] at M1;clear hown hown' hgrow hloc NE NS NS2 NK NX NY KS cn c0 ca0;go_wp2;go_roundw
       case rel=>exact⟨m+1,_,by omega,by go_num,M1,M2,M4,M3⟩
       case measure=>simp[intOf];omega
      ·have M1:=zh (HE.out.full (z:=.mk r at_ [x,y]) hlb);rw[List.append_assoc,<-HMN.out] at M1;clear HE;go_wp2;go_roundw
       case rel=>exact⟨m+1,_,by omega,by go_num,M1,HS1,HS2,K0⟩
       case measure=>simp[intOf];omega
     ·obtain rfl:m=bs2.length:=by omega
      rw[HL2.out,List.take_length,List.append_assoc,<-HSN.out] at HE;go_wp2;go_roundw
      case rel=>exact⟨k+1,_,by omega,by go_num,HE,HS1,K0⟩
      case measure=>simp[intOf];omega
   ·obtain rfl:k=bs1.length:=by omega
    rw[HL1.out,List.take_length] at HE;have HQ:=zh (show zHb rs ts at_ ⟨r,frm,left,right,t2,2⟩=zAm r at_ F1 F2 by rw[<-HF1.out,<-HF2.out,<-HLO.out,<-HHI.out];rfl);go_wp2;go_ret;exact⟨_,_,rfl,by rw[HQ.out];exact HE.out⟩
end Go.Proofs.YtapgncbegadbnaaGreatDoor.Ch
