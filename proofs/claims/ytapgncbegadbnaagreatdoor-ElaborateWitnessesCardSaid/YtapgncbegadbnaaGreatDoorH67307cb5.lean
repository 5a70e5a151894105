/- The table is filled by increasing length. -/
import Derived.Test.YtapgncbegadbnaaGreatDoorH97d95bca
import Derived.Maps.OwnOps
import Derived.Maps.OwnSet
import Derived.Maps.Views
set_option maxRecDepth 100000
set_option maxHeartbeats 4000000
namespace Go.Proofs.YtapgncbegadbnaaGreatDoor.Ch
open Go.RowKit
variable{w w0 wq wr:World}{B bm n i j k g gr s gc:Nat}{bs:List Nat}{t:TypeId}{cs:Array Value}{rs:List Rul}{ts:List ByteArray}{hd:Nat->Value}{bss:Nat->List Nat}{fill':Nat->Nat->Bool}{rows:Nat->Nat}{b7 b9:Bool}
def hdrD:Value->DataW Unit
 | .slice (some a) n c=>.agg [.lit (.int .i64 1),.lit (.int .i64 a.block),.lit (.int .i64 n),.lit (.int .i64 c)]
 |_=>.lit (.int .i64 0)
def zZd:Value->Bool
 | .slice none 0 0=>true
 | .slice (some ⟨_,0,none⟩) _ _=>true
 |_=>false
def hdrE (v:Value):Option (DataW Unit×List MemPlace):=if zZd v then some (hdrD v,[]) else none
theorem zQ2 {u v:Value}{ps:List MemPlace}(hu:zZd u=true)(h:hdrE v=some (hdrD u,ps)):v=u:=by
 unfold hdrE at h
 split at h
 ·rename_i hv
  simp only[Option.some.injEq,Prod.mk.injEq] at h;have h:=h.1;unfold zZd at hu hv
  split at hu
  ·split at hv
   ·rfl
   ·simp[hdrD] at h
   ·cases hv
  ·split at hv
   ·simp[hdrD] at h
   ·simp only[hdrD,DataW.agg.injEq,List.cons.injEq,DataW.lit.injEq,Lit.int.injEq,true_and,and_true] at h;obtain⟨h1,h2,h3⟩:=h;have e1:=Int.ofNat.inj h1;have e2:=Int.ofNat.inj h2;have e3:=Int.ofNat.inj h3;subst e1 e2 e3;rfl
   ·cases hv
  ·cases hu
 ·cases h
theorem OwnP.ok {v:Value}(h:OwnP w B v bs):zZd v=true:=by
 rcases h.2 with⟨h1,_⟩|⟨g',cap',cur,h1,_⟩
 ·rw[h1];rfl
 ·rw[h1];rfl
theorem lawI:Maps.Keyed Tryz.prog 3:=Maps.int_keyed Tryz.underlying3
theorem yAy (w:World):(zeroValue 113).run Tryz.prog w= .ok qN w:=by simp[Tryz.zeroValue113]
structure MapS (w:World)(B bm:Nat)(rs:List Rul)(ts:List ByteArray)(i:Nat)(done:List App)(D:DataW Unit)(hd:Nat->Value)(bss:Nat->List Nat):Prop where
 own:w.ownsMap Tryz.prog 3 hdrE bm done.length D
 at_:∀r:Nat,D.atKey (.int .i64 r) (hdrD qN)=hdrD (hd r)
 rows:∀r,OwnP w B (hd r) (bss r)
 shs:∀r,Shs rs w (bss r) (gotR rs ts i r done)
 dis:∀r r',r≠r'->∀b,(hd r).ownBlock=some b->(hd r').ownBlock≠some b
theorem zDh {D:DataW Unit}(h:w.ownsMap Tryz.prog 3 hdrE bm n D):¬Blk w bm t cs:=by
 obtain⟨es,clock,hb,_⟩:=h;unfold Blk;rw[hb];simp
theorem MapS.keep {w w':World}{B bm:Nat}{rs:List Rul}{ts:List ByteArray}{i:Nat}{done:List App}{D:DataW Unit}{hd:Nat->Value}{bss:Nat->List Nat}(h:MapS w B bm rs ts i done D hd bss)(hb:Below w.heap.size w w'):MapS w' B bm rs ts i done D hd bss:=
 ⟨h.own.kept (row:=none) ⟨hb.os,hb.tape,hb.output,hb.size,fun i hi _=>hb.block i hi⟩ (by simp),h.at_,fun r=>(h.rows r).keep hb,fun r=>(h.shs r).keep hb,h.dis⟩
theorem MapS.full {done:List App}{D:DataW Unit}(h:MapS w B bm rs ts i done D hd bss){a:App}(hf:¬(bss a.rule).length<2):MapS w B bm rs ts i (done++[a]) D hd bss:=by
 refine⟨h.own.mono (by simp),h.at_,h.rows,fun r=>?_,h.dis⟩;rw[zQj]
 split
 ·rename_i e
  subst e;rw[zZ4 (by rw[<-(h.shs a.rule).1];exact hf)];exact h.shs _
 ·exact h.shs r
theorem MapS.put {w w1 w2 w0:World}{bm:Nat}{rs:List Rul}{ts:List ByteArray}{i:Nat}{done:List App}{D:DataW Unit}{hd:Nat->Value}{bss:Nat->List Nat}(h:MapS w w0.heap.size bm rs ts i done D hd bss){a:App}{v':Value}{bs':List Nat}
  (he:ExtS rs w0 w (hd a.rule) w1 v' bs' (gotR rs ts i a.rule done++zHb rs ts i a)) (hm:w2.ownsMap Tryz.prog 3 hdrE bm (done.length+1) (D.put (.int .i64 a.rule) (hdrD v'))) (hg:w1.grownBy w2 (some bm)) (hm1:∀t cs,¬Blk w1 bm t cs):
  ∃D' hd' bss',MapS w2 w0.heap.size bm rs ts i (done++[a]) D' hd' bss':=by
 have stay:∀g t cs,Blk w1 g t cs->Blk w2 g t cs:=fun g t cs hb=>hb.grown hg fun e=>by
  obtain rfl:=sj e;exact hm1 _ _ hb
 have row2:∀v bs,OwnP w1 w0.heap.size v bs->OwnP w2 w0.heap.size v bs:=fun v bs ho=>by
  refine World.ownsRow.kept ho hg ?_;cases hv:v.ownBlock with
  |none=>exact .inl rfl
  |some b=>
   refine .inr fun e=>?_
   obtain rfl:=sj e;obtain⟨cs,hc⟩:=(ho.row _ hv).2.2;exact hm1 _ _ hc
 have row1:∀r,r≠a.rule->OwnP w1 w0.heap.size (hd r) (bss r):=fun r hr=>by
  refine World.ownsRow.kept (h.rows r) he.grown ?_;cases hv:(hd r).ownBlock with
  |none=>exact .inl rfl
  |some b=>exact .inr fun e=>h.dis r a.rule hr b hv e.symm
 refine⟨_,fun r=>if r=a.rule then v' else hd r,fun r=>if r=a.rule then bs' else bss r,by rw[List.length_append];exact hm,fun r=>?_,fun r=>?_,fun r=>?_,fun r r' hne b hb=>?_⟩
 ·show(D.put (.int .i64 a.rule) (hdrD v')).atKey _ _=hdrD (if r=a.rule then v' else hd r)
  by_cases e:r=a.rule
  ·rw[if_pos e,e];exact Maps.atKey_put_same (World.ownsMap.isMap h.own) (by trivial) _ _
  ·rw[if_neg e,Maps.atKey_put_other (fun hh=>e (by simp at hh;omega))];exact h.at_ r
 ·show OwnP w2 _ (if r=a.rule then v' else hd r) (if r=a.rule then bs' else bss r)
  by_cases e:r=a.rule
  ·rw[if_pos e,if_pos e];exact row2 _ _ he.own
  ·rw[if_neg e,if_neg e];exact row2 _ _ (row1 r e)
 ·show Shs rs w2 (if r=a.rule then bs' else bss r) _;rw[zQj]
  by_cases e:r=a.rule
  ·subst e;rw[if_pos rfl,if_pos rfl];exact he.shs.map fun g cs hb=>stay g _ cs hb
  ·rw[if_neg e,if_neg (fun hh=>e hh.symm)];exact((h.shs r).grow he.grown fun r' hr'=>((h.rows a.rule).row r' hr').2.2).map fun g cs hb=>stay g _ cs hb
 ·have hlt:∀r b,(hd r).ownBlock=some b->b<w.heap.size:=fun r b hb=>((h.rows r).row b hb).2.1
  show(if r'=a.rule then v' else hd r').ownBlock≠some b;have hb:(if r=a.rule then v' else hd r).ownBlock=some b:=hb
  by_cases e:r=a.rule
  ·rw[if_pos e] at hb;rw[if_neg (fun e'=>hne (e.trans e'.symm))];rcases he.loc with h1|⟨b',h1,h2⟩
   ·rw[h1] at hb;exact h.dis a.rule r' (fun hh=>hne (e.trans hh)) b hb
   ·rw[h2] at hb;obtain rfl:=sj hb;intro hh;have:=hlt r' _ hh;omega
  ·rw[if_neg e] at hb
   by_cases e':r'=a.rule
   ·rw[if_pos e'];rcases he.loc with h1|⟨b',h1,h2⟩
    ·rw[h1];exact h.dis r a.rule e b hb
    ·rw[h2];intro hh;obtain rfl:=sj hh;have:=hlt r _ hb;omega
   ·rw[if_neg e'];exact h.dis r r' hne b hb
structure zIv (w0:World)(g gm gt gi bm:Nat)(rs:List Rul)(ts:List ByteArray)(i:Nat)(done:List App)(w:World):Prop where
 vm:Blk w gm 169 #[.map (some bm)]
 vt:Blk w gt 111 #[ptrV g]
 vi:Blk w gi 3 #[.int .i64 i]
 below:Below w0.heap.size w0 w
 map:∃D hd bss,MapS w w0.heap.size bm rs ts i done D hd bss
 low:w0.heap.size<=bm
theorem zIv.keep {w0:World}{g gm gt gi bm:Nat}{rs:List Rul}{ts:List ByteArray}{i:Nat}{done:List App}{w w':World}(h:zIv w0 g gm gt gi bm rs ts i done w)(hb:Below w.heap.size w w'):zIv w0 g gm gt gi bm rs ts i done w':=by
 obtain⟨h1,h2,h3,h4,⟨D,hd,bss,h5⟩,h6⟩:=h;exact⟨jL hb h1,jL hb h2,jL hb h3,h4.trans (hb.mono h4.size),⟨D,hd,bss,h5.keep hb⟩,h6⟩
theorem zIv.put {w0:World}{g gm gt gi bm:Nat}{rs:List Rul}{ts:List ByteArray}{i:Nat}{done:List App}{w w1 w2:World}{D:DataW Unit}{hd:Nat->Value}{bss:Nat->List Nat}{a:App}{v':Value}{bs':List Nat}
  (h1:Blk w gm 169 #[.map (some bm)]) (h2:Blk w gt 111 #[ptrV g]) (h3:Blk w gi 3 #[.int .i64 i]) (h6:w0.heap.size<=bm) (hM:MapS w w0.heap.size bm rs ts i done D hd bss)
  (he:ExtS rs w0 w (hd a.rule) w1 v' bs' (gotR rs ts i a.rule done++zHb rs ts i a)) (hm:w2.ownsMap Tryz.prog 3 hdrE bm (done.length+1) (D.put (.int .i64 a.rule) (hdrD v'))) (hg:w1.grownBy w2 (some bm)):
  zIv w0 g gm gt gi bm rs ts i (done++[a]) w2/\∀k cs,Blk w k 140 cs->Blk w2 k 140 cs:=by
 have hrow:∀r,(hd a.rule).ownBlock=some r->∃cs,Blk w r 115 cs:=fun r hr=>((hM.rows a.rule).row r hr).2.2
 have hm1:w1.ownsMap Tryz.prog 3 hdrE bm done.length D:=hM.own.kept he.grown fun e=>by
  obtain⟨cs,hc⟩:=hrow bm e.symm;exact zDh hM.own hc
 have both:∀k t cs,t≠115->Blk w k t cs->Blk w2 k t cs:=fun k t cs ht hb=>by
  have hb1:=hb.stay he.grown hrow ht;exact hb1.grown hg fun e=>by
   obtain rfl:=sj e;exact zDh hm1 hb1
 refine⟨⟨both _ _ _ (by decide) h1,both _ _ _ (by decide) h2,both _ _ _ (by decide) h3,he.below.grown hg he.below.size (fun k hk=>by cases hk;exact h6),hM.put he hm hg (fun t cs=>zDh hm1),h6⟩,fun k cs hb=>both _ _ _ (by decide) hb⟩
def InvC (w0:World)(g gm gt gi bm:Nat)(rs:List Rul)(ts:List ByteArray)(i:Nat)(done:List App)(a:App)(wa:World)(hd:Nat->Value):List Bool->Value×List Nat->World->Prop
 |[false,_],_,wq=>Below wa.heap.size wa wq
 |[true,false],gx,wq=>∃wb,Below wa.heap.size wa wb/\ExtS rs w0 wb (hd a.rule) wq gx.1 gx.2 (gotR rs ts i a.rule done++zHb rs ts i a)
 |[true,true],_,wq=>zIv w0 g gm gt gi bm rs ts i (done++[a]) wq/\∀k cs,Blk wa k 140 cs->Blk wq k 140 cs
 |_,_,_=>False
theorem yCm :(inA rs ts i j k).length<=1:=by
 unfold inA
 split
 ·split<;>simp
 ·simp
theorem yBv :(juxA rs i j k).length<=1:=by
 unfold juxA
 split<;>simp
theorem yCd :(midA rs ts i j k).length<=2:=by
 unfold midA;rw[List.length_append];have h1:=yCm (rs:=rs) (ts:=ts) (i:=i) (j:=j) (k:=k);have h2:=yBv (rs:=rs) (i:=i) (j:=j) (k:=k);omega
theorem zYb :(zE1 rs ts i j).length<=2+2*(j -(i+1)):=by
 unfold zE1;rw[List.length_append,List.length_append];have h1:(preA rs ts i j).length<=1:=by
  unfold preA
  split
  ·split<;>simp
  ·simp
 have h2:(zGd rs ts i j).length<=1:=by
  unfold zGd
  split
  ·split<;>simp
  ·simp
 have h3:=zJn (f:=midA rs ts i j) (b:=2) (l:=List.range' (i+1) (j -(i+1))) fun k _=>yCd
 rw[List.length_range'] at h3;omega
theorem yAl (hij:i<j){a:App}(h:a∈zE1 rs ts i j):a.rule<rs.length/\i<=a.frm/\a.frm<a.left/\a.left<=j/\a.left -a.frm<j -i/\(a.kids=1\/(a.kids=2/\i<a.right/\a.right<a.to/\a.to=j)):=by
 unfold zE1 at h;rw[List.mem_append,List.mem_append,List.mem_flatMap] at h;have fr:∀{kind:Int} {s:List UInt8} {r:Nat},zCa rs kind s=some r->r<rs.length:=fun h=>by
  obtain⟨x,hx,_⟩:=zCk h;exact(List.getElem?_eq_some_iff.1 hx).1
 rcases h with(h|h)|⟨k,hk,h⟩
 ·unfold preA at h
  split at h
  ·split at h
   ·rw[List.mem_singleton] at h;subst h;exact⟨fr ‹_›,by dsimp only;omega,by dsimp only;omega,by dsimp only;omega,by dsimp only;omega,.inl rfl⟩
   ·cases h
  ·cases h
 ·unfold zGd at h
  split at h
  ·split at h
   ·rw[List.mem_singleton] at h;subst h;exact⟨fr ‹_›,by dsimp only;omega,by dsimp only;omega,by dsimp only;omega,by dsimp only;omega,.inl rfl⟩
   ·cases h
  ·cases h
 ·have hkm:=zCi hk;unfold midA at h;rw[List.mem_append] at h;rcases h with h|h
  ·unfold inA at h
   split at h
   ·split at h
    ·rw[List.mem_singleton] at h;subst h;exact⟨fr ‹_›,by dsimp only;omega,by dsimp only;omega,by dsimp only;omega,by dsimp only;omega,.inr ⟨rfl,by dsimp only;omega,by dsimp only;omega,rfl⟩⟩
    ·cases h
   ·cases h
  ·unfold juxA at h
   split at h
   ·rw[List.mem_singleton] at h;subst h;exact⟨fr ‹_›,by dsimp only;omega,by dsimp only;omega,by dsimp only;omega,by dsimp only;omega,.inr ⟨rfl,by dsimp only;omega,by dsimp only;omega,rfl⟩⟩
   ·cases h
theorem zT1 (g:Nat)(F:Fin)(rs:List Rul)(ts:List ByteArray)(gc:Nat)(rows:Nat->Nat)(fill:Nat->Nat->Bool)(a:App)(i j:Nat)(l:Value)(bs:List Nat)(xs:List Rd)(w0 w:World)(hT:TabAt w0 g F rs ts gc rows fill)(hb0:Below w0.heap.size w0 w)(ho:OwnP w w0.heap.size l bs)(hs:Shs rs w bs xs)(hx:xs.length<=2)(hij:i<j)(hj:j<=ts.length)(ha:a∈zE1 rs ts i j)(hf:∀p q,i<=p->p<q->q<=j->q -p<j -i->fill p q=true)(hn:rs.length<=1000000):
  Calls Tryz.prog 112 #[ptrV g,l,.int .i64 i,.agg a.c] w (ExtP rs w0 l (xs++zHb rs ts i a) w):=by
 obtain⟨r,frm,left,right,t2,kids⟩:=a;obtain⟨h1,h2,h3,h4,h5,h6⟩:=yAl hij ha;dsimp only at h1 h2 h3 h4 h5 h6;rcases h6 with rfl|⟨rfl,h7,h8,h9⟩
 ·exact zSi g F rs ts gc rows fill r frm left right t2 i l bs xs w0 w hT hb0 ho hs hx h1 h3 (by omega) (hf _ _ h2 h3 h4 h5) hn
 ·exact zTt g F rs ts gc rows fill r frm left right t2 i l bs xs w0 w hT hb0 ho hs hx h1 h3 (by omega) (hf _ _ h2 h3 h4 h5) h8 (by omega) (hf _ _ (by omega) h8 (by omega) (by omega)) hn
theorem InvC.keeps {gm gt gi:Nat}{done:List App}{a:App}{wa:World}{D:DataW Unit}{b10 b11:Bool}{gx:Value×List Nat}(h:InvC w0 g gm gt gi bm rs ts i done a wa hd [b10,b11] gx wq)(hM:MapS wa w0.heap.size bm rs ts i done D hd bss)(h11:b11=false)(hk:Blk wa k t cs)(ht:t≠115)(o:Nat):wq.cell? ⟨k,o,none⟩=cs[o]?:=by
 subst h11;cases b10
 ·exact(jL h hk).cell o
 ·obtain⟨wb,hb,he⟩:=h;exact((jL hb hk).stay he.grown (fun r hr=>(((hM.keep hb).rows a.rule).row r hr).2.2) ht).cell o
theorem zT6 (g:Nat)(F:Fin)(rs:List Rul)(ts:List ByteArray)(gc:Nat)(rows:Nat->Nat)(fill:Nat->Nat->Bool)(i j gm gt gi bm:Nat)(w0:World)(hT:TabAt w0 g F rs ts gc rows fill)(hij:i<j)(hj:j<=ts.length)(hf:∀p q,i<=p->p<q->q<=j->q -p<j -i->fill p q=true)(hn:rs.length<=1000000)(hm:ts.length<=1000000):
  yAj 111 #[ptrV gm,ptrV gt,ptrV gi] rs ts i j (zIv w0 g gm gt gi bm rs ts i):=by
 intro done a m w hA hC;have HT:=zh hT;have HFI:=zh hf;have HA:=zh (show a∈zE1 rs ts i j by rw[hA];simp);have hr:=(yAl hij HA.out).1;have hdl:done.length<=2000002:=by
  have h1:=zYb (rs:=rs) (ts:=ts) (i:=i) (j:=j);rw[hA,List.length_append] at h1;omega
 have HDN:=zh (show done.length<maxLen by unfold maxLen;omega);clear hA hT hf hdl;obtain⟨r,frm,left,right,t2,kids⟩:=a;dsimp only at hr;have HKEY:=zh (Maps.keyOf_int_mk (P:=Tryz.prog) (k:=3) Tryz.underlying3 (q:=.i64) (a:=(r:Int)) (WalkArith.wf_i64 (by omega)));have HBA:=zh (zA0 w (.cells #[.int .i64 r,.int .i64 frm,.int .i64 left,.int .i64 right,.int .i64 t2,.int .i64 kids] 172));have K0:=zh (Blk.new w 172 #[.int .i64 r,.int .i64 frm,.int .i64 left,.int .i64 right,.int .i64 t2,.int .i64 kids]);obtain⟨k1,k2,k3,hb,⟨D,hd,bss,hM⟩,hlow⟩:=hC.keep HBA.out;have K1:=zh k1;have K2:=zh k2;have K3:=zh k3;have HB:=zh hb;have HM:=zh hM;have HLOW:=zh hlow;clear hb hM hlow k1 k2 k3 hC;obtain⟨A5,cap5,e5,hcl5,_,_⟩:=(HM.out.rows r).form;obtain⟨v,ps,hrun,hv⟩:=HM.out.own.lookup lawI Tryz.underlying169 (yAy _) (show hdrE qN=some (hdrD qN,[]) from rfl) HKEY.out;obtain rfl:=zQ2 (HM.out.rows r).ok (by rw[<-HM.out.at_ r];exact hv);rw[e5] at hrun;clear hv;have c1:=K1.out.cell 0;rw[show(#[Value.agg (App.c ⟨r,frm,left,right,t2,kids⟩)]++ #[ptrV gm,ptrV gt,ptrV gi]:Array Value)= #[.agg #[.int .i64 r,.int .i64 frm,.int .i64 left,.int .i64 right,.int .i64 t2,.int .i64 kids],ptrV gm,ptrV gt,ptrV gi] from rfl]
 by_cases hl2:(bss r).length<2
 ·have q1:((bss r).length:Int)<2:=by omega
  go_enter Tryz.func111,Tryz.ntmps111;go_upto_region 2 with(fail)
  clear hrun c1 e5 q1;generalize w.alloc (.cells _ 172)=w1 at*;refine zAs (X:=Value×List Nat) (by kernel_rfl) _ (fun gx=>[.map (some bm),qP w.heap.size,.int .i64 r,qP g,.map (some bm),qP w.heap.size,.int .i64 r,hd r,.int .i64 i,.agg #[.int .i64 r,.int .i64 frm,.int .i64 left,.int .i64 right,.int .i64 t2,.int .i64 kids],gx.1,undef]) [true,true,true,true,true,true,true,true,true,true,true,true] [10,11] (InvC w0 g gm gt gi bm rs ts i done ⟨r,frm,left,right,t2,kids⟩ w1 hd) (.nilFunc,[]) (by kernel_rfl) (fun gx=>by simp[fin,zBz,zAk,List.range,List.range.loop,Act.put];rfl) (fun _=>by kernel_rfl) (by kernel_rfl) (zA3 (Below.refl _ _)) ?_ ?_
  ·refine⟨fun L gx wq hL hb ha hI=>?_,jT,fun L gx wq hL hb ha hI=>?_,fun L gx wq hL hb ha hI=>?_,fun L gx wq hL hb ha hI=>?_,jT,fun L gx wq hL hb ha hI=>?_,fun L gx wq hL hb ha hI=>?_,fun L gx wq hL hb ha hI=>?_,fun L gx wq hL hb ha hI=>?_,fun L gx wq hL hb ha hI=>?_,fun L gx wq hL hb ha hI=>?_,trivial⟩
   ·have cJ:=InvC.keeps hI HM.out (ha 11 (by kernel_rfl)) K1.out (by decide) 0;exact jq (.map (some bm)) wq (by simp[go_sem,cJ]) rfl hI
   ·have cJ:=InvC.keeps hI HM.out (ha 11 (by kernel_rfl)) K0.out (by decide) 0;exact jq (.int .i64 r) wq (by simp[go_sem,cJ]) rfl hI
   ·have cJ:=InvC.keeps hI HM.out (ha 11 (by kernel_rfl)) K2.out (by decide) 0;exact jq (qP g) wq (by simp[go_sem,cJ]) rfl hI
   ·have cJ:=InvC.keeps hI HM.out (ha 11 (by kernel_rfl)) K1.out (by decide) 0;exact jq (.map (some bm)) wq (by simp[go_sem,cJ]) rfl hI
   ·have cJ:=InvC.keeps hI HM.out (ha 11 (by kernel_rfl)) K0.out (by decide) 0;exact jq (.int .i64 r) wq (by simp[go_sem,cJ]) rfl hI
   ·have e10:L 10=false:=ha 10 (by kernel_rfl);have hI9:=hI;simp only[List.map,e10] at hI9;obtain⟨v,ps,hrun,hv⟩:=(HM.out.keep hI9).own.lookup lawI Tryz.underlying169 (yAy wq) (show hdrE qN=some (hdrD qN,[]) from rfl) HKEY.out;obtain rfl:=zQ2 (HM.out.rows r).ok (by rw[<-HM.out.at_ r];exact hv);exact jq (hd r) wq (by simp[go_sem,hrun]) rfl hI
   ·have cJ:=InvC.keeps hI HM.out (ha 11 (by kernel_rfl)) K3.out (by decide) 0;exact jq (.int .i64 i) wq (by simp[go_sem,cJ]) rfl hI
   ·have cJ:=fun k=>InvC.keeps hI HM.out (ha 11 (by kernel_rfl)) K0.out (by decide) k
    exact jq (.agg #[.int .i64 r,.int .i64 frm,.int .i64 left,.int .i64 right,.int .i64 t2,.int .i64 kids]) wq (by simp[go_sem,cJ]) rfl hI
   ·have e10:L 10=false:=hL;have e11:L 11=false:=ha 11 (by kernel_rfl);simp only[List.map,e10,e11] at hI⊢;refine jc 112 (#[qP g,hd r,.int .i64 i,.agg #[.int .i64 r,.int .i64 frm,.int .i64 left,.int .i64 right,.int .i64 t2,.int .i64 kids]]) wq (by kernel_rfl) ((zT1 g F rs ts gc rows fill ⟨r,frm,left,right,t2,kids⟩ i j (hd r) (bss r) (gotR rs ts i r done) w0 wq HT.out (HB.out.trans (Below.mono hI HB.out.size)) ((HM.out.rows r).keep hI) ((HM.out.shs r).keep hI) zMv hij hj HA.out HFI.out hn).mono ?_);rintro e wa ⟨v',bs',rfl,he⟩;exact⟨_,rfl,(v',bs'),rfl,jD,wq,hI,he⟩
   ·have e10:L 10=true:=hb 10 (by kernel_rfl);have e11:L 11=false:=hL;simp only[List.map,e10,e11] at hI⊢;obtain⟨wb,hbb,he⟩:=hI;have HMb:=HM.out.keep hbb;have hm1:=HMb.own.kept he.grown (fun e=>by
     obtain⟨cs,hc⟩:=((HMb.rows r).row bm e.symm).2.2;exact zDh HMb.own hc)
    obtain⟨w2,hrun,hm2,hg2⟩:=hm1.update lawI Tryz.underlying169 HDN.out HKEY.out (show hdrE gx.1=some (hdrD gx.1,[]) by unfold hdrE;rw[he.own.ok];rfl);have hfin:=zIv.put (a:=⟨r,frm,left,right,t2,kids⟩) (keep hbb K1.out) (keep hbb K2.out) (keep hbb K3.out) HLOW.out HMb he hm2 hg2;exact Gives.skip (w':=w2) (by simp[go_sem,hrun]) ⟨gx,rfl,zAg.same,hfin.1,fun k cs hk=>hfin.2 k cs (keep hbb hk)⟩
  ·intro gx wq hI;obtain⟨hc,hk⟩:=hI;go_wp2_with fail
   go_end0
   exact⟨rfl,hc,fun k cs hb=>hk k cs (keep HBA.out hb)⟩
 ·have hf:=HM.out.full (a:=⟨r,frm,left,right,t2,kids⟩) hl2;have HF:=zh hf;have q1:¬((bss r).length:Int)<2:=by omega
  clear hf;go_enter Tryz.func111,Tryz.ntmps111;go_wp2_with fail
  go_end0
  exact⟨rfl,⟨K1.out,K2.out,K3.out,HB.out,⟨_,_,_,HF.out⟩,HLOW.out⟩,fun k cs hb=>keep HBA.out hb⟩
theorem MapS.stay {w':World}{B':Nat}{done:List App}{D:DataW Unit}(h:MapS w B bm rs ts i done D hd bss){v:Value}(ho:OwnP w B' v bs)(hg:w.grownBy w' v.ownBlock)(hf:∀r b,(hd r).ownBlock=some b->v.ownBlock≠some b):MapS w' B bm rs ts i done D hd bss:=by
 refine⟨h.own.kept hg fun e=>?_,h.at_,fun r=>?_,fun r=>(h.shs r).grow hg fun r' hr'=>(ho.row r' hr').2.2,h.dis⟩
 ·obtain⟨cs,hc⟩:=(ho.row bm e.symm).2.2;exact zDh h.own hc
 ·refine World.ownsRow.kept (h.rows r) hg ?_;cases hv:(hd r).ownBlock with
  |none=>exact .inl rfl
  |some b=>exact .inr fun e=>hf r b hv e.symm
theorem MapS.made :MapS (w.alloc (.map #[] 0)) w.heap.size w.heap.size rs ts i [] (.map []) (fun _=>qN) (fun _=>[]):=
 ⟨World.ownsMap_made _ _ _ _,fun r=>rfl,fun r=>OwnP.nil _ _,fun r=>Shs.nil,fun r r' _ b h=>by cases h⟩
def InvE (w4 w6:World)(g gm gt gi bm:Nat)(rs:List Rul)(ts:List ByteArray)(i j:Nat):List Bool->Unit->World->Prop
 |[false],_,wq=>Below w6.heap.size w6 wq
 |[true],_,wq=>zIv w4 g gm gt gi bm rs ts i (zE1 rs ts i j) wq
 |_,_,_=>False
theorem zQl (h:j=i+1/\tokB ts i zCb=true):zD0 ts i j=[.mk (-1) i []]:=by unfold zD0;rw[if_pos h]
theorem zPp (h:¬(j=i+1/\tokB ts i zCb=true)):zD0 ts i j=[]:=by unfold zD0;rw[if_neg h]
theorem zTb {α:Type}(f:Nat->List α)(r:Nat):(List.range (r+1)).flatMap f=(List.range r).flatMap f++f r:=by
 rw[List.range_succ,List.flatMap_append];simp
theorem zQc {r:Nat}{l:List App}:((List.range r).flatMap fun n=>gotR rs ts i n l).length<=2*r:=by
 have:=zJn (f:=fun n=>gotR rs ts i n l) (b:=2) (l:=List.range r) fun n _=>zMv
 rw[List.length_range] at this;omega
theorem zXz {v:Value}{cs:List Nat}(h:w.ownsRow B 115 1 v (bs.length+cs.length) (bs.map ptrV++cs.map ptrV)):OwnP w B v (bs++cs):=by
 unfold OwnP;rw[List.length_append,List.map_append];exact h
theorem yCf :∀u∈bs.map ptrV,u.oneCell'=true:=by
 intro u hu;obtain⟨b,_,rfl⟩:=List.mem_map.1 hu;rfl
theorem zXy (g:Nat)(F:Fin)(rs:List Rul)(ts:List ByteArray)(gc:Nat)(rows:Nat->Nat)(fill:Nat->Nat->Bool)(i j:Nat)(w:World)(hv:zAd rs=true)(hT:TabAt w g F rs ts gc rows fill)(hij:i<j)(hj:j<=ts.length)(hf:∀p q,i<=p->p<q->q<=j->q -p<j -i->fill p q=true)(hn:rs.length<=1000000)(hm:ts.length<=1000000):
  Calls Tryz.prog 84 #[ptrV g,.int .i64 i,.int .i64 j] w (yAh rs (zGc rs ts i j) w):=by
 obtain⟨i0,hi,hz0,hz1,hz2⟩:=info_parts zJ2;obtain⟨R,cR,T,cT,I,cI,P,cP,Q,cQ⟩:=F;have HQ:=zh (zYr hv hij hj);have hmf:∀(fn:Fn) (first cap:Array Value) (w:World),(Instr.makeFunc fn first cap).run Tryz.prog w= .ok (.func fn first cap) w:=fun _ _ _ _=>rfl
 have hmm:= @run_makeMap Tryz.prog;have hba:=(zA0 w (.cells #[ptrV g] 111)).trans ((zA0 (w.alloc (.cells #[ptrV g] 111)) (.cells #[.int .i64 i] 3)).mono (by simp));have HT:=zh (hT.keep hba);have HB:=zh hba;have K2:=zh ((Blk.new w 111 #[ptrV g]).alloc (.cells #[.int .i64 i] 3));have K3:=Blk.new (w.alloc (.cells #[ptrV g] 111)) 3 #[.int .i64 i];rw[World.size_alloc] at K3;have K3:=zh K3;have HFI:=zh hf;clear hba hT hf hv;have hjn:j<=ts.length:=hj;obtain⟨s,hs⟩:∃s,ts[i]?=some s:=⟨_,gE (by omega)⟩
 have HTB:=zh (show tokB ts i zCb=(s.toList==zCb) by unfold tokB;rw[hs]);obtain⟨_,adT,hAT,hTl,ctk⟩:=HT.out.fin.toks i s hs;dsimp only at hAT;subst hAT;clear hs;go_enter Tryz.func84,Tryz.ntmps84;go_upto_region 2 with(fail)
 generalize (w.alloc (.cells #[ptrV g] 111)).alloc (.cells #[.int .i64 i] 3)=w1 at*;have hOP:(⟨#[35]⟩:ByteArray).toList=zCb:=by rw[ByteArray.toList_eq];rfl
 go_cut [24] (fun b wc=>b= .bool (!(zD0 ts i j).isEmpty)/\∃n,wc=w1.drewN n)
 case first=>
  by_cases hji:j=i+1
  ·have hjd:((j:Int)==(i:Int)+1)=true:=by rw[beq_iff_eq];omega
   have ct1:=HT.out.blk.cell 1;have ci:=K3.out.cell 0;have ctv:=K2.out.cell 0;have hin:(i:Int)<(ts.length:Int):=by omega
   dsimp only at ct1;have HBQ:=zh (show(!(zD0 ts i j).isEmpty)=(s.toList==zCb) by
    cases hq:(s.toList==zCb)
    ·rw[zPp (fun h=>by rw[HTB.out,hq] at h;exact absurd h.2 (by simp))];rfl
    ·rw[zQl ⟨hji,by rw[HTB.out];exact hq⟩];rfl)
   clear hji hOP
   go_quiet (fail)
   go_wp2;go_meet;exact⟨by rw[HBQ.out];rfl,⟨_,rfl⟩⟩
  ·have hjd:((j:Int)==(i:Int)+1)=false:=by rw[beq_eq_false_iff_ne];omega
   have ci:=K3.out.cell 0;have HBQ:=zh (show(!(zD0 ts i j).isEmpty)=false by rw[zPp (fun h=>hji h.1)];rfl);clear hji hOP
   go_quiet (fail)
   go_wp2;go_meet;exact⟨by rw[HBQ.out],⟨_,rfl⟩⟩
 case rest=>
  clear ctk hTl hOP;obtain⟨rfl,nq,hw⟩:=hcut;subst hw;have HT:=zh (HT.out.keep (below_drewN (Below.refl _ _) nq));have HB:=zh (below_drewN HB.out nq);have K2:=zh (Blk.drewN K2.out nq);have K3:=zh (Blk.drewN K3.out nq);generalize w1.drewN nq=w2 at*;go_upto_if 24 with(fail)
  go_cut [7] (fun v wc=>∃bs,Hid (OwnP wc w.heap.size v bs)/\Hid (Shs rs wc bs (zD0 ts i j))/\Hid (Below w2.heap.size w2 wc))
  case first=>
   by_cases hb:j=i+1/\tokB ts i zCb=true
   ·have HBQ:=zh (zQl hb);rw[HBQ.out];have ci:=K3.out.cell 0;clear hb;have hbx:=(zA0 w2 (.cells (shC rs (-1) i (.pointer none) (.pointer none)) 149)).trans ((zA0 (w2.alloc (.cells (shC rs (-1) i (.pointer none) (.pointer none)) 149)) (.cells #[ptrV w2.heap.size] 115)).mono (by simp));have KS:=zh ((Blk.new w2 149 (shC rs (-1) i (.pointer none) (.pointer none))).alloc (.cells #[ptrV w2.heap.size] 115));have hown:World.ownsRow _ w.heap.size 115 1 qN 0 []:=OwnP.nil ((w2.alloc (.cells (shC rs (-1) i (.pointer none) (.pointer none)) 149)).alloc (.cells #[ptrV w2.heap.size] 115)) w.heap.size;have cn:=zDd (w2.alloc (.cells (shC rs (-1) i (.pointer none) (.pointer none)) 149)) [ptrV w2.heap.size] 115;rw[World.size_alloc] at cn;have HSZ:=zh HB.out.size;have HBX:=zh hbx;clear hbx;rw[show shC rs (-1) i (.pointer none) (.pointer none)= #[.int .i64 (-1),.int .i64 i,.int .i64 101,.pointer none,.pointer none] from rfl] at cn hown;go_wp2_with (at_builtin;refine wpList_append_own_at _ rfl (.tmp 25) (.tmp 29) 113 rfl w.heap.size 115 i0 (.pointer none) 1 8 Tryz.underlying113 hi hz0 hz1 hz2 rfl (by decide) _ _ _ rfl hown ⟨w2.heap.size+1,0,none⟩ 1 1 [ptrV w2.heap.size] rfl rfl cn ?c2a ?c3a ?c4a ?c5a ?_)
    case c2a=>intro u hu;simp at hu;subst hu;rfl
    case c3a=>unfold maxLen;omega
    case c4a=>omega
    case c5a=>have:=HSZ.out;simp;omega
    intro v' w4 hown' hgrow _ hloc;have M0:=zh (zHt (bs:=[]) (b:=w2.heap.size) rfl hown');have M1:=zh (Shs.snoc (rs:=rs) Shs.nil (ShAt.leaf _ _ _ (KS.out.grown hgrow (by simp[Value.ownBlock]))));have M2:=zh (HBX.out.grown hgrow HBX.out.size (fun k hk=>by simp[Value.ownBlock] at hk));clear hown hown' hgrow hloc cn KS ci;go_wp2;go_meet;exact⟨_,M0,by rw[HBQ.out];exact M1,M2⟩
   ·have HBQ:=zh (zPp hb);rw[HBQ.out];clear hb;go_wp2;go_meet;exact⟨[],OwnP.nil _ _,by rw[HBQ.out];exact Shs.nil,Below.refl _ _⟩
  case rest=>
   obtain⟨bs,HO,HS,hb⟩:=hcut;have HT:=zh (HT.out.keep hb.out);have HB:=zh (HB.out.trans (hb.out.mono HB.out.size));have K2:=zh (keep hb.out K2.out);have K3:=zh (keep hb.out K3.out);generalize wc=w4 at*;clear hb;have HO4:=HO;go_upto_region 5 with(fail)
   have hbx:=(zA0 w4 (.map #[] 0)).trans ((zA0 (w4.alloc (.map #[] 0)) (.cells #[.map (some w4.heap.size)] 169)).mono (by simp));have K1:=Blk.new (w4.alloc (.map #[] 0)) 169 #[.map (some w4.heap.size)];rw[World.size_alloc] at K1;have HC0:=zh (show zIv w4 g (w4.heap.size+1) w.heap.size (w.heap.size+1) w4.heap.size rs ts i [] _ from⟨K1,keep hbx K2.out,keep hbx K3.out,hbx,⟨_,_,_,MapS.made.keep ((zA0 (w4.alloc (.map #[] 0)) (.cells #[.map (some w4.heap.size)] 169)))⟩,Nat.le_refl _⟩);have HT6:=zh (HT.out.keep hbx);clear hbx K1 hmm;generalize (w4.alloc (.map #[] 0)).alloc (.cells _ 169)=w6 at*;refine zAs (X:=Unit) (by kernel_rfl) _ (fun gx=>[qP g,qP g,qP g,.agg #[.slice R rs.length cR,.slice (some adT) ts.length cT,.slice I ts.length cI,.slice P ts.length cP,.slice Q ts.length cQ,.int .i64 (zAf rs 4 [])],.int .i64 i,.int .i64 j,.func (.func 111) #[] #[qP (w4.heap.size+1),qP w.heap.size,qP (w.heap.size+1)],undef]) [true,true,true,true,true,true,true,true] [7] (InvE w4 w6 g (w4.heap.size+1) w.heap.size (w.heap.size+1) w4.heap.size rs ts i j) () (by kernel_rfl) (fun gx=>by simp[fin,zBz,zAk,List.range,List.range.loop,Act.put];rfl) (fun _=>by kernel_rfl) (by kernel_rfl) (zA3 (Below.refl _ _)) ?_ ?_
   ·refine⟨fun L gx wq hL hb ha hI=>?_,jT,jT,fun L gx wq hL hb ha hI=>?_,fun L gx wq hL hb ha hI=>?_,jS,jT,fun L gx wq hL hb ha hI=>?_,trivial⟩
    ·have e7:L 7=false:=ha 7 (by kernel_rfl);have hI9:=hI;simp only[List.map,e7] at hI9;have cJ:=(HC0.out.keep hI9).vt.cell 0;exact jq (qP g) wq (by simp[go_sem,cJ]) rfl hI
    ·have e7:L 7=false:=ha 7 (by kernel_rfl);have hI9:=hI;simp only[List.map,e7] at hI9;have cJ:=fun k=>(HT6.out.keep hI9).blk.cell k
     exact jq (.agg #[.slice R rs.length cR,.slice (some adT) ts.length cT,.slice I ts.length cI,.slice P ts.length cP,.slice Q ts.length cQ,.int .i64 (zAf rs 4 [])]) wq (by simp[go_sem,cJ]) rfl hI
    ·have e7:L 7=false:=ha 7 (by kernel_rfl);have hI9:=hI;simp only[List.map,e7] at hI9;have cJ:=(HC0.out.keep hI9).vi.cell 0;exact jq (.int .i64 i) wq (by simp[go_sem,cJ]) rfl hI
    ·have e7:L 7=false:=hL;simp only[List.map,e7] at hI⊢;refine jc 110 (#[.agg #[.slice R rs.length cR,.slice (some adT) ts.length cT,.slice I ts.length cI,.slice P ts.length cP,.slice Q ts.length cQ,.int .i64 (zAf rs 4 [])],.int .i64 i,.int .i64 j,.func (.func 111) #[] #[qP (w4.heap.size+1),qP w.heap.size,qP (w.heap.size+1)]]) wq (by kernel_rfl) ((zXt 111 #[ptrV (w4.heap.size+1),ptrV w.heap.size,ptrV (w.heap.size+1)] ⟨R,cR,(some adT),cT,I,cI,P,cP,Q,cQ⟩ rs ts i j (zIv w4 g (w4.heap.size+1) w.heap.size (w.heap.size+1) w4.heap.size rs ts i) wq hij hj hm (fun l w hc=>HT.out.fin.keep hc.below) (fun l w w' hc hb=>hc.keep hb) (zT6 g _ rs ts gc rows fill i j _ _ _ _ w4 HT.out hij hj HFI.out hn hm) (HC0.out.keep hI) (fun _ _=>by rfl)).mono ?_);rintro e wa ⟨rfl,hc⟩;exact⟨_,rfl,(),rfl,zAg.same,hc⟩
   ·intro gx wq hI;have HC:Hid (zIv w4 g (w4.heap.size+1) w.heap.size (w.heap.size+1) w4.heap.size rs ts i (zE1 rs ts i j) wq):=hI;clear hI HC0 HT6;obtain⟨k1,k2,k3,hb,⟨D,hd,bss,hM⟩,_⟩:=HC.out;have K1:=zh k1;have K2:=zh k2;have HM:=zh hM;have HW:=jt HB hb;have HO:=zh (HO.out.keep hb);have HS:=zh (HS.out.keep hb);have HT:=zh (HT.out.keep hb);have HFR:=zh (show ∀r b,(hd r).ownBlock=some b->u7.ownBlock≠some b from fun r b h1 h2=>by
     have:=((hM.rows r).row b h1).1;have:=(HO4.out.row b h2).2.1;omega)
    clear k1 k2 k3 hb hM HC K3 HO4 hmf;have ctv:=K2.out.cell 0;have ct0:=HT.out.blk.cell 0;dsimp only at ct0;go_wp2_with fail;clear ctv ct0
    go_loopw [7,46] (fun v n wr=>∃(r:Nat) (bs:List Nat),r<=rs.length/\n= .int .i64 r/\Hid (OwnP wr w.heap.size v bs)/\Hid (Shs rs wr bs (zD0 ts i j++(List.range r).flatMap fun n=>gotR rs ts i n (zE1 rs ts i j)))/\Hid (MapS wr w4.heap.size w4.heap.size rs ts i (zE1 rs ts i j) D hd bss)/\Hid (Blk wr (w4.heap.size+1) 169 #[.map (some w4.heap.size)])/\Hid (Below w.heap.size w wr)/\Hid (∀r b,(hd r).ownBlock=some b->v.ownBlock≠some b)) (fun _ n _=>rs.length -(intOf n).toNat)
    case atStart=>exact⟨0,bs,by omega,rfl,HO,by rw[show(List.range 0).flatMap (fun n=>gotR rs ts i n (zE1 rs ts i j))=[] from rfl,List.append_nil];exact HS,HM,K1,HW,HFR⟩
    case round=>
     clear HO HS HM K1 HW HFR HT;obtain⟨r,cs,hr,rfl,HO,HS,HM,K1,HW,HFR⟩:=hrel
     by_cases hlt:r<rs.length
     ·have HRF:=zh (zTb (fun n=>gotR rs ts i n (zE1 rs ts i j)) r);have HKEY:=zh (Maps.keyOf_int_mk (P:=Tryz.prog) (k:=3) Tryz.underlying3 (q:=.i64) (a:=(r:Int)) (WalkArith.wf_i64 (by omega)));obtain⟨v,ps,hrun,hv⟩:=HM.out.own.lookup lawI Tryz.underlying169 (yAy _) (show hdrE qN=some (hdrD qN,[]) from rfl) HKEY.out;obtain rfl:=zQ2 (HM.out.rows r).ok (by rw[<-HM.out.at_ r];exact hv);obtain⟨A5,cap5,e5,hcl5,_,_⟩:=(HM.out.rows r).form;rw[e5] at hrun;have cm:=K1.out.cell 0;have hrd:=Reads.zH6 (show wr.ownsRow w4.heap.size 115 1 (.slice A5 (bss r).length cap5) (bss r).length ((bss r).map ptrV) from by rw[<-e5];exact HM.out.rows r);have hcs:cs.length<=2*r+1:=by
       rw[HS.out.1,List.length_append];have:=zQc (rs:=rs) (ts:=ts) (i:=i) (r:=r) (l:=zE1 rs ts i j);have:(zD0 ts i j).length<=1:=by unfold zD0;split<;>simp
       omega
      have hbr:(bss r).length<=2:=by rw[(HM.out.shs r).1];exact zMv
      obtain⟨A6,cap6,e6,hcl6,hcap6,_⟩:=HO.out.form;subst e6;have hown:World.ownsRow wr w.heap.size 115 1 (.slice A6 cs.length cap6) cs.length (cs.map ptrV):=HO.out;have HSZ:=zh HW.out.size;clear hv e5;go_wp2_with (at_builtin;refine zA9 _ rfl (.tmp 49) (.tmp 52) 113 rfl w.heap.size 115 i0 (.pointer none) 1 8 Tryz.underlying113 hi hz0 hz1 hz2 rfl (by decide) _ _ _ rfl hown wr.heap.size A5 (bss r).length cap5 ((bss r).map ptrV) rfl hrd yCf ?c3a ?c4a ?c5a ?_)
      case c3a=>unfold maxLen;omega
      case c4a=>omega
      case c5a=>exact HSZ.out
      intro v' w5 hown' hgrow hloc;have M0:=zh (zXz hown');have M1:=zh (HM.out.stay HO.out hgrow HFR.out);have hrow:=fun r hr=>(HO.out.row r hr).2.2
      have M2:=zh ((HS.out.grow hgrow hrow).append (M1.out.shs r));have M3:=zh (K1.out.stay hgrow hrow (by decide));have M4:=zh (show ∀r b,(hd r).ownBlock=some b->v'.ownBlock≠some b from fun r b h1=>by
       rcases hloc with h|h
       ·rw[h];exact HFR.out r b h1
       ·rw[h];intro h2;have:=((HM.out.rows r).row b h1).2.1;have:=sj h2;omega)
      have M5:=zh (HW.out.grown hgrow HW.out.size (fun k hk=>(HO.out.row k hk).1));rw[List.append_assoc,<-HRF.out] at M2;clear hown hown' hgrow hloc hrow hrd hrun cm HO HS HM K1 HW HFR hcs hbr;go_wp2;go_roundw
      case rel=>exact⟨r+1,_,by omega,by go_num,M0,M2,M1,M3,M5,M4⟩
      case measure=>simp[intOf];omega
     ·obtain rfl:r=rs.length:=by omega
      go_wp2;go_ret;exact⟨_,_,rfl,HO.out,by rw[HQ.out];exact HS.out,HW.out⟩
theorem yB9:(Tryz.prog.info? 113).map (fun i=>(i.zero,i.size,i.bytes))=some (some qN,1,24):=by kernel_rfl
theorem yBn:(Tryz.prog.info? 145).map (fun i=>(i.zero,i.size,i.bytes))=some (some qN,1,24):=by kernel_rfl
abbrev zPd (n:Nat):Array Value:=madeCells #[qN] n
structure TabW (w0 w:World)(g:Nat)(F:Fin)(rs:List Rul)(ts:List ByteArray)(gc:Nat)(rows:Nat->Nat)(k:Nat)(fill:Nat->Nat->Bool):Prop where
 blk:Blk w g 144 #[.slice F.R rs.length F.cR,.slice F.T ts.length F.cT,.slice F.I ts.length F.cI,.slice F.P ts.length F.cP,.slice F.Q ts.length F.cQ,qI (zAf rs 4 []),.slice (some ⟨gc,0,none⟩) ts.length ts.length]
 i1:zFj w F.I (zDg rs ts 1)
 i2:zFj w F.P (zDg rs ts 2)
 i3:zFj w F.Q (zDg rs ts 3)
 outer:∃cs,Blk w gc 145 cs/\cs.size=ts.length/\∀i,i<k->cs[i]?=some (.slice (some ⟨rows i,0,none⟩) (ts.length+1) (ts.length+1))
 row:∀i,i<k->∃cs,Blk w (rows i) 113 cs/\cs.size=ts.length+1/\∀j,fill i j=true->∃A cap bs,cs[j]?=some (.slice A bs.length cap)/\bs.length<=cap/\cap<=9223372036854775807/\zF0 w A bs/\Shs rs w bs (zGc rs ts i j)
 inj:∀i i',i<k->i'<k->rows i=rows i'->i=i'
 below:Below w0.heap.size w0 w
 low:w0.heap.size<=gc/\∀i,i<k->w0.heap.size<=rows i
section
variable {w0 w : World} {g : Nat} {F : Fin} {rs : List Rul} {ts : List ByteArray} {gc : Nat} {rows : Nat -> Nat} {k : Nat} {fill : Nat -> Nat -> Bool}
theorem TabW.keep {w':World}(h:TabW w0 w g F rs ts gc rows k fill)(hb:Below w.heap.size w w'):TabW w0 w' g F rs ts gc rows k fill:=by
 obtain⟨h1,i1,i2,i3,⟨cs,h3,h4,h5⟩,h6,h7,h8,h9⟩:=h;refine⟨jL hb h1,i1.keep hb,i2.keep hb,i3.keep hb,⟨cs,jL hb h3,h4,h5⟩,fun i hi=>?_,h7,h8.trans (hb.mono h8.size),h9⟩;obtain⟨cs,h6,h7,h8⟩:=h6 i hi;refine⟨cs,jL hb h6,h7,fun j hj=>?_⟩;obtain⟨A,cap,bs,h9,ha,hb',hc,hd⟩:=h8 j hj;exact⟨A,cap,bs,h9,ha,hb',hc.keep hb,hd.keep hb⟩
theorem TabW.tab (h:TabW w0 w g F rs ts gc rows ts.length fill)(hR:zAc w0 F.R rs)(hT:zBp w0 F.T ts):TabAt w g F rs ts gc rows fill:=by
 obtain⟨h1,i1,i2,i3,⟨cs,h3,h4,h5⟩,h6,h7,h8,h9⟩:=h;exact⟨h1,⟨hR.keep h8,hT.keep h8,i1,i2,i3⟩,⟨cs,h3,h5⟩,h6⟩
theorem TabW.grow (h:TabW w0 w g F rs ts gc rows k fun _ _=>false)(hk:k<ts.length)(hr:Blk w gr 113 (zPd (ts.length+1)))(hn:∀i,i<k->rows i≠gr)(hlo:w0.heap.size<=gr):
  TabW w0 (w.setCell ⟨gc,k,none⟩ (.slice (some ⟨gr,0,none⟩) (ts.length+1) (ts.length+1))) g F rs ts gc (fun i=>if i=k then gr else rows i) (k+1) fun _ _=>false:=by
 obtain⟨h1,i1,i2,i3,⟨cs,h3,h4,h5⟩,h6,h7,h8,h9⟩:=h;have far:∀b t cs',Blk w b t cs'->t≠145->Blk (w.setCell ⟨gc,k,none⟩ (.slice (some ⟨gr,0,none⟩) (ts.length+1) (ts.length+1))) b t cs':=fun b t cs' hb ht=>hb.far (fun e=>by
  have e:b=gc:=e;rw[e] at hb;exact ht (zD6 hb h3)) _
 refine⟨far _ _ _ h1 (by decide),i1.set_ h3 (by decide) _,i2.set_ h3 (by decide) _,i3.set_ h3 (by decide) _,⟨_,h3.set_ k _,by simpa using h4,fun i hi=>?_⟩,fun i hi=>?_,fun i i' hi hi' e=>?_,h8.setCell (p:=⟨gc,k,none⟩) h9.1 _,h9.1,fun i hi=>?_⟩
 ·by_cases e:i=k
  ·rw[if_pos e,e];simp[h4,hk]
  ·rw[if_neg e,Array.getElem?_setIfInBounds_ne (fun h=>e h.symm)];exact h5 i (by omega)
 ·show ∃cs,Blk _ (if i=k then gr else rows i) _ cs/\_
  by_cases e:i=k
  ·rw[if_pos e];exact⟨_,far _ _ _ hr (by decide),by simp[size_madeCells],fun j hj=>by cases hj⟩
  ·rw[if_neg e];obtain⟨cs',ha,hb,hc⟩:=h6 i (by omega);exact⟨cs',far _ _ _ ha (by decide),hb,fun j hj=>by cases hj⟩
 ·have e:(if i=k then gr else rows i)=(if i'=k then gr else rows i'):=e
  by_cases e1:i=k
  ·by_cases e2:i'=k
   ·omega
   ·rw[if_pos e1,if_neg e2] at e;exact(hn i' (by omega) e.symm).elim
  ·by_cases e2:i'=k
   ·rw[if_neg e1,if_pos e2] at e;exact(hn i (by omega) e).elim
   ·rw[if_neg e1,if_neg e2] at e;exact h7 i i' (by omega) (by omega) e
 ·show _<=(if i=k then gr else rows i)
  by_cases e:i=k
  ·rw[if_pos e];exact hlo
  ·rw[if_neg e];exact h9.2 i (by omega)
theorem TabW.store (h:TabW w0 w g F rs ts gc rows ts.length fill)(hi:i<ts.length)(hj:j<=ts.length){A:Option Addr}{cap:Nat}(h1:bs.length<=cap)(h2:cap<=9223372036854775807)(hP:zF0 w A bs)(hS:Shs rs w bs (zGc rs ts i j))(hf:∀p q,fill' p q=true->fill p q=true\/(p=i/\q=j)):
  TabW w0 (w.setCell ⟨rows i,j,none⟩ (.slice A bs.length cap)) g F rs ts gc rows ts.length fill':=by
 obtain⟨t1,i1,i2,i3,⟨cs,t3,t4,t5⟩,t6,t7,t8,t9⟩:=h;obtain⟨ci,ci1,ci2,ci3⟩:=t6 i hi;have far:∀b t cs',Blk w b t cs'->t≠113->Blk (w.setCell ⟨rows i,j,none⟩ (.slice A bs.length cap)) b t cs':=fun b t cs' hb ht=>hb.far (fun e=>by
  have e:b=rows i:=e;rw[e] at hb;exact ht (zD6 hb ci1)) _
 have pk:∀A' bs',zF0 w A' bs'->zF0 (w.setCell ⟨rows i,j,none⟩ (.slice A bs.length cap)) A' bs':=fun A' bs' hp=>hp.set_ (p:=⟨rows i,j,none⟩) ci1 (by decide) _
 have sk:∀bs' xs,Shs rs w bs' xs->Shs rs (w.setCell ⟨rows i,j,none⟩ (.slice A bs.length cap)) bs' xs:=fun bs' xs hp=>hp.set_ (p:=⟨rows i,j,none⟩) ci1 (by decide) _
 refine⟨far _ _ _ t1 (by decide),i1.set_ (p:=⟨rows i,j,none⟩) ci1 (by decide) _,i2.set_ (p:=⟨rows i,j,none⟩) ci1 (by decide) _,i3.set_ (p:=⟨rows i,j,none⟩) ci1 (by decide) _,⟨cs,far _ _ _ t3 (by decide),t4,t5⟩,fun p hp=>?_,t7,t8.setCell (p:=⟨rows i,j,none⟩) (t9.2 i hi) _,t9⟩
 by_cases e:p=i
 ·subst e;refine⟨_,ci1.set_ j _,by simpa using ci2,fun q hq=>?_⟩
  by_cases eq:q=j
  ·subst eq;exact⟨A,cap,bs,(show(ci.setIfInBounds q (.slice A bs.length cap))[q]?=some (.slice A bs.length cap) by rw[Array.getElem?_setIfInBounds];simp;omega),h1,h2,pk _ _ hP,sk _ _ hS⟩
  ·have hq':fill p q=true:=by
    rcases hf p q hq with h|h
    ·exact h
    ·exact(eq h.2).elim
   obtain⟨A',cap',bs',ha,hb,hc,hd,he⟩:=ci3 q hq';exact⟨A',cap',bs',by rw[Array.getElem?_setIfInBounds_ne (fun h=>eq h.symm)];exact ha,hb,hc,pk _ _ hd,sk _ _ he⟩
 ·obtain⟨cp,c1,c2,c3⟩:=t6 p hp;refine⟨cp,c1.far (fun e2=>e (t7 p i hp hi e2)) _,c2,fun q hq=>?_⟩;have hq':fill p q=true:=by
   rcases hf p q hq with h|h
   ·exact h
   ·exact(e h.1).elim
  obtain⟨A',cap',bs',ha,hb,hc,hd,he⟩:=c3 q hq';exact⟨A',cap',bs',ha,hb,hc,pk _ _ hd,sk _ _ he⟩
end
def InvF (w:World)(rs:List Rul)(ts:List ByteArray):List Bool->Fin×Nat×Nat->World->Prop
 |[b2,b4,b6],gx,wq=>Below w.heap.size w wq/\(b2=true->zIu wq gx.1 rs ts/\zAc w gx.1.R rs/\zBp w gx.1.T ts)/\(b4=true->Blk wq gx.2.1 145 (zPd ts.length)/\w.heap.size<=gx.2.1)/\(b6=true->Blk wq gx.2.2 144 #[.slice gx.1.R rs.length gx.1.cR,.slice gx.1.T ts.length gx.1.cT,.slice gx.1.I ts.length gx.1.cI,.slice gx.1.P ts.length gx.1.cP,.slice gx.1.Q ts.length gx.1.cQ,qI (zAf rs 4 []),.slice (some ⟨gx.2.1,0,none⟩) ts.length ts.length])
 |_,_,_=>False
theorem InvF.keep {w:World}{rs:List Rul}{ts:List ByteArray}{b2 b4 b6:Bool}{gx:Fin×Nat×Nat}{wq w':World}(h:InvF w rs ts [b2,b4,b6] gx wq)(hb:Below wq.heap.size wq w'):InvF w rs ts [b2,b4,b6] gx w':=
 ⟨h.1.trans (hb.mono h.1.size),fun e=>⟨(h.2.1 e).1.keep hb,(h.2.1 e).2⟩,fun e=>⟨jL hb (h.2.2.1 e).1,(h.2.2.1 e).2⟩,fun e=>jL hb (h.2.2.2 e)⟩
def NewP (rs:List Rul)(ts:List ByteArray)(w:World)(e:Ending)(w':World):Prop:=∃g F gc rows,e= .returned (ptrV g)/\TabAt w' g F rs ts gc rows (fun p q=>decide (p<q)&&decide (q<=ts.length))/\Below w.heap.size w w'
def zMz (n s i:Nat)(p q:Nat):Bool:=decide (p<q)&&(decide (q<=n)&&(decide (q -p<s)||(decide (q -p=s)&&decide (p<i))))
theorem zFl {p q:Nat}:zMz n s i p q=true↔p<q/\q<=n/\(q -p<s\/(q -p=s/\p<i)):=by
 unfold zMz;simp
def InvG (w0 wr:World)(g:Nat)(F:Fin)(rs:List Rul)(ts:List ByteArray)(gc:Nat)(rows:Nat->Nat)(k:Nat):List Bool->Nat->World->Prop
 |[false,_],_,wq=>Below wr.heap.size wr wq
 |[true,false],gr,wq=>Below wr.heap.size wr wq/\Blk wq gr 113 (zPd (ts.length+1))/\wr.heap.size<=gr
 |[true,true],gr,wq=>TabW w0 wq g F rs ts gc (fun i=>if i=k then gr else rows i) (k+1) fun _ _=>false
 |_,_,_=>False
theorem InvG.bel {F:Fin}(h:InvG w0 wr g F rs ts gc rows k [b7,b9] gr wq)(h9:b9=false):Below wr.heap.size wr wq:=by
 subst h9;cases b7
 ·exact h
 ·exact h.1
theorem TabW.sub {F:Fin}{fill:Nat->Nat->Bool}(h:TabW w0 w g F rs ts gc rows k fill)(hf:∀p q,fill' p q=true->fill p q=true):TabW w0 w g F rs ts gc rows k fill':=by
 obtain⟨h1,i1,i2,i3,h3,h6,h7,h8,h9⟩:=h;refine⟨h1,i1,i2,i3,h3,fun i hi=>?_,h7,h8,h9⟩;obtain⟨cs,ha,hb,hc⟩:=h6 i hi;exact⟨cs,ha,hb,fun j hj=>hc j (hf i j hj)⟩
def InvH (w0 wr:World)(g:Nat)(F:Fin)(rs:List Rul)(ts:List ByteArray)(gc:Nat)(rows:Nat->Nat)(s i:Nat):List Bool->Value×List Nat->World->Prop
 |[false,_],_,wq=>Below wr.heap.size wr wq
 |[true,false],gx,wq=>Below wr.heap.size wr wq/\OwnP wq wr.heap.size gx.1 gx.2/\Shs rs wq gx.2 (zGc rs ts i (i+s))
 |[true,true],_,wq=>TabW w0 wq g F rs ts gc rows ts.length (zMz ts.length s (i+1))
 |_,_,_=>False
theorem InvH.bel {F:Fin}{gr:Value×List Nat}(h:InvH w0 wr g F rs ts gc rows s i [b7,b9] gr wq)(h9:b9=false):Below wr.heap.size wr wq:=by
 subst h9;cases b7
 ·exact h
 ·exact h.1
theorem zNo (A T:Option Addr)(cap cT:Nat)(rs:List Rul)(ts:List ByteArray)(w:World)(hv:zAd rs=true)(hR:zAc w A rs)(hT:zBp w T ts)(hn:rs.length<=1000000)(hm:ts.length<=1000000):Calls Tryz.prog 49 #[.slice A rs.length cap,.slice T ts.length cT] w (NewP rs ts w):=by
 obtain⟨i0,hi,hz0,hz1,hz2⟩:=info_parts yB9;obtain⟨i1,hi1,hy0,hy1,hy2⟩:=info_parts yBn;have HV:=zh hv;have HR:=zh hR;have HT:=zh hT;clear hv hR hT;go_enter Tryz.func49,Tryz.ntmps49;go_upto_region 2 with(fail)
 refine zAs (X:=Fin×Nat×Nat) (by kernel_rfl) _ (fun gx=>[.slice A rs.length cap,.slice T ts.length cT,.agg #[.slice gx.1.R rs.length gx.1.cR,.slice gx.1.T ts.length gx.1.cT,.slice gx.1.I ts.length gx.1.cI,.slice gx.1.P ts.length gx.1.cP,.slice gx.1.Q ts.length gx.1.cQ,qI (zAf rs 4 [])],qI ts.length,.slice (some ⟨gx.2.1,0,none⟩) ts.length ts.length,.agg #[.slice gx.1.R rs.length gx.1.cR,.slice gx.1.T ts.length gx.1.cT,.slice gx.1.I ts.length gx.1.cI,.slice gx.1.P ts.length gx.1.cP,.slice gx.1.Q ts.length gx.1.cQ,qI (zAf rs 4 []),.slice (some ⟨gx.2.1,0,none⟩) ts.length ts.length],.pointer (some ⟨gx.2.2,0,none⟩),.pointer (some ⟨gx.2.2,0,none⟩)]) [true,true,true,true,true,true,true,true] [2,4,6] (InvF w rs ts) (⟨none,0,none,0,none,0,none,0,none,0⟩,0,0) (by kernel_rfl) (fun gx=>by simp[fin,zBz,zAk,List.range,List.range.loop,Act.put];rfl) (fun _=>by kernel_rfl) (by kernel_rfl) ⟨zA3 (Below.refl _ _),(fun h=>by cases h),(fun h=>by cases h),fun h=>by cases h⟩ ?_ ?_
 ·refine⟨jS,jS,fun L gx wq hL hb ha hI=>?_,jS,fun L gx wq hL hb ha hI=>?_,jT,fun L gx wq hL hb ha hI=>?_,jS,trivial⟩
  ·have e2:L 2=false:=hL;have e6:L 6=false:=ha 6 (by kernel_rfl);simp only[List.map,e2,e6] at hI⊢;refine jc 83 (#[.slice A rs.length cap,.slice T ts.length cT]) wq (by kernel_rfl) ((zM5 A T cap cT rs ts wq (HR.out.keep hI.1) (HT.out.keep hI.1) hn hm).mono ?_);rintro e wa ⟨F,rfl,hF,hRT,hb5⟩;have hK:=hI.keep hb5;obtain⟨rfl,rfl⟩:=hRT;exact⟨_,rfl,(F,gx.2),rfl,jD,hK.1,(fun _=>⟨hF,HR.out,HT.out⟩),hK.2.2.1,fun h=>by cases h⟩
  ·have e4:L 4=false:=hL;have e6:L 6=false:=ha 6 (by kernel_rfl);simp only[List.map,e4,e6] at hI⊢;have hrun:=run_make (P:=Tryz.prog) wq 142 145 i1 qN Tryz.underlying142 hi1 hy0 .i64 .i64 ts.length ts.length (by omega) (by omega) (by rw[hy2];omega) (by omega);rw[hy1,Nat.mul_one,Int.toNat_natCast] at hrun;have hK:=hI.keep (zA0 wq (.cells (zPd ts.length) 145));exact jv (.slice (some ⟨wq.heap.size,0,none⟩) ts.length ts.length) (wq.alloc (.cells (zPd ts.length) 145)) (by simp[go_sem,hrun]) ⟨(gx.1,wq.heap.size,gx.2.2),rfl,jD,hK.1,hK.2.1,(fun _=>⟨Blk.new _ _ _,hI.1.size⟩),fun h=>by cases h⟩
  ·have e2:L 2=true:=hb 2 (by kernel_rfl);have e4:L 4=true:=hb 4 (by kernel_rfl);have e6:L 6=false:=hL;simp only[List.map,e2,e4,e6] at hI⊢;have hK:=hI.keep (zA0 wq (.cells #[.slice gx.1.R rs.length gx.1.cR,.slice gx.1.T ts.length gx.1.cT,.slice gx.1.I ts.length gx.1.cI,.slice gx.1.P ts.length gx.1.cP,.slice gx.1.Q ts.length gx.1.cQ,qI (zAf rs 4 []),.slice (some ⟨gx.2.1,0,none⟩) ts.length ts.length] 144));exact jv (qP wq.heap.size) (wq.alloc (.cells #[.slice gx.1.R rs.length gx.1.cR,.slice gx.1.T ts.length gx.1.cT,.slice gx.1.I ts.length gx.1.cI,.slice gx.1.P ts.length gx.1.cP,.slice gx.1.Q ts.length gx.1.cQ,qI (zAf rs 4 []),.slice (some ⟨gx.2.1,0,none⟩) ts.length ts.length] 144)) (by simp[go_sem]) ⟨(gx.1,gx.2.1,wq.heap.size),rfl,jD,hK.1,hK.2.1,hK.2.2.1,fun _=>Blk.new _ _ _⟩
 ·intro gx wq hI;obtain⟨F,gc,g⟩:=gx;obtain⟨hb,hF,hgc,hg⟩:=hI;obtain⟨hF,hR2,hT2⟩:=hF rfl;have HR2:=zh hR2;have HT2:=zh hT2;have HW:Hid (TabW w wq g F rs ts gc (fun _=>0) 0 fun _ _=>false):=⟨hg rfl,hF.inf,hF.pre,hF.post,⟨_,(hgc rfl).1,by simp[size_madeCells],(fun i hi=>by omega)⟩,(fun i hi=>by omega),(fun i i' hi=>by omega),hb,(hgc rfl).2,fun i hi=>by omega⟩
  clear hb hF hgc hg hR2 hT2;obtain⟨R,cR,T',cT',I,cI,P,cP,Q,cQ⟩:=F;dsimp only at HR2 HT2;have ct6:=HW.out.blk.cell 6;go_wp2_with fail;clear ct6
  go_loopw [24] (fun i wr=>∃(k:Nat) (rows:Nat->Nat),k<=ts.length/\i=qI k/\Hid (TabW w wr g ⟨R,cR,T',cT',I,cI,P,cP,Q,cQ⟩ rs ts gc rows k fun _ _=>false)) (fun i _=>ts.length -(intOf i).toNat)
  case atStart=>exact⟨0,_,by omega,rfl,HW⟩
  case round=>
   clear HW;obtain⟨k,rows,hk,rfl,HW⟩:=hrel
   by_cases hlt:k<ts.length
   ·go_upto_region 6 with(fail)
    refine zAs (X:=Nat) (by kernel_rfl) _ (fun gr=>[qP g,qP g,.pointer (some ⟨g,6,none⟩),.slice (some ⟨gc,0,none⟩) ts.length ts.length,qI k,qI ts.length,qI ((ts.length:Int)+1),.slice (some ⟨gr,0,none⟩) (ts.length+1) (ts.length+1),.pointer (some ⟨gc,k,none⟩),undef]) [true,true,true,true,true,true,true,true,true,true] [7,9] (InvG w wr g ⟨R,cR,T',cT',I,cI,P,cP,Q,cQ⟩ rs ts gc rows k) 0 (by kernel_rfl) (fun gr=>by simp[fin,zBz,zAk,List.range,List.range.loop,Act.put];rfl) (fun _=>by kernel_rfl) (by kernel_rfl) (zA3 (Below.refl _ _)) ?_ ?_
    ·refine⟨jS,jT,jT,fun L gr wq1 hL hb ha hI=>?_,jS,jS,fun L gr wq1 hL hb ha hI=>?_,fun L gr wq1 hL hb ha hI=>?_,fun L gr wq1 hL hb ha hI=>?_,fun L gr wq1 hL hb ha hI=>?_,trivial⟩
     ·have cJ:=(HW.out.keep (hI.bel (ha 9 (by kernel_rfl)))).blk.cell 6;exact jq (.slice (some ⟨gc,0,none⟩) ts.length ts.length) wq1 (by simp[go_sem,cJ]) rfl hI
     ·have hw1:IntKind.i64.wrap ((ts.length:Int)+1)=(ts.length:Int)+1:=IntWalk.i64_in _ (by omega);exact jq (qI ((ts.length:Int)+1)) wq1 (by simp[go_sem,hw1]) rfl hI
     ·have e7:L 7=false:=hL;have e9:L 9=false:=ha 9 (by kernel_rfl);simp only[List.map,e7,e9] at hI⊢;have hrun:=run_make (P:=Tryz.prog) wq1 145 113 i0 qN Tryz.underlying145 hi hz0 .i64 .i64 ((ts.length:Int)+1) ((ts.length:Int)+1) (by omega) (by omega) (by rw[hz2];omega) (by omega);rw[hz1,Nat.mul_one,show((ts.length:Int)+1).toNat=ts.length+1 by omega] at hrun;have hbe:Below wr.heap.size wr wq1:=hI;have hba:=zA0 wq1 (.cells (zPd (ts.length+1)) 113);exact jv (.slice (some ⟨wq1.heap.size,0,none⟩) (ts.length+1) (ts.length+1)) (wq1.alloc (.cells (zPd (ts.length+1)) 113)) (by simp[go_sem,hrun]) ⟨wq1.heap.size,rfl,jD,hbe.trans (hba.mono hbe.size),Blk.new _ _ _,hbe.size⟩
     ·have hkt:=hlt;exact jq (.pointer (some ⟨gc,k,none⟩)) wq1 (by simp[go_sem];omega) rfl hI
     ·have e7:L 7=true:=hb 7 (by kernel_rfl);have e9:L 9=false:=hL;simp only[List.map,e7,e9] at hI⊢;obtain⟨hbe,hgr,hlo⟩:=hI;have hW:=HW.out.keep hbe;obtain⟨cs,hcs,hsz,_⟩:=hW.outer;have hlt9:k<cs.size:=by omega
      have cJ:wq1.cell? ⟨gc,k,none⟩=some cs[k]:=by rw[hcs.cell];exact Array.getElem?_eq_getElem hlt9
      have fJ:=hcs.frozen k;exact Gives.skip (w':=wq1.setCell ⟨gc,k,none⟩ (.slice (some ⟨gr,0,none⟩) (ts.length+1) (ts.length+1))) (by simp[go_sem,cJ,fJ]) ⟨gr,rfl,zAg.same,hW.grow hlt hgr (fun i hi e=>by
       obtain⟨cs',h1,_⟩:=HW.out.row i hi;have:=h1.lt;omega) (Nat.le_trans HW.out.below.size hlo)⟩
    ·intro gr wq1 hI;have HW:=zh (show TabW w wq1 g ⟨R,cR,T',cT',I,cI,P,cP,Q,cQ⟩ rs ts gc (fun i=>if i=k then gr else rows i) (k+1) fun _ _=>false from hI);clear hI;go_wp2;go_roundw
     case rel=>exact⟨k+1,_,by omega,by go_num,HW⟩
     case measure=>simp[intOf];omega
   ·obtain rfl:k=ts.length:=by omega
    have HW:Hid (TabW w wr g ⟨R,cR,T',cT',I,cI,P,cP,Q,cQ⟩ rs ts gc rows ts.length (zMz ts.length 1 0)):=zh (HW.out.sub fun p q h=>by rw[zFl] at h;omega);go_wp2_with fail
    go_loopw [8] (fun z wr=>∃s:Nat,1<=s/\s<=ts.length+1/\z=qI s/\Hid (TabW w wr g ⟨R,cR,T',cT',I,cI,P,cP,Q,cQ⟩ rs ts gc rows ts.length (zMz ts.length s 0))) (fun z _=>ts.length+1 -(intOf z).toNat)
    case atStart=>exact⟨1,by omega,by omega,rfl,HW⟩
    case round=>
     clear HW;obtain⟨s,hs1,hs2,rfl,HW⟩:=hrel
     by_cases hls:s<=ts.length
     ·go_wp2_with fail
      go_loopw [9] (fun z wr=>∃i:Nat,i+s<=ts.length+1/\z=qI i/\Hid (TabW w wr g ⟨R,cR,T',cT',I,cI,P,cP,Q,cQ⟩ rs ts gc rows ts.length (zMz ts.length s i))) (fun z _=>ts.length+1 -(intOf z).toNat)
      case atStart=>exact⟨0,by omega,rfl,HW⟩
      case round=>
       clear HW;obtain⟨i,hi2,rfl,HW⟩:=hrel
       by_cases hli:i+s<=ts.length
       ·go_upto_region 14 with(fail)
        refine zAs (X:=Value×List Nat) (by kernel_rfl) _ (fun gr=>[qP g,qP g,.pointer (some ⟨g,6,none⟩),.slice (some ⟨gc,0,none⟩) ts.length ts.length,qI i,.pointer (some ⟨gc,i,none⟩),.slice (some ⟨rows i,0,none⟩) (ts.length+1) (ts.length+1),qI i,qI s,qI ((i:Int)+(s:Int)),qP g,qI i,qI i,qI s,qI ((i:Int)+(s:Int)),gr.1,.pointer (some ⟨rows i,i+s,none⟩),undef]) [true,true,true,true,true,true,true,true,true,true,true,true,true,true,true,true,true,true] [15,17] (InvH w wr g ⟨R,cR,T',cT',I,cI,P,cP,Q,cQ⟩ rs ts gc rows s i) (.nilFunc,[]) (by kernel_rfl) (fun gr=>by simp[fin,zBz,zAk,List.range,List.range.loop,Act.put];rfl) (fun _=>by kernel_rfl) (by kernel_rfl) (zA3 (Below.refl _ _)) ?_ ?_
        ·refine⟨jS,jT,jT,fun L gr wq2 hL hb ha hI=>?_,jS,fun L gr wq2 hL hb ha hI=>?_,fun L gr wq2 hL hb ha hI=>?_,jS,jS,fun L gr wq2 hL hb ha hI=>?_,jS,jS,jS,jS,fun L gr wq2 hL hb ha hI=>?_,fun L gr wq2 hL hb ha hI=>?_,fun L gr wq2 hL hb ha hI=>?_,fun L gr wq2 hL hb ha hI=>?_,trivial⟩
         ·have cJ:=(HW.out.keep (hI.bel (ha 17 (by kernel_rfl)))).blk.cell 6;exact jq (.slice (some ⟨gc,0,none⟩) ts.length ts.length) wq2 (by simp[go_sem,cJ]) rfl hI
         ·have hkt:i<ts.length:=by omega
          exact jq (.pointer (some ⟨gc,i,none⟩)) wq2 (by simp[go_sem,hkt]) rfl hI
         ·obtain⟨cs,hcs,_,hci⟩:=(HW.out.keep (hI.bel (ha 17 (by kernel_rfl)))).outer;have cJ:=(hcs.cell i).trans (hci i (by omega));exact jq (.slice (some ⟨rows i,0,none⟩) (ts.length+1) (ts.length+1)) wq2 (by simp[go_sem,cJ]) rfl hI
         ·have hw1:IntKind.i64.wrap ((i:Int)+(s:Int))=(i:Int)+(s:Int):=IntWalk.i64_in _ (by omega);exact jq (qI ((i:Int)+(s:Int))) wq2 (by simp[go_sem,hw1]) rfl hI
         ·have hw1:IntKind.i64.wrap ((i:Int)+(s:Int))=(i:Int)+(s:Int):=IntWalk.i64_in _ (by omega);exact jq (qI ((i:Int)+(s:Int))) wq2 (by simp[go_sem,hw1]) rfl hI
         ·have e15:L 15=false:=hL;have e17:L 17=false:=ha 17 (by kernel_rfl);simp only[List.map,e15,e17] at hI⊢;have hbe:Below wr.heap.size wr wq2:=hI;have h:=zXy g ⟨R,cR,T',cT',I,cI,P,cP,Q,cQ⟩ rs ts gc rows (zMz ts.length s i) i (i+s) wq2 HV.out ((HW.out.keep hbe).tab HR2.out HT2.out) (by omega) (by omega) (fun p q h1 h2 h3 h4=>by rw[zFl];omega) hn hm;rw[show((i+s:Nat):Int)=(i:Int)+(s:Int) by omega] at h;refine jc 84 (#[ptrV g,qI i,qI ((i:Int)+(s:Int))]) wq2 (by kernel_rfl) (h.mono ?_);clear h;rintro e wa ⟨v,bs,rfl,ho,hsh,hb5⟩;exact⟨_,rfl,(v,bs),rfl,jD,hbe.trans (hb5.mono hbe.size),ho.more hbe.size,hsh⟩
         ·have hkt:(i:Int)+(s:Int)<(ts.length:Int)+1:=by omega
          have hk0:(0:Int)<=(i:Int)+(s:Int):=by omega
          have hkn:((i:Int)+(s:Int)).toNat=i+s:=by omega
          exact jq (.pointer (some ⟨rows i,i+s,none⟩)) wq2 (by simp[go_sem,hkt,hk0,hkn]) rfl hI
         ·have e15:L 15=true:=hb 15 (by kernel_rfl);have e17:L 17=false:=hL;simp only[List.map,e15,e17] at hI⊢;obtain⟨hbe,ho,hsh⟩:=hI;obtain⟨gv,gbs⟩:=gr;obtain⟨A9,c9,e9,hl9,hc9,hP9⟩:=OwnP.form ho;dsimp only at e9;subst e9;have hW:=HW.out.keep hbe;obtain⟨cs,hcs,hsz,_⟩:=hW.row i (by omega);have hlt9:i+s<cs.size:=by omega
          have cJ:wq2.cell? ⟨rows i,i+s,none⟩=some cs[i+s]:=by rw[hcs.cell];exact Array.getElem?_eq_getElem hlt9
          have fJ:=hcs.frozen (i+s);exact Gives.skip (w':=wq2.setCell ⟨rows i,i+s,none⟩ (.slice A9 gbs.length c9)) (by simp[go_sem,cJ,fJ]) ⟨_,rfl,zAg.same,hW.store (by omega) (by omega) hl9 hc9 hP9 hsh (fun p q h=>by rw[zFl] at h⊢;omega)⟩
        ·intro gr wq2 hI;have HW:=zh (show TabW w wq2 g ⟨R,cR,T',cT',I,cI,P,cP,Q,cQ⟩ rs ts gc rows ts.length (zMz ts.length s (i+1)) from hI);clear hI;go_wp2;go_roundw
         case rel=>exact⟨i+1,by omega,by go_num,HW⟩
         case measure=>simp[intOf];omega
       ·have HW:=zh (HW.out.sub (fill':=zMz ts.length (s+1) 0) fun p q h=>by rw[zFl] at h⊢;omega);go_wp2;go_roundw
        case rel=>exact⟨s+1,by omega,by omega,by go_num,HW⟩
        case measure=>simp[intOf];omega
     ·have HW:=zh (HW.out.sub (fill':=fun p q=>decide (p<q)&&decide (q<=ts.length)) fun p q h=>by simp at h;rw[zFl];omega);go_wp2;go_ret;exact⟨_,_,_,_,rfl,HW.out.tab HR2.out HT2.out,HW.out.below⟩
end Go.Proofs.YtapgncbegadbnaaGreatDoor.Ch
