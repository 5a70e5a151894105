/- What the reference computes of a list, plain; that it is what the program computes. -/
import Derived.Test.YtapgncbegadbnaaGreatDoorH60963958
set_option maxRecDepth 100000
set_option maxHeartbeats 8000000
namespace Go.Proofs.YtapgncbegadbnaaGreatDoor
namespace Rn
open At Ch Sp Sy El Go.RowKit
variable{P ok0:Nat->Prop}{n B g b o:Nat}{w w' w0 wa wb:World}{ks:List Tre}{x t:Tre}{cur cs:Array Value}{A A':Option Addr}
theorem zMl :∀n,P n->∃m,P m/\∀k,P k->m<=k:=by
 intro n
 induction n using Nat.strongRecOn with
 |_ n ih=>
  intro hn
  by_cases h:∃k,k<n/\P k
  ·obtain⟨k,hk,hp⟩:=h;exact ih k hk hp
  ·exact⟨n,hn,fun k hp=>Nat.le_of_not_lt fun hk=>h ⟨k,hk,hp⟩⟩
open Classical in
noncomputable def leaD (P:Nat->Prop):Nat:=if h:∃m,P m/\∀k,P k->m<=k then Classical.choose h else 0
theorem yC8 (h:P n):leaD P<=n:=by
 unfold leaD;rw[dif_pos (zMl n h)];exact(Classical.choose_spec (zMl n h)).2 n h
theorem yCb (h:P n):P (leaD P):=by
 unfold leaD;rw[dif_pos (zMl n h)];exact(Classical.choose_spec (zMl n h)).1
abbrev Ent:=Nat×Nat×Tre
def entV (e:Ent):Value:=.pointer (some ⟨e.1,e.2.1,none⟩)
def entK (e:Ent):Nat×Nat:=(e.1,e.2.1)
def sumE (es:List Ent):Nat:=zA4 (es.map fun e=>e.2.2)
def zGe (w:World)(B:Nat)(v:Value)(es:List Ent):Prop:=w.ownsRow B 90 1 v es.length (es.reverse.map entV)
theorem zGe.top {v:Value}{e:Ent}{es:List Ent}(h:zGe w B v (e::es)):∃g cap cur,v= .slice (some ⟨g,0,none⟩) (es.length+1) cap/\B<=g/\es.length+1<=cap/\cap<=9223372036854775807/\Blk w g 90 cur/\w.cell? ⟨g,es.length,none⟩=some (entV e)/\zGe w B (.slice (some ⟨g,0,none⟩) es.length cap) es:=by
 obtain⟨hl,⟨rfl,h0⟩|⟨g,cap,cur,rfl,hg,hb,hn,hc,hs,ht⟩⟩:=h
 ·simp at h0
 ·have hb':Blk w g 90 cur:=hb;have ht':cur.toList.take (es.length+1)=(e::es).reverse.map entV:=by simpa using ht
  refine⟨g,cap,cur,rfl,hg,hn,by unfold maxLen at hc;omega,hb',?_,⟨by simp,.inr ⟨g,cap,cur,rfl,hg,hb,by simp at hn;omega,hc,hs,?_⟩⟩⟩
  ·rw[hb'.cell];have h3:((e::es).reverse.map entV)[es.length]?=some (entV e):=by simp
   rw[<-ht',List.getElem?_take] at h3
   split at h3
   ·rw[<-Array.getElem?_toList];exact h3
   ·cases h3
  ·have h4:=congrArg (List.take es.length) ht';rw[List.take_take,List.reverse_cons,List.map_append,List.take_append_of_le_length (by simp),List.take_of_length_le (l:=es.reverse.map entV) (by simp)] at h4;rw[<-h4]
   congr 1
   simp
theorem zGe.len {v:Value}{es:List Ent}(h:zGe w B v es):∃A cap,v= .slice A es.length cap:=by
 obtain⟨_,⟨rfl,h0⟩|⟨g,cap,cur,rfl,_⟩⟩:=h
 ·exact⟨none,0,by rw[h0]⟩
 ·exact⟨_,cap,rfl⟩
theorem zGe.ptr {v:Value}{es:List Ent}(h:zGe w B v es)(hp:0<es.length):∃(g cap:Nat) (cur:Array Value),v= .slice (some ⟨g,0,none⟩) es.length cap/\Blk w g 90 cur/\B<=g:=by
 obtain⟨_,⟨rfl,h0⟩|⟨g,cap,cur,rfl,hg,hb,_⟩⟩:=h
 ·omega
 ·exact⟨g,cap,cur,rfl,hb,hg⟩
theorem zGe.one (B:Nat)(hB:B<=w.heap.size)(e:Ent):zGe (w.alloc (.cells #[entV e] 90)) B (.slice (some ⟨w.heap.size,0,none⟩) 1 1) [e]:=
 ⟨by simp,.inr ⟨w.heap.size,1,_,rfl,hB,Blk.new w _ _,Nat.le_refl _,by unfold maxLen;omega,rfl,by simp⟩⟩
theorem zGe.push {v':Value}{e:Ent}{es:List Ent}(h:w'.ownsRow B 90 1 v' (es.length+1) (es.reverse.map entV++[entV e])):zGe w' B v' (e::es):=by
 unfold zGe;rw[List.reverse_cons,List.map_append,List.length_cons]
 simpa using h
theorem zI4:∀l:List Tre,l.length<=zA4 l
 |[]=>Nat.zero_le _
 |t::l=>by
  have h1:=zI4 l;have h2:0<zA7 t:=by cases t;rw[zA7];omega
  rw[zA4,List.length_cons];omega
theorem zRe (es:List Ent):es.length<=sumE es:=by
 have h:=zI4 (es.map fun e=>e.2.2);rw[List.length_map] at h;exact h
def zTx (w0 w:World)(e:Ent):Prop:=w0.heap.size<=e.1/\∃(cs:Array Value) (A:Option Addr) (cap:Nat),Blk w e.1 25 cs/\cs[e.2.1+3]?=some (.slice A e.2.2.kids.length cap)/\e.2.2.kids.length<=cap/\cap<=9223372036854775807/\zAo w0 A e.2.2.kids
theorem zTx.keep {e:Ent}(h:zTx w0 w e)(hk:∀g cs,Blk w g 25 cs->Blk w' g 25 cs):zTx w0 w' e:=by
 obtain⟨h1,cs,A,cap,h2,h3⟩:=h;exact⟨h1,cs,A,cap,hk _ _ h2,h3⟩
structure DpI (ok0:Nat->Prop)(w0:World)(t:Tre)(v:Value)(es:List Ent)(w:World):Prop where
 stk:zGe w (w0.heap.size+2) v es
 ent:∀e∈es,zTx w0 w e
 nod:(es.map entK).Nodup
 bel:Below w0.heap.size w0 w
 rep:zXp (fun b=>v.ownBlock≠some b/\b≠w0.heap.size+1/\(ok0 b\/w0.heap.size<=b)) w (fun j=>⟨w0.heap.size,j,none⟩) t
 root:∃cs,Blk w w0.heap.size 25 cs/\cs.size=4
 res:∃cs,Blk w (w0.heap.size+1) 25 cs/\cs.size=4
def kidE (g:Nat)(ks:List Tre):Nat->List Ent
 |0=>[]
 |k+1=>match ks[k]? with
  |some x=>(g,k*4,x)::kidE g ks k
  |none=>kidE g ks k
theorem zEo {k:Nat}(h:ks[k]?=some x):kidE g ks (k+1)=(g,k*4,x)::kidE g ks k:=by rw[kidE,h]
theorem zF4:∀(l:List Tre) (x:Tre),zA4 (l++[x])=zA4 l+zA7 x
 |[],x=>by simp[zA4]
 |t::l,x=>by rw[List.cons_append,zA4,zA4,zF4 l x];omega
theorem zRo (g:Nat)(ks:List Tre)(es:List Ent):∀k,sumE (kidE g ks k++es)=zA4 (ks.take k)+sumE es
 |0=>by simp[kidE,zA4]
 |k+1=>by
  have ih:=zRo g ks es k;cases h:ks[k]? with
  |none=>
   have hl:=List.getElem?_eq_none_iff.1 h;rw[kidE,h,ih,List.take_of_length_le hl,List.take_of_length_le (by omega)]
  |some x=>
   rw[zEo h,List.take_add_one,h];show zA7 x+sumE (kidE g ks k++es)=zA4 (ks.take k++[x])+sumE es;rw[ih,zF4];omega
theorem zMo {g:Nat}{ks:List Tre}:∀{k:Nat} {e:Ent},e∈kidE g ks k->e.1=g/\e.2.1<k*4
 |0,e,h=>by simp[kidE] at h
 |k+1,e,h=>by
  cases hx:ks[k]? with
  |none=>
   rw[kidE,hx] at h;have:=zMo h;exact⟨this.1,by omega⟩
  |some x=>
   rw[zEo hx] at h;rcases List.mem_cons.1 h with rfl|h
   ·exact⟨rfl,by show k*4<_;omega⟩
   ·have:=zMo h;exact⟨this.1,by omega⟩
structure CpI (wa wb:World)(b o:Nat)(A:Option Addr)(n:Nat)(A':Option Addr):Prop where
 grow:wa.grownBy wb (some b)
 cell:∀q:Addr,q.block<wa.heap.size->q≠⟨b,o+3,none⟩->wb.cell? q=wa.cell? q
 own:∀cs,Blk wa b 25 cs->Blk wb b 25 (cs.setIfInBounds (o+3) (.slice A' n n))
 new:0<n->A'=some ⟨wa.heap.size,0,none⟩/\∃(cs:Array Value) (a:Addr),Blk wb wa.heap.size 25 cs/\A=some a/\∀m,m<4*n->cs[m]?=wa.cell? (a.add m)
structure DpK (ok0:Nat->Prop)(w0:World)(t:Tre)(es:List Ent)(gk b o:Nat)(A':Option Addr)(ks:List Tre)(k:Nat)(v:Value)(w:World):Prop where
 inv:DpI ok0 w0 t v (kidE gk ks k++es) w
 ke:∀i x,ks[i]?=some x->zTx w0 w (gk,i*4,x)
 own:∃cs,Blk w b 25 cs/\cs[o+3]?=some (.slice A' ks.length ks.length)
 lt:∀e∈es,e.1<gk
theorem zUg (g k:Nat):(⟨g,0,none⟩:Addr).add k=⟨g,k,none⟩:=by unfold Addr.add;split<;>simp_all
theorem zU9 (h:Blk w g 90 cur)(h2:Blk w b 25 cs):g≠b:=fun e=>by
 subst e;have h9:=sj (h.symm.trans h2);injection h9 with _ h9 _;revert h9;decide
theorem DpI.pop {es:List Ent}{cap cap1:Nat}(h:DpI ok0 w0 t (.slice (some ⟨g,0,none⟩) (es.length+1) cap1) ((b,o,x)::es) wa)(hbg:Blk wa g 90 cur)
  (hs:zGe wa (w0.heap.size+2) (.slice (some ⟨g,0,none⟩) es.length cap1) es) (hb:Blk wa b 25 cs) (hc:cs[o+3]?=some (.slice A x.kids.length cap)) (hlb:w0.heap.size<=b) (hn:x.kids.length<=9223372036854775807) (hk:zAo w0 A x.kids)
  (hcp:CpI wa wb b o A x.kids.length A'):DpK ok0 w0 t es wa.heap.size b o A' x.kids 0 (.slice (some ⟨g,0,none⟩) es.length cap1) wb:=by
 have hgb:g≠b:=zU9 hbg hb;have hos:o+3<cs.size:=(Array.getElem?_eq_some_iff.1 hc).1;have hown:=hcp.own cs hb;have kb:∀g2 cs2,g2≠b->Blk wa g2 25 cs2->Blk wb g2 25 cs2:=fun g2 cs2 hne h2=>(hcp.grow.block g2 h2.lt fun e=>hne (sj e)).trans h2
 have kr:∀g2,(∃cs2,Blk wa g2 25 cs2/\cs2.size=4)->∃cs2,Blk wb g2 25 cs2/\cs2.size=4:=fun g2 ⟨cs2,h2,h3⟩=>by
  by_cases e:g2=b
  ·subst e;exact⟨_,hcp.own cs2 h2,by simp[h3]⟩
  ·exact⟨cs2,kb g2 cs2 e h2,h3⟩
 have hsw:Swap (fun b=>(Value.slice (some ⟨g,0,none⟩) (es.length+1) cap1).ownBlock≠some b/\b≠w0.heap.size+1/\(ok0 b\/w0.heap.size<=b)) (fun b=>(Value.slice (some ⟨g,0,none⟩) es.length cap1).ownBlock≠some b/\b≠w0.heap.size+1/\(ok0 b\/w0.heap.size<=b)) wa wb ⟨b,o+3,none⟩ A A' x.kids.length cap x.kids.length:=
  ⟨hcp.grow.size,fun _ _ h=>h,hcp.cell,by rw[hb.cell,hc],by rw[hown.cell];simp[hos],Nat.le_refl _,hn,fun hp=>by
   obtain⟨e1,cs',a,h1,h2,h3⟩:=hcp.new hp;obtain⟨ad,e2,e3,_⟩:=hk 0 x.kids[0] (gE hp);obtain rfl:a=ad:=sj (h2.symm.trans e2);refine⟨a,_,h2,e1,h1.lt,⟨fun e=>?_,fun e=>?_,.inr h.bel.size⟩,fun m hm=>?_⟩
   ·have:=sj e;have:=hbg.lt;simp at*;omega
   ·obtain⟨_,h9,_⟩:=h.res;have:=h9.lt;have e9:wa.heap.size=w0.heap.size+1:=e;omega
   ·rw[zUg,h1.cell,h3 m hm];refine(hcp.cell _ (by rw[zA2];have:=h.bel.size;omega) fun e=>?_).symm;have e4:=congrArg Addr.block e;rw[zA2] at e4;have e5:a.block=b:=e4;omega⟩
 refine⟨⟨World.ownsRow.kept hs hcp.grow (.inr fun e=>hgb (sj e)),fun e he=>?_,(List.nodup_cons.1 h.nod).2,h.bel.grown hcp.grow h.bel.size fun r e=>by have:=sj e;omega,hsw.at_ (fun _=>by have:=h.root;obtain⟨_,h2,_⟩:=this;exact h2.lt) h.rep,kr _ h.root,kr _ h.res⟩,fun i y hy=>?_,⟨_,hown,by simp[hos]⟩,fun e he=>?_⟩
 ·obtain⟨h1,cs2,A2,cap2,h2,h3,h4,h5,h6⟩:=h.ent e (List.mem_cons_of_mem _ he)
  by_cases e1:e.1=b
  ·rw[e1] at h2;have e2:cs2=cs:=by
    have h9:=sj (h2.symm.trans hb);injection h9
   subst e2;have hne:o+3≠e.2.1+3:=fun e3=>(List.nodup_cons.1 h.nod).1 (List.mem_map.2 ⟨e,he,by show(e.1,e.2.1)=(b,o);rw[e1];congr 1;omega⟩)
   exact⟨h1,_,A2,cap2,by rw[e1];exact hown,by rw[Array.getElem?_setIfInBounds_ne hne];exact h3,h4,h5,h6⟩
  ·exact⟨h1,cs2,A2,cap2,kb _ _ e1 h2,h3,h4,h5,h6⟩
 ·have hp:0<x.kids.length:=by have:=(List.getElem?_eq_some_iff.1 hy).1;omega
  obtain⟨e1,cs',a,h1,h2,h3⟩:=hcp.new hp;obtain⟨ad,e2,e3,c,h4,h5⟩:=hk i y hy;obtain rfl:a=ad:=sj (h2.symm.trans e2);obtain⟨A2,cap2,rfl,_,h6,h7,h8⟩:=h4.form;refine⟨h.bel.size,cs',A2,cap2,h1,?_,h6,h7,h8⟩;have hil:=(List.getElem?_eq_some_iff.1 hy).1;rw[h3 _ (by show i*4+3<_;omega),h.bel.cell (by rw[zA2];exact e3),h5 3 (by omega)];rfl
 ·obtain⟨_,cs2,_,_,h2,_⟩:=h.ent e (List.mem_cons_of_mem _ he);exact h2.lt
theorem DpK.push {ok0:Nat->Prop}{w0 w w':World}{t:Tre}{es:List Ent}{gk b o:Nat}{A':Option Addr}{ks:List Tre}{k g n cap1:Nat}{x:Tre}{v':Value}{cur:Array Value}(h:DpK ok0 w0 t es gk b o A' ks k (.slice (some ⟨g,0,none⟩) n cap1) w)(hx:ks[k]?=some x)(hv:Blk w g 90 cur)(hlg:w0.heap.size+2<=g)
  (ho:w'.ownsRow (w0.heap.size+2) 90 1 v' ((kidE gk ks k++es).length+1) ((kidE gk ks k++es).reverse.map entV++[entV (gk,k*4,x)])) (hg:w.grownBy w' (some g)) (hov:v'.ownBlock=some g\/v'.ownBlock=some w.heap.size):DpK ok0 w0 t es gk b o A' ks (k+1) v' w':=by
 have kb:∀g2 cs2,Blk w g2 25 cs2->Blk w' g2 25 cs2:=fun g2 cs2 h2=>(hg.block g2 h2.lt fun e=>zU9 hv h2 (sj e).symm).trans h2
 refine⟨⟨by rw[zEo hx];exact zGe.push ho,fun e he=>?_,?_,h.inv.bel.grown hg h.inv.bel.size fun r e=>by have:=sj e;omega,?_,h.inv.root.imp fun _ h=>⟨kb _ _ h.1,h.2⟩,h.inv.res.imp fun _ h=>⟨kb _ _ h.1,h.2⟩⟩,fun i y hy=>(h.ke i y hy).keep kb,h.own.imp fun _ h=>⟨kb _ _ h.1,h.2⟩,h.lt⟩
 ·rw[zEo hx] at he;rcases List.mem_cons.1 he with rfl|he
  ·exact(h.ke k x hx).keep kb
  ·exact(h.inv.ent e he).keep kb
 ·rw[zEo hx];refine List.nodup_cons.2 ⟨fun hm=>?_,h.inv.nod⟩;obtain⟨e,he,e1⟩:=List.mem_map.1 hm;have e2:e.1=gk:=congrArg Prod.fst e1;have e3:e.2.1=k*4:=congrArg Prod.snd e1;rcases List.mem_append.1 he with he|he
  ·have:=(zMo he).2;omega
  ·have:=h.lt e he;omega
 ·obtain⟨c,h1,h2⟩:=h.inv.rep;refine⟨c,h1.grown hg (fun b _ hb e=>hb.1 e.symm) fun b hb hok=>⟨?_,hok.2⟩,fun j hj=>?_⟩
  ·rcases hov with e|e
   ·rw[e];exact hok.1
   ·rw[e];intro e2;have:=sj e2;omega
  ·rw[World.cell?_of_block (hg.block _ ?_ ?_)]
   ·exact h2 j hj
   ·obtain⟨_,h3,_⟩:=h.inv.root;exact h3.lt
   ·intro e;have e2:w0.heap.size=g:=sj e;omega
theorem _root_.Go.Proofs.YtapgncbegadbnaaGreatDoor.At.zAv.nd {c:Array Value}(h:zAv w x c):NdAt (fun b=>b<w.heap.size) w x c:=by
 induction h with
 |mk k s c ks A cap ad cs hs hn hc hA hcell hk ih=>exact .mk k s c ks A cap ad cs hs hn hc (hA.imp id fun⟨h1,h2⟩=>⟨h1,h2,h2⟩) hcell ih
theorem DpI.start {c z:Array Value}(h:zAv w t c)(ho:NdAt ok0 w t c)(hok:∀b,ok0 b->b<w.heap.size)(hz:z.size=4):DpI ok0 w t (.slice (some ⟨w.heap.size+2,0,none⟩) 1 1) [(w.heap.size,0,t)] (((w.alloc (.cells c 25)).alloc (.cells z 25)).alloc (.cells #[qP w.heap.size] 90)):=by
 have b1:=zA0 w (.cells c 25);have s1:(w.alloc (.cells c 25)).heap.size=w.heap.size+1:=by simp
 have b2:=zA0 (w.alloc (.cells c 25)) (.cells z 25);have s2:((w.alloc (.cells c 25)).alloc (.cells z 25)).heap.size=w.heap.size+2:=by simp
 have b3:=zA0 ((w.alloc (.cells c 25)).alloc (.cells z 25)) (.cells #[qP w.heap.size] 90);have K0:=keep b3 (keep b2 (Blk.new w 25 c));have K1:=keep b3 (Blk.new (w.alloc (.cells c 25)) 25 z);rw[s1] at K1;have hst:=zGe.one (w:=(w.alloc (.cells c 25)).alloc (.cells z 25)) (w.heap.size+2) (by rw[s2];exact Nat.le_refl _) (w.heap.size,0,t);rw[s2] at hst;have hb:=b1.trans ((b2.trans (b3.mono b2.size)).mono b1.size);have hz4:c.size=4:=by obtain⟨A,cap,rfl,_⟩:=h.form;rfl
 refine⟨hst,fun e he=>?_,by simp,hb,⟨c,(ho.keep hb).any fun b _ hb2=>⟨fun e=>?_,Nat.ne_of_lt (Nat.lt_succ_of_lt (hok b hb2)),.inl hb2⟩,fun j _=>K0.cell j⟩,⟨c,K0,hz4⟩,⟨z,K1,hz⟩⟩
 ·obtain rfl:=List.mem_singleton.1 he;obtain⟨A,cap,rfl,_,h2,h3,h4⟩:=h.form;exact⟨Nat.le_refl _,_,A,cap,K0,rfl,h2,h3,h4⟩
 ·have:=sj e;have hb3:b<w.heap.size:=hok b hb2;have e2:w.heap.size+2=b:=this;omega
theorem zX6 (x:World)(g:Nat)(c0 c1 c2 c3:Value):x.grownBy ((((x.setCell ⟨g,0,none⟩ c0).setCell ⟨g,1,none⟩ c1).setCell ⟨g,2,none⟩ c2).setCell ⟨g,3,none⟩ c3) (some g):=
 zB6 (zB6 (zB6 (zA8 x ⟨g,0,none⟩ c0) (zA8 _ ⟨g,1,none⟩ c1)) (zA8 _ ⟨g,2,none⟩ c2)) (zA8 _ ⟨g,3,none⟩ c3)
theorem zO9 {x:World}{t:TypeId}{d0 d1 d2 d3:Value}(h:Blk x g t #[d0,d1,d2,d3])(hb:Below B w x)(hg:B<=g)(c0 c1 c2 c3:Value):∃w9,(((x.setCell ⟨g,0,none⟩ c0).setCell ⟨g,1,none⟩ c1).setCell ⟨g,2,none⟩ c2).setCell ⟨g,3,none⟩ c3=w9/\Hid (Blk w9 g t #[c0,c1,c2,c3])/\Hid (Below B w w9)/\Hid (x.grownBy w9 (some g)):=
 ⟨_,rfl,zh ((((h.set_ 0 c0).set_ 1 c1).set_ 2 c2).set_ 3 c3),zh (hb.grown (zX6 x g c0 c1 c2 c3) (Nat.le_trans hg (Nat.le_of_lt h.lt)) fun r e=>by have:=sj e;omega),zh (zX6 x g c0 c1 c2 c3)⟩
theorem arr4 (h:cs.size=4):∃a b c d,cs= #[a,b,c,d]:=by
 obtain⟨l⟩:=cs
 match l,h with
 |[a,b,c,d],_=>exact⟨a,b,c,d,rfl⟩
structure MkI (wa wc:World)(b o n:Nat)(A':Option Addr):Prop where
 grow:wa.grownBy wc (some b)
 cell:∀q:Addr,q.block<wa.heap.size->q≠⟨b,o+3,none⟩->wc.cell? q=wa.cell? q
 own:∀cs,Blk wa b 25 cs->Blk wc b 25 (cs.setIfInBounds (o+3) (.slice A' n n))
 new:0<n->A'=some ⟨wa.heap.size,0,none⟩/\∃cs:Array Value,Blk wc wa.heap.size 25 cs/\cs.size=n*4
theorem MkI.zero (wa:World)(b o:Nat):MkI wa (wa.setCell ⟨b,o+3,none⟩ qN) b o 0 none:=
 ⟨zA8 wa ⟨b,o+3,none⟩ _,fun q _ hq=>World.cell?_setCell_other wa _ q _ hq.symm,fun _ h=>h.set_ (o+3) _,fun h=>absurd h (Nat.lt_irrefl 0)⟩
theorem MkI.some_ {w1:World}(hb:b<wa.heap.size)(_:0<n)(hg:(wa.setCell ⟨b,o+3,none⟩ qN).grownBy w1 none)(hk:Blk w1 wa.heap.size 25 cs)(hs:cs.size=n*4):MkI wa (w1.setCell ⟨b,o+3,none⟩ (.slice (some ⟨wa.heap.size,0,none⟩) n n)) b o n (some ⟨wa.heap.size,0,none⟩):=by
 have hg0:=zA8 wa ⟨b,o+3,none⟩ qN;have hs0:(wa.setCell ⟨b,o+3,none⟩ qN).heap.size=wa.heap.size:=by simp[World.setCell]
 have hg1:wa.grownBy w1 (some b):=⟨hg.os.trans hg0.os,hg.tape.trans hg0.tape,hg.output.trans hg0.output,Nat.le_trans hg0.size hg.size,fun i hi hne=>(hg.block i (by rw[hs0];exact hi) (by simp)).trans (hg0.block i hi hne)⟩
 refine⟨zB6 hg1 (zA8 w1 ⟨b,o+3,none⟩ _),fun q hq hne=>?_,fun cs2 h2=>?_,fun _=>⟨rfl,cs,hk.far (by show wa.heap.size≠b;omega) _,hs⟩⟩
 ·rw[World.cell?_setCell_other w1 _ q _ hne.symm,World.cell?_of_block (hg.block _ (by rw[hs0];exact hq) (by simp)),World.cell?_setCell_other wa _ q _ hne.symm]
 ·have h3:Blk w1 b 25 (cs2.setIfInBounds (o+3) qN):=(hg.block b (by rw[hs0];exact hb) (by simp)).trans (h2.set_ (o+3) _);have h4:=h3.set_ (o+3) (.slice (some ⟨wa.heap.size,0,none⟩) n n);rw[show(cs2.setIfInBounds (o+3) qN).setIfInBounds (o+3) (.slice (some ⟨wa.heap.size,0,none⟩) n n)=cs2.setIfInBounds (o+3) (.slice (some ⟨wa.heap.size,0,none⟩) n n) from by
   refine Array.ext_getElem? fun k=>?_
   simp only[Array.getElem?_setIfInBounds,Array.size_setIfInBounds]
   split
   ·rfl
   ·rfl] at h4
  exact h4
theorem zWm (h:zAo w A ks)(hp:0<ks.length):∃(ad:Addr) (cs:List Value),A=some ad/\ad.block<w.heap.size/\cs.length=ks.length*4/\(∀j v,cs[j]?=some v->w.cell? (ad.add j)=some v)/\∀v∈cs,v.oneCell'=true:=by
 obtain⟨ad,h1,h2,_⟩:=h 0 ks[0] (gE hp);have hc:∀j,j<ks.length*4->∃v,w.cell? (ad.add j)=some v/\v.oneCell'=true:=fun j hj=>by
  obtain⟨ad',e1,_,c,e2,e3⟩:=h (j/4) _ (gE (by omega));obtain rfl:ad=ad':=sj (h1.symm.trans e1);have e4:=e3 (j%4) (Nat.mod_lt _ (by omega));rw[show j/4*4+j%4=j by omega] at e4;obtain⟨A2,cap2,rfl,_⟩:=e2.form;have hm:j%4<4:=Nat.mod_lt _ (by omega);generalize j%4=m at*
  match m,hm with
  |0,_=>exact⟨_,e4,rfl⟩
  |1,_=>exact⟨_,e4,rfl⟩
  |2,_=>exact⟨_,e4,rfl⟩
  |3,_=>exact⟨_,e4,rfl⟩
 refine⟨ad,(List.range (ks.length*4)).map fun j=>(w.cell? (ad.add j)).getD undef,h1,h2,by simp,fun j v hj=>?_,fun v hv=>?_⟩
 ·rw[List.getElem?_map] at hj;rcases Nat.lt_or_ge j (ks.length*4) with hl|hl
  ·rw[List.getElem?_range hl] at hj;obtain⟨u,e1,_⟩:=hc j hl;rw[e1];rw[Option.map_some,e1] at hj;exact hj
  ·rw[List.getElem?_eq_none (by simpa using hl)] at hj;cases hj
 ·obtain⟨j,hj,rfl⟩:=List.mem_map.1 hv;obtain⟨u,e1,e2⟩:=hc j (List.mem_range.1 hj);rw[e1];exact e2
theorem MkI.copy {wc:World}(h:MkI wa wc b o ks.length A')(hb0:Below w0.heap.size w0 wa)(hk:zAo w0 A ks)(hlb:w0.heap.size<=b)(hb:b<wa.heap.size)
  (hc:yD1 wc wb A' A ks.length 25):CpI wa wb b o A ks.length A':=by
 rcases hc with⟨h0,rfl⟩|⟨h0,g,ad,cur,cs,e1,rfl,hcur,hl,hsrc,rfl⟩
 ·exact⟨h.grow,h.cell,h.own,fun hp=>absurd hp (by omega)⟩
 ·obtain⟨e2,cs2,hk2,_⟩:=h.new (by omega);obtain rfl:g=wa.heap.size:=by rw[e1] at e2;exact congrArg Addr.block (sj e2)
  obtain⟨ad',h1,h2,_⟩:=hk 0 ks[0] (gE (by omega));obtain rfl:ad=ad':=sj h1;refine⟨⟨h.grow.os,h.grow.tape,h.grow.output,by simpa [World.setRow] using h.grow.size,fun i hi hne=>(setRow_other wc _ i _ (by omega)).trans (h.grow.block i hi hne)⟩,fun q hq hne=>?_,fun cs3 h3=>(setRow_other wc _ b _ (by omega)).trans (h.own cs3 h3),fun _=>⟨e1,cs.toArray,ad,setRow_heap wc _ cur _ _ _ hcur,rfl,fun m hm=>?_⟩⟩
  ·rw[World.cell?_of_block (setRow_other wc _ q.block _ (by omega))];exact h.cell q hq hne
  ·obtain⟨v,hv⟩:∃v,cs[m]?=some v:=⟨_,gE (by omega)⟩
   have e4:=hsrc m v hv;rw[h.cell _ (by rw[zA2];have:=hb0.size;omega) fun e=>by
    have e5:=congrArg Addr.block e;rw[zA2] at e5;have e6:ad.block=b:=e5;omega] at e4
   rw[e4]
   simpa using hv
theorem DpI.keep {ok0:Nat->Prop}{w0 w w':World}{t:Tre}{v:Value}{es:List Ent}(h:DpI ok0 w0 t v es w)(hb:Below w.heap.size w w'):DpI ok0 w0 t v es w':=
 ⟨Sp.own_below h.stk hb,fun e he=>(h.ent e he).keep fun _ _ h2=>h2.below hb h2.lt,h.nod,h.bel.trans (hb.mono h.bel.size),by
  obtain⟨c,h1,h2⟩:=h.rep;refine⟨c,h1.keep hb,fun j hj=>?_⟩;rw[hb.cell (by obtain⟨_,h3,_⟩:=h.root;exact h3.lt)];exact h2 j hj,h.root.imp fun _ h2=>⟨h2.1.below hb h2.1.lt,h2.2⟩,h.res.imp fun _ h2=>⟨h2.1.below hb h2.1.lt,h2.2⟩⟩
theorem DpK.keep {ok0:Nat->Prop}{w0 w w':World}{t:Tre}{es:List Ent}{gk b o:Nat}{A':Option Addr}{ks:List Tre}{k:Nat}{v:Value}(h:DpK ok0 w0 t es gk b o A' ks k v w)(hb:Below w.heap.size w w'):DpK ok0 w0 t es gk b o A' ks k v w':=
 ⟨h.inv.keep hb,fun i x hx=>(h.ke i x hx).keep fun _ _ h2=>h2.below hb h2.lt,h.own.imp fun _ h2=>⟨h2.1.below hb h2.1.lt,h2.2⟩,h.lt⟩
theorem zKk:∀(l:List Tre) (k:Nat),zA4 (l.take k)<=zA4 l
 |[],k=>by rw[List.take_nil];exact Nat.le_refl _
 |t::l,0=>by rw[List.take_zero,zA4];exact Nat.zero_le _
 |t::l,k+1=>by
  have:=zKk l k;rw[List.take_succ_cons,zA4,zA4];omega
theorem yAp:(Tryz.prog.info? 90).map (fun i=>(i.zero,i.size,i.bytes))=some (some (.pointer none),1,8):=by kernel_rfl
theorem zY5 (ok0:Nat->Prop)(t:Tre)(c:Array Value)(w:World)(hN:zAv w t c)(hO:NdAt ok0 w t c)(hok:∀b,ok0 b->b<w.heap.size)(hz:zA7 t<=1000000):Calls Tryz.prog 46 #[.agg c] w fun e w'=>∃c',e= .returned (.agg c')/\NdAt (fun b=>ok0 b\/w.heap.size<=b) w' t c'/\Below w.heap.size w w':=by
 obtain⟨y0,hy,hy0,hy1,hy2⟩:=Sp.info_parts yA1;obtain⟨i0,hi,hz0,hz1,hz2⟩:=Sp.info_parts yAp;have HI:=zh (DpI.start (z:=qZ) hN hO hok rfl);obtain⟨A,cap,rfl,hsz,hl,hc,hk⟩:=hN.form;have HZ:=zh hz;clear hk hN hO hok hz;go_enter Tryz.func46,Tryz.ntmps46;go_wp2_with fail;generalize ((w.alloc (qO t A cap)).alloc (.cells qZ 25)).alloc (.cells #[qP w.heap.size] 90)=w1 at*;have HP:=zh (show ∃es,DpI ok0 w t (.slice (some ⟨w.heap.size+2,0,none⟩) 1 1) es w1/\sumE es=zA7 t from⟨_,HI.out,by simp[sumE,zA4]⟩);clear HI
 go_loopw [3] (fun v wr=>∃s,s<=1000000/\Hid (∃es,DpI ok0 w t v es wr/\sumE es=s)) (fun v wr=>leaD fun s=>s<=1000000/\∃es,DpI ok0 w t v es wr/\sumE es=s)
 case atStart=>exact⟨_,HZ.out,HP⟩
 case round=>
  clear HP;obtain⟨s0,hs0,hp0⟩:=hrel;obtain⟨hs,es,hI,hS⟩:=yCb (P:=fun s=>s<=1000000/\∃es,DpI ok0 w t u3 es wr/\sumE es=s) ⟨hs0,hp0.out⟩;clear s0 hs0 hp0;have HS:=zh hS;have HM:=zh hs;have HB:=zh hI.bel;clear hS hs;cases es with
  |nil=>
   obtain⟨A1,cap1,rfl⟩:=hI.stk.len;obtain⟨c,hn,hcell⟩:=hI.rep;obtain⟨A2,cap2,rfl,_⟩:=hn.form;obtain⟨cs,hr,hcs⟩:=hI.res;obtain⟨d0,d1,d2,d3,rfl⟩:=arr4 hcs;have k0:=hcell 0 (by omega);have k1:=hcell 1 (by omega);have k2:=hcell 2 (by omega);have k3:=hcell 3 (by omega);have HN:=zh hn;have HR:=zh hr;have rc:=fun i=>hr.cell i
   have rf:=fun i=>hr.frozen i
   clear hI hn hcell hr hcs;go_wp2_with fail;obtain⟨w9,e9,K9,HB9,HG9⟩:=zO9 HR.out HB.out (Nat.le_succ _) (qI t.kind) (.string t.text) (qI t.cols) (.slice A2 t.kids.length cap2);rw[e9];obtain⟨r0,r1,r2,r3⟩:=qb K9;exact bodyPost_ret (v:=.agg (qC t A2 cap2)) (by simp[results,Tryz.results46,go_sem,r0,r1,r2,r3]) rfl ⟨_,rfl,HN.out.grown HG9.out (fun b _ hb e=>hb.2.1 (sj e)) fun _ _ hb=>hb.2.2,HB9.out⟩
  |cons e es=>
   obtain⟨b,o,x⟩:=e;obtain⟨g,cap1,cur,rfl,hg,hcap,hcm,hbg,hct,hst⟩:=hI.stk.top;obtain⟨hlb,cs,A1,cap2,hb,hc1,hn,hcm2,hk⟩:=hI.ent _ List.mem_cons_self;have HB5:=zh (show b<wr.heap.size from hb.lt);have HI:=zh hI;have HK:=zh (show zAo w A1 x.kids from hk);have HST:=zh hst;have HBG:=zh hbg;have HBB:=zh (show Blk wr b 25 cs from hb);have HC1:=zh (show cs[o+3]?=some (.slice A1 x.kids.length cap2) from hc1);have HLB:=zh (show w.heap.size<=b from hlb);have hlen:es.length+1<=1000000:=by
    have h1:=HS.out;have h2:=HM.out;have h3:=zRe ((b,o,x)::es);rw[h1] at h3;simp only[List.length_cons] at h3;omega
   have hkl:x.kids.length<=1000000:=by
    have h1:=HS.out;have h2:=HM.out;have h3:=zI4 x.kids;have h4:sumE ((b,o,x)::es)=zA7 x+sumE es:=rfl;have h5:zA7 x=zA4 x.kids+1:=by cases x;rw[zA7];rfl
    omega
   have HKL:=zh hkl;clear hI hk hst hbg hb hc1 hlb hkl;replace hct:wr.cell? ⟨g,es.length,none⟩=some (.pointer (some ⟨b,o,none⟩)):=hct;generalize hnn:es.length+1=n at*;have j0:(n:Int) -1=((es.length:Nat):Int):=by omega
   have j1:(0:Int)<=(es.length:Int):=by omega
   have j2:(es.length:Int)<(n:Int):=by omega
   have j3:(0:Int)<(n:Int):=by omega
   have j5:es.length<=cap1:=by omega
   have c3:wr.cell? ⟨b,o+3,none⟩=some (.slice A1 x.kids.length cap2):=(HBB.out.cell (o+3)).trans HC1.out;have f3:wr.frozen? ⟨b,o+3,none⟩=false:=HBB.out.frozen (o+3);go_upto_if 31 with(fail)
   have hws:w.heap.size<=wr.heap.size:=HB.out.size
   go_cut [] from 8 to 61 (fun wc=>∃A',Hid (MkI wr wc b o x.kids.length A'))
   case first=>
    by_cases hz:x.kids.length=0
    ·have m1:¬(0:Int)<(x.kids.length:Int):=by omega
     have HZ:=zh (show MkI wr (wr.setCell ⟨b,o+3,none⟩ qN) b o x.kids.length none by rw[hz];exact MkI.zero wr b o);clear c3 f3 hz;go_wp2;go_meet
     case rel=>exact⟨none,HZ⟩
    ·have m1:(0:Int)<(x.kids.length:Int):=by omega
     replace hz:=zh hz;have hkl:x.kids.length<=1000000:=HKL.out;have hsc:(wr.setCell ⟨b,o+3,none⟩ qN).heap.size=wr.heap.size:=by simp[World.setCell]
     go_wp2_with (refine wpList_make_full _ rfl _ _ 23 rfl w.heap.size 25 y0 (.agg qZ) 4 Tryz.underlying23 hy hy0 hy1 _ _ _ _ x.kids.length rfl rfl rfl rfl (by rw[hy2];omega) (by unfold maxLen;omega) (by rw[hsc];exact hws) ?_)
     intro w4 ho hg;obtain⟨cur2,hk4,hs4⟩:∃cur2:Array Value,Blk w4 wr.heap.size 25 cur2/\cur2.size=x.kids.length*4:=by
      rcases ho.2 with⟨h9,_⟩|⟨g9,cap9,cur9,h9,_,h10,_,_,h11,_⟩
      ·cases h9
      ·cases h9;exact⟨cur9,h10,h11⟩
     have HMK:=zh (MkI.some_ HB5.out (by have:=hz.out;omega) hg hk4 hs4);have HB4:Blk w4 b 25 (cs.setIfInBounds (o+3) qN):=(hg.block b (by rw[hsc];exact HB5.out) (by simp)).trans (HBB.out.set_ (o+3) _);have f4:w4.frozen? ⟨b,o+3,none⟩=false:=HB4.frozen (o+3);have c4:w4.cell? ⟨b,o+3,none⟩=some qN:=by
      rw[HB4.cell];simp[(Array.getElem?_eq_some_iff.1 HC1.out).1]
     replace HB4:=zh HB4;clear c3 f3 ho hg hk4 hs4 hsc m1 hkl;go_wp2;go_meet
     case rel=>exact⟨_,HMK⟩
   case rest=>
    obtain⟨A',HMK⟩:=hcut;clear c3 f3 j0 j1 j2 j3 j5;have HBC:=zh (HMK.out.own cs HBB.out);have c3:wc.cell? ⟨b,o+3,none⟩=some (.slice A' x.kids.length x.kids.length):=by
     rw[HBC.out.cell];simp[(Array.getElem?_eq_some_iff.1 HC1.out).1]
    have hcp:x.kids.length=0\/∃(g:Nat) (ad:Addr) (cur:Array Value) (cs:List Value),A'=some ⟨g,0,none⟩/\A1=some ad/\wc.heap[g]?=some (.cells cur 25 (0,0))/\cs.length=x.kids.length*4/\(∀j v,cs[j]?=some v->wc.cell? (ad.add j)=some v)/\cs.length=cur.size/\∀v∈cs,v.oneCell'=true:=by
     by_cases h0:x.kids.length=0
     ·exact .inl h0
     ·obtain⟨e2,cs2,hk2,hs2⟩:=HMK.out.new (by omega);obtain⟨ad,cs9,e3,e4,e5,e6,e7⟩:=zWm HK.out (by omega);refine .inr ⟨_,ad,cs2,cs9,e2,e3,hk2,e5,fun j v hj=>?_,by rw[e5,hs2],e7⟩;rw[HMK.out.cell _ (by rw[zA2];exact ll e4 HB.out.size) fun e=>by
       have e8:=congrArg Addr.block e;rw[zA2] at e8;have e9:ad.block=b:=e8;have:w.heap.size<=b:=HLB.out;omega,HB.out.cell (by rw[zA2];exact e4)]
      exact e6 j v hj
    have hsz4:(Tryz.prog.info? 25).map (·.size)=some 4:=by rw[hy];simp[hy1]
    go_wp2_with (refine zN7 rfl (.tmp 41) (.tmp 42) 23 23 rfl 25 Tryz.underlying23 hsz4 A' A1 x.kids.length x.kids.length cap2 rfl rfl 25 hcp ?_)
    intro wb hwb;have HCP:=zh (HMK.out.copy HB.out HK.out HLB.out HB5.out hwb);have HII:=HI.out;rw[<-hnn] at HII;have HD:=zh (HII.pop HBG.out HST.out HBB.out HC1.out HLB.out (by have:=HKL.out;omega) HK.out HCP.out);have HBG2:=zh (show Blk wb g 90 cur from(HCP.out.grow.block g HBG.out.lt fun e=>zU9 HBG.out HBB.out (sj e)).trans HBG.out);obtain⟨cs3,hb3,hc3⟩:=HD.out.own;have c5:wb.cell? ⟨b,o+3,none⟩=some (.slice A' x.kids.length x.kids.length):=(hb3.cell (o+3)).trans hc3;have HX:=zh (HCP.out.new);have HSM:=zh (show zA7 x+sumE es<=1000000 by have h1:=HS.out;have h2:=HM.out;have h4:sumE ((b,o,x)::es)=zA7 x+sumE es:=rfl;omega);clear HII hwb hcp hsz4 c3 hb3 hc3 HBC HMK HCP HI HBB HC1 HST HBG hws;generalize wr.heap.size=gk at*;go_wp2_with fail
    go_loopw [3,49] (fun v i wr=>∃k:Nat,k<=x.kids.length/\i=qI k/\Hid (DpK ok0 w t es gk b o A' x.kids k v wr)/\Hid (∃(g2 c2:Nat) (cur2:Array Value),v= .slice (some ⟨g2,0,none⟩) (kidE gk x.kids k++es).length c2/\Blk wr g2 90 cur2/\w.heap.size+2<=g2)) (fun _ i _=>x.kids.length -(intOf i).toNat)
    case atStart=>exact⟨0,by omega,rfl,HD,zh ⟨g,cap1,cur,rfl,HBG2.out,hg⟩⟩
    case round=>
     clear HD HBG2 c5;obtain⟨k,hk,rfl,HDK,HV⟩:=hrel;obtain⟨g2,c2,cur2,rfl,hb2,hl2⟩:=HV.out;have HB2:=zh hb2;clear HV hb2;have HSK:=zh (zRo gk x.kids es k);generalize hE:kidE gk x.kids k++es=E at*;have HE:=zh hE;clear hE
     by_cases hlt:k<x.kids.length
     ·obtain⟨y,hy2⟩:∃y,x.kids[k]?=some y:=⟨_,gE hlt⟩
      obtain⟨rfl,_⟩:=HX.out (by omega);obtain⟨cs3,hb3,hc3⟩:=HDK.out.own;have c6:wr.cell? ⟨b,o+3,none⟩=some (.slice (some ⟨gk,0,none⟩) x.kids.length x.kids.length):=(hb3.cell (o+3)).trans hc3;have hba:=zA0 wr (.cells #[.pointer (some ⟨gk,k*4,none⟩)] 90);have HDK2:=zh (HDK.out.keep hba);have HRD:=Sp.zBb (Blk.new wr 90 #[.pointer (some ⟨gk,k*4,none⟩)]) rfl (n:=1);replace HB2:=zh (HB2.out.below hba HB2.out.lt);have HO:=zh (show(wr.alloc (.cells #[.pointer (some ⟨gk,k*4,none⟩)] 90)).ownsRow (w.heap.size+2) 90 1 (.slice (some ⟨g2,0,none⟩) E.length c2) E.length (E.reverse.map entV) from by have h9:=HDK2.out.inv.stk;rw[HE.out] at h9;exact h9);have HBS:=zh (show w.heap.size+2<=(wr.alloc (.cells #[.pointer (some ⟨gk,k*4,none⟩)] 90)).heap.size by have:=HB2.out.lt;omega);have HLN:=zh (show E.length<=1000000 by
       have h1:=zRe E;have h2:=HSM.out;have h3:=HSK.out;have h4:zA4 (x.kids.take k)<=zA4 x.kids:=zKk x.kids k;have h5:zA7 x=zA4 x.kids+1:=by cases x;rw[zA7];rfl
       omega)
      have HY:=zh hy2;have m1:(0:Int)<=(k:Int):=by omega
      have m2:(k:Int)<(x.kids.length:Int):=by omega
      clear hb3 hc3 hba hy2;go_wp2_with (at_builtin;refine zA9 _ rfl (.tmp 52) (.tmp 59) 138 rfl (w.heap.size+2) 90 i0 (.pointer none) 1 8 Tryz.underlying138 hi hz0 hz1 hz2 rfl (by decide) _ _ _ rfl HO.out _ (some ⟨wr.heap.size,0,none⟩) 1 1 [.pointer (some ⟨gk,k*4,none⟩)] rfl HRD (by simp[Value.oneCell']) (by have:=HLN.out;unfold maxLen;omega) (by have:=HLN.out;omega) HBS.out ?_)
      intro v' w6 q2 q3 q4;have HDN:=zh (show DpK ok0 w t es gk b o (some ⟨gk,0,none⟩) x.kids (k+1) v' w6 from HDK2.out.push HY.out HB2.out hl2 (by rw[HE.out,List.map_reverse];exact q2) q3 (by rw[World.size_alloc];exact q4));clear HDK HDK2 HO HRD HB2 q2 q3 q4 c6 m1 m2;have HVN:=zh (HDN.out.inv.stk.ptr (by rw[zEo HY.out];simp));go_wp2;go_roundw
      case rel=>exact⟨k+1,by omega,by go_num,HDN,HVN⟩
      case measure=>simp[intOf];omega
     ·obtain rfl:k=x.kids.length:=by omega
      have HNN:=zh (show ∃es',DpI ok0 w t (.slice (some ⟨g2,0,none⟩) E.length c2) es' wr/\sumE es'=zA4 x.kids+sumE es from⟨E,by have h9:=HDK.out.inv;rw[HE.out] at h9;exact h9,by rw[HSK.out,List.take_length]⟩);have HLT:=zh (show zA4 x.kids+sumE es<zA7 x+sumE es by have h5:zA7 x=zA4 x.kids+1:=(by cases x;rw[zA7];rfl);omega);have HS2:=zh (show zA7 x+sumE es=_ from HS.out);clear HDK HX HSK;go_wp2;go_roundw
      case rel=>exact⟨_,by have h1:=HLT.out;have h2:=HSM.out;omega,HNN⟩
      case measure=>
       refine Nat.lt_of_le_of_lt (yC8 (P:=fun s=>s<=1000000/\_) ⟨?_,HNN.out⟩) ?_
       ·have h1:=HLT.out;have h2:=HSM.out;omega
       ·have h1:=HLT.out;have h2:=HS2.out;omega
end Rn
namespace El
open At Ch Sp Sy Go.RowKit
variable{rs:List Rul}{x y z:Rd}{i j q k:Nat}{n:Tre}{ts:List ByteArray}{path:List Int}{pre:Bool}{t:ByteArray}{u:Rul}
mutual
def pfxR (rs:List Rul):Rd->List Int
 | .mk r a ks=>(if 0<=r/\kndR rs r=2 then[a] else[])++pfxL rs ks
def pfxL (rs:List Rul):List Rd->List Int
 |[]=>[]
 |k::ks=>pfxR rs k++pfxL rs ks
end
theorem zPn (h:OkR rs x i j):∀q:Int,q∈pfxR rs x↔∃n:Int,(q,n)∈asgR rs x (j:Int)/\kndR rs n=2:=by
 induction h with
 |leaf i=>intro q;rw[zMi,pfxR];simp[pfxL]
 |inf n u i k j y z hu hk h1 h2 hz a b ha hb=>
  intro q;rw[zJh hu hk hz,pfxR,pfxL,pfxL,pfxL,if_neg (by rw[zBl hu,hk];omega)];simp only[List.nil_append,List.append_nil,List.mem_append,ha,hb,List.mem_cons];constructor
  ·rintro(⟨m,h3,h4⟩|⟨m,h3,h4⟩)
   ·exact⟨m,.inr (.inl h3),h4⟩
   ·exact⟨m,.inr (.inr h3),h4⟩
  ·rintro⟨m,h3|h3|h3,h4⟩
   ·injection h3 with _ h3;rw[h3,zBl hu,hk] at h4;omega
   ·exact .inl ⟨m,h3,h4⟩
   ·exact .inr ⟨m,h3,h4⟩
 |pre n u i j y hu hk h1 a ha=>
  intro q;rw[zKh hu hk,pfxR,pfxL,pfxL,if_pos ⟨by omega,by rw[zBl hu,hk]⟩];simp only[List.append_nil,List.mem_append,ha,List.mem_cons];constructor
  ·rintro((rfl|h3)|⟨m,h3,h4⟩)
   ·exact⟨(n:Int),.inl rfl,by rw[zBl hu,hk]⟩
   ·cases h3
   ·exact⟨m,.inr h3,h4⟩
  ·rintro⟨m,h3|h3,h4⟩
   ·injection h3 with h3 _;exact .inl (.inl h3)
   ·exact .inr ⟨m,h3,h4⟩
 |pos n u i j y hu hk h1 a ha=>
  intro q;rw[zJk hu hk (by omega),pfxR,pfxL,pfxL,if_neg (by rw[zBl hu,hk];omega)];simp only[List.nil_append,List.append_nil,ha,List.mem_cons];constructor
  ·rintro⟨m,h3,h4⟩;exact⟨m,.inr h3,h4⟩
  ·rintro⟨m,h3|h3,h4⟩
   ·injection h3 with _ h3;rw[h3,zBl hu,hk] at h4;omega
   ·exact⟨m,h3,h4⟩
 |jux n u i k j y z hu hk h1 h2 hz a b ha hb=>
  intro q;rw[zJf hu hk hz,pfxR,pfxL,pfxL,pfxL,if_neg (by rw[zBl hu,hk];omega)];simp only[List.nil_append,List.append_nil,List.mem_append,ha,hb];constructor
  ·rintro(⟨m,h3,h4⟩|⟨m,h3,h4⟩)
   ·exact⟨m,.inl h3,h4⟩
   ·exact⟨m,.inr h3,h4⟩
  ·rintro⟨m,h3|h3,h4⟩
   ·exact .inl ⟨m,h3,h4⟩
   ·exact .inr ⟨m,h3,h4⟩
theorem zLa:∀(ws:List (Int×Int)) (l:List Int) (q:Nat),(∀p∈ws,p.1.toNat≠q)->(ws.foldl (fun l p=>l.set p.1.toNat p.2) l)[q]?=l[q]?
 |[],_,_,_=>rfl
 |p::ws,l,q,h=>by
  rw[List.foldl_cons,zLa ws _ q fun r hr=>h r (List.mem_cons_of_mem _ hr),List.getElem?_set_ne (h p List.mem_cons_self)]
theorem fold_at:∀(ws:List (Int×Int)) (l:List Int),(ws.map Prod.fst).Nodup->(∀p∈ws,0<=p.1/\p.1.toNat<l.length)->∀(q:Nat) (n:Int),((q:Int),n)∈ws->(ws.foldl (fun l p=>l.set p.1.toNat p.2) l)[q]?=some n
 |[],_,_,_,_,_,h=>by cases h
 |p::ws,l,hn,hr,q,n,h=>by
  rw[List.map_cons,List.nodup_cons] at hn;rw[List.foldl_cons];rcases List.mem_cons.1 h with h|h
  ·rw[zLa ws _ q,<-h,Int.toNat_natCast,List.getElem?_set_self]
   ·have:=(hr p List.mem_cons_self).2;rw[<-h] at this
    simpa using this
   ·intro r hr2 e;have h1:=(hr r (List.mem_cons_of_mem _ hr2)).1;refine hn.1 (List.mem_map.2 ⟨r,hr2,?_⟩);rw[<-h];show r.1=(q:Int);omega
  ·refine fold_at ws _ hn.2 (fun r hr2=>?_) q n h;rw[List.length_set];exact hr r (List.mem_cons_of_mem _ hr2)
theorem zHh (h:OkR rs x 0 j){n:Int}(hm:((q:Int),n)∈asgR rs x (j:Int)):(zGs (asgR rs x (j:Int)) j).getD q 0=n:=by
 unfold zGs;rw[List.getD_eq_getElem?_getD,fold_at _ _ (zWu h) (fun p hp=>?_) q n hm]
 ·rfl
 ·obtain⟨a,b,rfl,_,h2,_⟩:=zEj h p hp;rw[List.length_replicate,Int.toNat_natCast];exact⟨by show(0:Int)<=(a:Int);omega,h2⟩
theorem cover {rs:List Rul}{ts:List ByteArray}:∀(m i j:Nat) (x:Rd),j -i<=m->x∈allR rs ts i j->∀q,i<=q->q<j->tokB ts q zCb=true\/∃n:Nat,((q:Int),(n:Int))∈asgR rs x (j:Int)
 |0,i,j,x,hm,h=>by have:=zD9 h;omega
 |m+1,i,j,x,hm,h=>by
  intro q h1 h2;have hij:=zD9 h;rcases(zDp hij).1 h with⟨rfl,ht,rfl⟩|⟨n,u,hu,hr⟩
  ·obtain rfl:q=i:=by omega
   exact .inl ht
  ·rcases hr with⟨hk,k,y,z,h3,h4,_,hy,hz,rfl⟩|⟨hk,y,_,hy,rfl⟩|⟨hk,y,_,hy,rfl⟩|⟨hk,k,y,z,h3,h4,hy,hz,rfl⟩
   ·rw[zJh hu hk (zAi hz).1];rcases Nat.lt_trichotomy q k with h5|rfl|h5
    ·rcases cover m i k y (by omega) (zAe.1 hy).1 q h1 h5 with h6|⟨c,h6⟩
     ·exact .inl h6
     ·exact .inr ⟨c,List.mem_cons_of_mem _ (List.mem_append_left _ h6)⟩
    ·exact .inr ⟨n,List.mem_cons_self⟩
    ·rcases cover m (k+1) j z (by omega) (zAe.1 hz).1 q (by omega) h2 with h6|⟨c,h6⟩
     ·exact .inl h6
     ·exact .inr ⟨c,List.mem_cons_of_mem _ (List.mem_append_right _ h6)⟩
   ·rw[zKh hu hk]
    by_cases h5:q=i
    ·subst h5;exact .inr ⟨n,List.mem_cons_self⟩
    ·rcases cover m (i+1) j y (by omega) (zAe.1 hy).1 q (by omega) h2 with h6|⟨c,h6⟩
     ·exact .inl h6
     ·exact .inr ⟨c,List.mem_cons_of_mem _ h6⟩
   ·rw[zJk hu hk (by omega)]
    by_cases h5:q=j -1
    ·subst h5;exact .inr ⟨n,List.mem_cons_self⟩
    ·rcases cover m i (j -1) y (by omega) (zAe.1 hy).1 q h1 (by omega) with h6|⟨c,h6⟩
     ·exact .inl h6
     ·exact .inr ⟨c,List.mem_cons_of_mem _ h6⟩
   ·rw[zJf hu hk (zAi hz).1]
    by_cases h5:q<k
    ·rcases cover m i k y (by omega) (zAe.1 hy).1 q h1 h5 with h6|⟨c,h6⟩
     ·exact .inl h6
     ·exact .inr ⟨c,List.mem_append_left _ h6⟩
    ·rcases cover m k j z (by omega) (zAe.1 hz).1 q (by omega) h2 with h6|⟨c,h6⟩
     ·exact .inl h6
     ·exact .inr ⟨c,List.mem_append_right _ h6⟩
theorem zYo (hx:x∈allR rs ts 0 j)(hq:q<j)(ht:tokB ts q zCb=false):decide ((q:Int)∈pfxR rs x)=decide (kndR rs ((zGs (asgR rs x (j:Int)) j).getD q 0)=2):=by
 have hok:=zC5 _ 0 j x (Nat.le_refl _) hx;rcases cover _ 0 j x (Nat.le_refl _) hx q (Nat.zero_le _) hq with h|⟨n,h⟩
 ·rw[h] at ht;cases ht
 ·rw[zHh hok h];refine decide_eq_decide.2 ⟨fun h1=>?_,fun h1=>(zPn hok _).2 ⟨_,h,h1⟩⟩;obtain⟨m,h2,h3⟩:=(zPn hok _).1 h1;have h4:=zHh hok h;rw[zHh hok h2] at h4;rw[<-h4];exact h3
def zBt (n:Tre)(k:Nat):ByteArray×ByteArray:=
 if n.kind=5 then(divS,zSl)
 else if n.kind=6 then(if k=1 then zKw else zEf,zEf)
 else if n.kind=7 then(indS,subS) else if n.kind=8 then(powS,supS) else if n.kind=9 then(zTr,zK6)
 else if n.kind=10 then(n.text,accS)
 else if n.kind=12 then(matS,matS++bys (Lib.decDigits n.cols.toNat))
 else((if n.text.data.toList=[124,124] then absS else grpS),fenS++n.text)
def opdT (n:Tre)(ts:List Trm):Trm:=
 if n.kind=2 then .mk 2 n.text ⟨#[]⟩ ⟨#[]⟩ [] else if n.kind=3 then .mk 1 n.text ⟨#[]⟩ ⟨#[]⟩ [] else if n.kind=4 then .mk 3 n.text ⟨#[]⟩ ⟨#[]⟩ []
 else .mk 4 (zBt n ts.length).1 ⟨#[]⟩ (zBt n ts.length).2 ts
def sltF (rs:List Rul)(M:List Tre->List Int->Nat->Mea Trm)(n:Tre)(path:List Int)(op pre:Bool):Mea (List Trm):=
 if op=true then zAn M path n.kids.tail 1 (if(varN rs n pre).isSome then 2 else 0)
 else match n.kids with
  |d::ks=>if n.kind=6/\d.kids.isEmpty=true then zAn M path ks 1 0 else zAn M path (d::ks) 0 0
  |[]=>.ok []
def sfxS (k:Int):ByteArray:=if k=7 then subS else if k=8 then supS else if k=9 then zK6 else⟨#[]⟩
def zerN:Tre:=.mk 0 ⟨#[]⟩ 0 []
def mkB (rs:List Rul)(nam:ByteArray)(k:Int)(p:Option (Tre×List Trm))(args:List Trm):Trm:=match p with
 |none=>.mk 4 nam ⟨#[]⟩ (zBf k) args
 |some (n,ts)=>match varN rs n (decide (k=2)) with
  |none=>.mk 4 nam ⟨#[]⟩ (zBf k++sfxS n.kind) (ts++args)
  |some v=>.mk 5 nam v (zHr++sfxS n.kind) (ts++args)
mutual
def bldR (rs:List Rul)(items:List Tre)(xs:List (List Trm)):Rd->Int->Trm
 | .mk r a ks,fin=>if r<0 then opdT ((items[a.toNat]?).getD zerN) ((xs[a.toNat]?).getD [])
  else mkB rs (zKg rs r) (kndR rs r) (if 0<=opI rs (.mk r a ks) fin then some ((items[(opI rs (.mk r a ks) fin).toNat]?).getD zerN,(xs[(opI rs (.mk r a ks) fin).toNat]?).getD []) else none) (bldL rs items xs ks (zAy rs (.mk r a ks) fin))
def bldL (rs:List Rul)(items:List Tre)(xs:List (List Trm)):List Rd->List Int->List Trm
 |k::ks,e::es=>bldR rs items xs k e::bldL rs items xs ks es
 |_,_=>[]
end
def zBr (rs:List Rul)(M:List Tre->List Int->Nat->Mea Trm)(path:List Int)(pb:Nat->Bool)(k:Nat):List Tre->List ByteArray->Nat->Mea (List (List Trm))
 |n::ns,t::ts,i=>(sltF rs M n (path++[((k+i:Nat):Int)]) (!decide (t.data.toList=[35])) (pb i)).then_ fun p=>(zBr rs M path pb k ns ts (i+1)).then_ fun ps=>.ok (p::ps)
 |_,_,_=>.ok []
def zKs (rs:List Rul)(t:ByteArray)(n:Tre)(kd:Int)(ts:List Trm):Prt:=
 if t.data.toList=[35] then⟨opdT n ts,[],⟨#[]⟩,⟨#[]⟩⟩ else if n.kind=2 then zerP else⟨zerT,ts,endS n.kind,(varN rs n (decide (kd=2))).getD ⟨#[]⟩⟩
def zJl (rs:List Rul)(kd:Nat->Int):List Tre->List ByteArray->List (List Trm)->Nat->List Prt
 |n::ns,t::ts,x::xs,i=>zKs rs t n (kd i) x::zJl rs kd ns ts xs (i+1)
 |_,_,_,_=>[]
theorem zWq (rs:List Rul)(kd:Nat->Int):∀(ns:List Tre) (ts:List ByteArray) (xs:List (List Trm)) (i q:Nat) (n:Tre) (t:ByteArray) (x:List Trm),ns[q]?=some n->ts[q]?=some t->xs[q]?=some x->(zJl rs kd ns ts xs i)[q]?=some (zKs rs t n (kd (i+q)) x)
 |[],_,_,_,q,_,_,_,h,_,_=>by simp at h
 |_::_,[],_,_,q,_,_,_,_,h,_=>by simp at h
 |_::_,_::_,[],_,q,_,_,_,_,_,h=>by simp at h
 |a::ns,b::ts,c::xs,i,0,n,t,x,h1,h2,h3=>by
  rw[List.getElem?_cons_zero] at h1 h2 h3;injection h1 with h1;injection h2 with h2;injection h3 with h3;subst h1;subst h2;subst h3;rfl
 |a::ns,b::ts,c::xs,i,q+1,n,t,x,h1,h2,h3=>by
  rw[List.getElem?_cons_succ] at h1 h2 h3;rw[zJl,List.getElem?_cons_succ,zWq rs kd ns ts xs (i+1) q n t x h1 h2 h3,show i+1+q=i+(q+1) by omega]
theorem zEu {M:List Tre->List Int->Nat->Mea Trm}{path:List Int}:∀{ks:List Tre} {s b:Nat} {ts:List Trm},zAn M path ks s b= .ok ts->ts.length=ks.length
 |[],_,_,ts,h=>by rw[zAn] at h;injection h with h;rw[<-h];rfl
 |n::ns,s,b,ts,h=>by
  rw[zAn] at h;cases h1:M n.kids (path++[(s:Int)]) b with
  |bad e p=>rw[h1] at h;cases h
  |ok t=>
   rw[h1] at h;simp only[Mea.then_] at h;cases h2:zAn M path ns (s+1) 0 with
   |bad e p=>rw[h2] at h;cases h
   |ok us=>
    rw[h2] at h;simp only at h;injection h with h;rw[<-h,List.length_cons,List.length_cons,zEu h2]
def kindOk (n:Tre):Prop:=(n.kind=2\/n.kind=3\/n.kind=4->n.kids=[])/\(n.kind=6->n.kids.length=2)
theorem zVg {M:List Tre->List Int->Nat->Mea Trm}(h:kindOk n):zCr M n path=(sltF rs M n path false pre).then_ fun ts=>.ok ⟨opdT n ts,[],⟨#[]⟩,⟨#[]⟩⟩:=by
 unfold zCr sltF opdT;rw[if_neg (by decide:¬(false=true))]
 by_cases h2:n.kind=2
 ·rw[if_pos h2,h.1 (.inl h2)];simp only[Mea.then_,if_pos h2]
 rw[if_neg h2]
 by_cases h3:n.kind=3
 ·rw[if_pos h3,h.1 (.inr (.inl h3))];simp only[Mea.then_,if_pos h3,if_neg h2]
 rw[if_neg h3]
 by_cases h4:n.kind=4
 ·rw[if_pos h4,h.1 (.inr (.inr h4))];simp only[Mea.then_,if_pos h4,if_neg h2,if_neg h3]
 rw[if_neg h4];simp only[if_neg h2,if_neg h3,if_neg h4]
 by_cases h6:n.kind=6
 ·have hk:=h.2 h6
  match hq:n.kids with
  |[]=>rw[hq] at hk;simp at hk
  |d::ks=>
   rw[hq,List.length_cons] at hk;dsimp only;have hsh:∀m:Nat,(zB1 n=zBt n m)↔(if d.kids.isEmpty=true then zKw else zEf)=(if m=1 then zKw else zEf):=by
    intro m;unfold zB1 zBt;have h5:¬n.kind=5:=by omega
    rw[if_neg h5,if_pos h6,if_neg h5,if_pos h6,hq];dsimp only;rw[Prod.mk.injEq];exact⟨fun e=>e.1,fun e=>⟨e,rfl⟩⟩
   by_cases hd:d.kids.isEmpty=true
   ·rw[if_pos ⟨h6,hd⟩];cases hs:zAn M path ks 1 0 with
    |bad e p=>rfl
    |ok ts=>
     have:=zEu hs;simp only[Mea.then_];rw[(hsh ts.length).2 (by rw[if_pos hd,if_pos (by omega)])]
   ·rw[if_neg (fun e=>hd e.2)];cases hs:zAn M path (d::ks) 0 0 with
    |bad e p=>rfl
    |ok ts=>
     have:=zEu hs;rw[List.length_cons] at this;simp only[Mea.then_];rw[(hsh ts.length).2 (by rw[if_neg hd,if_neg (by omega)])]
 ·have hsh:∀m:Nat,zB1 n=zBt n m:=by
   intro m;unfold zB1 zBt;rw[if_neg h6,if_neg h6]
  congr 1
  funext ts
  rw[hsh ts.length]
theorem zXx {M:List Tre->List Int->Nat->Mea Trm}(h:kindOk n):scrF rs M n path pre=(sltF rs M n path true pre).then_ fun ts=>.ok (if n.kind=2 then zerP else⟨zerT,ts,endS n.kind,(varN rs n pre).getD ⟨#[]⟩⟩):=by
 unfold scrF sltF;rw[if_pos rfl]
 by_cases h2:n.kind=2
 ·rw[if_pos h2,h.1 (.inl h2),List.tail_nil,zAn];simp only[Mea.then_,if_pos h2]
 ·rw[if_neg h2];simp only[if_neg h2]
theorem zL0 {rs:List Rul}{M:List Tre->List Int->Nat->Mea Trm}{path:List Int}{pb:Nat->Bool}{kd:Nat->Int}{k:Nat}:∀(ns:List Tre) (ts:List ByteArray) (i:Nat),(∀n∈ns,kindOk n)->(∀(q:Nat) (t:ByteArray),ts[q]?=some t->t.data.toList≠[35]->pb (i+q)=decide (kd (i+q)=2))->
  zB3 rs M path kd k ns ts i=(zBr rs M path pb k ns ts i).then_ fun xs=>.ok (zJl rs kd ns ts xs i)
 |[],_,_,_,_=>by simp[zB3,zBr,Mea.then_,zJl]
 |_::_,[],_,_,_=>by simp[zB3,zBr,Mea.then_,zJl]
 |n::ns,t::ts,i,hk,hp=>by
  have ih:=zL0 (rs:=rs) (M:=M) (path:=path) (pb:=pb) (kd:=kd) (k:=k) ns ts (i+1) (fun m hm=>hk m (List.mem_cons_of_mem _ hm)) (fun q u hu hne=>by have:=hp (q+1) u (by simpa using hu) hne;rw[show i+1+q=i+(q+1) by omega];exact this);rw[zB3,zBr,ih];have hkn:=hk n List.mem_cons_self;have hh:(if t.data.toList=[35] then zCr M n (path++[((k+i:Nat):Int)]) else scrF rs M n (path++[((k+i:Nat):Int)]) (decide (kd i=2)))=(sltF rs M n (path++[((k+i:Nat):Int)]) (!decide (t.data.toList=[35])) (pb i)).then_ fun x=>.ok (zKs rs t n (kd i) x):=by
   by_cases h:t.data.toList=[35]
   ·rw[if_pos h,decide_eq_true h,Bool.not_true,zVg (rs:=rs) (pre:=pb i) hkn]
    congr 1
    funext x
    unfold zKs;rw[if_pos h]
   ·have:=hp 0 t rfl h;rw[Nat.add_zero] at this;rw[if_neg h,decide_eq_false h,Bool.not_false,this,zXx hkn]
    congr 1
    funext x
    unfold zKs;rw[if_neg h]
  rw[hh];cases sltF rs M n (path++[((k+i:Nat):Int)]) (!decide (t.data.toList=[35])) (pb i) with
  |bad e p=>rfl
  |ok x=>
   simp only[Mea.then_];cases zBr rs M path pb k ns ts (i+1) with
   |bad e p=>rfl
   |ok xs=>simp only[zJl]
theorem yDf {l:List UInt8}(h:idB l=true):l≠[]:=by
 rintro rfl;revert h;decide
theorem zVi {p:Bool}{v:ByteArray}(h:varN rs n p=some v):v.data.toList≠[]/\(n.kind=7\/n.kind=9)/\p=true:=by
 unfold varN at h
 split at h
 ·next hk=>
  refine⟨?_,hk.2,hk.1⟩
  split at h
  ·unfold zGp at h
   split at h
   ·split at h
    ·next hc=>injection h with h;rw[<-h];exact yDf hc.1.2.1
    ·cases h
   ·cases h
  ·cases h
 ·cases h
theorem yC5 {kd:Int}{ts:List Trm}{nam:ByteArray}{args:List Trm}(ht:t.data.toList≠[35])(hk:n.kind=2\/scrB n.kind=true)(h0:n.kind=2->ts=[]):mkOp nam kd (some (zKs rs t n kd ts)) args=mkB rs nam kd (some (n,ts)) args:=by
 unfold zKs;rw[if_neg ht]
 by_cases h2:n.kind=2
 ·rw[if_pos h2,h0 h2];have hv:varN rs n (decide (kd=2))=none:=by
   cases hv:varN rs n (decide (kd=2)) with
   |none=>rfl
   |some v=>have:=(zVi hv).2.1;omega
  unfold mkOp mkB;dsimp only;rw[hv,if_pos (by decide:zerP.vr.data.toList=[])];dsimp only;have hs:sfxS n.kind=⟨#[]⟩:=by unfold sfxS;rw[if_neg (by omega),if_neg (by omega),if_neg (by omega)]
  rw[hs];rfl
 ·rw[if_neg h2];have hk2:=hk.resolve_left h2;unfold scrB at hk2;have hk3:=of_decide_eq_true hk2;have hs:sfxS n.kind=endS n.kind:=by
   unfold sfxS endS
   split
   ·rfl
   split
   ·rfl
   ·rw[if_pos (by omega)]
  unfold mkOp mkB;dsimp only;rw[hs];cases hv:varN rs n (decide (kd=2)) with
  |none=>
   rw[if_pos (by decide)]
  |some v=>
   rw[if_neg (by rw[Option.getD_some];exact(zVi hv).1)];rfl
theorem zP2 {n:Nat}(hu:rs[n]?=some u)(hk:u.kind=1)(hz:z.at_=((k+1:Nat):Int)):opI rs (.mk n i [y,z]) (j:Int)=(k:Int)/\zAy rs (.mk n i [y,z]) (j:Int)=[(k:Int),(j:Int)]:=by
 unfold opI zAy zHi;rw[show Rd.rule (.mk n i [y,z])=(n:Int) from rfl,zBl hu,if_pos hk,if_pos hk];show z.at_ -1=_/\[z.at_ -1,_]=_;rw[hz,show(((k+1:Nat):Int) -1)=(k:Int) by omega];exact⟨rfl,rfl⟩
theorem zNx {n:Nat}(hu:rs[n]?=some u)(hk:u.kind=2):opI rs (.mk n i [y]) (j:Int)=(i:Int)/\zAy rs (.mk n i [y]) (j:Int)=[(j:Int)]:=by
 have h1:¬u.kind=1:=by omega
 unfold opI zAy;rw[show Rd.rule (.mk n i [y])=(n:Int) from rfl,zBl hu,if_neg h1,if_pos hk,if_neg h1,if_pos hk];exact⟨rfl,rfl⟩
theorem zNe {n:Nat}(hu:rs[n]?=some u)(hk:u.kind=3)(hj:0<j):opI rs (.mk n i [y]) (j:Int)=((j -1:Nat):Int)/\zAy rs (.mk n i [y]) (j:Int)=[((j -1:Nat):Int)]:=by
 have h1:¬u.kind=1:=by omega
 have h2:¬u.kind=2:=by omega
 have hj1:(j:Int) -1=((j -1:Nat):Int):=by omega
 unfold opI zAy;rw[show Rd.rule (.mk n i [y])=(n:Int) from rfl,zBl hu,if_neg h1,if_neg h2,if_pos hk,if_neg h1,if_neg h2,if_pos hk,hj1];exact⟨rfl,rfl⟩
theorem zP3 {n:Nat}(hu:rs[n]?=some u)(hk:u.kind=4)(hz:z.at_=(k:Int)):opI rs (.mk n i [y,z]) (j:Int)= -1/\zAy rs (.mk n i [y,z]) (j:Int)=[(k:Int),(j:Int)]:=by
 have h1:¬u.kind=1:=by omega
 have h2:¬u.kind=2:=by omega
 have h3:¬u.kind=3:=by omega
 unfold opI zAy zHi;rw[show Rd.rule (.mk n i [y,z])=(n:Int) from rfl,zBl hu,if_neg h1,if_neg h2,if_neg h3,if_neg h1,if_neg h2,if_neg h3];show _/\[z.at_,_]=_;rw[hz];exact⟨rfl,rfl⟩
theorem zEg (rs:List Rul)(ps:List Prt)(r a:Int)(ks:List Rd)(e:Int):trmR rs ps (.mk r a ks) e=if r<0 then(match ps[a.toNat]? with
   |some p=>p.opnd
   |none=>zerT) else mkOp (zKg rs r) (kndR rs r) (if 0<=opI rs (.mk r a ks) e then ps[(opI rs (.mk r a ks) e).toNat]? else none) (trmL rs ps ks (zAy rs (.mk r a ks) e)):=by
 rw[trmR];rfl
theorem zJw (rs:List Rul)(items:List Tre)(xs:List (List Trm))(r a:Int)(ks:List Rd)(fin:Int):bldR rs items xs (.mk r a ks) fin=if r<0 then opdT ((items[a.toNat]?).getD zerN) ((xs[a.toNat]?).getD [])
  else mkB rs (zKg rs r) (kndR rs r) (if 0<=opI rs (.mk r a ks) fin then some ((items[(opI rs (.mk r a ks) fin).toNat]?).getD zerN,(xs[(opI rs (.mk r a ks) fin).toNat]?).getD []) else none) (bldL rs items xs ks (zAy rs (.mk r a ks) fin)):=by rw[bldR]
def zTz (rs:List Rul)(ts:List ByteArray)(items:List Tre)(xs:List (List Trm))(ps:List Prt)(kd:Nat->Int)(m:Nat):Prop:=∀q,q<m->∃n t x,items[q]?=some n/\ts[q]?=some t/\xs[q]?=some x/\ps[q]?=some (zKs rs t n (kd q) x)/\(t.data.toList≠[35]->(n.kind=2\/scrB n.kind=true)/\(n.kind=2->x=[]))
theorem zRz (h:ts[q]?=some t)(s:List UInt8):tokB ts q s=decide (t.data.toList=s):=by
 unfold tokB;rw[h];dsimp only;rw[ByteArray.toList_eq,Bool.eq_iff_iff,beq_iff_eq,decide_eq_true_iff]
theorem yA8 (hv:zAd rs=true){n:Nat}(hu:rs[n]?=some u):u.sym.toList≠[35]:=by
 have h:=zHj hv hu;intro e;rcases zMb h with hk|hk|hk|⟨_,hk⟩
 ·unfold ownB at h;rw[if_pos hk,e] at h;simp only[Bool.and_eq_true] at h;exact absurd h.2.2.2.2 (by decide)
 ·unfold ownB at h;rw[if_neg (by omega),if_pos hk,e] at h;simp only[Bool.and_eq_true] at h;exact absurd h.2.2.2.2.1 (by decide)
 ·unfold ownB at h;rw[if_neg (by omega),if_neg (by omega),if_pos hk,e] at h;simp only[Bool.and_eq_true] at h;exact absurd h.2.2.2.2.1 (by decide)
 ·rw[hk] at e;cases e
theorem zF1 {rs:List Rul}(hv:zAd rs=true){ts:List ByteArray}{items:List Tre}{xs:List (List Trm)}{ps:List Prt}{kd:Nat->Int}:∀(m i j:Nat) (x:Rd),j -i<=m->zTz rs ts items xs ps kd j->x∈allR rs ts i j->(∀p∈asgR rs x (j:Int),kd p.1.toNat=kndR rs p.2)->trmR rs ps x (j:Int)=bldR rs items xs x (j:Int)
 |0,i,j,x,hm,_,h=>by have:=zD9 h;omega
 |m+1,i,j,x,hm,hI,h=>by
  intro hp;have hij:=zD9 h;have sub:∀j',j'<=j->zTz rs ts items xs ps kd j':=fun j' hj q hq=>hI q (by omega)
  have opr:∀(q n:Nat) (u:Rul),q<j->rs[n]?=some u->tokB ts q u.sym.toList=true->((q:Int),(n:Int))∈asgR rs x (j:Int)->∀args1 args2:List Trm,args1=args2->mkOp (zKg rs n) (kndR rs n) (ps[q]?) args1=mkB rs (zKg rs n) (kndR rs n) (some ((items[q]?).getD zerN,(xs[q]?).getD [])) args2:=by
   rintro q n u hq hu htk hm2 args1 _ rfl;obtain⟨nn,t,x2,h1,h2,h3,h4,h5⟩:=hI q hq;rw[zRz h2] at htk;have hne:t.data.toList≠[35]:=by rw[of_decide_eq_true htk];exact yA8 hv hu
   have hkq:kd q=kndR rs n:=by have:=hp _ hm2;rwa [Int.toNat_natCast] at this
   rw[h4,h1,h3,hkq,Option.getD_some,Option.getD_some];exact yC5 hne (h5 hne).1 (h5 hne).2
  rcases(zDp hij).1 h with⟨rfl,ht,rfl⟩|⟨n,u,hu,hr⟩
  ·obtain⟨nn,t,x2,h1,h2,h3,h4,h5⟩:=hI i (by omega);rw[zRz h2] at ht;have ht2:t.data.toList=[35]:=of_decide_eq_true ht;rw[zEg,zJw,if_pos (by decide),if_pos (by decide),Int.toNat_natCast,h4,h1,h3,Option.getD_some,Option.getD_some];show(zKs rs t nn (kd i) x2).opnd=_;unfold zKs;rw[if_pos ht2]
  ·rcases hr with⟨hk,k,y,z,h3,h4,htk,hy,hz,rfl⟩|⟨hk,y,htk,hy,rfl⟩|⟨hk,y,htk,hy,rfl⟩|⟨hk,k,y,z,h3,h4,hy,hz,rfl⟩
   ·have ha:=zJh (i:=i) (j:=j) (y:=y) hu hk (zAi hz).1;have hn0:¬((n:Int)<0):=by omega
    have ho:=zP2 (i:=i) (j:=j) (y:=y) hu hk (zAi hz).1;rw[zEg,zJw,if_neg hn0,if_neg hn0,ho.1,ho.2,if_pos (Int.natCast_nonneg _),if_pos (Int.natCast_nonneg _),Int.toNat_natCast];refine opr k n u (by omega) hu htk (by rw[ha];exact List.mem_cons_self) _ _ ?_;rw[ha] at hp;have e1:=zF1 hv m i k y (by omega) (sub k (by omega)) (zAe.1 hy).1 fun p hpm=>hp p (List.mem_cons_of_mem _ (List.mem_append_left _ hpm))
    have e2:=zF1 hv m (k+1) j z (by omega) hI (zAe.1 hz).1 fun p hpm=>hp p (List.mem_cons_of_mem _ (List.mem_append_right _ hpm))
    simp only[trmL,bldL,e1,e2]
   ·have ha:=zKh (i:=i) (j:=j) (y:=y) hu hk;have hn0:¬((n:Int)<0):=by omega
    have ho:=zNx (i:=i) (j:=j) (y:=y) hu hk;rw[zEg,zJw,if_neg hn0,if_neg hn0,ho.1,ho.2,if_pos (Int.natCast_nonneg _),if_pos (Int.natCast_nonneg _),Int.toNat_natCast];refine opr i n u (by omega) hu htk (by rw[ha];exact List.mem_cons_self) _ _ ?_;rw[ha] at hp;have e1:=zF1 hv m (i+1) j y (by omega) hI (zAe.1 hy).1 fun p hpm=>hp p (List.mem_cons_of_mem _ hpm)
    simp only[trmL,bldL,e1]
   ·have ha:=zJk (i:=i) (j:=j) (y:=y) hu hk (by omega);have hn0:¬((n:Int)<0):=by omega
    have ho:=zNe (i:=i) (j:=j) (y:=y) hu hk (by omega);rw[zEg,zJw,if_neg hn0,if_neg hn0,ho.1,ho.2,if_pos (Int.natCast_nonneg _),if_pos (Int.natCast_nonneg _),Int.toNat_natCast];refine opr (j -1) n u (by omega) hu htk (by rw[ha];exact List.mem_cons_self) _ _ ?_;rw[ha] at hp;have e1:=zF1 hv m i (j -1) y (by omega) (sub _ (by omega)) (zAe.1 hy).1 fun p hpm=>hp p (List.mem_cons_of_mem _ hpm)
    simp only[trmL,bldL,e1]
   ·have ha:=zJf (i:=i) (j:=j) (y:=y) hu hk (zAi hz).1;have hn0:¬((n:Int)<0):=by omega
    have ho:=zP3 (i:=i) (j:=j) (y:=y) hu hk (zAi hz).1;rw[zEg,zJw,if_neg hn0,if_neg hn0,ho.1,ho.2,if_neg (c:=0<=(-1:Int)) (by omega),if_neg (c:=0<=(-1:Int)) (by omega)];rw[ha] at hp;have e1:=zF1 hv m i k y (by omega) (sub k (by omega)) (zAe.1 hy).1 fun p hpm=>hp p (List.mem_append_left _ hpm)
    have e2:=zF1 hv m k j z (by omega) hI (zAe.1 hz).1 fun p hpm=>hp p (List.mem_append_right _ hpm)
    simp only[trmL,bldL,e1,e2];rfl
theorem zP5 {rs:List Rul}:∀{l:List Tre} {ts:List ByteArray},zB2 rs l= .inl ts->∀(q:Nat) (n:Tre),l[q]?=some n->ts[q]?=some (tokS rs n)/\rolB rs n=true
 |[],ts,h,q,n,hn=>by simp at hn
 |x::l,ts,h,q,n,hn=>by
  simp only[zB2,zN3] at h;cases hr:rolB rs x with
  |false=>rw[hr] at h;simp at h
  |true=>
   rw[hr,if_pos rfl] at h;dsimp only at h;cases hl:zB2 rs l with
   |inr j=>rw[hl] at h;cases h
   |inl us=>
    rw[hl] at h;simp only[Sum.inl.injEq] at h;subst h;cases q with
    |zero=>
     rw[List.getElem?_cons_zero] at hn⊢;injection hn with hn;subst hn;exact⟨rfl,hr⟩
    |succ q=>
     rw[List.getElem?_cons_succ] at hn⊢;exact zP5 hl q n hn
theorem yAn (h:(tokS rs n).data.toList≠[35]):zDj rs n=true:=by
 unfold tokS at h
 split at h
 ·assumption
 ·exact absurd rfl h
theorem zUx (h:zDj rs n=true):n.kind=2\/scrB n.kind=true:=by
 unfold zDj at h;rw[Bool.and_eq_true,decide_eq_true_eq] at h;cases hs:scrB n.kind with
 |true=>exact .inr rfl
 |false=>rw[zPr hs] at h;exact .inl h.1
theorem zNq {rs:List Rul}{M:List Tre->List Int->Nat->Mea Trm}{path:List Int}{pb:Nat->Bool}{k:Nat}:∀(ns:List Tre) (ts:List ByteArray) (i:Nat) (xs:List (List Trm)),ns.length=ts.length->zBr rs M path pb k ns ts i= .ok xs->xs.length=ns.length/\∀q n t,ns[q]?=some n->ts[q]?=some t->∃x,xs[q]?=some x/\sltF rs M n (path++[((k+(i+q):Nat):Int)]) (!decide (t.data.toList=[35])) (pb (i+q))= .ok x
 |[],ts,i,xs,_,h=>by
  rw[zBr] at h
  ·injection h with h;subst h;exact⟨rfl,fun q n t hn=>by simp at hn⟩
  ·intro n ns t ts h1;cases h1
 |n::ns,[],i,xs,hl,_=>by simp at hl
 |n::ns,t::ts,i,xs,hl,h=>by
  rw[zBr] at h;cases h1:sltF rs M n (path++[((k+i:Nat):Int)]) (!decide (t.data.toList=[35])) (pb i) with
  |bad e p=>rw[h1] at h;cases h
  |ok x=>
   rw[h1] at h;simp only[Mea.then_] at h;cases h2:zBr rs M path pb k ns ts (i+1) with
   |bad e p=>rw[h2] at h;cases h
   |ok us=>
    rw[h2] at h;simp only at h;injection h with h;subst h;obtain⟨h3,h4⟩:=zNq ns ts (i+1) us (by simpa using hl) h2;refine⟨by rw[List.length_cons,List.length_cons,h3],fun q m u hm hu=>?_⟩;cases q with
    |zero=>
     rw[List.getElem?_cons_zero] at hm hu;injection hm with hm;injection hu with hu;subst hm;subst hu;exact⟨x,rfl,h1⟩
    |succ q=>
     rw[List.getElem?_cons_succ] at hm hu;obtain⟨y,h5,h6⟩:=h4 q m u hm hu;exact⟨y,by rw[List.getElem?_cons_succ];exact h5,by rw[show i+(q+1)=i+1+q by omega];exact h6⟩
theorem zZ6 {M:List Tre->List Int->Nat->Mea Trm}{items:List Tre}(hv:zAd rs=true)(ht:zB2 rs items= .inl ts)(hx:x∈allR rs ts 0 ts.length)(hk:∀n∈items,kindOk n):
  ((zB3 rs M path (fun i=>kndR rs ((zGs (asgR rs x ts.length) ts.length).getD i 0)) k items ts 0).then_ fun ps=>.ok (trmR rs ps x ts.length))=(zBr rs M path (fun i=>decide ((i:Int)∈pfxR rs x)) k items ts 0).then_ fun xs=>.ok (bldR rs items xs x ts.length):=by
 have hl:=zCt ht;have hok:=zC5 _ 0 ts.length x (Nat.le_refl _) hx;rw[zL0 (pb:=fun i=>decide ((i:Int)∈pfxR rs x)) items ts 0 hk (fun q t hq hne=>by
  rw[Nat.zero_add];exact zYo hx (List.getElem?_eq_some_iff.1 hq).1 (by rw[zRz hq];exact decide_eq_false hne))]
 cases hr:zBr rs M path (fun i=>decide ((i:Int)∈pfxR rs x)) k items ts 0 with
 |bad e p=>rfl
 |ok xs=>
  simp only[Mea.then_]
  congr 1
  obtain⟨h1,h2⟩:=zNq items ts 0 xs hl.symm hr;refine zF1 hv (kd:=fun i=>kndR rs ((zGs (asgR rs x ts.length) ts.length).getD i 0)) _ 0 ts.length x (Nat.le_refl _) (fun q hq=>?_) hx (fun p hp=>?_)
  ·obtain⟨n,hn⟩:∃n,items[q]?=some n:=⟨_,gE (by omega)⟩
   have h3:=zP5 ht q n hn;obtain⟨y,h4,h5⟩:=h2 q n _ hn h3.1;refine⟨n,_,y,hn,h3.1,h4,by have:=zWq rs (fun i=>kndR rs ((zGs (asgR rs x ts.length) ts.length).getD i 0)) items ts xs 0 q n _ y hn h3.1 h4;rwa [Nat.zero_add] at this,fun hne=>⟨zUx (yAn hne),fun h6=>?_⟩⟩;rw[decide_eq_false hne,Bool.not_false] at h5;unfold sltF at h5;rw[if_pos rfl,(hk n (List.mem_of_getElem? hn)).1 (.inl h6),List.tail_nil,zAn] at h5;injection h5 with h5;exact h5.symm
  ·obtain⟨a,b,rfl,_,h3,_⟩:=zEj hok p hp;have:=zHh hok hp;show kndR rs ((zGs (asgR rs x ts.length) ts.length).getD (Int.toNat (a:Int)) 0)=_;rw[Int.toNat_natCast,this]
end El
end Go.Proofs.YtapgncbegadbnaaGreatDoor
