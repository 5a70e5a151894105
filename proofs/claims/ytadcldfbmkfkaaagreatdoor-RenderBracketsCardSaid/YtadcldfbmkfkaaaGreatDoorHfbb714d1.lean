/- The array of the parts, the array of the rules; the parts of items, plain. -/
import Derived.Test.YtadcldfbmkfkaaaGreatDoorHc7ebbc02
import Derived.Laws.MakeOwn
namespace Go.Proofs.YtadcldfbmkfkaaaGreatDoor.El
open At Ch Sp Sy Go.RowKit
theorem zNw:∀{ts:List Tre} {i:Nat} {n:Tre},ts[i]?=some n→zA7 n≤zA3 ts
 |[],i,n,h=>by simp at h
 |t::ts,0,n,h=>by
  obtain rfl:t=n:=by simpa using h
  rw[zA3];omega
 |t::ts,i+1,n,h=>by
  have:=zNw (ts:=ts) (i:=i) (n:=n) (by simpa using h);rw[zA3];omega
theorem zPt {rs:List Rul}:∀{l:List Tre} {i:Nat},zBm rs l= .inr i→i<l.length
 |[],i,h=>by simp[zBm] at h
 |x::l,i,h=>by
  simp only[zBm] at h;rw[List.length_cons];cases ht:tokN rs x with
  |none=>rw[ht] at h;simp only[Sum.inr.injEq] at h;omega
  |some t=>
   rw[ht] at h;dsimp only at h;cases hl:zBm rs l with
   |inl us=>rw[hl] at h;cases h
   |inr j=>
    rw[hl] at h;simp only[Sum.inr.injEq] at h;have:=zPt hl;omega
theorem zJ0 {k:Int}:∀{ts:List Tre},zC0 k ts=true→∀t∈ts,zAt t=true∧zBi k t.kind=false
 |[],_,t,h=>by cases h
 |x::ts,hf,t,h=>by
  rw[zC0] at hf;simp only[Bool.and_eq_true,Bool.not_eq_true'] at hf;rcases List.mem_cons.1 h with rfl|h
  ·exact⟨hf.2.1,hf.1⟩
  ·exact zJ0 hf.2.2 t h
theorem zTk {n:Tre}(h:zAt n=true):(unsc n).text.size≤1000:=by
 unfold unsc
 split
 ·split
  ·next b ks hks=>
   split
   ·next x hx=>
    have hb:=(zEc (s:=0) (d:=b) h (by rw[hks];rfl)).1;exact zDo (zEc (s:=0) (d:=x) hb (by rw[hx];rfl)).1
   ·exact zDo h
  ·exact zDo h
 ·exact zDo h
theorem zNm {rs:List Rul}:∀{l:List Tre} {ts:List ByteArray},(∀n∈l,zAt n=true)→zBm rs l= .inl ts→∀t∈ts,t.size≤1000
 |[],ts,_,h,t,ht=>by
  simp only[zBm,Sum.inl.injEq] at h;rw[←h] at ht;cases ht
 |x::l,ts,hf,h,t,ht=>by
  simp only[zBm,zMi] at h;cases hr:rolB rs x with
  |false=>rw[hr] at h;simp at h
  |true=>
   rw[hr,if_pos rfl] at h;dsimp only at h;cases hl:zBm rs l with
   |inr j=>rw[hl] at h;cases h
   |inl us=>
    rw[hl] at h;simp only[Sum.inl.injEq] at h;rw[←h] at ht;rcases List.mem_cons.1 ht with rfl|ht
    ·unfold tokS
     split
     ·exact zTk (hf x List.mem_cons_self)
     ·decide
    ·exact zNm (fun n hn=>hf n (List.mem_cons_of_mem _ hn)) hl t ht
theorem zDz.at_ {w:World}{B:Nat}{v:Value}{ts:List ByteArray}(h:zDz w B v ts)(hs:∀t∈ts,t.size≤1000):∃AT cT,v= .slice AT ts.length cT∧ts.length≤cT∧cT≤9223372036854775807∧zCj w AT ts:=by
 obtain⟨h1,h2⟩:=h;rcases h2 with⟨rfl,h0⟩|⟨gq,cp,cur,rfl,hg,hb,hn,hc,hz,ht⟩
 ·obtain rfl:ts=[]:=List.length_eq_zero_iff.1 h0;exact⟨none,0,rfl,Nat.le_refl _,by omega,fun i t hi=>by simp at hi⟩
 ·have hb:Blk w gq 9 cur:=hb;refine⟨_,cp,rfl,hn,by unfold maxLen at hc;omega,fun i t hi=>⟨by have:=hs t (List.mem_of_getElem? hi);omega,⟨gq,0,none⟩,rfl,hb.lt,?_⟩⟩;have hcell:=hb.cell i;have h3:(ts.map Value.string)[i]?=some (.string t):=by rw[List.getElem?_map,hi];rfl
  rw[←ht,List.getElem?_take] at h3
  split at h3
  ·rw[show(⟨gq,0,none⟩:Addr).add i=⟨gq,i,none⟩ by unfold Addr.add;split<;>simp_all,hcell,←Array.getElem?_toList];exact h3
  ·cases h3
theorem zJr:∀ts:List Tre,ts.length≤zA3 ts
 |[]=>Nat.le_refl _
 |t::ts=>by
  obtain⟨k,a,b,ks⟩:=t;rw[List.length_cons,zA3,zA7];have:=zJr ts;omega
theorem zSm {w:World}{ad:Addr}{ts:List Tre}(h:zB7 w (some ad) ts)(k:Nat):zB7 w (some (ad.add (k*4))) (ts.drop k):=fun i t hi=>by
 rw[List.getElem?_drop] at hi;obtain⟨ad',h1,h2,c,h3,h4⟩:=h (k+i) t hi;obtain rfl:=sj h1;refine⟨_,rfl,by rw[zA6];exact h2,c,h3,fun j hj=>?_⟩;rw[Ch.zRw,←h4 j hj]
 congr 2
 omega
theorem zVg {ok:Nat→Prop}{w:World}{A:Option Addr}{ks:List Trm}(h:zEy ok w A ks):∃css:List (Array Value),css.length=ks.length∧(∀(j:Nat) c x,css[j]?=some c→ks[j]?=some x→TmAt ok w x c)∧Reads w w.heap.size 5 A ks.length (css.flatMap (·.toList)):=by
 have ex:∀i:Nat,∃c:Array Value,∀x,ks[i]?=some x→TmAt ok w x c∧∃ad:Addr,A=some ad∧ad.block<w.heap.size∧∀j,j<5→w.cell? (ad.add (i*5+j))=c[j]?:=fun i=>by
  cases hx:ks[i]? with
  |none=>exact⟨#[],fun x h=>by cases h⟩
  |some x=>
   obtain⟨ad,h1,h2,_,c,h4,h5⟩:=h i x hx;refine⟨c,fun y hy=>?_⟩;cases hy;exact⟨h4,ad,h1,h2,h5⟩
 obtain⟨cs,hcs⟩:=Classical.axiomOfChoice ex;have hlen:((List.range ks.length).map cs).length=ks.length:=by simp
 have hget:∀(j:Nat) c,((List.range ks.length).map cs)[j]?=some c→j<ks.length∧c=cs j:=fun j c hj=>by
  rw[List.getElem?_map] at hj;rcases Nat.lt_or_ge j ks.length with hl|hl
  ·rw[List.getElem?_range hl] at hj;exact⟨hl,(sj hj).symm⟩
  ·rw[List.getElem?_eq_none (by simpa using hl)] at hj;cases hj
 have hsz:∀c∈(List.range ks.length).map cs,c.size=5:=fun c hc=>by
  obtain⟨j,hj⟩:=List.mem_iff_getElem?.1 hc;obtain⟨hl,rfl⟩:=hget j c hj;exact(hcs j _ (gE hl)).1.size
 refine⟨(List.range ks.length).map cs,hlen,fun j c x hj hx=>?_,?_,fun hn=>?_⟩
 ·obtain⟨_,rfl⟩:=hget j c hj;exact(hcs j x hx).1
 ·have key:∀l:List (Array Value),(∀c∈l,c.size=5)→(l.flatMap (·.toList)).length=l.length*5:=by
   intro l
   induction l with
   |nil=>intro _;rfl
   |cons c l ih=>
    intro h;rw[List.flatMap_cons,List.length_append,ih fun c hc=>h c (List.mem_cons_of_mem _ hc),List.length_cons,Array.length_toList,h c List.mem_cons_self];omega
  rw[key _ hsz,hlen]
 ·obtain⟨_,ad,hA,hlt,_⟩:=hcs 0 _ (gE hn);refine⟨ad,hA,hlt,fun j u hj=>?_⟩;have hjl:j<((List.range ks.length).map cs).length*5:=by
   have h1:=(List.getElem?_eq_some_iff.1 hj).1;have key:∀l:List (Array Value),(∀c∈l,c.size=5)→(l.flatMap (·.toList)).length=l.length*5:=by
    intro l
    induction l with
    |nil=>intro _;rfl
    |cons c l ih=>
     intro h;rw[List.flatMap_cons,List.length_append,ih fun c hc=>h c (List.mem_cons_of_mem _ hc),List.length_cons,Array.length_toList,h c List.mem_cons_self];omega
   rw[key _ hsz] at h1;exact h1
  rw[hlen] at hjl;have hq:j/5<ks.length:=by omega
  obtain⟨_,ad',hA',_,hc'⟩:=hcs (j/5) _ (gE hq);obtain rfl:ad=ad':=sj (hA.symm.trans hA');have h5:=hc' (j%5) (Nat.mod_lt _ (by omega));have hce:((List.range ks.length).map cs)[j/5]?=some (cs (j/5)):=by rw[List.getElem?_map,List.getElem?_range hq];rfl
  have h6:=Sp.flat5 _ (j/5) (j%5) (cs (j/5)) hsz hce (Nat.mod_lt _ (by omega));rw[show j/5*5+j%5=j by omega] at h5 h6;rw[h5,←h6,hj]
theorem _root_.Go.Proofs.YtadcldfbmkfkaaaGreatDoor.Sp.AppT.copy {ok P:Nat→Prop}{w w':World}{B:Nat}{v:Value}{ks:List Trm}{css:List (Array Value)}(hl:css.length=ks.length)(hc:∀(j:Nat) c x,css[j]?=some c→ks[j]?=some x→TmAt ok w x c)(ho:w'.ownsRow B 31 5 v ks.length (css.flatMap (·.toList)))(hb:Below w.heap.size w w')(hok:∀b,b<w.heap.size→ok b→P b∧b<B):AppT P w' B v ks:=by
 refine⟨css,ho,hl,fun j c x hj hx=>((hc j c x hj hx).any (ok':=fun b=>P b∧b<B) hok|>.keep hb).any fun b _ h=>⟨fun e=>?_,h.1⟩⟩;have:=(World.ownsRow.lt ho b e).1;omega
def PartsAt (ok:Nat→Prop)(w:World)(ad:Addr)(ps:List Prt):Prop:=ad.block<w.heap.size∧∀(q:Nat) (p:Prt),ps[q]?=some p→∃c,zE2 ok w p c∧∀j,j<8→w.cell? (ad.add (q*8+j))=c[j]?
theorem zE2.keep {ok:Nat→Prop}{w w':World}{p:Prt}{c:Array Value}(h:zE2 ok w p c)(hb:Below w.heap.size w w'):zE2 ok w' p c:=by
 obtain⟨k,a,v,f,A0,n0,c0,A,cap,rfl,h1,h2,h3,h4,h5⟩:=h;exact⟨k,a,v,f,A0,n0,c0,A,cap,rfl,h1.keep hb,h2,h3,h4.keep hb,h5⟩
theorem zE2.any {ok ok':Nat→Prop}{w:World}{p:Prt}{c:Array Value}(h:zE2 ok w p c)(hok:∀b,b<w.heap.size→ok b→ok' b):zE2 ok' w p c:=by
 obtain⟨k,a,v,f,A0,n0,c0,A,cap,rfl,h1,h2,h3,h4,h5⟩:=h;exact⟨k,a,v,f,A0,n0,c0,A,cap,rfl,h1.any hok,h2,h3,h4.any hok,h5⟩
theorem PartsAt.keep {ok:Nat→Prop}{w w':World}{ad:Addr}{ps:List Prt}(h:PartsAt ok w ad ps)(hb:Below w.heap.size w w'):PartsAt ok w' ad ps:=
 ⟨ll h.1 hb.size,fun q p hp=>by
  obtain⟨c,h1,h2⟩:=h.2 q p hp;exact⟨c,h1.keep hb,fun j hj=>by rw[hb.cell (by rw[zA6];exact h.1)];exact h2 j hj⟩⟩
theorem PartsAt.grown {ok:Nat→Prop}{w w':World}{ad:Addr}{ps:List Prt}{g:Nat}(h:PartsAt ok w ad ps)(hg:w.grownBy w' (some g))(h1:ad.block≠g)(h2:∀b,ok b→b≠g):PartsAt ok w' ad ps:=
 ⟨ll h.1 hg.size,fun q p hp=>by
  obtain⟨c,⟨k,a,v,f,A0,n0,c0,A,cap,rfl,t1,t2,t3,t4,t5⟩,hc⟩:=h.2 q p hp;refine⟨_,⟨k,a,v,f,A0,n0,c0,A,cap,rfl,t1.grown hg (fun b _ hb e=>h2 b hb (sj e)) (fun _ _ h=>h),t2,t3,t4.map hg.size (fun _ _ h=>h) (fun p _ hb=>World.cell?_of_block (hg.block _ ‹_› fun e=>h2 _ hb (sj e))),t5⟩,fun j hj=>?_⟩;rw[←hc j hj];exact World.cell?_of_block (hg.block _ (by rw[zA6];exact h.1) fun e=>h1 (by rw[zA6] at e;exact sj e))⟩
theorem PartsAt.at_ {ok:Nat→Prop}{w:World}{ad:Addr}{ps:List Prt}(h:PartsAt ok w ad ps){q:Nat}{p:Prt}(hp:ps[q]?=some p):∃k a v f A0 n0 c0 A cap,
  TmAt ok w p.opnd #[.int .i64 k,.string a,.string v,.slice A0 n0 c0,.string f]∧p.scr.length≤cap∧cap≤9223372036854775807∧zEy ok w A p.scr∧p.fin.size≤1000∧p.vr.size≤1000∧p.scr.length≤1000∧
  w.cell? (ad.add (q*8))=some (.int .i64 k)∧w.cell? ⟨(ad.add (q*8)).block,(ad.add (q*8)).off+1,none⟩=some (.string a)∧w.cell? ⟨(ad.add (q*8)).block,(ad.add (q*8)).off+2,none⟩=some (.string v)∧w.cell? ⟨(ad.add (q*8)).block,(ad.add (q*8)).off+3,none⟩=some (.slice A0 n0 c0)∧w.cell? ⟨(ad.add (q*8)).block,(ad.add (q*8)).off+4,none⟩=some (.string f)∧w.cell? ⟨(ad.add (q*8)).block,(ad.add (q*8)).off+5,none⟩=some (.slice A p.scr.length cap)∧w.cell? ⟨(ad.add (q*8)).block,(ad.add (q*8)).off+6,none⟩=some (.string p.fin)∧w.cell? ⟨(ad.add (q*8)).block,(ad.add (q*8)).off+7,none⟩=some (.string p.vr):=by
 obtain⟨c,⟨k,a,v,f,A0,n0,c0,A,cap,rfl,h1,h2,h3,h4,h5,h6,h7⟩,hc⟩:=h.2 q p hp;exact⟨k,a,v,f,A0,n0,c0,A,cap,h1,h2,h3,h4,h5,h6,h7,hc 0 (by omega),Sp.zBk (j:=0) (hc 1 (by omega)),Sp.zBk (j:=1) (hc 2 (by omega)),Sp.zBk (j:=2) (hc 3 (by omega)),Sp.zBk (j:=3) (hc 4 (by omega)),Sp.zBk (j:=4) (hc 5 (by omega)),Sp.zBk (j:=5) (hc 6 (by omega)),Sp.zBk (j:=6) (hc 7 (by omega))⟩
theorem zNh {rs:List Rul}{ps:List Prt}:∀{ks:List Rd} {es:List Int} {t:Nat} {y:Rd} {e:Int},ks[t]?=some y→es[t]?=some e→trmL rs ps (ks.take (t+1)) (es.take (t+1))=trmL rs ps (ks.take t) (es.take t)++[trmR rs ps y e]
 |[],_,_,_,_,h,_=>by simp at h
 |_::_,[],_,_,_,_,h=>by simp at h
 |k::ks,e0::es,0,y,e,h,h'=>by
  simp only[List.getElem?_cons_zero,Option.some.injEq] at h h';subst h h';simp[trmL]
 |k::ks,e0::es,t+1,y,e,h,h'=>by
  simp only[List.getElem?_cons_succ] at h h';rw[List.take_succ_cons,List.take_succ_cons,List.take_succ_cons,List.take_succ_cons,trmL,trmL,zNh h h',List.cons_append]
theorem zPi {rs:List Rul}{ps:List Prt}:∀{ks:List Rd} {es:List Int},(trmL rs ps ks es).length≤ks.length
 |[],es=>by cases es<;>simp[trmL]
 |_::_,[]=>by simp[trmL]
 |k::ks,e::es=>by
  rw[trmL,List.length_cons,List.length_cons];have:=zPi (rs:=rs) (ps:=ps) (ks:=ks) (es:=es);omega
theorem zYs (rs:List Rul)(ps:List Prt)(r a:Int)(ks:List Rd)(e:Int):trmR rs ps (.mk r a ks) e=if r<0 then(match ps[a.toNat]? with
   |some p=>p.opnd
   |none=>zerT) else mkOp (zI8 rs r) (kndR rs r) (if 0≤opI rs (.mk r a ks) e then ps[(opI rs (.mk r a ks) e).toNat]? else none) (trmL rs ps ks (zB0 rs (.mk r a ks) e)):=by
 rw[trmR];rfl
def zE9 (w:World)(g:Nat):Nat→List Value→World
 |_,[]=>w
 |b,u::us=>zE9 (w.setCell ⟨g,b,none⟩ u) g (b+1) us
def zI2 (cs:Array Value):Nat→List Value→Array Value
 |_,[]=>cs
 |b,u::us=>zI2 (cs.setIfInBounds b u) (b+1) us
theorem zIx:∀(us:List Value) (cs:Array Value) (b:Nat),(zI2 cs b us).size=cs.size
 |[],_,_=>rfl
 |u::us,cs,b=>by rw[zI2,zIx us];simp
theorem zE6:∀(us:List Value) (cs:Array Value) (b i:Nat),b+us.length≤cs.size→(zI2 cs b us)[i]?=if b≤i∧i<b+us.length then us[i -b]? else cs[i]?
 |[],cs,b,i,h=>by
  rw[zI2,if_neg];simp
 |u::us,cs,b,i,h=>by
  rw[List.length_cons] at h;rw[zI2,zE6 us _ _ i (by simp;omega),List.length_cons]
  by_cases h1:b+1≤i∧i<b+1+us.length
  ·rw[if_pos h1,if_pos (by omega),show i -b=(i -(b+1))+1 by omega,List.getElem?_cons_succ]
  ·rw[if_neg h1]
   by_cases h2:i=b
   ·subst h2;rw[if_pos (by omega),Nat.sub_self,List.getElem?_cons_zero,Array.getElem?_setIfInBounds_self_of_lt (by omega)]
   ·rw[if_neg (by omega),Array.getElem?_setIfInBounds_ne (by omega)]
theorem zH3 {t:TypeId}:∀(us:List Value) (w:World) (g b:Nat) (cs:Array Value),Blk w g t cs→Blk (zE9 w g b us) g t (zI2 cs b us)
 |[],_,_,_,_,h=>h
 |u::us,_,g,b,_,h=>zH3 us _ g (b+1) _ (h.set_ b u)
theorem zBn:∀(us:List Value) (w:World) (g b:Nat),w.grownBy (zE9 w g b us) (some g)
 |[],_,_,_=>⟨rfl,rfl,rfl,Nat.le_refl _,fun _ _ _=>rfl⟩
 |u::us,w,g,b=>zB4 (zA9 w ⟨g,b,none⟩ u) (zBn us _ g (b+1))
def PArr (ok:Nat→Prop)(w:World)(gp:Nat)(ps:List Prt):Prop:=∃cs,Blk w gp 120 cs∧cs.size=ps.length*8∧∀(q:Nat) (p:Prt),ps[q]?=some p→∃c,zE2 ok w p c∧∀j,j<8→cs[q*8+j]?=c[j]?
theorem PArr.keep {ok:Nat→Prop}{w w':World}{gp:Nat}{ps:List Prt}(h:PArr ok w gp ps)(hb:Below w.heap.size w w'):PArr ok w' gp ps:=by
 obtain⟨cs,h1,h2,h3⟩:=h;refine⟨cs,jL hb h1,h2,fun q p hp=>?_⟩;obtain⟨c,h4,h5⟩:=h3 q p hp;exact⟨c,h4.keep hb,h5⟩
theorem PArr.any {ok ok':Nat→Prop}{w:World}{gp:Nat}{ps:List Prt}(h:PArr ok w gp ps)(hok:∀b,b<w.heap.size→ok b→ok' b):PArr ok' w gp ps:=by
 obtain⟨cs,h1,h2,h3⟩:=h;refine⟨cs,h1,h2,fun q p hp=>?_⟩;obtain⟨c,h4,h5⟩:=h3 q p hp;exact⟨c,h4.any hok,h5⟩
theorem PArr.at_ {ok:Nat→Prop}{w:World}{gp:Nat}{ps:List Prt}(h:PArr ok w gp ps):PartsAt ok w ⟨gp,0,none⟩ ps:=by
 obtain⟨cs,h1,h2,h3⟩:=h;refine⟨h1.lt,fun q p hp=>?_⟩;obtain⟨c,h4,h5⟩:=h3 q p hp;refine⟨c,h4,fun j hj=>?_⟩;rw[show(⟨gp,0,none⟩:Addr).add (q*8+j)=⟨gp,q*8+j,none⟩ by unfold Addr.add;split<;>simp_all,h1.cell,h5 j hj]
theorem zE2.grown {ok:Nat→Prop}{w w':World}{g:Nat}{p:Prt}{c:Array Value}(h:zE2 ok w p c)(hg:w.grownBy w' (some g))(h2:∀b,ok b→b≠g):zE2 ok w' p c:=by
 obtain⟨k,a,v,f,A0,n0,c0,A,cap,rfl,t1,t2,t3,t4,t5⟩:=h;exact⟨k,a,v,f,A0,n0,c0,A,cap,rfl,t1.grown hg (fun b _ hb e=>h2 b hb (sj e)) (fun _ _ h=>h),t2,t3,t4.map hg.size (fun _ _ h=>h) (fun p _ hb=>World.cell?_of_block (hg.block _ ‹_› fun e=>h2 _ hb (sj e))),t5⟩
theorem zE2.size {ok:Nat→Prop}{w:World}{p:Prt}{c:Array Value}(h:zE2 ok w p c):c.size=8:=by
 obtain⟨k,a,v,f,A0,n0,c0,A,cap,rfl,_⟩:=h;rfl
theorem PArr.put {ok:Nat→Prop}{w:World}{gp:Nat}{ps:List Prt}(h:PArr ok w gp ps){q:Nat}(hq:q<ps.length)(us:List Value)(hl:us.length≤8){p:Prt}(hp:∀p0 c0,ps[q]?=some p0→zE2 ok w p0 c0→∃c,zE2 ok w p c∧∀j,j<8→c[j]?=if j<us.length then us[j]? else c0[j]?)(hok:∀b,ok b→b≠gp):PArr ok (zE9 w gp (q*8) us) gp (ps.set q p):=by
 obtain⟨cs,h1,h2,h3⟩:=h;have hg:=zBn us w gp (q*8);have hb:q*8+us.length≤cs.size:=by rw[h2];omega
 refine⟨zI2 cs (q*8) us,zH3 us w gp (q*8) cs h1,by rw[zIx,h2,List.length_set],fun r x hr=>?_⟩;obtain⟨p0,hp0⟩:∃p0,ps[q]?=some p0:=⟨_,gE hq⟩
 obtain⟨c0,hc0,hc1⟩:=h3 q p0 hp0
 by_cases hrq:r=q
 ·subst hrq;rw[List.getElem?_set_self hq] at hr;obtain rfl:=sj hr;obtain⟨c,hc2,hc3⟩:=hp p0 c0 hp0 hc0;refine⟨c,hc2.grown hg hok,fun j hj=>?_⟩;rw[zE6 us cs _ _ hb,hc3 j hj]
  by_cases hju:j<us.length
  ·rw[if_pos (by omega),if_pos hju,show r*8+j -r*8=j by omega]
  ·rw[if_neg (by omega),if_neg hju,hc1 j hj]
 ·rw[List.getElem?_set_ne (fun e=>hrq e.symm)] at hr;obtain⟨cr,hcr,hcr1⟩:=h3 r x hr;refine⟨cr,hcr.grown hg hok,fun j hj=>?_⟩;rw[zE6 us cs _ _ hb,if_neg (by omega),hcr1 j hj]
theorem PArr.putT {ok:Nat→Prop}{w:World}{gp:Nat}{ps:List Prt}(h:PArr ok w gp ps){q:Nat}(hq:ps[q]?=some zerP){t:Trm}{tk:Int}{ta tv tf:ByteArray}{tA:Option Addr}{tn tc:Nat}(ht:TmAt ok w t #[.int .i64 tk,.string ta,.string tv,.slice tA tn tc,.string tf])(hok:∀b,ok b→b≠gp):PArr ok (zE9 w gp (q*8) [.int .i64 tk,.string ta,.string tv,.slice tA tn tc,.string tf]) gp (ps.set q ⟨t,[],⟨#[]⟩,⟨#[]⟩⟩):=by
 refine h.put (List.getElem?_eq_some_iff.1 hq).1 _ (by simp) (fun p0 c0 hp0 hc0=>?_) hok;rw[hq] at hp0;obtain rfl:=sj hp0;obtain⟨k,a,v,f,A0,n0,e0,A,cap,rfl,_,h2,h3,h4,h5⟩:=hc0;refine⟨_,⟨tk,ta,tv,tf,tA,tn,tc,A,cap,rfl,ht,h2,h3,h4,h5⟩,fun j hj=>?_⟩
 match j,hj with
 |0,_|1,_|2,_|3,_|4,_|5,_|6,_|7,_=>rfl
 |j+8,hj=>omega
theorem PArr.putP {ok:Nat→Prop}{w:World}{gp:Nat}{ps:List Prt}(h:PArr ok w gp ps){q:Nat}(hq:q<ps.length){p:Prt}{c0 c1 c2 c3 c4 c5 c6 c7:Value}(hp:zE2 ok w p #[c0,c1,c2,c3,c4,c5,c6,c7])(hok:∀b,ok b→b≠gp):PArr ok (zE9 w gp (q*8) [c0,c1,c2,c3,c4,c5,c6,c7]) gp (ps.set q p):=by
 refine h.put hq _ (by simp) (fun p0 d0 _ _=>⟨_,hp,fun j hj=>?_⟩) hok
 match j,hj with
 |0,_|1,_|2,_|3,_|4,_|5,_|6,_|7,_=>rfl
 |j+8,hj=>omega
def zDa (tot:Mea (List Prt))(xs:List Prt)(rest:Mea (List Prt)):Prop:=tot=rest.then_ fun ts=>.ok (xs++ts)
theorem zDa.start (m:Mea (List Prt)):zDa m [] m:=by
 unfold zDa;cases m<;>rfl
theorem zDa.bad {tot:Mea (List Prt)}{xs:List Prt}{m:Mea Prt}{F:Prt→Mea (List Prt)}{er:Int}{p:List Int}(h:zDa tot xs (m.then_ F))(hm:m= .bad er p):tot= .bad er p:=by
 unfold zDa at h;rw[h,hm];rfl
theorem zDa.next {tot:Mea (List Prt)}{xs:List Prt}{m:Mea Prt}{r:Mea (List Prt)}{t:Prt}(h:zDa tot xs (m.then_ fun t=>r.then_ fun ts=>.ok (t::ts)))(hm:m= .ok t):zDa tot (xs++[t]) r:=by
 unfold zDa at*;rw[h,hm];cases r with
 |ok ts=>simp[Mea.then_]
 |bad e p=>rfl
theorem zDa.end {tot:Mea (List Prt)}{xs:List Prt}(h:zDa tot xs (.ok [])):tot= .ok xs:=by
 unfold zDa at h;rw[h];simp[Mea.then_]
theorem zS3 {rs:List Rul}{M:List Tre→List Int→Nat→Mea Trm}{path:List Int}{kd:Nat→Int}{k i:Nat}{l:List Tre}{ts:List ByteArray}{n:Tre}{t:ByteArray}(hn:l[i]?=some n)(ht:ts[i]?=some t):zAy rs M path kd k (l.drop i) (ts.drop i) i=(if t.data.toList=[35] then zBu M n (path++[((k+i:Nat):Int)]) else scrF rs M n (path++[((k+i:Nat):Int)]) (decide (kd i=2))).then_ fun p=>(zAy rs M path kd k (l.drop (i+1)) (ts.drop (i+1)) (i+1)).then_ fun ps=>.ok (p::ps):=by
 obtain⟨hl,rfl⟩:=List.getElem?_eq_some_iff.1 hn;obtain⟨hl2,rfl⟩:=List.getElem?_eq_some_iff.1 ht;rw[List.drop_eq_getElem_cons hl,List.drop_eq_getElem_cons hl2,zAy]
theorem zVt {rs:List Rul}{M:List Tre→List Int→Nat→Mea Trm}{path:List Int}{kd:Nat→Int}{k:Nat}{l:List Tre}{ts:List ByteArray}:zAy rs M path kd k (l.drop l.length) (ts.drop l.length) l.length= .ok []:=by
 rw[List.drop_length];cases ts.drop l.length<;>simp[zAy]
theorem zPe {done:List Prt}{m:Nat}{p:Prt}:(done++List.replicate (m+1) zerP).set done.length p=(done++[p])++List.replicate m zerP:=by
 rw[List.replicate_succ,List.set_append_right _ _ (Nat.le_refl _),Nat.sub_self,List.set_cons_zero,List.append_assoc];rfl
theorem zXh {done:List Prt}{m:Nat}:(done++List.replicate (m+1) zerP)[done.length]?=some zerP:=by
 rw[List.getElem?_append_right (Nat.le_refl _),Nat.sub_self];rfl
theorem zTm (n:Nat):madeCells #[.int .i64 0] n=(ints (List.replicate n 0)).toArray:=by
 refine Array.ext (by simp[madeCells,ints]) fun i h1 h2=>?_
 simp[madeCells,ints,Nat.mod_one]
theorem zRe (ok:Nat→Prop)(w:World)(n:Nat):PArr ok (w.alloc (.cells (madeCells zDf (n*8)) 120)) w.heap.size (List.replicate n zerP):=by
 refine⟨_,Blk.new w _ _,by rw[size_madeCells,List.length_replicate],fun q p hq=>?_⟩;have hqn:q<n:=by have:=(List.getElem?_eq_some_iff.1 hq).1;simpa using this
 have hpz:p=zerP:=by
  rw[List.getElem?_replicate,if_pos hqn] at hq;exact(sj hq).symm
 subst hpz;refine⟨zDf,⟨_,_,_,_,_,_,_,_,_,rfl,zUr _ _,Nat.le_refl _,by decide,(fun i x h=>by simp[zerP] at h),by decide,by decide,by decide⟩,fun j hj=>?_⟩;have hi:q*8+j<(madeCells zDf (n*8)).size:=by rw[size_madeCells];omega
 rw[Array.getElem?_eq_getElem hi];have h8:zDf.size=8:=rfl;have hm:(q*8+j)%8=j:=by omega
 have hz:zDf[j]?=some zDf[j]!:=by
  rw[Array.getElem?_eq_getElem (by rw[h8];exact hj),getElem!_pos]
 rw[hz]
 congr 1
 simp only[madeCells,Array.getElem_map,Array.getElem_range,h8,hm]
set_option maxHeartbeats 800000 in
theorem zWh (k:Int)(w:World):Calls Tryz.prog 132 #[.int .i64 k] w fun e w'=>e= .returned (.string (zCz k))∧w'=w:=by
 by_cases h1:k=1
 ·subst h1;go_enter Tryz.func132,Tryz.ntmps132;go_wp2_with fail;go_ret;exact⟨rfl,rfl⟩
 have q1:(k==1)=false:=bn h1
 by_cases h2:k=2
 ·subst h2;go_enter Tryz.func132,Tryz.ntmps132;go_wp2_with fail;go_ret;exact⟨rfl,rfl⟩
 have q2:(k==2)=false:=bn h2
 by_cases h3:k=3
 ·subst h3;go_enter Tryz.func132,Tryz.ntmps132;go_wp2_with fail;go_ret;exact⟨rfl,rfl⟩
 have q3:(k==3)=false:=bn h3;have HF:=zh (show zCz k=juxS by unfold zCz;rw[if_neg h1,if_neg h2,if_neg h3]);clear h1 h2 h3;go_enter Tryz.func132,Tryz.ntmps132;go_wp2_with fail;go_ret;exact⟨by rw[HF.out];rfl,rfl⟩
end Go.Proofs.YtadcldfbmkfkaaaGreatDoor.El
