/- Nodes in new memory: their cells lie in named blocks. -/
import Derived.Test.YtapgncbegadbnaaGreatDoorH80be4c43
import Derived.Laws.MakeOwn
import Derived.Laws.CopyOwn
set_option maxRecDepth 100000
set_option maxHeartbeats 1600000
namespace Go.Proofs.YtapgncbegadbnaaGreatDoor
namespace El
open At Ch Sp Sy Go.RowKit
variable{n:Tre}{w w' w0:World}{B q gp k m g:Nat}{ts l:List Tre}{ad:Addr}{A:Option Addr}{ks:List Trm}{ps xs:List Prt}{p:Prt}{rs:List Rul}{path:List Int}{kd:Nat->Int}
theorem zKn:∀{ts:List Tre} {i:Nat} {n:Tre},ts[i]?=some n->zA7 n<=zA4 ts
 |[],i,n,h=>by simp at h
 |t::ts,0,n,h=>by
  obtain rfl:t=n:=by simpa using h
  rw[zA4];omega
 |t::ts,i+1,n,h=>by
  have:=zKn (ts:=ts) (i:=i) (n:=n) (by simpa using h);rw[zA4];omega
theorem zN4 {rs:List Rul}:∀{l:List Tre} {i:Nat},zB2 rs l= .inr i->i<l.length
 |[],i,h=>by simp[zB2] at h
 |x::l,i,h=>by
  simp only[zB2] at h;rw[List.length_cons];cases ht:tokN rs x with
  |none=>rw[ht] at h;simp only[Sum.inr.injEq] at h;omega
  |some t=>
   rw[ht] at h;dsimp only at h;cases hl:zB2 rs l with
   |inl us=>rw[hl] at h;cases h
   |inr j=>
    rw[hl] at h;simp only[Sum.inr.injEq] at h;have:=zN4 hl;omega
theorem zEm {k:Int}:∀{ts:List Tre},zC2 k ts=true->∀t∈ts,zAt t=true/\zBk k t.kind=false
 |[],_,t,h=>by cases h
 |x::ts,hf,t,h=>by
  rw[zC2] at hf;simp only[Bool.and_eq_true,Bool.not_eq_true'] at hf;rcases List.mem_cons.1 h with rfl|h
  ·exact⟨hf.2.1,hf.1⟩
  ·exact zEm hf.2.2 t h
theorem zWx (h:zAt n=true):(unsc n).text.size<=1000:=by
 unfold unsc
 split
 ·split
  ·next b ks hks=>
   split
   ·next x hx=>
    have hb:=(zDa (s:=0) (d:=b) h (by rw[hks];rfl)).1;exact zCp (zDa (s:=0) (d:=x) hb (by rw[hx];rfl)).1
   ·exact zCp h
  ·exact zCp h
 ·exact zCp h
theorem zFn {rs:List Rul}:∀{l:List Tre} {ts:List ByteArray},(∀n∈l,zAt n=true)->zB2 rs l= .inl ts->∀t∈ts,t.size<=1000
 |[],ts,_,h,t,ht=>by
  simp only[zB2,Sum.inl.injEq] at h;rw[<-h] at ht;cases ht
 |x::l,ts,hf,h,t,ht=>by
  simp only[zB2,zN3] at h;cases hr:rolB rs x with
  |false=>rw[hr] at h;simp at h
  |true=>
   rw[hr,if_pos rfl] at h;dsimp only at h;cases hl:zB2 rs l with
   |inr j=>rw[hl] at h;cases h
   |inl us=>
    rw[hl] at h;simp only[Sum.inl.injEq] at h;rw[<-h] at ht;rcases List.mem_cons.1 ht with rfl|ht
    ·unfold tokS
     split
     ·exact zWx (hf x List.mem_cons_self)
     ·decide
    ·exact zFn (fun n hn=>hf n (List.mem_cons_of_mem _ hn)) hl t ht
theorem zBq.at_ {v:Value}{ts:List ByteArray}(h:zBq w B v ts)(hs:∀t∈ts,t.size<=1000):∃AT cT,v= .slice AT ts.length cT/\ts.length<=cT/\cT<=9223372036854775807/\zBp w AT ts:=by
 obtain⟨h1,h2⟩:=h;rcases h2 with⟨rfl,h0⟩|⟨gq,cp,cur,rfl,hg,hb,hn,hc,hz,ht⟩
 ·obtain rfl:ts=[]:=List.length_eq_zero_iff.1 h0;exact⟨none,0,rfl,Nat.le_refl _,by omega,fun i t hi=>by simp at hi⟩
 ·have hb:Blk w gq 9 cur:=hb;refine⟨_,cp,rfl,hn,by unfold maxLen at hc;omega,fun i t hi=>⟨by have:=hs t (List.mem_of_getElem? hi);omega,⟨gq,0,none⟩,rfl,hb.lt,?_⟩⟩;have hcell:=hb.cell i;have h3:(ts.map Value.string)[i]?=some (.string t):=by rw[List.getElem?_map,hi];rfl
  rw[<-ht,List.getElem?_take] at h3
  split at h3
  ·rw[show(⟨gq,0,none⟩:Addr).add i=⟨gq,i,none⟩ by unfold Addr.add;split<;>simp_all,hcell,<-Array.getElem?_toList];exact h3
  ·cases h3
theorem zOl:∀ts:List Tre,ts.length<=zA4 ts
 |[]=>Nat.le_refl _
 |t::ts=>by
  obtain⟨k,a,b,ks⟩:=t;rw[List.length_cons,zA4,zA7];have:=zOl ts;omega
theorem zHs (h:zAo w (some ad) ts)(k:Nat):zAo w (some (ad.add (k*4))) (ts.drop k):=fun i t hi=>by
 rw[List.getElem?_drop] at hi;obtain⟨ad',h1,h2,c,h3,h4⟩:=h (k+i) t hi;obtain rfl:=sj h1;refine⟨_,rfl,by rw[zA2];exact h2,c,h3,fun j hj=>?_⟩;rw[Ch.zLr,<-h4 j hj]
 congr 2
 omega
theorem zOx {ok:Nat->Prop}(h:zD2 ok w A ks):∃css:List (Array Value),css.length=ks.length/\(∀(j:Nat) c x,css[j]?=some c->ks[j]?=some x->TmAt ok w x c)/\Reads w w.heap.size 5 A ks.length (css.flatMap (·.toList)):=by
 have ex:∀i:Nat,∃c:Array Value,∀x,ks[i]?=some x->TmAt ok w x c/\∃ad:Addr,A=some ad/\ad.block<w.heap.size/\∀j,j<5->w.cell? (ad.add (i*5+j))=c[j]?:=fun i=>by
  cases hx:ks[i]? with
  |none=>exact⟨#[],fun x h=>by cases h⟩
  |some x=>
   obtain⟨ad,h1,h2,_,c,h4,h5⟩:=h i x hx;refine⟨c,fun y hy=>?_⟩;cases hy;exact⟨h4,ad,h1,h2,h5⟩
 obtain⟨cs,hcs⟩:=Classical.axiomOfChoice ex;have hlen:((List.range ks.length).map cs).length=ks.length:=by simp
 have hget:∀(j:Nat) c,((List.range ks.length).map cs)[j]?=some c->j<ks.length/\c=cs j:=fun j c hj=>by
  rw[List.getElem?_map] at hj;rcases Nat.lt_or_ge j ks.length with hl|hl
  ·rw[List.getElem?_range hl] at hj;exact⟨hl,(sj hj).symm⟩
  ·rw[List.getElem?_eq_none (by simpa using hl)] at hj;cases hj
 have hsz:∀c∈(List.range ks.length).map cs,c.size=5:=fun c hc=>by
  obtain⟨j,hj⟩:=List.mem_iff_getElem?.1 hc;obtain⟨hl,rfl⟩:=hget j c hj;exact(hcs j _ (gE hl)).1.size
 refine⟨(List.range ks.length).map cs,hlen,fun j c x hj hx=>?_,?_,fun hn=>?_⟩
 ·obtain⟨_,rfl⟩:=hget j c hj;exact(hcs j x hx).1
 ·have key:∀l:List (Array Value),(∀c∈l,c.size=5)->(l.flatMap (·.toList)).length=l.length*5:=by
   intro l
   induction l with
   |nil=>intro _;rfl
   |cons c l ih=>
    intro h;rw[List.flatMap_cons,List.length_append,ih fun c hc=>h c (List.mem_cons_of_mem _ hc),List.length_cons,Array.length_toList,h c List.mem_cons_self];omega
  rw[key _ hsz,hlen]
 ·obtain⟨_,ad,hA,hlt,_⟩:=hcs 0 _ (gE hn);refine⟨ad,hA,hlt,fun j u hj=>?_⟩;have hjl:j<((List.range ks.length).map cs).length*5:=by
   have h1:=(List.getElem?_eq_some_iff.1 hj).1;have key:∀l:List (Array Value),(∀c∈l,c.size=5)->(l.flatMap (·.toList)).length=l.length*5:=by
    intro l
    induction l with
    |nil=>intro _;rfl
    |cons c l ih=>
     intro h;rw[List.flatMap_cons,List.length_append,ih fun c hc=>h c (List.mem_cons_of_mem _ hc),List.length_cons,Array.length_toList,h c List.mem_cons_self];omega
   rw[key _ hsz] at h1;exact h1
  rw[hlen] at hjl;have hq:j/5<ks.length:=by omega
  obtain⟨_,ad',hA',_,hc'⟩:=hcs (j/5) _ (gE hq);obtain rfl:ad=ad':=sj (hA.symm.trans hA');have h5:=hc' (j%5) (Nat.mod_lt _ (by omega));have hce:((List.range ks.length).map cs)[j/5]?=some (cs (j/5)):=by rw[List.getElem?_map,List.getElem?_range hq];rfl
  have h6:=Sp.flat5 _ (j/5) (j%5) (cs (j/5)) hsz hce (Nat.mod_lt _ (by omega));rw[show j/5*5+j%5=j by omega] at h5 h6;rw[h5,<-h6,hj]
theorem _root_.Go.Proofs.YtapgncbegadbnaaGreatDoor.Sp.AppT.copy {ok P:Nat->Prop}{v:Value}{css:List (Array Value)}(hl:css.length=ks.length)(hc:∀(j:Nat) c x,css[j]?=some c->ks[j]?=some x->TmAt ok w x c)(ho:w'.ownsRow B 47 5 v ks.length (css.flatMap (·.toList)))(hb:Below w.heap.size w w')(hok:∀b,b<w.heap.size->ok b->P b/\b<B):AppT P w' B v ks:=by
 refine⟨css,ho,hl,fun j c x hj hx=>((hc j c x hj hx).any (ok':=fun b=>P b/\b<B) hok|>.keep hb).any fun b _ h=>⟨fun e=>?_,h.1⟩⟩;have:=(World.ownsRow.lt ho b e).1;omega
def PartsAt (ok:Nat->Prop)(w:World)(ad:Addr)(ps:List Prt):Prop:=ad.block<w.heap.size/\∀(q:Nat) (p:Prt),ps[q]?=some p->∃c,zEh ok w p c/\∀j,j<8->w.cell? (ad.add (q*8+j))=c[j]?
theorem zEh.keep {ok:Nat->Prop}{w w':World}{p:Prt}{c:Array Value}(h:zEh ok w p c)(hb:Below w.heap.size w w'):zEh ok w' p c:=by
 obtain⟨k,a,v,f,A0,n0,c0,A,cap,rfl,h1,h2,h3,h4,h5⟩:=h;exact⟨k,a,v,f,A0,n0,c0,A,cap,rfl,h1.keep hb,h2,h3,h4.keep hb,h5⟩
theorem zEh.any {ok ok':Nat->Prop}{w:World}{p:Prt}{c:Array Value}(h:zEh ok w p c)(hok:∀b,b<w.heap.size->ok b->ok' b):zEh ok' w p c:=by
 obtain⟨k,a,v,f,A0,n0,c0,A,cap,rfl,h1,h2,h3,h4,h5⟩:=h;exact⟨k,a,v,f,A0,n0,c0,A,cap,rfl,h1.any hok,h2,h3,h4.any hok,h5⟩
theorem PartsAt.keep {ok:Nat->Prop}{w w':World}{ad:Addr}{ps:List Prt}(h:PartsAt ok w ad ps)(hb:Below w.heap.size w w'):PartsAt ok w' ad ps:=
 ⟨ll h.1 hb.size,fun q p hp=>by
  obtain⟨c,h1,h2⟩:=h.2 q p hp;exact⟨c,h1.keep hb,fun j hj=>by rw[hb.cell (by rw[zA2];exact h.1)];exact h2 j hj⟩⟩
theorem PartsAt.grown {ok:Nat->Prop}{w w':World}{ad:Addr}{ps:List Prt}{g:Nat}(h:PartsAt ok w ad ps)(hg:w.grownBy w' (some g))(h1:ad.block≠g)(h2:∀b,ok b->b≠g):PartsAt ok w' ad ps:=
 ⟨ll h.1 hg.size,fun q p hp=>by
  obtain⟨c,⟨k,a,v,f,A0,n0,c0,A,cap,rfl,t1,t2,t3,t4,t5⟩,hc⟩:=h.2 q p hp;refine⟨_,⟨k,a,v,f,A0,n0,c0,A,cap,rfl,t1.grown hg (fun b _ hb e=>h2 b hb (sj e)) (fun _ _ h=>h),t2,t3,t4.map hg.size (fun _ _ h=>h) (fun p _ hb=>World.cell?_of_block (hg.block _ ‹_› fun e=>h2 _ hb (sj e))),t5⟩,fun j hj=>?_⟩;rw[<-hc j hj];exact World.cell?_of_block (hg.block _ (by rw[zA2];exact h.1) fun e=>h1 (by rw[zA2] at e;exact sj e))⟩
theorem PartsAt.at_ {ok:Nat->Prop}(h:PartsAt ok w ad ps)(hp:ps[q]?=some p):∃k a v f A0 n0 c0 A cap,
  TmAt ok w p.opnd #[qI k,.string a,.string v,.slice A0 n0 c0,.string f]/\p.scr.length<=cap/\cap<=9223372036854775807/\zD2 ok w A p.scr/\p.fin.size<=1000/\p.vr.size<=1000/\p.scr.length<=1000/\
  w.cell? (ad.add (q*8))=some (qI k)/\w.cell? ⟨(ad.add (q*8)).block,(ad.add (q*8)).off+1,none⟩=some (.string a)/\w.cell? ⟨(ad.add (q*8)).block,(ad.add (q*8)).off+2,none⟩=some (.string v)/\w.cell? ⟨(ad.add (q*8)).block,(ad.add (q*8)).off+3,none⟩=some (.slice A0 n0 c0)/\w.cell? ⟨(ad.add (q*8)).block,(ad.add (q*8)).off+4,none⟩=some (.string f)/\w.cell? ⟨(ad.add (q*8)).block,(ad.add (q*8)).off+5,none⟩=some (.slice A p.scr.length cap)/\w.cell? ⟨(ad.add (q*8)).block,(ad.add (q*8)).off+6,none⟩=some (.string p.fin)/\w.cell? ⟨(ad.add (q*8)).block,(ad.add (q*8)).off+7,none⟩=some (.string p.vr):=by
 obtain⟨c,⟨k,a,v,f,A0,n0,c0,A,cap,rfl,h1,h2,h3,h4,h5,h6,h7⟩,hc⟩:=h.2 q p hp;exact⟨k,a,v,f,A0,n0,c0,A,cap,h1,h2,h3,h4,h5,h6,h7,hc 0 (by omega),Sp.zBc (j:=0) (hc 1 (by omega)),Sp.zBc (j:=1) (hc 2 (by omega)),Sp.zBc (j:=2) (hc 3 (by omega)),Sp.zBc (j:=3) (hc 4 (by omega)),Sp.zBc (j:=4) (hc 5 (by omega)),Sp.zBc (j:=5) (hc 6 (by omega)),Sp.zBc (j:=6) (hc 7 (by omega))⟩
theorem zNi {rs:List Rul}{ps:List Prt}:∀{ks:List Rd} {es:List Int} {t:Nat} {y:Rd} {e:Int},ks[t]?=some y->es[t]?=some e->trmL rs ps (ks.take (t+1)) (es.take (t+1))=trmL rs ps (ks.take t) (es.take t)++[trmR rs ps y e]
 |[],_,_,_,_,h,_=>by simp at h
 |_::_,[],_,_,_,_,h=>by simp at h
 |k::ks,e0::es,0,y,e,h,h'=>by
  simp only[List.getElem?_cons_zero,Option.some.injEq] at h h';subst h h';simp[trmL]
 |k::ks,e0::es,t+1,y,e,h,h'=>by
  simp only[List.getElem?_cons_succ] at h h';rw[List.take_succ_cons,List.take_succ_cons,List.take_succ_cons,List.take_succ_cons,trmL,trmL,zNi h h',List.cons_append]
theorem zQy {rs:List Rul}{ps:List Prt}:∀{ks:List Rd} {es:List Int},(trmL rs ps ks es).length<=ks.length
 |[],es=>by cases es<;>simp[trmL]
 |_::_,[]=>by simp[trmL]
 |k::ks,e::es=>by
  rw[trmL,List.length_cons,List.length_cons];have:=zQy (rs:=rs) (ps:=ps) (ks:=ks) (es:=es);omega
theorem yAd (rs:List Rul)(ps:List Prt)(r a:Int)(ks:List Rd)(e:Int):trmR rs ps (.mk r a ks) e=if r<0 then(match ps[a.toNat]? with
   |some p=>p.opnd
   |none=>zerT) else mkOp (zKg rs r) (kndR rs r) (if 0<=opI rs (.mk r a ks) e then ps[(opI rs (.mk r a ks) e).toNat]? else none) (trmL rs ps ks (zAy rs (.mk r a ks) e)):=by
 rw[trmR];rfl
def zEt (w:World)(g:Nat):Nat->List Value->World
 |_,[]=>w
 |b,u::us=>zEt (w.setCell ⟨g,b,none⟩ u) g (b+1) us
def zIm (cs:Array Value):Nat->List Value->Array Value
 |_,[]=>cs
 |b,u::us=>zIm (cs.setIfInBounds b u) (b+1) us
theorem zJr:∀(us:List Value) (cs:Array Value) (b:Nat),(zIm cs b us).size=cs.size
 |[],_,_=>rfl
 |u::us,cs,b=>by rw[zIm,zJr us];simp
theorem zEi:∀(us:List Value) (cs:Array Value) (b i:Nat),b+us.length<=cs.size->(zIm cs b us)[i]?=if b<=i/\i<b+us.length then us[i -b]? else cs[i]?
 |[],cs,b,i,h=>by
  rw[zIm,if_neg];simp
 |u::us,cs,b,i,h=>by
  rw[List.length_cons] at h;rw[zIm,zEi us _ _ i (by simp;omega),List.length_cons]
  by_cases h1:b+1<=i/\i<b+1+us.length
  ·rw[if_pos h1,if_pos (by omega),show i -b=(i -(b+1))+1 by omega,List.getElem?_cons_succ]
  ·rw[if_neg h1]
   by_cases h2:i=b
   ·subst h2;rw[if_pos (by omega),Nat.sub_self,List.getElem?_cons_zero,Array.getElem?_setIfInBounds_self_of_lt (by omega)]
   ·rw[if_neg (by omega),Array.getElem?_setIfInBounds_ne (by omega)]
theorem zI2 {t:TypeId}:∀(us:List Value) (w:World) (g b:Nat) (cs:Array Value),Blk w g t cs->Blk (zEt w g b us) g t (zIm cs b us)
 |[],_,_,_,_,h=>h
 |u::us,_,g,b,_,h=>zI2 us _ g (b+1) _ (h.set_ b u)
theorem zBy:∀(us:List Value) (w:World) (g b:Nat),w.grownBy (zEt w g b us) (some g)
 |[],_,_,_=>⟨rfl,rfl,rfl,Nat.le_refl _,fun _ _ _=>rfl⟩
 |u::us,w,g,b=>zB6 (zA8 w ⟨g,b,none⟩ u) (zBy us _ g (b+1))
def PArr (ok:Nat->Prop)(w:World)(gp:Nat)(ps:List Prt):Prop:=∃cs,Blk w gp 101 cs/\cs.size=ps.length*8/\∀(q:Nat) (p:Prt),ps[q]?=some p->∃c,zEh ok w p c/\∀j,j<8->cs[q*8+j]?=c[j]?
theorem PArr.keep {ok:Nat->Prop}{w w':World}{gp:Nat}{ps:List Prt}(h:PArr ok w gp ps)(hb:Below w.heap.size w w'):PArr ok w' gp ps:=by
 obtain⟨cs,h1,h2,h3⟩:=h;refine⟨cs,jL hb h1,h2,fun q p hp=>?_⟩;obtain⟨c,h4,h5⟩:=h3 q p hp;exact⟨c,h4.keep hb,h5⟩
theorem PArr.any {ok ok':Nat->Prop}{w:World}{gp:Nat}{ps:List Prt}(h:PArr ok w gp ps)(hok:∀b,b<w.heap.size->ok b->ok' b):PArr ok' w gp ps:=by
 obtain⟨cs,h1,h2,h3⟩:=h;refine⟨cs,h1,h2,fun q p hp=>?_⟩;obtain⟨c,h4,h5⟩:=h3 q p hp;exact⟨c,h4.any hok,h5⟩
theorem PArr.at_ {ok:Nat->Prop}(h:PArr ok w gp ps):PartsAt ok w ⟨gp,0,none⟩ ps:=by
 obtain⟨cs,h1,h2,h3⟩:=h;refine⟨h1.lt,fun q p hp=>?_⟩;obtain⟨c,h4,h5⟩:=h3 q p hp;refine⟨c,h4,fun j hj=>?_⟩;rw[show(⟨gp,0,none⟩:Addr).add (q*8+j)=⟨gp,q*8+j,none⟩ by unfold Addr.add;split<;>simp_all,h1.cell,h5 j hj]
theorem zEh.grown {ok:Nat->Prop}{w w':World}{g:Nat}{p:Prt}{c:Array Value}(h:zEh ok w p c)(hg:w.grownBy w' (some g))(h2:∀b,ok b->b≠g):zEh ok w' p c:=by
 obtain⟨k,a,v,f,A0,n0,c0,A,cap,rfl,t1,t2,t3,t4,t5⟩:=h;exact⟨k,a,v,f,A0,n0,c0,A,cap,rfl,t1.grown hg (fun b _ hb e=>h2 b hb (sj e)) (fun _ _ h=>h),t2,t3,t4.map hg.size (fun _ _ h=>h) (fun p _ hb=>World.cell?_of_block (hg.block _ ‹_› fun e=>h2 _ hb (sj e))),t5⟩
theorem zEh.size {ok:Nat->Prop}{w:World}{p:Prt}{c:Array Value}(h:zEh ok w p c):c.size=8:=by
 obtain⟨k,a,v,f,A0,n0,c0,A,cap,rfl,_⟩:=h;rfl
theorem PArr.put {ok:Nat->Prop}(h:PArr ok w gp ps)(hq:q<ps.length)(us:List Value)(hl:us.length<=8)(hp:∀p0 c0,ps[q]?=some p0->zEh ok w p0 c0->∃c,zEh ok w p c/\∀j,j<8->c[j]?=if j<us.length then us[j]? else c0[j]?)(hok:∀b,ok b->b≠gp):PArr ok (zEt w gp (q*8) us) gp (ps.set q p):=by
 obtain⟨cs,h1,h2,h3⟩:=h;have hg:=zBy us w gp (q*8);have hb:q*8+us.length<=cs.size:=by rw[h2];omega
 refine⟨zIm cs (q*8) us,zI2 us w gp (q*8) cs h1,by rw[zJr,h2,List.length_set],fun r x hr=>?_⟩;obtain⟨p0,hp0⟩:∃p0,ps[q]?=some p0:=⟨_,gE hq⟩
 obtain⟨c0,hc0,hc1⟩:=h3 q p0 hp0
 by_cases hrq:r=q
 ·subst hrq;rw[List.getElem?_set_self hq] at hr;obtain rfl:=sj hr;obtain⟨c,hc2,hc3⟩:=hp p0 c0 hp0 hc0;refine⟨c,hc2.grown hg hok,fun j hj=>?_⟩;rw[zEi us cs _ _ hb,hc3 j hj]
  by_cases hju:j<us.length
  ·rw[if_pos (by omega),if_pos hju,show r*8+j -r*8=j by omega]
  ·rw[if_neg (by omega),if_neg hju,hc1 j hj]
 ·rw[List.getElem?_set_ne (fun e=>hrq e.symm)] at hr;obtain⟨cr,hcr,hcr1⟩:=h3 r x hr;refine⟨cr,hcr.grown hg hok,fun j hj=>?_⟩;rw[zEi us cs _ _ hb,if_neg (by omega),hcr1 j hj]
theorem PArr.putT {ok:Nat->Prop}(h:PArr ok w gp ps)(hq:ps[q]?=some zerP){t:Trm}{tk:Int}{ta tv tf:ByteArray}{tA:Option Addr}{tn tc:Nat}(ht:TmAt ok w t #[qI tk,.string ta,.string tv,.slice tA tn tc,.string tf])(hok:∀b,ok b->b≠gp):PArr ok (zEt w gp (q*8) [qI tk,.string ta,.string tv,.slice tA tn tc,.string tf]) gp (ps.set q ⟨t,[],⟨#[]⟩,⟨#[]⟩⟩):=by
 refine h.put (List.getElem?_eq_some_iff.1 hq).1 _ (by simp) (fun p0 c0 hp0 hc0=>?_) hok;rw[hq] at hp0;obtain rfl:=sj hp0;obtain⟨k,a,v,f,A0,n0,e0,A,cap,rfl,_,h2,h3,h4,h5⟩:=hc0;refine⟨_,⟨tk,ta,tv,tf,tA,tn,tc,A,cap,rfl,ht,h2,h3,h4,h5⟩,fun j hj=>?_⟩
 match j,hj with
 |0,_|1,_|2,_|3,_|4,_|5,_|6,_|7,_=>rfl
 |j+8,hj=>omega
theorem PArr.putP {ok:Nat->Prop}(h:PArr ok w gp ps)(hq:q<ps.length){c0 c1 c2 c3 c4 c5 c6 c7:Value}(hp:zEh ok w p #[c0,c1,c2,c3,c4,c5,c6,c7])(hok:∀b,ok b->b≠gp):PArr ok (zEt w gp (q*8) [c0,c1,c2,c3,c4,c5,c6,c7]) gp (ps.set q p):=by
 refine h.put hq _ (by simp) (fun p0 d0 _ _=>⟨_,hp,fun j hj=>?_⟩) hok
 match j,hj with
 |0,_|1,_|2,_|3,_|4,_|5,_|6,_|7,_=>rfl
 |j+8,hj=>omega
def zDq (tot:Mea (List Prt))(xs:List Prt)(rest:Mea (List Prt)):Prop:=tot=rest.then_ fun ts=>.ok (xs++ts)
theorem zDq.start (m:Mea (List Prt)):zDq m [] m:=by
 unfold zDq;cases m<;>rfl
theorem zDq.bad {tot:Mea (List Prt)}{xs:List Prt}{m:Mea Prt}{F:Prt->Mea (List Prt)}{er:Int}{p:List Int}(h:zDq tot xs (m.then_ F))(hm:m= .bad er p):tot= .bad er p:=by
 unfold zDq at h;rw[h,hm];rfl
theorem zDq.next {tot:Mea (List Prt)}{m:Mea Prt}{r:Mea (List Prt)}{t:Prt}(h:zDq tot xs (m.then_ fun t=>r.then_ fun ts=>.ok (t::ts)))(hm:m= .ok t):zDq tot (xs++[t]) r:=by
 unfold zDq at*;rw[h,hm];cases r with
 |ok ts=>simp[Mea.then_]
 |bad e p=>rfl
theorem zDq.end {tot:Mea (List Prt)}(h:zDq tot xs (.ok [])):tot= .ok xs:=by
 unfold zDq at h;rw[h];simp[Mea.then_]
theorem zTk {M:List Tre->List Int->Nat->Mea Trm}{i:Nat}{ts:List ByteArray}{t:ByteArray}(hn:l[i]?=some n)(ht:ts[i]?=some t):zB3 rs M path kd k (l.drop i) (ts.drop i) i=(if t.data.toList=[35] then zCr M n (path++[((k+i:Nat):Int)]) else scrF rs M n (path++[((k+i:Nat):Int)]) (decide (kd i=2))).then_ fun p=>(zB3 rs M path kd k (l.drop (i+1)) (ts.drop (i+1)) (i+1)).then_ fun ps=>.ok (p::ps):=by
 obtain⟨hl,rfl⟩:=List.getElem?_eq_some_iff.1 hn;obtain⟨hl2,rfl⟩:=List.getElem?_eq_some_iff.1 ht;rw[List.drop_eq_getElem_cons hl,List.drop_eq_getElem_cons hl2,zB3]
theorem zUa {M:List Tre->List Int->Nat->Mea Trm}{ts:List ByteArray}:zB3 rs M path kd k (l.drop l.length) (ts.drop l.length) l.length= .ok []:=by
 rw[List.drop_length];cases ts.drop l.length<;>simp[zB3]
theorem zRb {done:List Prt}:(done++List.replicate (m+1) zerP).set done.length p=(done++[p])++List.replicate m zerP:=by
 rw[List.replicate_succ,List.set_append_right _ _ (Nat.le_refl _),Nat.sub_self,List.set_cons_zero,List.append_assoc];rfl
theorem yAa {done:List Prt}:(done++List.replicate (m+1) zerP)[done.length]?=some zerP:=by
 rw[List.getElem?_append_right (Nat.le_refl _),Nat.sub_self];rfl
theorem zUr (n:Nat):madeCells #[qI 0] n=(ints (List.replicate n 0)).toArray:=by
 refine Array.ext (by simp[madeCells,ints]) fun i h1 h2=>?_
 simp[madeCells,ints,Nat.mod_one]
theorem zSc (ok:Nat->Prop)(w:World)(n:Nat):PArr ok (w.alloc (.cells (madeCells zDt (n*8)) 101)) w.heap.size (List.replicate n zerP):=by
 refine⟨_,Blk.new w _ _,by rw[size_madeCells,List.length_replicate],fun q p hq=>?_⟩;have hqn:q<n:=by have:=(List.getElem?_eq_some_iff.1 hq).1;simpa using this
 have hpz:p=zerP:=by
  rw[List.getElem?_replicate,if_pos hqn] at hq;exact(sj hq).symm
 subst hpz;refine⟨zDt,⟨_,_,_,_,_,_,_,_,_,rfl,zTv _ _,Nat.le_refl _,by decide,(fun i x h=>by simp[zerP] at h),by decide,by decide,by decide⟩,fun j hj=>?_⟩;have hi:q*8+j<(madeCells zDt (n*8)).size:=by rw[size_madeCells];omega
 rw[Array.getElem?_eq_getElem hi];have h8:zDt.size=8:=rfl;have hm:(q*8+j)%8=j:=by omega
 have hz:zDt[j]?=some zDt[j]!:=by
  rw[Array.getElem?_eq_getElem (by rw[h8];exact hj),getElem!_pos]
 rw[hz]
 congr 1
 simp only[madeCells,Array.getElem_map,Array.getElem_range,h8,hm]
def zEl (r:Rul):Bool:=decide (r.sym.size<=50)&&decide (r.nam.size<=50)
def zFs (rs:List Rul):Bool:=rs.all zEl&&decide (rs.length<=40)
theorem zIk {x:Rul}(hx:rs[k]?=some x)(h:zEl x=false):zFs rs=false:=by
 unfold zFs;rw[show rs.all zEl=false from List.all_eq_false.2 ⟨x,List.mem_of_getElem? hx,by rw[h];simp⟩];rfl
theorem zPz {rs:List Rul}(h1:∀(j:Nat) x,rs[j]?=some x->j<rs.length->zEl x=true):zFs rs=decide (rs.length<=40):=by
 unfold zFs;rw[show rs.all zEl=true from List.all_eq_true.2 fun x hx=>by
  obtain⟨j,hj⟩:=List.mem_iff_getElem?.1 hx;exact h1 j x hj (List.getElem?_eq_some_iff.1 hj).1,Bool.true_and]
theorem zT3 (h:zFs rs=true):rs.length<=40:=by
 unfold zFs at h;rw[Bool.and_eq_true] at h;exact of_decide_eq_true h.2
theorem zP6 (A:Option Addr)(cap:Nat)(rs:List Rul)(w:World)(hR:zAc w A rs)(hn:rs.length<=9223372036854775807):Calls Tryz.prog 5 #[.slice A rs.length cap] w fun e w'=>e= .returned (.bool (zFs rs))/\w=w':=by
 have HR:=zh hR;have HA:=zh (@zPz rs);clear hR;go_enter Tryz.func5,Tryz.ntmps5;go_wp2_with fail
 go_loop [3] (fun i=>∃k:Nat,k<=rs.length/\i=qI k/\Hid (∀(j:Nat) x,rs[j]?=some x->j<k->zEl x=true)) (fun i=>rs.length -(intOf i).toNat)
 case atStart=>exact⟨0,by omega,rfl,(fun j _ _ h=>by omega)⟩
 case round=>
  obtain⟨k,hk,rfl,HJ⟩:=hrel
  by_cases hlt:k<rs.length
  ·obtain⟨x,hx⟩:∃x,rs[k]?=some x:=⟨_,gE hlt⟩
   obtain⟨hf,ad,rfl,hadl,c0,c1,c2,c3,c4,c5⟩:=HR.out.at_ hx;have HX:=zh hx;clear hx hf
   by_cases h1:50<x.sym.size
   ·have HQ:=zh (zIk HX.out (show zEl x=false by unfold zEl;rw[decide_eq_false (by omega)];rfl));go_wp2;go_ret;exact⟨zA1 HQ.out.symm,rfl⟩
   ·by_cases h2:50<x.nam.size
    ·have HQ:=zh (zIk HX.out (show zEl x=false by unfold zEl;rw[decide_eq_false (p:=x.nam.size<=50) (by omega),Bool.and_false]));go_wp2;go_ret;exact⟨zA1 HQ.out.symm,rfl⟩
    ·have HQ:Hid (zEl x=true):=by
      show zEl x=true;unfold zEl;rw[decide_eq_true (by omega),decide_eq_true (by omega)];rfl
     go_wp2;go_round
     case rel=>exact⟨k+1,by omega,by go_num,(fun j y hj h=>by
      rcases Nat.lt_or_ge j k with h'|h'
      ·exact HJ.out j y hj h'
      ·obtain rfl:j=k:=by omega
       rw[HX.out] at hj;obtain rfl:=sj hj;exact HQ.out)⟩
     case measure=>simp[intOf];omega
  ·obtain rfl:k=rs.length:=by omega
   have HA:=zh (HA.out HJ.out);go_wp2;go_ret;exact⟨zA1 (by rw[HA.out];exact decide_eq_decide.2 (by omega)),rfl⟩
theorem zAr.at_ {p:List Int}(h:zAr w A p){x:Int}(hk:p[k]?=some x):∃ad,A=some ad/\ad.block<w.heap.size/\w.cell? (ad.add k)=some (qI x):=by
 have hkl:=(List.getElem?_eq_some_iff.1 hk).1;obtain⟨_,h2⟩:=h;obtain⟨ad,h3,h4,h5⟩:=h2 (by omega);refine⟨ad,h3,h4,?_⟩;have:=h5 k (qI x) (by rw[ints,List.getElem?_map,hk];rfl);exact this
theorem zVa {p q:List Int}(hl:p.length=q.length)(h:∀j,j<p.length->p[j]?=q[j]?):p=q:=by
 refine List.ext_getElem? fun j=>?_
 rcases Nat.lt_or_ge j p.length with h'|h'
 ·exact h j h'
 ·rw[List.getElem?_eq_none h',List.getElem?_eq_none (by omega)]
theorem zQm (A B:Option Addr)(ca cb:Nat)(p q:List Int)(w:World)(hp:zAr w A p)(hq:zAr w B q)(hpl:p.length<=1000000):Calls Tryz.prog 9 #[.slice A p.length ca,.slice B q.length cb] w fun e w'=>e= .returned (.bool (decide (p=q)))/\Below w.heap.size w w':=by
 have HP:=zh hp;have HQ:=zh hq;clear hp hq;go_enter Tryz.func9,Tryz.ntmps9
 by_cases hl:p.length=q.length
 ·have q1:((p.length:Int) !=(q.length:Int))=false:=by rw[hl,bne,beq_self_eq_true];rfl
  have HL:=zh hl;clear hl;go_wp2_with fail
  go_loopw [5] (fun i wr=>∃k:Nat,k<=p.length/\i=qI k/\Hid (∀j,j<k->p[j]?=q[j]?)/\Hid (Below w.heap.size w wr)) (fun i _=>p.length -(intOf i).toNat)
  case atStart=>exact⟨0,by omega,rfl,(fun j h=>by omega),Below.refl _ _⟩
  case round=>
   obtain⟨k,hk,rfl,HJ,HW⟩:=hrel
   by_cases hlt:k<p.length
   ·obtain⟨x,hx⟩:∃x,p[k]?=some x:=⟨_,gE hlt⟩
    obtain⟨y,hy⟩:∃y,q[k]?=some y:=⟨_,gE (by rw[<-HL.out];exact hlt)⟩
    obtain⟨ad,rfl,_,c0⟩:=(HP.out.keep HW.out).at_ hx;obtain⟨bd,rfl,_,c1⟩:=(HQ.out.keep HW.out).at_ hy;have i1:(0:Int)<=(k:Int):=by omega
    have i2:(k:Int)<(p.length:Int):=by omega
    have i3:(k:Int)<(q.length:Int):=by have:=HL.out;omega
    have HX:=zh hx;have HY:=zh hy;clear hx hy;cases hxy:(x==y)
    ·have hq2:(x !=y)=true:=by rw[bne,hxy];rfl
     have HE:=zh (show decide (p=q)=false from decide_eq_false fun e=>by
      rw[beq_eq_false_iff_ne] at hxy;have h1:=HX.out;rw[e,HY.out] at h1;exact hxy (sj h1).symm)
     go_wp2_with fail
     go_quiet (fail)
     have HW:=zh (below_drewN HW.out nq);clear c0 c1 hxy hq2;go_wp2;go_ret;exact⟨zA1 HE.out.symm,HW.out⟩
    ·have hq2:(x !=y)=false:=by rw[bne,hxy];rfl
     have HE:=zh (beq_iff_eq.1 hxy);go_wp2_with fail
     go_quiet (fail)
     have HW:=zh (below_drewN HW.out nq);clear c0 c1 hxy hq2;go_wp2;go_roundw
     case rel=>exact⟨k+1,by omega,by go_num,(fun j h=>by
      rcases Nat.lt_or_ge j k with h'|h'
      ·exact HJ.out j h'
      ·obtain rfl:j=k:=by omega
       rw[HX.out,HY.out,HE.out]),HW⟩
     case measure=>simp[intOf];omega
   ·obtain rfl:k=p.length:=by omega
    have HE:=zh (show decide (p=q)=true from decide_eq_true (zVa HL.out HJ.out));go_wp2;go_ret;exact⟨zA1 HE.out.symm,HW.out⟩
 ·have q1:((p.length:Int) !=(q.length:Int))=true:=by rw[bne,bn (by omega)];rfl
  have HE:=zh (show decide (p=q)=false from decide_eq_false fun e=>hl (by rw[e]));clear hl;go_wp2;go_ret;exact⟨zA1 HE.out.symm,Below.refl _ _⟩
theorem zPu (A:Option Addr)(n cap:Nat)(w:World):Calls Tryz.prog 16 #[.slice A n cap] w fun e w'=>e= .returned (.agg #[qI 1,qE,qI 0,.slice A n cap])/\Below w.heap.size w w':=by
 have HB:=zh (zA0 w (.cells qZ 25));have K1:=zh (Blk.new w 25 qZ);go_enter Tryz.func16,Tryz.ntmps16;go_upto_region 1 with(fail)
 generalize w.alloc (.cells qZ 25)=w1 at*;have k0:=K1.out.cell;have f0:=K1.out.frozen;go_wp2_with fail;have KR:=zh (set4 K1.out (qI 1) qE (qI 0) (.slice A n cap));have HG:=zUh w1 w.heap.size (qI 1) qE (qI 0) (.slice A n cap);have HB4:=zh (HB.out.grown HG HB.out.size fun r e=>by have:=sj e;omega);clear HG;generalize (((w1.setCell ⟨w.heap.size,0,none⟩ (qI 1)).setCell ⟨w.heap.size,1,none⟩ qE).setCell ⟨w.heap.size,2,none⟩ (qI 0)).setCell ⟨w.heap.size,3,none⟩ (.slice A n cap)=w2 at*;obtain⟨r0,r1,r2,r3⟩:=qb KR;exact bodyPost_ret (v:=.agg #[qI 1,qE,qI 0,.slice A n cap]) (by simp[results,Tryz.results16,go_sem,r0,r1,r2,r3]) rfl ⟨rfl,HB4.out⟩
def zWl:Rul:=⟨1,⟨#[43]⟩,⟨#[112,108,117,115]⟩,40,40,41⟩
abbrev zW5:Array Value:= #[qI 1,.string ⟨#[43]⟩,.string ⟨#[112,108,117,115]⟩,qI 40,qI 40,qI 41]
theorem zXs (w:World):Calls Tryz.prog 15 #[] w fun e w'=>e= .returned (.slice (some ⟨w.heap.size,0,none⟩) 1 1)/\w'=w.alloc (.cells zW5 53):=by
 go_enter Tryz.func15,Tryz.ntmps15;go_wp2;exact bodyPost_ret (v:=.slice (some ⟨w.heap.size,0,none⟩) 1 1) (by simp[results,Tryz.results15,go_sem]) rfl ⟨rfl,rfl⟩
theorem _root_.Go.Proofs.YtapgncbegadbnaaGreatDoor.At.zAv.size {w:World}{t:Tre}{c:Array Value}(h:zAv w t c):c.size=4:=by
 obtain⟨A,cap,rfl,_⟩:=h.form;rfl
theorem yD8:∀(l:List (Array Value)) (k j:Nat) (c:Array Value),(∀c∈l,c.size=4)->l[k]?=some c->j<4->(l.flatMap (·.toList))[k*4+j]?=c[j]?
 |[],k,j,c,_,h,_=>by simp at h
 |x::r,0,j,c,hs,h,hj=>by
  obtain rfl:x=c:=by simpa using h
  have:=hs x List.mem_cons_self;rw[List.flatMap_cons,List.getElem?_append_left (by simp;omega)];simp
 |x::r,k+1,j,c,hs,h,hj=>by
  have ih:=yD8 r k j c (fun c hc=>hs c (List.mem_cons_of_mem _ hc)) (by simpa using h) hj;have:=hs x List.mem_cons_self;rw[List.flatMap_cons,List.getElem?_append_right (by simp;omega),<-ih]
  congr 1
  simp;omega
structure NodC (w:World)(css:List (Array Value))(ks:List Tre):Prop where
 len:css.length=ks.length
 at_:∀(j:Nat) c x,css[j]?=some c->ks[j]?=some x->zAv w x c
theorem NodC.size {w:World}{css:List (Array Value)}{ks:List Tre}(h:NodC w css ks):∀c∈css,c.size=4:=fun c hc=>by
 obtain⟨j,hj⟩:=List.mem_iff_getElem?.1 hc;have hj2:=(List.getElem?_eq_some_iff.1 hj).1;exact(h.at_ j c (ks[j]'(by have:=h.len;omega)) hj (gE (by have:=h.len;omega))).size
structure NRow (w0 w:World)(g:Nat)(ts:List Tre):Prop where
 bel:Below w0.heap.size w0 w
 lo:w0.heap.size<=g
 cells:∃cur,Blk w g 25 cur/\ts.length*4<=cur.size/\∀(i:Nat) t,ts[i]?=some t->∃c,zAv w0 t c/\∀j,j<4->cur[i*4+j]?=c[j]?
theorem NRow.keep (h:NRow w0 w g ts)(hb:Below w.heap.size w w'):NRow w0 w' g ts:=by
 obtain⟨cur,h1,h2,h3⟩:=h.cells;exact⟨h.bel.trans (hb.mono h.bel.size),h.lo,cur,jL hb h1,h2,h3⟩
theorem addg (g m:Nat):(⟨g,0,none⟩:Addr).add m=⟨g,m,none⟩:=by unfold Addr.add;split<;>simp_all
theorem NRow.kids (h:NRow w0 w g ts):zAo w (some ⟨g,0,none⟩) ts:=fun i t hi=>by
 obtain⟨cur,h1,h2,h3⟩:=h.cells;obtain⟨c,h4,h5⟩:=h3 i t hi;exact⟨_,rfl,h1.lt,c,h4.keep h.bel,fun j hj=>by rw[addg,h1.cell,h5 j hj]⟩
theorem NRow.put (h:NRow w0 w g ts)(hk:k<ts.length){y:Tre}{y0 y1 y2 y3:Value}(hy:zAv (zEt w g (k*4) [y0,y1,y2,y3]) y #[y0,y1,y2,y3]):zAo (zEt w g (k*4) [y0,y1,y2,y3]) (some ⟨g,0,none⟩) (ts.set k y):=fun i t hi=>by
 obtain⟨cur,h1,h2,h3⟩:=h.cells;have hlo:=h.lo;have hg:=zBy [y0,y1,y2,y3] w g (k*4);have hb:Below w0.heap.size w0 (zEt w g (k*4) [y0,y1,y2,y3]):=h.bel.grown hg h.bel.size fun r e=>by have:=sj e;omega
 have hbk:=zI2 [y0,y1,y2,y3] w g (k*4) cur h1;have hsz:k*4+[y0,y1,y2,y3].length<=cur.size:=by simp;omega
 by_cases hik:i=k
 ·subst hik;rw[List.getElem?_set_self hk] at hi;obtain rfl:=sj hi;refine⟨_,rfl,hbk.lt,_,hy,fun j hj=>?_⟩;rw[addg,hbk.cell,zEi _ _ _ _ hsz,if_pos (by simp;omega),show i*4+j -i*4=j by omega]
  match j,hj with
  |0,_|1,_|2,_|3,_=>rfl
  |j+4,hj=>omega
 ·rw[List.getElem?_set_ne (fun e=>hik e.symm)] at hi;obtain⟨c,h4,h5⟩:=h3 i t hi;refine⟨_,rfl,hbk.lt,c,h4.keep hb,fun j hj=>?_⟩;rw[addg,hbk.cell,zEi _ _ _ _ hsz,if_neg (by simp;omega),h5 j hj]
theorem yA1:(Tryz.prog.info? 25).map (fun i=>(i.zero,i.size,i.bytes))=some (some (.agg qZ),4,56):=by kernel_rfl
end El
namespace Rn
open At Ch Sp Sy El Go.RowKit
variable{ok' P:Nat->Prop}{w w':World}{x:Tre}{A:Option Addr}{ks xs:List Tre}{B:Nat}{css:List (Array Value)}{q:Nat->Addr}
inductive NdAt (ok:Nat->Prop) (w:World):Tre->Array Value->Prop
 |mk (k:Int) (s:ByteArray) (c:Int) (ks:List Tre) (A:Option Addr) (cap:Nat) (ad:Addr) (cs:Nat->Array Value) (hst:s.size<=9223372036854775807) (hn:ks.length<=cap) (hc:cap<=9223372036854775807)
   (hA:ks=[]\/(A=some ad/\ad.block<w.heap.size/\ok ad.block)) (hcell:∀i,i<ks.length->∀j,j<4->w.cell? (ad.add (i*4+j))=(cs i)[j]?)
   (hk:∀(i:Nat) (h:i<ks.length),NdAt ok w ks[i] (cs i)):NdAt ok w (.mk k s c ks) #[qI k,.string s,qI c,.slice A ks.length cap]
def zDf (ok:Nat->Prop)(w:World)(A:Option Addr)(ks:List Tre):Prop:=∀(i:Nat) (x:Tre),ks[i]?=some x->∃ad:Addr,A=some ad/\ad.block<w.heap.size/\ok ad.block/\∃c,NdAt ok w x c/\∀j,j<4->w.cell? (ad.add (i*4+j))=c[j]?
theorem NdAt.map {ok:Nat->Prop}(hs:w.heap.size<=w'.heap.size)(hok:∀b,b<w.heap.size->ok b->ok' b)(hc:∀p:Addr,p.block<w.heap.size->ok p.block->w'.cell? p=w.cell? p){c:Array Value}(h:NdAt ok w x c):NdAt ok' w' x c:=by
 induction h with
 |mk k s c ks A cap ad cs hst hn hcap hA hcell hk ih=>
  refine .mk k s c ks A cap ad cs hst hn hcap (hA.imp id fun⟨h1,h2,h3⟩=>⟨h1,ll h2 hs,hok _ h2 h3⟩) (fun i hi j hj=>?_) ih;rcases hA with h|⟨h1,h2,h3⟩
  ·subst h;simp at hi
  ·rw[hc _ (by rw[zA2];exact h2) (by rw[zA2];exact h3)];exact hcell i hi j hj
theorem NdAt.keep {ok:Nat->Prop}{c:Array Value}(h:NdAt ok w x c)(hb:Below w.heap.size w w'):NdAt ok w' x c:=h.map hb.size (fun _ _ h=>h) fun _ hp _=>hb.cell hp
theorem NdAt.any {ok:Nat->Prop}{c:Array Value}(h:NdAt ok w x c)(hok:∀b,b<w.heap.size->ok b->ok' b):NdAt ok' w x c:=h.map (Nat.le_refl _) hok fun _ _ _=>rfl
theorem NdAt.grown {ok:Nat->Prop}{row:Option Nat}{c:Array Value}(h:NdAt ok w x c)(hg:w.grownBy w' row)(hr:∀b,b<w.heap.size->ok b->some b≠row)(hok:∀b,b<w.heap.size->ok b->ok' b):NdAt ok' w' x c:=
 h.map hg.size hok fun _ hp ho=>World.cell?_of_block (hg.block _ hp (hr _ hp ho))
theorem zDf.map {ok ok':Nat->Prop}{w w':World}(hs:w.heap.size<=w'.heap.size)(hok:∀b,b<w.heap.size->ok b->ok' b)(hc:∀p:Addr,p.block<w.heap.size->ok p.block->w'.cell? p=w.cell? p){A:Option Addr}{ks:List Tre}(h:zDf ok w A ks):zDf ok' w' A ks:=fun i x hi=>by
 obtain⟨ad,h1,h2,h3,c,h4,h5⟩:=h i x hi;exact⟨ad,h1,ll h2 hs,hok _ h2 h3,c,h4.map hs hok hc,fun j hj=>by rw[hc _ (by rw[zA2];exact h2) (by rw[zA2];exact h3)];exact h5 j hj⟩
theorem zDf.keep {ok:Nat->Prop}(h:zDf ok w A ks)(hb:Below w.heap.size w w'):zDf ok w' A ks:=h.map hb.size (fun _ _ h=>h) fun _ hp _=>hb.cell hp
theorem zDf.any {ok:Nat->Prop}(h:zDf ok w A ks)(hok:∀b,b<w.heap.size->ok b->ok' b):zDf ok' w A ks:=h.map (Nat.le_refl _) hok fun _ _ _=>rfl
theorem NdAt.size {ok:Nat->Prop}{w:World}{x:Tre}{c:Array Value}(h:NdAt ok w x c):c.size=4:=by cases h;rfl
theorem NdAt.form {ok:Nat->Prop}{c:Array Value}(h:NdAt ok w x c):∃A cap,c=(qC x A cap)/\x.text.size<=9223372036854775807/\x.kids.length<=cap/\cap<=9223372036854775807/\zDf ok w A x.kids:=by
 cases h with
 |mk k s c ks A cap ad cs hst hn hcap hA hcell hk=>
  refine⟨A,cap,rfl,hst,hn,hcap,fun i x hi=>?_⟩;obtain⟨hl,rfl⟩:=List.getElem?_eq_some_iff.1 hi;have hl:i<ks.length:=hl;rcases hA with h|⟨h1,h2,h3⟩
  ·subst h;simp at hl
  ·exact⟨ad,h1,h2,h3,cs i,hk i hl,hcell i hl⟩
theorem NdAt.of {ok:Nat->Prop}{k:Int}{s:ByteArray}{c:Int}{cap:Nat}(hst:s.size<=9223372036854775807)(hn:ks.length<=cap)(hc:cap<=9223372036854775807)(hk:zDf ok w A ks):NdAt ok w (.mk k s c ks) #[qI k,.string s,qI c,.slice A ks.length cap]:=by
 by_cases h0:ks=[]
 ·subst h0;exact .mk k s c [] A cap ⟨0,0,none⟩ (fun _=> #[]) hst hn hc (.inl rfl) (fun i hi=>by simp at hi) (fun i hi=>by simp at hi)
 ·have h1:0<ks.length:=List.length_pos_iff.2 h0;obtain⟨ad,hA,hlt,hok,_⟩:=hk 0 ks[0] (gE h1);have ex:∀i,∃c,∀h:i<ks.length,NdAt ok w ks[i] c/\∀j,j<4->w.cell? (ad.add (i*4+j))=c[j]?:=fun i=>by
   by_cases h:i<ks.length
   ·obtain⟨ad',hA',_,_,c,h2,h3⟩:=hk i ks[i] (gE h);obtain rfl:ad=ad':=by rw[hA] at hA';exact sj hA'
    exact⟨c,fun _=>⟨h2,h3⟩⟩
   ·exact⟨#[],fun h'=>absurd h' h⟩
  obtain⟨cs,hcs⟩:=Classical.axiomOfChoice ex;exact .mk k s c ks A cap ad cs hst hn hc (.inr ⟨hA,hlt,hok⟩) (fun i hi=>(hcs i hi).2) (fun i hi=>(hcs i hi).1)
theorem NdAt.nod {ok:Nat->Prop}{c:Array Value}(h:NdAt ok w x c):zAv w x c:=by
 induction h with
 |mk k s c ks A cap ad cs hst hn hc hA hcell hk ih=>
  exact .mk k s c ks A cap ad cs hst hn hc (hA.imp id fun⟨h1,h2,_⟩=>⟨h1,h2⟩) hcell ih
theorem NdAt.zero (ok:Nat->Prop)(w:World)(k:Int)(s:ByteArray)(c:Int)(hst:s.size<=9223372036854775807):NdAt ok w (.mk k s c []) #[qI k,.string s,qI c,qN]:=
 NdAt.of (ks:=[]) (A:=none) (cap:=0) hst (Nat.le_refl _) (by omega) fun i x h=>by simp at h
def OwnN (ok:Nat->Prop)(w:World)(B:Nat)(v:Value)(xs:List Tre):Prop:=∃css:List (Array Value),w.ownsRow B 25 4 v xs.length (css.flatMap (·.toList))/\css.length=xs.length/\(∀(j:Nat) c x,css[j]?=some c->xs[j]?=some x->NdAt ok w x c)
theorem OwnN.nil (ok:Nat->Prop)(w:World)(B:Nat):OwnN ok w B qN []:=⟨[],World.ownsRow_nil _ _ _ _,rfl,fun j c x h=>by simp at h⟩
theorem OwnN.size {ok:Nat->Prop}{w:World}{xs:List Tre}{css:List (Array Value)}(hl:css.length=xs.length)(h:∀(j:Nat) c x,css[j]?=some c->xs[j]?=some x->NdAt ok w x c):∀c∈css,c.size=4:=fun c hc=>by
 obtain⟨j,hj⟩:=List.mem_iff_getElem?.1 hc;have hj2:=(List.getElem?_eq_some_iff.1 hj).1;exact(h j c xs[j] hj (gE (by omega))).size
theorem OwnN.keep {ok:Nat->Prop}{w w':World}{B:Nat}{v:Value}{xs:List Tre}(h:OwnN ok w B v xs)(hb:Below w.heap.size w w'):OwnN ok w' B v xs:=by
 obtain⟨css,h1,h2,h3⟩:=h;exact⟨css,Sp.own_below h1 hb,h2,fun j c x hj hx=>(h3 j c x hj hx).keep hb⟩
theorem OwnN.any {ok ok':Nat->Prop}{w:World}{B:Nat}{v:Value}{xs:List Tre}(h:OwnN ok w B v xs)(hok:∀b,b<w.heap.size->ok b->ok' b):OwnN ok' w B v xs:=by
 obtain⟨css,h1,h2,h3⟩:=h;exact⟨css,h1,h2,fun j c x hj hx=>(h3 j c x hj hx).any hok⟩
theorem OwnN.zOw {ok:Nat->Prop}{v:Value}(h:OwnN ok w B v xs)(hB:∀b,B<=b->P b)(hok:∀b,ok b->P b):∃A cap,v= .slice A xs.length cap/\xs.length<=cap/\cap<=9223372036854775807/\zDf P w A xs:=by
 obtain⟨css,ho,hl,hr⟩:=h;have hsz:=OwnN.size hl hr;rcases ho.2 with⟨rfl,h0⟩|⟨g,cap,cur,rfl,hg,hb,hn,hc,hs,ht⟩
 ·obtain rfl:xs=[]:=List.length_eq_zero_iff.1 h0;exact⟨none,0,rfl,by simp,by omega,fun j p hj=>by simp at hj⟩
 ·have hb':Blk w g 25 cur:=hb;refine⟨_,cap,rfl,hn,by unfold maxLen at hc;omega,fun i x hi=>⟨⟨g,0,none⟩,rfl,hb'.lt,hB g hg,?_⟩⟩;have hil:=(List.getElem?_eq_some_iff.1 hi).1;obtain⟨c,hci⟩:∃c,css[i]?=some c:=⟨_,gE (by omega)⟩
  refine⟨c,(hr i c x hci hi).any fun b _ h=>hok b h,fun j hj=>?_⟩;have h3:=yD8 css i j c hsz hci hj;have hjc:j<c.size:=by rw[hsz c (List.mem_of_getElem? hci)];exact hj
  have h4:c[j]?=some c[j]:=Array.getElem?_eq_getElem hjc;rw[show(⟨g,0,none⟩:Addr).add (i*4+j)=⟨g,i*4+j,none⟩ by unfold Addr.add;split<;>simp_all,hb'.cell];rw[h4] at h3⊢;rw[<-ht,List.getElem?_take] at h3
  split at h3
  ·rw[<-Array.getElem?_toList];exact h3
  ·cases h3
theorem OwnN.form {ok:Nat->Prop}{v:Value}(h:OwnN ok w B v xs):∃A cap,v= .slice A xs.length cap/\xs.length<=cap/\cap<=9223372036854775807/\zDf (fun _=>True) w A xs:=h.zOw (fun _ _=>trivial) fun _ _=>trivial
theorem OwnN.lt {ok:Nat->Prop}{w:World}{B:Nat}{v:Value}{xs:List Tre}(h:OwnN ok w B v xs):∀r,v.ownBlock=some r->B<=r/\r<w.heap.size:=by
 obtain⟨css,ho,_⟩:=h;exact World.ownsRow.lt ho
theorem OwnN.snoc {ok:Nat->Prop}{v v':Value}{c:Array Value}(hl:css.length=xs.length)(h:∀(j:Nat) c x,css[j]?=some c->xs[j]?=some x->NdAt ok w x c)(hx:NdAt ok w x c)(ho:w'.ownsRow B 25 4 v' (xs.length+1) (css.flatMap (·.toList)++c.toList))(hg:w.grownBy w' v.ownBlock)(hr:∀b,b<w.heap.size->ok b->some b≠v.ownBlock)(hok:∀b,b<w.heap.size->ok b->ok' b):OwnN ok' w' B v' (xs++[x]):=by
 refine⟨css++[c],?_,by simp[hl],fun j d y hj hy=>?_⟩
 ·rw[List.length_append,List.flatMap_append]
  simpa using ho
 ·rcases Nat.lt_or_ge j css.length with hlt|hge
  ·rw[List.getElem?_append_left hlt] at hj;rw[List.getElem?_append_left (by omega)] at hy;exact(h j d y hj hy).grown hg hr hok
  ·rw[List.getElem?_append_right hge] at hj;rw[List.getElem?_append_right (by omega),<-hl] at hy
   by_cases e:j -css.length=0
   ·rw[e] at hj hy;obtain rfl:c=d:=by simpa using hj
    obtain rfl:x=y:=by simpa using hy
    exact hx.grown hg hr hok
   ·rw[List.getElem?_eq_none (by simp;omega)] at hj;cases hj
def AppN (P:Nat->Prop)(w:World)(B:Nat)(v:Value)(xs:List Tre):Prop:=OwnN (fun b=>v.ownBlock≠some b/\P b) w B v xs
theorem AppN.nil (P:Nat->Prop)(w:World)(B:Nat):AppN P w B qN []:=OwnN.nil _ _ _
theorem AppN.keep {P:Nat->Prop}{w w':World}{B:Nat}{v:Value}{xs:List Tre}(h:AppN P w B v xs)(hb:Below w.heap.size w w'):AppN P w' B v xs:=OwnN.keep h hb
theorem AppN.push {v v':Value}{c:Array Value}(hl:css.length=xs.length)(h:∀(j:Nat) c x,css[j]?=some c->xs[j]?=some x->NdAt (fun b=>v.ownBlock≠some b/\P b) w x c)(hx:NdAt (fun b=>v.ownBlock≠some b/\P b) w x c)(ho:w'.ownsRow B 25 4 v' (xs.length+1) (css.flatMap (·.toList)++c.toList))(hg:w.grownBy w' v.ownBlock)(hv:v'.ownBlock=v.ownBlock\/v'.ownBlock=some w.heap.size):AppN P w' B v' (xs++[x]):=
 OwnN.snoc hl h hx ho hg (fun b _ hb e=>hb.1 e.symm) (fun b hb hok=>⟨by
  rcases hv with e|e
  ·rw[e];exact hok.1
  ·rw[e];intro h2;have:=sj h2;omega,hok.2⟩)
theorem AppN.set_ {v:Value}(h:AppN P w B v xs){p:Addr}(hp:¬P p.block)(hpB:p.block<B)(u:Value):AppN P (w.setCell p u) B v xs:=by
 obtain⟨css,h1,h2,h3⟩:=h;refine⟨css,World.ownsRow.kept h1 (Sp.zBs w p u) ?_,h2,fun j c x hj hx=>(h3 j c x hj hx).map (Sp.zBs w p u).size (fun _ _ h=>h) fun q _ ho=>World.cell?_setCell_other w p q u (fun e=>hp (by rw[e];exact ho.2))⟩;cases hv:v.ownBlock with
 |none=>exact .inl rfl
 |some b=>
  refine .inr fun e=>?_
  have:=(World.ownsRow.lt h1 b hv).1;have:=sj e;omega
theorem AppN.form {v:Value}(h:AppN P w B v xs)(hB:∀b,B<=b->P b):∃A cap,v= .slice A xs.length cap/\xs.length<=cap/\cap<=9223372036854775807/\zDf P w A xs:=OwnN.zOw h hB fun _ hb=>hb.2
theorem zDf.kids {ok:Nat->Prop}(h:zDf ok w A ks):zAo w A ks:=fun i x hi=>by
 obtain⟨ad,h1,h2,_,c,h4,h5⟩:=h i x hi;exact⟨ad,h1,h2,c,h4.nod,h5⟩
def zXp (ok:Nat->Prop)(w:World)(q:Nat->Addr)(x:Tre):Prop:=∃c,NdAt ok w x c/\∀j,j<4->w.cell? (q j)=c[j]?
structure Swap (ok ok':Nat->Prop)(w w':World)(p3:Addr)(A A':Option Addr)(n cap cap':Nat):Prop where
 size:w.heap.size<=w'.heap.size
 okk:∀b,b<w.heap.size->ok b->ok' b
 cell:∀q:Addr,q.block<w.heap.size->q≠p3->w'.cell? q=w.cell? q
 was:w.cell? p3=some (.slice A n cap)
 now:w'.cell? p3=some (.slice A' n cap')
 le:n<=cap'
 max:cap'<=9223372036854775807
 kids:0<n->∃a a':Addr,A=some a/\A'=some a'/\a'.block<w'.heap.size/\ok' a'.block/\∀m,m<4*n->w'.cell? (a'.add m)=w'.cell? (a.add m)
section
variable {ok ok' : Nat -> Prop} {w w' : World} {p3 : Addr} {A A' : Option Addr} {n cap cap' : Nat}
theorem Swap.nds (h:Swap ok ok' w w' p3 A A' n cap cap')(hl:ks.length=n)(hk:zDf ok' w' A ks):zDf ok' w' A' ks:=fun i x hi=>by
 have hil:=(List.getElem?_eq_some_iff.1 hi).1;obtain⟨a,a',h1,h2,h3,h4,h5⟩:=h.kids (by omega);obtain⟨ad,e1,e2,e3,c,e4,e5⟩:=hk i x hi;obtain rfl:a=ad:=sj (h1.symm.trans e1);exact⟨a',h2,h3,h4,c,e4,fun j hj=>by rw[h5 _ (by omega)];exact e5 j hj⟩
theorem Swap.rep (h:Swap ok ok' w w' p3 A A' n cap cap')(hq:∀j,(q j).block<w.heap.size){c:Array Value}(hc':NdAt ok' w' x c)(hx:∀j,j<4->w.cell? (q j)=c[j]?):zXp ok' w' q x:=by
 cases x with
 |mk k s cc ks=>
  obtain⟨A1,cap1,rfl,hs,hn1,hc1,hk1⟩:=hc'.form;have h0:=hx 0 (by omega);have h1:=hx 1 (by omega);have h2:=hx 2 (by omega);have h3:=hx 3 (by omega);have n0:q 0≠p3:=fun e=>by rw[e,h.was] at h0;simp at h0
  have n1:q 1≠p3:=fun e=>by rw[e,h.was] at h1;simp at h1
  have n2:q 2≠p3:=fun e=>by rw[e,h.was] at h2;simp at h2
  by_cases e:q 3=p3
  ·rw[e,h.was] at h3;simp only[List.getElem?_toArray,List.getElem?_cons_succ,List.getElem?_cons_zero,Option.some.injEq,Value.slice.injEq] at h3;obtain⟨rfl,h3,rfl⟩:=h3;refine⟨_,NdAt.of hs (h3▸h.le) h.max (h.nds h3.symm hk1),fun j hj=>?_⟩
   match j,hj with
   |0,_=>rw[h.cell _ (hq 0) n0,h0];rfl
   |1,_=>rw[h.cell _ (hq 1) n1,h1];rfl
   |2,_=>rw[h.cell _ (hq 2) n2,h2];rfl
   |3,_=>rw[e,h.now,h3];rfl
  ·refine⟨_,hc',fun j hj=>?_⟩
   match j,hj with
   |0,_=>rw[h.cell _ (hq 0) n0,h0]
   |1,_=>rw[h.cell _ (hq 1) n1,h1]
   |2,_=>rw[h.cell _ (hq 2) n2,h2]
   |3,_=>rw[h.cell _ (hq 3) e,h3]
theorem Swap.node (h:Swap ok ok' w w' p3 A A' n cap cap'){c:Array Value}(hx:NdAt ok w x c):NdAt ok' w' x c:=by
 induction hx with
 |mk k s c ks A1 cap1 ad cs hst hn hcp hA hcell hk ih=>
  refine NdAt.of hst hn hcp fun i x hi=>?_
  obtain⟨hil,rfl⟩:=List.getElem?_eq_some_iff.1 hi;rcases hA with h0|⟨e1,e2,e3⟩
  ·subst h0;simp at hil
  ·obtain⟨c',g1,g2⟩:=h.rep (q:=fun j=>ad.add (i*4+j)) (fun j=>by rw[zA2];exact e2) (ih i hil) (hcell i hil);exact⟨ad,e1,ll e2 h.size,h.okk _ e2 e3,c',g1,g2⟩
theorem Swap.at_ (h:Swap ok ok' w w' p3 A A' n cap cap')(hq:∀j,(q j).block<w.heap.size)(hx:zXp ok w q x):zXp ok' w' q x:=by
 obtain⟨c,h1,h2⟩:=hx;exact h.rep hq (h.node h1) h2
end
theorem zV2 (P:Program)(w:World)(dT sT ty elem:TypeId)(g n dCap:Nat)(a:Addr)(sCap:Nat)(cur:Array Value)(t:TypeId)(cs:List Value)(hu:P.underlying dT=some (.slice elem))(hs:(P.info? elem).map (·.size)=some 4)
  (hg:w.heap[g]?=some (.cells cur t (0,0))) (hn:cs.length=n*4) (hsrc:∀j v,cs[j]?=some v->w.cell? (a.add j)=some v) (hfit:cs.length=cur.size) (h1:∀v∈cs,v.oneCell'=true):
  (Builtin.copy_ #[dT,sT] ty #[.slice (some ⟨g,0,none⟩) n dCap,.slice (some a) n sCap]).run P w= .ok (goInt n) (w.setRow g cs.toArray):=by
 have hl:=run_loadCells_list (P:=P) w a cs hsrc;have hst:=run_storeCells_at P g 0 t cs 0 cur w hg (by simp[hfit]) h1;have hd:cur.toList.drop cs.length=[]:=by rw[hfit];simp
 simp[hd] at hst;cases hq:P.info? elem with
 |none=>simp[hq] at hs
 |some i=>
  have hi:i.size=4:=by simpa [hq] using hs
  simp[Builtin.copy_,run_underlying hu,Builtin.lenOf,Builtin.firstCells,sizeOf,typeInfo,hq,hi,<-hn,hl,hst]
theorem zX4 (P:Program)(w:World)(dT sT ty elem:TypeId)(D A:Option Addr)(c1 c2:Nat)(hu:P.underlying dT=some (.slice elem))(hs:(P.info? elem).map (·.size)=some 4):
  (Builtin.copy_ #[dT,sT] ty #[.slice D 0 c1,.slice A 0 c2]).run P w= .ok (goInt 0) w:=by
 cases hq:P.info? elem with
 |none=>simp[hq] at hs
 |some i=>
  have hi:i.size=4:=by simpa [hq] using hs
  cases A with
  |none=>cases D<;>simp[Builtin.copy_,run_underlying hu,Builtin.lenOf,Builtin.firstCells,sizeOf,typeInfo,hq,storeCells]
  |some a=>
   have hl:=run_loadCells_list (P:=P) w a [] (by simp);simp only[List.length_nil] at hl;cases D<;>simp[Builtin.copy_,run_underlying hu,Builtin.lenOf,Builtin.firstCells,sizeOf,typeInfo,hq,hl,storeCells]
def yD1 (w w':World)(D A:Option Addr)(n:Nat)(t:TypeId):Prop:=n=0/\w'=w\/n≠0/\∃(g:Nat) (ad:Addr) (cur:Array Value) (cs:List Value),D=some ⟨g,0,none⟩/\A=some ad/\w.heap[g]?=some (.cells cur t (0,0))/\cs.length=n*4/\(∀j v,cs[j]?=some v->w.cell? (ad.add j)=some v)/\w'=w.setRow g cs.toArray
theorem zN7 {P:Program}{ops:Array Oper}{rest:List Oper}{o:Oper}{a:Act}{Q:Exit->Act->World->Prop}(hgd:o.guard=none)(d s:Operand)(dT sT:TypeId)
  (ho:o.op= .call {callee:=.builtin .copy,args:= #[d,s],argTypes:= #[dT,sT]}) (elem:TypeId) (hu:P.underlying dT=some (.slice elem)) (hsz:(P.info? elem).map (·.size)=some 4)
  (D A:Option Addr) (n c1 c2:Nat) (hd:a.eval d= .slice D n c1) (hs:a.eval s= .slice A n c2) (t:TypeId)
  (hc:n=0\/∃(g:Nat) (ad:Addr) (cur:Array Value) (cs:List Value),D=some ⟨g,0,none⟩/\A=some ad/\w.heap[g]?=some (.cells cur t (0,0))/\cs.length=n*4/\(∀j v,cs[j]?=some v->w.cell? (ad.add j)=some v)/\cs.length=cur.size/\∀v∈cs,v.oneCell'=true)
  (h:∀w',yD1 w w' D A n t->wpList P ops Q rest (a.put o.dst (goInt n)) w'):wpList P ops Q (o::rest) a w:=by
 refine wpList_plain hgd fun K hK=>?_
 by_cases h0:n=0
 ·subst h0;have hrun:=zX4 P w dT sT o.type elem D A c1 c2 hu hsz;unfold Oper.wp;simp[execOp,ho,resolve,invoke,builtin,hd,hs,hrun,Result.andThen];exact hK _ _ (h w (.inl ⟨rfl,rfl⟩))
 ·obtain⟨g,ad,cur,cs,rfl,rfl,hg,hn,hsrc,hfit,h1⟩:=hc.resolve_left h0;have hrun:=zV2 P w dT sT o.type elem g n c1 ad c2 cur t cs hu hsz hg hn hsrc hfit h1;unfold Oper.wp;simp[execOp,ho,resolve,invoke,builtin,hd,hs,hrun,Result.andThen];exact hK _ _ (h _ (.inr ⟨h0,g,ad,cur,cs,rfl,rfl,hg,hn,hsrc,rfl⟩))
end Rn
end Go.Proofs.YtapgncbegadbnaaGreatDoor
