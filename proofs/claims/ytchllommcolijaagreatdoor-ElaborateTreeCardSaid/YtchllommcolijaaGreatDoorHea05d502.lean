/- The array of the parts, the array of the rules; the parts of items, plain. -/
import Derived.Test.YtchllommcolijaaGreatDoorH04aeb3ac
import Derived.Laws.MakeOwn
namespace Go.Proofs.YtchllommcolijaaGreatDoor.El
open At Ch Sp Sy Go.RowKit
def PartsAt (ok:Nat→Prop)(w:World)(ad:Addr)(ps:List Prt):Prop:=ad.block<w.heap.size∧∀(q:Nat) (p:Prt),ps[q]?=some p→∃c,zEg ok w p c∧∀j,j<8→w.cell? (ad.add (q*8+j))=c[j]?
theorem zEg.keep {ok:Nat→Prop}{w w':World}{p:Prt}{c:Array Value}(h:zEg ok w p c)(hb:Below w.heap.size w w'):zEg ok w' p c:=by
 obtain⟨k,a,v,f,A0,n0,c0,A,cap,rfl,h1,h2,h3,h4,h5⟩:=h;exact⟨k,a,v,f,A0,n0,c0,A,cap,rfl,h1.keep hb,h2,h3,h4.keep hb,h5⟩
theorem zEg.any {ok ok':Nat→Prop}{w:World}{p:Prt}{c:Array Value}(h:zEg ok w p c)(hok:∀b,b<w.heap.size→ok b→ok' b):zEg ok' w p c:=by
 obtain⟨k,a,v,f,A0,n0,c0,A,cap,rfl,h1,h2,h3,h4,h5⟩:=h;exact⟨k,a,v,f,A0,n0,c0,A,cap,rfl,h1.any hok,h2,h3,h4.any hok,h5⟩
theorem PartsAt.keep {ok:Nat→Prop}{w w':World}{ad:Addr}{ps:List Prt}(h:PartsAt ok w ad ps)(hb:Below w.heap.size w w'):PartsAt ok w' ad ps:=
 ⟨ll h.1 hb.size,fun q p hp=>by
  obtain⟨c,h1,h2⟩:=h.2 q p hp;exact⟨c,h1.keep hb,fun j hj=>by rw[hb.cell (by rw[zA3];exact h.1)];exact h2 j hj⟩⟩
theorem PartsAt.grown {ok:Nat→Prop}{w w':World}{ad:Addr}{ps:List Prt}{g:Nat}(h:PartsAt ok w ad ps)(hg:w.grownBy w' (some g))(h1:ad.block≠g)(h2:∀b,ok b→b≠g):PartsAt ok w' ad ps:=
 ⟨ll h.1 hg.size,fun q p hp=>by
  obtain⟨c,⟨k,a,v,f,A0,n0,c0,A,cap,rfl,t1,t2,t3,t4,t5⟩,hc⟩:=h.2 q p hp;refine⟨_,⟨k,a,v,f,A0,n0,c0,A,cap,rfl,t1.grown hg (fun b _ hb e=>h2 b hb (sj e)) (fun _ _ h=>h),t2,t3,t4.map hg.size (fun _ _ h=>h) (fun p _ hb=>World.cell?_of_block (hg.block _ ‹_› fun e=>h2 _ hb (sj e))),t5⟩,fun j hj=>?_⟩;rw[←hc j hj];exact World.cell?_of_block (hg.block _ (by rw[zA3];exact h.1) fun e=>h1 (by rw[zA3] at e;exact sj e))⟩
theorem PartsAt.at_ {ok:Nat→Prop}{w:World}{ad:Addr}{ps:List Prt}(h:PartsAt ok w ad ps){q:Nat}{p:Prt}(hp:ps[q]?=some p):∃k a v f A0 n0 c0 A cap,
  TmAt ok w p.opnd #[.int .i64 k,.string a,.string v,.slice A0 n0 c0,.string f]∧p.scr.length≤cap∧cap≤9223372036854775807∧zCs ok w A p.scr∧p.fin.size≤1000∧p.vr.size≤1000∧p.scr.length≤1000∧
  w.cell? (ad.add (q*8))=some (.int .i64 k)∧w.cell? ⟨(ad.add (q*8)).block,(ad.add (q*8)).off+1,none⟩=some (.string a)∧w.cell? ⟨(ad.add (q*8)).block,(ad.add (q*8)).off+2,none⟩=some (.string v)∧w.cell? ⟨(ad.add (q*8)).block,(ad.add (q*8)).off+3,none⟩=some (.slice A0 n0 c0)∧w.cell? ⟨(ad.add (q*8)).block,(ad.add (q*8)).off+4,none⟩=some (.string f)∧w.cell? ⟨(ad.add (q*8)).block,(ad.add (q*8)).off+5,none⟩=some (.slice A p.scr.length cap)∧w.cell? ⟨(ad.add (q*8)).block,(ad.add (q*8)).off+6,none⟩=some (.string p.fin)∧w.cell? ⟨(ad.add (q*8)).block,(ad.add (q*8)).off+7,none⟩=some (.string p.vr):=by
 obtain⟨c,⟨k,a,v,f,A0,n0,c0,A,cap,rfl,h1,h2,h3,h4,h5,h6,h7⟩,hc⟩:=h.2 q p hp;exact⟨k,a,v,f,A0,n0,c0,A,cap,h1,h2,h3,h4,h5,h6,h7,hc 0 (by omega),Sp.zC3 (j:=0) (hc 1 (by omega)),Sp.zC3 (j:=1) (hc 2 (by omega)),Sp.zC3 (j:=2) (hc 3 (by omega)),Sp.zC3 (j:=3) (hc 4 (by omega)),Sp.zC3 (j:=4) (hc 5 (by omega)),Sp.zC3 (j:=5) (hc 6 (by omega)),Sp.zC3 (j:=6) (hc 7 (by omega))⟩
theorem zMx {rs:List Rul}{ps:List Prt}:∀{ks:List Rd} {es:List Int} {t:Nat} {y:Rd} {e:Int},ks[t]?=some y→es[t]?=some e→trmL rs ps (ks.take (t+1)) (es.take (t+1))=trmL rs ps (ks.take t) (es.take t)++[trmR rs ps y e]
 |[],_,_,_,_,h,_=>by simp at h
 |_::_,[],_,_,_,_,h=>by simp at h
 |k::ks,e0::es,0,y,e,h,h'=>by
  simp only[List.getElem?_cons_zero,Option.some.injEq] at h h';subst h h';simp[trmL]
 |k::ks,e0::es,t+1,y,e,h,h'=>by
  simp only[List.getElem?_cons_succ] at h h';rw[List.take_succ_cons,List.take_succ_cons,List.take_succ_cons,List.take_succ_cons,trmL,trmL,zMx h h',List.cons_append]
theorem zPd {rs:List Rul}{ps:List Prt}:∀{ks:List Rd} {es:List Int},(trmL rs ps ks es).length≤ks.length
 |[],es=>by cases es<;>simp[trmL]
 |_::_,[]=>by simp[trmL]
 |k::ks,e::es=>by
  rw[trmL,List.length_cons,List.length_cons];have:=zPd (rs:=rs) (ps:=ps) (ks:=ks) (es:=es);omega
theorem zXq (rs:List Rul)(ps:List Prt)(r a:Int)(ks:List Rd)(e:Int):trmR rs ps (.mk r a ks) e=if r<0 then(match ps[a.toNat]? with
   |some p=>p.opnd
   |none=>zerT) else mkOp (zJ1 rs r) (kndR rs r) (if 0≤opI rs (.mk r a ks) e then ps[(opI rs (.mk r a ks) e).toNat]? else none) (trmL rs ps ks (zAw rs (.mk r a ks) e)):=by
 rw[trmR];rfl
def zFs (w:World)(g:Nat):Nat→List Value→World
 |_,[]=>w
 |b,u::us=>zFs (w.setCell ⟨g,b,none⟩ u) g (b+1) us
def zHq (cs:Array Value):Nat→List Value→Array Value
 |_,[]=>cs
 |b,u::us=>zHq (cs.setIfInBounds b u) (b+1) us
theorem zJl:∀(us:List Value) (cs:Array Value) (b:Nat),(zHq cs b us).size=cs.size
 |[],_,_=>rfl
 |u::us,cs,b=>by rw[zHq,zJl us];simp
theorem zH7:∀(us:List Value) (cs:Array Value) (b i:Nat),b+us.length≤cs.size→(zHq cs b us)[i]?=if b≤i∧i<b+us.length then us[i -b]? else cs[i]?
 |[],cs,b,i,h=>by
  rw[zHq,if_neg];simp
 |u::us,cs,b,i,h=>by
  rw[List.length_cons] at h;rw[zHq,zH7 us _ _ i (by simp;omega),List.length_cons]
  by_cases h1:b+1≤i∧i<b+1+us.length
  ·rw[if_pos h1,if_pos (by omega),show i -b=(i -(b+1))+1 by omega,List.getElem?_cons_succ]
  ·rw[if_neg h1]
   by_cases h2:i=b
   ·subst h2;rw[if_pos (by omega),Nat.sub_self,List.getElem?_cons_zero,Array.getElem?_setIfInBounds_self_of_lt (by omega)]
   ·rw[if_neg (by omega),Array.getElem?_setIfInBounds_ne (by omega)]
theorem zKn {t:TypeId}:∀(us:List Value) (w:World) (g b:Nat) (cs:Array Value),Blk w g t cs→Blk (zFs w g b us) g t (zHq cs b us)
 |[],_,_,_,_,h=>h
 |u::us,_,g,b,_,h=>zKn us _ g (b+1) _ (h.set_ b u)
theorem zC5:∀(us:List Value) (w:World) (g b:Nat),w.grownBy (zFs w g b us) (some g)
 |[],_,_,_=>⟨rfl,rfl,rfl,Nat.le_refl _,fun _ _ _=>rfl⟩
 |u::us,w,g,b=>zBj (zA9 w ⟨g,b,none⟩ u) (zC5 us _ g (b+1))
def PArr (ok:Nat→Prop)(w:World)(gp:Nat)(ps:List Prt):Prop:=∃cs,Blk w gp 88 cs∧cs.size=ps.length*8∧∀(q:Nat) (p:Prt),ps[q]?=some p→∃c,zEg ok w p c∧∀j,j<8→cs[q*8+j]?=c[j]?
theorem PArr.keep {ok:Nat→Prop}{w w':World}{gp:Nat}{ps:List Prt}(h:PArr ok w gp ps)(hb:Below w.heap.size w w'):PArr ok w' gp ps:=by
 obtain⟨cs,h1,h2,h3⟩:=h;refine⟨cs,jL hb h1,h2,fun q p hp=>?_⟩;obtain⟨c,h4,h5⟩:=h3 q p hp;exact⟨c,h4.keep hb,h5⟩
theorem PArr.any {ok ok':Nat→Prop}{w:World}{gp:Nat}{ps:List Prt}(h:PArr ok w gp ps)(hok:∀b,b<w.heap.size→ok b→ok' b):PArr ok' w gp ps:=by
 obtain⟨cs,h1,h2,h3⟩:=h;refine⟨cs,h1,h2,fun q p hp=>?_⟩;obtain⟨c,h4,h5⟩:=h3 q p hp;exact⟨c,h4.any hok,h5⟩
theorem PArr.at_ {ok:Nat→Prop}{w:World}{gp:Nat}{ps:List Prt}(h:PArr ok w gp ps):PartsAt ok w ⟨gp,0,none⟩ ps:=by
 obtain⟨cs,h1,h2,h3⟩:=h;refine⟨h1.lt,fun q p hp=>?_⟩;obtain⟨c,h4,h5⟩:=h3 q p hp;refine⟨c,h4,fun j hj=>?_⟩;rw[show(⟨gp,0,none⟩:Addr).add (q*8+j)=⟨gp,q*8+j,none⟩ by unfold Addr.add;split<;>simp_all,h1.cell,h5 j hj]
theorem zEg.grown {ok:Nat→Prop}{w w':World}{g:Nat}{p:Prt}{c:Array Value}(h:zEg ok w p c)(hg:w.grownBy w' (some g))(h2:∀b,ok b→b≠g):zEg ok w' p c:=by
 obtain⟨k,a,v,f,A0,n0,c0,A,cap,rfl,t1,t2,t3,t4,t5⟩:=h;exact⟨k,a,v,f,A0,n0,c0,A,cap,rfl,t1.grown hg (fun b _ hb e=>h2 b hb (sj e)) (fun _ _ h=>h),t2,t3,t4.map hg.size (fun _ _ h=>h) (fun p _ hb=>World.cell?_of_block (hg.block _ ‹_› fun e=>h2 _ hb (sj e))),t5⟩
theorem zEg.size {ok:Nat→Prop}{w:World}{p:Prt}{c:Array Value}(h:zEg ok w p c):c.size=8:=by
 obtain⟨k,a,v,f,A0,n0,c0,A,cap,rfl,_⟩:=h;rfl
theorem PArr.put {ok:Nat→Prop}{w:World}{gp:Nat}{ps:List Prt}(h:PArr ok w gp ps){q:Nat}(hq:q<ps.length)(us:List Value)(hl:us.length≤8){p:Prt}(hp:∀p0 c0,ps[q]?=some p0→zEg ok w p0 c0→∃c,zEg ok w p c∧∀j,j<8→c[j]?=if j<us.length then us[j]? else c0[j]?)(hok:∀b,ok b→b≠gp):PArr ok (zFs w gp (q*8) us) gp (ps.set q p):=by
 obtain⟨cs,h1,h2,h3⟩:=h;have hg:=zC5 us w gp (q*8);have hb:q*8+us.length≤cs.size:=by rw[h2];omega
 refine⟨zHq cs (q*8) us,zKn us w gp (q*8) cs h1,by rw[zJl,h2,List.length_set],fun r x hr=>?_⟩;obtain⟨p0,hp0⟩:∃p0,ps[q]?=some p0:=⟨_,gE hq⟩
 obtain⟨c0,hc0,hc1⟩:=h3 q p0 hp0
 by_cases hrq:r=q
 ·subst hrq;rw[List.getElem?_set_self hq] at hr;obtain rfl:=sj hr;obtain⟨c,hc2,hc3⟩:=hp p0 c0 hp0 hc0;refine⟨c,hc2.grown hg hok,fun j hj=>?_⟩;rw[zH7 us cs _ _ hb,hc3 j hj]
  by_cases hju:j<us.length
  ·rw[if_pos (by omega),if_pos hju,show r*8+j -r*8=j by omega]
  ·rw[if_neg (by omega),if_neg hju,hc1 j hj]
 ·rw[List.getElem?_set_ne (fun e=>hrq e.symm)] at hr;obtain⟨cr,hcr,hcr1⟩:=h3 r x hr;refine⟨cr,hcr.grown hg hok,fun j hj=>?_⟩;rw[zH7 us cs _ _ hb,if_neg (by omega),hcr1 j hj]
theorem PArr.putT {ok:Nat→Prop}{w:World}{gp:Nat}{ps:List Prt}(h:PArr ok w gp ps){q:Nat}(hq:ps[q]?=some zerP){t:Trm}{tk:Int}{ta tv tf:ByteArray}{tA:Option Addr}{tn tc:Nat}(ht:TmAt ok w t #[.int .i64 tk,.string ta,.string tv,.slice tA tn tc,.string tf])(hok:∀b,ok b→b≠gp):PArr ok (zFs w gp (q*8) [.int .i64 tk,.string ta,.string tv,.slice tA tn tc,.string tf]) gp (ps.set q ⟨t,[],⟨#[]⟩,⟨#[]⟩⟩):=by
 refine h.put (List.getElem?_eq_some_iff.1 hq).1 _ (by simp) (fun p0 c0 hp0 hc0=>?_) hok;rw[hq] at hp0;obtain rfl:=sj hp0;obtain⟨k,a,v,f,A0,n0,e0,A,cap,rfl,_,h2,h3,h4,h5⟩:=hc0;refine⟨_,⟨tk,ta,tv,tf,tA,tn,tc,A,cap,rfl,ht,h2,h3,h4,h5⟩,fun j hj=>?_⟩
 match j,hj with
 |0,_|1,_|2,_|3,_|4,_|5,_|6,_|7,_=>rfl
 |j+8,hj=>omega
theorem PArr.putP {ok:Nat→Prop}{w:World}{gp:Nat}{ps:List Prt}(h:PArr ok w gp ps){q:Nat}(hq:q<ps.length){p:Prt}{c0 c1 c2 c3 c4 c5 c6 c7:Value}(hp:zEg ok w p #[c0,c1,c2,c3,c4,c5,c6,c7])(hok:∀b,ok b→b≠gp):PArr ok (zFs w gp (q*8) [c0,c1,c2,c3,c4,c5,c6,c7]) gp (ps.set q p):=by
 refine h.put hq _ (by simp) (fun p0 d0 _ _=>⟨_,hp,fun j hj=>?_⟩) hok
 match j,hj with
 |0,_|1,_|2,_|3,_|4,_|5,_|6,_|7,_=>rfl
 |j+8,hj=>omega
def zDb (tot:Mea (List Prt))(xs:List Prt)(rest:Mea (List Prt)):Prop:=tot=rest.then_ fun ts=>.ok (xs++ts)
theorem zDb.start (m:Mea (List Prt)):zDb m [] m:=by
 unfold zDb;cases m<;>rfl
theorem zDb.bad {tot:Mea (List Prt)}{xs:List Prt}{m:Mea Prt}{F:Prt→Mea (List Prt)}{er:Int}{p:List Int}(h:zDb tot xs (m.then_ F))(hm:m= .bad er p):tot= .bad er p:=by
 unfold zDb at h;rw[h,hm];rfl
theorem zDb.next {tot:Mea (List Prt)}{xs:List Prt}{m:Mea Prt}{r:Mea (List Prt)}{t:Prt}(h:zDb tot xs (m.then_ fun t=>r.then_ fun ts=>.ok (t::ts)))(hm:m= .ok t):zDb tot (xs++[t]) r:=by
 unfold zDb at*;rw[h,hm];cases r with
 |ok ts=>simp[Mea.then_]
 |bad e p=>rfl
theorem zDb.end {tot:Mea (List Prt)}{xs:List Prt}(h:zDb tot xs (.ok [])):tot= .ok xs:=by
 unfold zDb at h;rw[h];simp[Mea.then_]
theorem zR3 {rs:List Rul}{M:List Tre→List Int→Nat→Mea Trm}{path:List Int}{kd:Nat→Int}{k i:Nat}{l:List Tre}{ts:List ByteArray}{n:Tre}{t:ByteArray}(hn:l[i]?=some n)(ht:ts[i]?=some t):zBi rs M path kd k (l.drop i) (ts.drop i) i=(if t.data.toList=[35] then zDa M n (path++[((k+i:Nat):Int)]) else scrF rs M n (path++[((k+i:Nat):Int)]) (decide (kd i=2))).then_ fun p=>(zBi rs M path kd k (l.drop (i+1)) (ts.drop (i+1)) (i+1)).then_ fun ps=>.ok (p::ps):=by
 obtain⟨hl,rfl⟩:=List.getElem?_eq_some_iff.1 hn;obtain⟨hl2,rfl⟩:=List.getElem?_eq_some_iff.1 ht;rw[List.drop_eq_getElem_cons hl,List.drop_eq_getElem_cons hl2,zBi]
theorem zUm {rs:List Rul}{M:List Tre→List Int→Nat→Mea Trm}{path:List Int}{kd:Nat→Int}{k:Nat}{l:List Tre}{ts:List ByteArray}:zBi rs M path kd k (l.drop l.length) (ts.drop l.length) l.length= .ok []:=by
 rw[List.drop_length];cases ts.drop l.length<;>simp[zBi]
theorem zPt {done:List Prt}{m:Nat}{p:Prt}:(done++List.replicate (m+1) zerP).set done.length p=(done++[p])++List.replicate m zerP:=by
 rw[List.replicate_succ,List.set_append_right _ _ (Nat.le_refl _),Nat.sub_self,List.set_cons_zero,List.append_assoc];rfl
theorem zXg {done:List Prt}{m:Nat}:(done++List.replicate (m+1) zerP)[done.length]?=some zerP:=by
 rw[List.getElem?_append_right (Nat.le_refl _),Nat.sub_self];rfl
theorem zU7 (n:Nat):madeCells #[.int .i64 0] n=(ints (List.replicate n 0)).toArray:=by
 refine Array.ext (by simp[madeCells,ints]) fun i h1 h2=>?_
 simp[madeCells,ints,Nat.mod_one]
theorem zQt (ok:Nat→Prop)(w:World)(n:Nat):PArr ok (w.alloc (.cells (madeCells zDg (n*8)) 88)) w.heap.size (List.replicate n zerP):=by
 refine⟨_,Blk.new w _ _,by rw[size_madeCells,List.length_replicate],fun q p hq=>?_⟩;have hqn:q<n:=by have:=(List.getElem?_eq_some_iff.1 hq).1;simpa using this
 have hpz:p=zerP:=by
  rw[List.getElem?_replicate,if_pos hqn] at hq;exact(sj hq).symm
 subst hpz;refine⟨zDg,⟨_,_,_,_,_,_,_,_,_,rfl,zP3 _ _,Nat.le_refl _,by decide,(fun i x h=>by simp[zerP] at h),by decide,by decide,by decide⟩,fun j hj=>?_⟩;have hi:q*8+j<(madeCells zDg (n*8)).size:=by rw[size_madeCells];omega
 rw[Array.getElem?_eq_getElem hi];have h8:zDg.size=8:=rfl;have hm:(q*8+j)%8=j:=by omega
 have hz:zDg[j]?=some zDg[j]!:=by
  rw[Array.getElem?_eq_getElem (by rw[h8];exact hj),getElem!_pos]
 rw[hz]
 congr 1
 simp only[madeCells,Array.getElem_map,Array.getElem_range,h8,hm]
end Go.Proofs.YtchllommcolijaaGreatDoor.El
