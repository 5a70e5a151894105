/- tree of the writer. -/
import Derived.Test.YtadcldfbmkfkaaaGreatDoorHed01c5ff
namespace Go.Proofs.YtadcldfbmkfkaaaGreatDoor.El
open At Ch Sp Sy Go.RowKit
theorem zEo {M M':List Tre→List Int→Nat→Mea Trm}{path:List Int}:∀(ks:List Tre) (s b:Nat),(∀d∈ks,∀p k,M d.kids p k=M' d.kids p k)→zAp M path ks s b=zAp M' path ks s b
 |[],_,_,_=>by rw[zAp,zAp]
 |n::ns,s,b,h=>by rw[zAp,zAp,h n List.mem_cons_self,zEo ns _ _ fun d hd=>h d (List.mem_cons_of_mem _ hd)]
theorem zR5 {M M':List Tre→List Int→Nat→Mea Trm}{n:Tre}{path:List Int}(h:∀d∈n.kids,∀p k,M d.kids p k=M' d.kids p k):zBu M n path=zBu M' n path:=by
 unfold zBu
 split
 ·rfl
 split
 ·rfl
 split
 ·rfl
 ·congr 1
  cases hk:n.kids with
  |nil=>rfl
  |cons d ks=>
   rw[hk] at h;dsimp only;rw[zEo ks 1 0 fun e he=>h e (List.mem_cons_of_mem _ he),zEo (d::ks) 0 0 h]
theorem zV6 {rs rs':List Rul}{M M':List Tre→List Int→Nat→Mea Trm}{n:Tre}{path:List Int}{p:Bool}(h:∀d∈n.kids,∀p k,M d.kids p k=M' d.kids p k)(hv:varN rs n p=varN rs' n p):scrF rs M n path p=scrF rs' M' n path p:=by
 unfold scrF;rw[hv,zEo n.kids.tail _ _ fun d hd=>h d (List.mem_of_mem_tail hd)]
theorem zHw {rs rs':List Rul}{M M':List Tre→List Int→Nat→Mea Trm}{path:List Int}{kd kd':Nat→Int}{k:Nat}:∀(ns:List Tre) (ts:List ByteArray) (i:Nat),(∀n∈ns,∀d∈n.kids,∀p k,M d.kids p k=M' d.kids p k)→(∀n∈ns,∀p,varN rs n p=varN rs' n p)→(∀(q:Nat) (t:ByteArray),ts[q]?=some t→t.data.toList≠[35]→kd (i+q)=kd' (i+q))→
  zAy rs M path kd k ns ts i=zAy rs' M' path kd' k ns ts i
 |[],ts,i,_,_,_=>by cases ts<;>simp[zAy]
 |_::_,[],i,_,_,_=>by simp[zAy]
 |n::ns,t::ts,i,h,hv,hk=>by
  rw[zAy,zAy,zHw (rs':=rs') (M':=M') (kd':=kd') ns ts (i+1) (fun m hm=>h m (List.mem_cons_of_mem _ hm)) (fun m hm=>hv m (List.mem_cons_of_mem _ hm)) (fun q u hu hne=>by have:=hk (q+1) u (by simpa using hu) hne;rw[show i+1+q=i+(q+1) by omega];exact this)]
  congr 1
  split
  ·exact zR5 (h n List.mem_cons_self)
  ·next hne=>
   have:=hk 0 t rfl hne;rw[Nat.add_zero] at this;rw[this];exact zV6 (h n List.mem_cons_self) (hv n List.mem_cons_self _)
theorem zFk (d:Tre):zA7 d=zA3 d.kids+1:=by
 obtain⟨k,t,c,ks⟩:=d;rw[zA7];rfl
theorem zBe:∀(a b:List Tre),zA3 (a++b)=zA3 a+zA3 b
 |[],b=>by rw[zA3,Nat.zero_add];rfl
 |t::a,b=>by rw[List.cons_append,zA3,zA3,zBe a b];omega
theorem zHs {l:List Tre}{q:Nat}{n:Tre}(h:l[q]?=some n):zA3 (l.take (q+1))=zA3 (l.take q)+zA7 n:=by
 rw[List.take_add_one,h,Option.toList_some,zBe,zA3,zA3];omega
theorem zKd (l:List Tre)(k:Nat):zA3 (l.drop k)≤zA3 l:=by
 have:=zBe (l.take k) (l.drop k);rw[List.take_append_drop] at this;omega
end Go.Proofs.YtadcldfbmkfkaaaGreatDoor.El
namespace Go.Proofs.YtadcldfbmkfkaaaGreatDoor.Ch
end Go.Proofs.YtadcldfbmkfkaaaGreatDoor.Ch
namespace Go.Proofs.YtadcldfbmkfkaaaGreatDoor.El
open At Ch Sp Sy Go.RowKit
theorem zSn (rs:List Rul):∀(f f':Nat) (items:List Tre) (path:List Int) (k:Nat),zA3 items<f→zA3 items<f'→zAf rs f items path k=zAf rs f' items path k
 |0,_,_,_,_,h,_=>absurd h (by omega)
 |_+1,0,_,_,_,_,h=>absurd h (by omega)
 |f+1,f'+1,items,path,k,h,h'=>by
  rw[zAf,zAf];unfold zI6
  split
  ·rfl
  split
  ·rfl
  ·next ts hts=>
   split
   ·rfl
   ·next x hx=>
    rw[zHw (rs':=rs) (M':=zAf rs f') (kd':=fun i=>kndR rs ((zGd (asgR rs x ts.length) ts.length).getD i 0)) (items.drop k) ts 0 (fun n hn d hd p j=>?_) (fun _ _ _=>rfl) (fun _ _ _ _=>rfl)];have hc:∀(l:List Tre) (t:Tre),t∈l→zA7 t≤zA3 l:=by
     intro l
     induction l with
     |nil=>intro t ht;cases ht
     |cons a l ih=>
      intro t ht;rw[zA3];rcases List.mem_cons.1 ht with rfl|ht
      ·omega
      ·have:=ih t ht;omega
    have h1:=hc _ n hn;have h2:=hc _ d hd;have h3:=zKd items k;have h4:=zFk n;have h5:=zFk d;exact zSn rs f f' d.kids p j (by omega) (by omega)
   ·rfl
theorem zXc {rs:List Rul}(hv:zAg rs=true):zFx rs [zJ7]=[.mk (-1) 0 []]:=by
 unfold zFx;rw[hv,show zFh [zJ7]=true by decide+kernel,if_pos (by rfl),show([zJ7]:List ByteArray).length=1 from rfl,zTw (by omega)];unfold zNu;rw[show zEk [zJ7] 0 1=[.mk (-1) 0 []] by unfold zEk;rw[if_pos ⟨rfl,by decide+kernel⟩];rfl];have hn:∀(n:Nat),zCx rs [zJ7] (allR rs [zJ7]) 0 1 n=[]:=by
  intro n;unfold zCx;cases rs[n]? with
  |none=>rfl
  |some u=>
   dsimp only;rw[zGx (Nat.le_refl 1),show 1 -1=0 from rfl,zGx (Nat.le_refl 0)]
   split
   ·rfl
   split
   ·split<;>rfl
   split
   ·split<;>rfl
   split<;>rfl
 rw[zAs (g:=fun _=>[]) fun n _=>hn n,zD2,List.append_nil]
theorem yB8 {rs:List Rul}(hv:zAg rs=true){f:Nat}{n:Tre}{path:List Int}(ht:zBm rs [n]= .inl [zJ7]):zAf rs (f+1) [n] path 0=(zBu (zAf rs f) n (path++[0])).then_ fun p=>.ok p.opnd:=by
 rw[zAf];unfold zI6;rw[if_neg (by simp),List.drop_zero,ht];dsimp only;rw[zXc hv];dsimp only;rw[zAy,zAy,if_pos (by decide)]
 ·rw[show((0+0:Nat):Int)=0 from rfl];cases zBu (zAf rs f) n (path++[0]) with
  |bad e p=>rfl
  |ok p=>
   simp only[Mea.then_];rw[zHk,if_pos (by decide)];rfl
 ·intro a b c d h1;cases h1
def brkS:ByteArray:=⟨#[40,41]⟩
def grpT (t:Trm):Trm:=.mk 4 grpS ⟨#[]⟩ (fenS++brkS) [t]
def badE {α:Type}(m:Mea α):Prop:=∀e p,m= .bad e p→e=14∨e=15
theorem badE.ok {α:Type}(a:α):badE (Mea.ok a):=fun e p h=>by cases h
theorem badE.then_ {α β:Type}{m:Mea α}{f:α→Mea β}(h:badE m)(hf:∀a,m= .ok a→badE (f a)):badE (m.then_ f):=by
 intro e p he;cases m with
 |bad e' p'=>
  have he2:(Mea.bad e' p':Mea β)= .bad e p:=he;injection he2 with h1 h2;rw[←h1];exact h e' p' rfl
 |ok a=>exact hf a rfl e p he
theorem zGj {M:List Tre→List Int→Nat→Mea Trm}{path:List Int}:∀(ks:List Tre) (s b:Nat),(∀d∈ks,∀p k,badE (M d.kids p k))→badE (zAp M path ks s b)
 |[],_,_,_=>by rw[zAp];exact badE.ok _
 |n::ns,s,b,h=>by
  rw[zAp];exact(h n List.mem_cons_self _ _).then_ fun t _=>(zGj ns _ _ fun d hd=>h d (List.mem_cons_of_mem _ hd)).then_ fun ts _=>badE.ok _
theorem zW8 {M:List Tre→List Int→Nat→Mea Trm}{n:Tre}{path:List Int}(h:∀d∈n.kids,∀p k,badE (M d.kids p k)):badE (zBu M n path):=by
 unfold zBu
 split
 ·exact badE.ok _
 split
 ·exact badE.ok _
 split
 ·exact badE.ok _
 ·refine badE.then_ ?_ fun ts _=>badE.ok _
  cases hk:n.kids with
  |nil=>exact badE.ok _
  |cons d ks=>
   rw[hk] at h;dsimp only
   split
   ·exact zGj ks 1 0 fun e he=>h e (List.mem_cons_of_mem _ he)
   ·exact zGj (d::ks) 0 0 h
theorem zZm {rs:List Rul}{M:List Tre→List Int→Nat→Mea Trm}{n:Tre}{path:List Int}{p:Bool}(h:∀d∈n.kids,∀p k,badE (M d.kids p k)):badE (scrF rs M n path p):=by
 unfold scrF
 split
 ·exact badE.ok _
 ·exact(zGj _ _ _ fun d hd=>h d (List.mem_of_mem_tail hd)).then_ fun ts _=>badE.ok _
theorem zKb {rs:List Rul}{M:List Tre→List Int→Nat→Mea Trm}{path:List Int}{kd:Nat→Int}{k:Nat}:∀(ns:List Tre) (ts:List ByteArray) (i:Nat),(∀n∈ns,∀d∈n.kids,∀p k,badE (M d.kids p k))→badE (zAy rs M path kd k ns ts i)
 |[],ts,i,_=>by
  have:zAy rs M path kd k [] ts i= .ok []:=by cases ts<;>simp[zAy]
  rw[this];exact badE.ok _
 |n::ns,[],i,_=>by
  have:zAy rs M path kd k (n::ns) [] i= .ok []:=by simp[zAy]
  rw[this];exact badE.ok _
 |n::ns,t::ts,i,h=>by
  rw[zAy];refine badE.then_ ?_ fun x _=>(zKb ns ts (i+1) fun m hm=>h m (List.mem_cons_of_mem _ hm)).then_ fun ps _=>badE.ok _
  split
  ·exact zW8 (h n List.mem_cons_self)
  ·exact zZm (h n List.mem_cons_self)
theorem zNf {l:List Tre}{t:Tre}(h:t∈l):zA7 t≤zA3 l:=by
 obtain⟨i,hi⟩:=List.getElem?_of_mem h;have h6:=zHs hi;have h7:=zBe (l.take (i+1)) (l.drop (i+1));rw[List.take_append_drop] at h7;omega
theorem zQ3 (rs:List Rul):∀(f:Nat) (items:List Tre) (path:List Int) (k:Nat),zA3 items<f→badE (zAf rs f items path k)
 |0,_,_,_,h=>absurd h (by omega)
 |f+1,items,path,k,h=>by
  rw[zAf];unfold zI6
  split
  ·intro e p he;injection he with h1 h2;exact .inr h1.symm
  split
  ·intro e p he;injection he with h1 h2;exact .inr h1.symm
  split
  ·intro e p he;injection he with h1 h2;exact .inr h1.symm
  ·refine(zKb _ _ _ fun n hn d hd p j=>zQ3 rs f d.kids p j ?_).then_ fun ps _=>badE.ok _
   have h1:=zNf hn;have h2:=zNf hd;have h3:=zKd items k;have h4:=zFk n;have h5:=zFk d;omega
  ·intro e p he;injection he with h1 h2;exact .inl h1.symm
def badN {α:Type}(N:Nat)(m:Mea α):Prop:=∀e p,m= .bad e p→p.length≤N
theorem badN.ok {α:Type}(N:Nat)(a:α):badN N (Mea.ok a):=fun e p h=>by cases h
theorem badN.then_ {α β:Type}{N:Nat}{m:Mea α}{f:α→Mea β}(h:badN N m)(hf:∀a,m= .ok a→badN N (f a)):badN N (m.then_ f):=by
 intro e p he;cases m with
 |bad e' p'=>
  have he2:(Mea.bad e' p':Mea β)= .bad e p:=he;injection he2 with h1 h2;rw[←h2];exact h e' p' rfl
 |ok a=>exact hf a rfl e p he
end Go.Proofs.YtadcldfbmkfkaaaGreatDoor.El
namespace Go.Proofs.YtadcldfbmkfkaaaGreatDoor.Rn
open At Ch Sp Sy El Go.RowKit
def erF (m:Mea Trm):Int:=match m with
 | .ok _=>0
 | .bad er _=>er
theorem zW2 {o:Mea Trm}{er:Int}{w:World}{e:Ending}{w':World}(he:erF o=er∧∀e p,o= .bad e p→e≠0)(h:zOl o w e w'):∃cc A8 n8 c8,e= .returned (.tuple #[.agg cc,.slice A8 n8 c8,.int .i64 er])∧(∃tk ta tv tA tn tcp tf,(Value.agg cc)= .agg #[.int .i64 tk,.string ta,.string tv,.slice tA tn tcp,.string tf]∧(er=0→∃t,o= .ok t∧TmAt (fun b=>w.heap.size≤b∧b<w'.heap.size) w' t #[.int .i64 tk,.string ta,.string tv,.slice tA tn tcp,.string tf]))∧True∧Below w.heap.size w w':=by
 obtain⟨h,hb⟩:=h;cases o with
 |ok t=>
  obtain⟨c,rfl,ht⟩:=h;obtain⟨tk,ta,tv,tA,tn,tcp,tf,rfl⟩:=ht.ext;have h0:er=0:=he.1.symm;subst h0;exact⟨_,_,_,_,rfl,⟨tk,ta,tv,tA,tn,tcp,tf,rfl,fun _=>⟨t,rfl,ht.any fun b hb h=>⟨h,hb⟩⟩⟩,trivial,hb⟩
 |bad er' p=>
  obtain⟨A,cp,rfl,_,_,_⟩:=h;have h0:er=er':=he.1.symm;subst h0;exact⟨_,_,_,_,rfl,⟨_,_,_,_,_,_,_,rfl,fun h=>absurd h (he.2 _ _ rfl)⟩,trivial,hb⟩
theorem zXj {rs:List Rul}{f:Nat}{n:Tre}(hf:zA3 n.kids<f){e:Int}{p:List Int}(h:zDv rs f n= .bad e p):e≠0:=by
 unfold zDv at h
 split at h
 ·split at h
  ·split at h
   ·cases h
   ·injection h with h1 h2;omega
  ·next er q hl=>
   injection h with h1 h2;have:=zQ3 rs f _ _ _ hf _ _ hl;omega
 ·injection h with h1 h2;omega
theorem zS2 {rs:List Rul}{f:Nat}{n:Tre}{t:Trm}(h:zDv rs f n= .ok t):zFc n=true:=by
 unfold zDv at h
 split at h
 ·next h1=>exact(Bool.and_eq_true _ _▸h1:_∧_).2
 ·cases h
def TrP (o:Option Tre)(w:World)(e:Ending)(w':World):Prop:=(match o with
 |none=>∃k s cc A n cp,e= .returned (.tuple #[.agg #[.int .i64 k,.string s,.int .i64 cc,.slice A n cp],.bool false])
 |some n=>∃A cp,e= .returned (.tuple #[.agg #[.int .i64 n.kind,.string n.text,.int .i64 n.cols,.slice A n.kids.length cp],.bool true])∧NdAt (fun b=>w.heap.size≤b) w' n #[.int .i64 n.kind,.string n.text,.int .i64 n.cols,.slice A n.kids.length cp])∧Below w.heap.size w w'
set_option maxRecDepth 100000 in
set_option maxHeartbeats 8000000 in
theorem zNg (W:WrB)(A:Option Addr)(cap:Nat)(rs:List Rul)(f fi:Nat)(HI:zBo W A cap rs fi)(hfi:fi≤10000)(hrc:rs.length≤cap)(hcc:cap≤9223372036854775807)(hrn:rs.length≤1000000)(m:Trm)(c:Array Value)(w:World)(hm:szM m<fi)(hmf:8*cntM m<f)(hW:zCn w W A cap rs)(hM:MAt w m c):
  Calls Tryz.prog 57 #[.pointer (some ⟨W.gw,0,none⟩),.agg c] w (TrP (zD6 rs f m) w):=by
 obtain⟨A2,cap2,rfl,hs1,hs2,hs3,hl,hc,hk⟩:=hM.form;have B1:=zA0 w (.cells (trmC m.kind m.nam m.vr A2 m.args.length cap2 m.form) 31);have s1:(w.alloc (.cells (trmC m.kind m.nam m.vr A2 m.args.length cap2 m.form) 31)).heap.size=w.heap.size+1:=by simp
 have B2:=zA0 (w.alloc (.cells (trmC m.kind m.nam m.vr A2 m.args.length cap2 m.form) 31)) (.cells zerD 25);have HB:=zh (B1.trans (B2.mono B1.size));have K0:=zh (keep B2 (Blk.new w 31 (trmC m.kind m.nam m.vr A2 m.args.length cap2 m.form)));have K1:=zh (Blk.new (w.alloc (.cells (trmC m.kind m.nam m.vr A2 m.args.length cap2 m.form) 31)) 25 zerD);rw[s1] at K1;have HW1:=zh (hW.keep HB.out);have HM1:=zh (hM.keep HB.out);have HM0:=zh hM;have HWS:=zh (show w.heap.size+1<_ from K1.out.lt);have HMF:=zh hm;have HF:=zh hmf;clear hW hM hk B1 B2 s1 hm hmf;go_enter Tryz.func57,Tryz.ntmps57;go_upto_region 1 with(fail)
 generalize (w.alloc (.cells (trmC m.kind m.nam m.vr A2 m.args.length cap2 m.form) 31)).alloc (.cells zerD 25)=w1 at*;have q0:=K0.out.cell 0;have q1:=K0.out.cell 1;have q2:=K0.out.cell 2;have q3:=K0.out.cell 3;have q4:=K0.out.cell 4;go_wp2_with fail;refine(HI m _ w1 HMF.out (by omega) HW1.out HM1.out).mono ?_;rintro r w2 ⟨hres,hb⟩;have HB2:=jt HB hb;have HSZ:=zh HB.out.size;have K02:=kp hb K0;have K12:=kp hb K1;have HW2:=zh (HW1.out.keep hb);have HM2:=zh (HM1.out.keep hb);clear q0 q1 q2 q3 q4 hb HB K0 K1 HW1 HM1;cases hI:zAk rs m with
 |none=>
  rw[hI] at hres;obtain rfl:r= .returned (.tuple #[.slice none 0 0,.bool false]):=hres;have HQ:=zh (show zD6 rs f m=none by unfold zD6;rw[hI]);clear hI;have k1c:=fun i=>K12.out.cell i
  have k1f:=fun i=>K12.out.frozen i
  go_wp2_with fail;obtain⟨w5,e5,K5,HB5,_⟩:=fin4 K12.out HB2.out (Nat.le_succ _) (.int .i64 0) (.string ⟨#[]⟩) (.int .i64 0) (.slice none 0 0);rw[e5];have r0:=K5.out.cell 0;have r1:=K5.out.cell 1;have r2:=K5.out.cell 2;have r3:=K5.out.cell 3;exact bodyPost_ret (v:=.tuple #[.agg zerD,.bool false]) (by simp[results,Tryz.results57,go_sem,r0,r1,r2,r3]) rfl (show TrP _ _ _ _ by rw[HQ.out];exact⟨⟨_,_,_,_,_,_,rfl⟩,HB5.out⟩)
 |some l=>
  rw[hI] at hres;obtain⟨A3,cn,rfl,hl3,hc3,hn3⟩:=hres;have HII:=zh hI;have HLF:=zh (show zA3 (rowT l).kids<f from by have h:=zKn m l hI;have:=HF.out;show zA3 l<f;omega);have hba:=zA0 w2 (.cells #[.int .i64 1,.string ⟨#[]⟩,.int .i64 0,.slice A3 l.length cn] 25);have K8:=zh (Blk.new w2 25 #[.int .i64 1,.string ⟨#[]⟩,.int .i64 0,.slice A3 l.length cn]);have HB3:=jt HB2 hba;have K03:=kp hba K02;have K13:=kp hba K12;have HW3:=zh (HW2.out.keep hba);have HM3:=zh (HM2.out.keep hba);have HN3:=zh (show NdAt (fun b=>w1.heap.size≤b) _ (rowT l) #[.int .i64 1,.string ⟨#[]⟩,.int .i64 0,.slice A3 l.length cn] from NdAt.of (by decide) hl3 hc3 (hn3.keep hba));have HGG:=zh (show w.heap.size+1<w2.heap.size from K12.out.lt);clear hI hn3 hba HB2 K02 K12 HW2 HM2;obtain⟨er,her⟩:∃er,erF (zDv rs f (rowT l))=er:=⟨_,rfl⟩
  have HER:=zh (And.intro her fun e p h=>zXj (rs:=rs) (f:=f) (n:=rowT l) HLF.out (e:=e) (p:=p) h);clear her;go_upto_region 5 with(fail)
  generalize w2.heap.size=g8 at*;generalize w2.alloc (.cells #[.int .i64 1,.string ⟨#[]⟩,.int .i64 0,.slice A3 l.length cn] 25)=w3 at*;refine zAh (X:=Gh) (by kernel_rfl) [2,2,2,1,1,1,2,2,2,2,1,3,2,2] [false,false,false,false,false,false,false,false,false,false,false,false,false,false] _ (fun gx=>[.pointer (some ⟨W.gw,0,none⟩),.pointer (some ⟨W.gw,0,none⟩),.pointer (some ⟨W.gw,0,none⟩),.slice A rs.length cap,.agg #[.int .i64 1,.string ⟨#[]⟩,.int .i64 0,.slice A3 l.length cn],.tuple #[gx.v 30,gx.v 31,.int .i64 er],.tuple #[gx.v 30,gx.v 31,.int .i64 er],gx.v 30,gx.v 31,.int .i64 er,.pointer (some ⟨gx.n 9,0,none⟩),undef,gx.v 31,.int .i64 er]) [(5,fun gx wx=>(∃tk ta tv tA tn tcp tf,gx.v 30= .agg #[.int .i64 tk,.string ta,.string tv,.slice tA tn tcp,.string tf]∧(er=0→∃t,zDv rs f (rowT l)= .ok t∧TmAt (fun b=>gx.n 29≤b∧b<gx.n 30) wx t #[.int .i64 tk,.string ta,.string tv,.slice tA tn tcp,.string tf]))∧(∃A8 n8 c8,gx.v 31= .slice A8 n8 c8)∧w3.heap.size≤gx.n 29∧gx.n 29≤gx.n 30),(10,fun gx wx=>Blk wx (gx.n 9) 31 zerC∧w3.heap.size≤gx.n 9)] (fun gx wx=>(gx.n 9=0∨gx.n 9<wx.heap.size)∧gx.n 30≤wx.heap.size∧(gx.n 9=0∨gx.n 30=0∨gx.n 9<gx.n 29∨gx.n 30≤gx.n 9)) Gh.zero (by kernel_rfl) (fun gx=>by simp[fin,zAm,zAb,List.range,List.range.loop,Act.put];rfl) (fun _=>by kernel_rfl) (zA8.cons (fun gx wx w2 ⟨⟨tk,ta,tv,tA,tn,tcp,tf,h1,h2⟩,h3⟩ hb=>⟨⟨tk,ta,tv,tA,tn,tcp,tf,h1,fun h=>by obtain⟨t,h4,h5⟩:=h2 h;exact⟨t,h4,h5.keep hb⟩⟩,h3⟩) (zA8.cons (fun gx wx w2 h hb=>⟨keep hb h.1,h.2⟩) zA8.nil)) (⟨.inl rfl,Nat.zero_le _,.inl rfl⟩) ?_ (by kernel_rfl) ?_
  ·refine⟨fun gx wq=>jp (.pointer (some ⟨W.gw,0,none⟩)) (by kernel_rfl) rfl,fun gx wq=>jp (.pointer (some ⟨W.gw,0,none⟩)) (by simp[go_sem,evAct]) rfl,fun gx wq=>jp (.pointer (some ⟨W.gw,0,none⟩)) (by simp[go_sem,evAct]) rfl,fun gx wq hB hJ hf=>?_,fun gx wq hB hJ hf=>?_,fun gx wq hB hJ hf=>?_,fun gx wq=>jp (.tuple #[gx.v 30,gx.v 31,.int .i64 er]) (by kernel_rfl) rfl,fun gx wq=>jp (gx.v 30) (by kernel_rfl) rfl,fun gx wq=>jp (gx.v 31) (by kernel_rfl) rfl,fun gx wq=>jp (.int .i64 er) (by kernel_rfl) rfl,fun gx wq hB hJ hf=>?_,fun gx wq=>jp (gx.v 31) (by kernel_rfl) rfl,fun gx wq=>jp (.int .i64 er) (by kernel_rfl) rfl,trivial⟩
   ·have cJ:=(keep hB HW3.out.box).cell 0;exact gs (.slice A rs.length cap) hJ (by kernel_rfl) (by simp[go_sem,evAct,cJ]) rfl
   ·have c0:=(keep hB K8.out).cell 0;have c1:=(keep hB K8.out).cell 1;have c2:=(keep hB K8.out).cell 2;have c3:=(keep hB K8.out).cell 3;exact gs (.agg #[.int .i64 1,.string ⟨#[]⟩,.int .i64 0,.slice A3 l.length cn]) hJ (by kernel_rfl) (by simp[go_sem,evAct,c0,c1,c2,c3]) rfl
   ·refine jc 13 (#[.slice A rs.length cap,.agg #[.int .i64 1,.string ⟨#[]⟩,.int .i64 0,.slice A3 l.length cn]]) wq (by kernel_rfl) ((zW5 A cap rs f (rowT l) _ wq (HW3.out.rules.keep hB) hrc hcc hrn (HN3.out.nod.keep hB) HLF.out).mono ?_);rintro e wz hm;obtain⟨cc,A8,n8,c8,rfl,hcx,hcm,hb⟩:=zW2 (HER.out) hm;exact⟨_,rfl,(((gx.setV 30 (.agg cc)).setV 31 (.slice A8 n8 c8)).setN 29 wq.heap.size).setN 30 wz.heap.size,rfl,(by refine zA5.of_same ⟨?_,?_,?_,?_,?_,?_,?_,?_,?_,?_,?_,?_,?_,?_,trivial⟩<;>first|exact jK|exact .inl rfl|exact .inr (.inl (by kernel_rfl))),hb,⟨⟨hcx,⟨_,_,_,rfl⟩,hB.size,hb.size⟩,.inr fun h=>h,trivial⟩,(by obtain⟨j1,j2,j3⟩:=hJ;have hs:=hb.size;exact⟨j1.imp id (fun h=>ll h hs),Nat.le_refl _,j1.imp id (fun h=>.inr (.inl h))⟩)⟩
   ·exact jv (.pointer (some ⟨wq.heap.size,0,none⟩)) (wq.alloc (.cells zerC 31)) (by simp[go_sem]) ⟨gx.setN 9 wq.heap.size,rfl,(by refine zA5.of_same ⟨?_,?_,?_,?_,?_,?_,?_,?_,?_,?_,?_,?_,?_,?_,trivial⟩<;>first|exact jK|exact .inl rfl|exact .inr (.inl (by kernel_rfl))),zA0 wq _,⟨.inr fun h=>h,⟨Blk.new wq _ _,hB.size⟩,trivial⟩,(by obtain⟨j1,j2,j3⟩:=hJ;exact⟨.inr (by show wq.heap.size<_;simp),Nat.le_trans j2 (zA0 wq (.cells zerC 31)).size,.inr (.inr (.inr j2))⟩)⟩
  ·refine fun gx wq hB hJ hf=>?_
   dsimp only[zAu] at hf;change wpOps _ _ _ [11] _ _;obtain⟨⟨⟨tk,ta,tv,tA,tn,tcp,tf,e30,hcm⟩,⟨A8,n8,c8,e31⟩,hlo,hhi⟩,⟨hk9,hg9⟩,-⟩:=hf;rw[e30,e31];have HB4:=jt HB3 hB;have HD4:=zh ((HN3.out.any (ok':=fun b=>w1.heap.size≤b∧b<w3.heap.size) fun b hb h=>⟨h,hb⟩).keep hB);have K84:=kp hB K8;have K04:=kp hB K03;have K14:=kp hB K13;have HM4:=zh (HM3.out.keep hB);have HS3:=zh (show w.heap.size+1<g8∧g8<w3.heap.size from⟨HGG.out,K8.out.lt⟩);have K94:=zh hk9;have HG9:=zh hg9;have HCM:=zh hcm;have HOUT:=zh (show gx.n 9<gx.n 29∨gx.n 30≤gx.n 9 by
    obtain⟨j1,j2,j3⟩:=hJ;have:=HS3.out;rcases j3 with h|h|h
    ·omega
    ·omega
    ·exact h)
   clear hcm hk9 hg9 hB hJ e30 e31 hlo hhi HB3 HN3 K8 K03 K13 HM3 HW3;generalize gx.n 9=g9 at*;generalize gx.n 29=lo at*;generalize gx.n 30=hi at*;clear gx;generalize wq=w4 at*;have kc:=fun i=>K94.out.cell i
   have kf:=fun i=>K94.out.frozen i
   have K95:=zh (set5 K94.out (.int .i64 tk) (.string ta) (.string tv) (.slice tA tn tcp) (.string tf));have HB5:=zh (zQh (g:=g9) HB4.out HB4.out.size (by have:=HS3.out;have:=HG9.out;omega) (.int .i64 tk) (.string ta) (.string tv) (.slice tA tn tcp) (.string tf));have HG5:=zh (zDw w4 g9 (.int .i64 tk) (.string ta) (.string tv) (.slice tA tn tcp) (.string tf));have HN5:=zh (HD4.out.grown (ok':=fun b=>w1.heap.size≤b) HG5.out (fun b _ hb e=>by have h9:b=g9:=sj e;have:=HG9.out;have:=hb.2;omega) fun b _ hb=>hb.1);have K85:=zh (K84.out.grown HG5.out fun e=>by have h9:g8=g9:=sj e;have:=HS3.out;have:=HG9.out;omega);have K05:=zh (K04.out.grown HG5.out fun e=>by have h9:w.heap.size=g9:=sj e;have:=HS3.out;have:=HG9.out;omega);have K15:=zh (K14.out.grown HG5.out fun e=>by have h9:w.heap.size+1=g9:=sj e;have:=HS3.out;have:=HG9.out;omega);have HCM5:=zh (fun h=>show ∃t,zDv rs f (rowT l)= .ok t∧MAt _ t _ from by
    obtain⟨t,h1,h2⟩:=HCM.out h;exact⟨t,h1,(h2.grown (ok':=fun _=>True) HG5.out (fun b _ hb e=>by have h9:b=g9:=sj e;have:=HOUT.out;omega) fun _ _ _=>trivial).mat⟩)
   refine zAw (o:=_) rfl rfl (w':=((((w4.setCell ⟨g9,0,none⟩ (.int .i64 tk)).setCell ⟨g9,1,none⟩ (.string ta)).setCell ⟨g9,2,none⟩ (.string tv)).setCell ⟨g9,3,none⟩ (.slice tA tn tcp)).setCell ⟨g9,4,none⟩ (.string tf)) (by simp[go_sem,kc,kf]) ?_;refine zAe ?_;have HMM:=zh (HM0.out.keep HB5.out);clear kc kf HG5 HB4 HD4 K84 K04 K14 K94 HCM HOUT HM4;generalize ((((w4.setCell ⟨g9,0,none⟩ (.int .i64 tk)).setCell ⟨g9,1,none⟩ (.string ta)).setCell ⟨g9,2,none⟩ (.string tv)).setCell ⟨g9,3,none⟩ (.slice tA tn tcp)).setCell ⟨g9,4,none⟩ (.string tf)=w5 at*;go_upto_region 6 with(fail)
   have K8:=K85;have K9:=K95;have K0:=K05;clear K85 K95 K05
   by_cases he0:er=0
   ·obtain⟨t,ht,hmt⟩:=HCM5.out he0;subst he0;have HMT:=zh hmt;have HVT:=zh (zS2 ht);obtain⟨bq,hbq⟩:∃b,eqM t m=b:=⟨_,rfl⟩
    have HBQ:=zh hbq;have HT:=zh ht;have HCT:=zh (show cntM m≤1000000 by have:=HMF.out;have:cntM m≤szM m:=Nat.le_add_right _ _;omega);have HQ:=zh (show zD6 rs f m=if bq=true then some (rowT l) else none by
     unfold zD6;rw[HII.out];dsimp only;rw[HT.out];dsimp only;rw[hbq])
    clear hmt hbq ht HCM5;refine zAh (X:=Gh) (by kernel_rfl) [1,2,2,2,1,1,2,2,1,1,1,2,3,2] [false,false,false,false,false,false,false,false,false,false,false,false,false,false] _ (fun gx=>[.agg #[.int .i64 1,.string ⟨#[]⟩,.int .i64 0,.slice A3 l.length cn],.int .i64 0,.bool true,.bool true,.agg #[.int .i64 1,.string ⟨#[]⟩,.int .i64 0,.slice A3 l.length cn],.bool true,.bool true,.bool true,.agg #[.int .i64 tk,.string ta,.string tv,.slice tA tn tcp,.string tf],.agg #[.int .i64 m.kind,.string m.nam,.string m.vr,.slice A2 m.args.length cap2,.string m.form],.bool bq,.bool bq,undef,.bool bq]) [] (fun _ _=>True) Gh.zero (by kernel_rfl) (fun gx=>by simp[fin,zAm,zAb,List.range,List.range.loop,Act.put];rfl) (fun _=>by kernel_rfl) zA8.nil (trivial) ?_ (by kernel_rfl) ?_
    ·refine⟨fun gx wq hB hJ hf=>?_,fun gx wq=>jp (.int .i64 0) (by kernel_rfl) rfl,fun gx wq=>jp (.bool true) (by simp[go_sem,evAct]) rfl,fun gx wq=>jp (.bool true) (by kernel_rfl) rfl,fun gx wq hB hJ hf=>?_,fun gx wq hB hJ hf=>?_,fun gx wq=>jp (.bool true) (by kernel_rfl) rfl,fun gx wq=>jp (.bool true) (by kernel_rfl) rfl,fun gx wq hB hJ hf=>?_,fun gx wq hB hJ hf=>?_,fun gx wq hB hJ hf=>?_,fun gx wq=>jp (.bool bq) (by kernel_rfl) rfl,fun gx wq=>jp (.bool bq) (by kernel_rfl) rfl,trivial⟩
     ·have c0:=(keep hB K8.out).cell 0;have c1:=(keep hB K8.out).cell 1;have c2:=(keep hB K8.out).cell 2;have c3:=(keep hB K8.out).cell 3;exact gs (.agg #[.int .i64 1,.string ⟨#[]⟩,.int .i64 0,.slice A3 l.length cn]) hJ (by kernel_rfl) (by simp[go_sem,evAct,c0,c1,c2,c3]) rfl
     ·have c0:=(keep hB K8.out).cell 0;have c1:=(keep hB K8.out).cell 1;have c2:=(keep hB K8.out).cell 2;have c3:=(keep hB K8.out).cell 3;exact gs (.agg #[.int .i64 1,.string ⟨#[]⟩,.int .i64 0,.slice A3 l.length cn]) hJ (by kernel_rfl) (by simp[go_sem,evAct,c0,c1,c2,c3]) rfl
     ·refine jc 39 (#[.agg #[.int .i64 1,.string ⟨#[]⟩,.int .i64 0,.slice A3 l.length cn]]) wq (by kernel_rfl) ((zHd (rowT l) _ wq (HN5.out.nod.keep hB)).mono ?_);rintro e wz ⟨rfl,hb⟩;rw[HVT.out];exact⟨_,rfl,gx,rfl,(zA5.of_same ⟨jK,jK,jK,jK,jK,.inl rfl,jK,jK,jK,jK,jK,jK,jK,jK,trivial⟩),hb,trivial,trivial⟩
     ·have c0:=(keep hB K9.out).cell 0;have c1:=(keep hB K9.out).cell 1;have c2:=(keep hB K9.out).cell 2;have c3:=(keep hB K9.out).cell 3;have c4:=(keep hB K9.out).cell 4;exact gs (.agg #[.int .i64 tk,.string ta,.string tv,.slice tA tn tcp,.string tf]) hJ (by kernel_rfl) (by simp[go_sem,evAct,c0,c1,c2,c3,c4]) rfl
     ·have c0:=(keep hB K0.out).cell 0;have c1:=(keep hB K0.out).cell 1;have c2:=(keep hB K0.out).cell 2;have c3:=(keep hB K0.out).cell 3;have c4:=(keep hB K0.out).cell 4;exact gs (.agg #[.int .i64 m.kind,.string m.nam,.string m.vr,.slice A2 m.args.length cap2,.string m.form]) hJ (by kernel_rfl) (by simp[go_sem,evAct,c0,c1,c2,c3,c4]) rfl
     ·refine jc 112 (#[.agg #[.int .i64 tk,.string ta,.string tv,.slice tA tn tcp,.string tf],.agg #[.int .i64 m.kind,.string m.nam,.string m.vr,.slice A2 m.args.length cap2,.string m.form]]) wq (by kernel_rfl) ((zZf t m _ _ wq HCT.out (HMT.out.keep hB) (HMM.out.keep hB)).mono ?_);rintro e wz ⟨rfl,hb⟩;rw[HBQ.out];exact⟨_,rfl,gx,rfl,(zA5.of_same ⟨jK,jK,jK,jK,jK,jK,jK,jK,jK,jK,.inl rfl,jK,jK,jK,trivial⟩),hb,trivial,trivial⟩
    ·refine fun gx wq hB hJ hf=>?_
     dsimp only[zAu] at hf;change wpOps _ _ _ [12] _ _;have HBQ9:=jt HB5 hB;have K1Q:=kp hB K15;have HNQ:=zh (HN5.out.keep hB);have kc:=fun i=>K1Q.out.cell i
     have kf:=fun i=>K1Q.out.frozen i
     clear hB hJ hf gx;refine zAw (o:=_) rfl rfl (w':=(((wq.setCell ⟨w.heap.size+1,0,none⟩ (.int .i64 1)).setCell ⟨w.heap.size+1,1,none⟩ (.string ⟨#[]⟩)).setCell ⟨w.heap.size+1,2,none⟩ (.int .i64 0)).setCell ⟨w.heap.size+1,3,none⟩ (.slice A3 l.length cn)) (by simp[go_sem,kc,kf]) ?_;refine zAe ?_;clear kc kf;obtain⟨w9,e9,KZ,HBZ,HGZ⟩:=fin4 K1Q.out HBQ9.out (Nat.le_succ _) (.int .i64 1) (.string ⟨#[]⟩) (.int .i64 0) (.slice A3 l.length cn);rw[e9];clear e9;have HNZ:=zh (HNQ.out.grown (ok':=fun b=>w.heap.size≤b) HGZ.out (fun b _ hb e=>by have h9:b=w.heap.size+1:=sj e;have:=HWS.out;omega) fun b _ hb=>by have:=HSZ.out;omega);go_wp2_with fail;have r0:=KZ.out.cell 0;have r1:=KZ.out.cell 1;have r2:=KZ.out.cell 2;have r3:=KZ.out.cell 3;exact bodyPost_ret (v:=.tuple #[.agg #[.int .i64 1,.string ⟨#[]⟩,.int .i64 0,.slice A3 l.length cn],.bool bq]) (by simp[results,Tryz.results57,go_sem,r0,r1,r2,r3]) rfl (show TrP _ _ _ _ by
      rw[HQ.out]
      first
       |exact⟨⟨_,_,_,_,_,_,rfl⟩,HBZ.out⟩
       |(cases bq
         ·exact⟨⟨_,_,_,_,_,_,rfl⟩,HBZ.out⟩
         ·exact⟨⟨A3,cn,rfl,HNZ.out⟩,HBZ.out⟩))
   ·have her:(er==0)=false:=bn he0;have HQ:=zh (show zD6 rs f m=none by
     unfold zD6;rw[HII.out];dsimp only;cases hT:zDv rs f (rowT l) with
     |ok t=>have h9:=HER.out.1;rw[hT] at h9;exact absurd h9.symm he0
     |bad e p=>rfl)
    clear he0 HCM5;refine zAh (X:=Gh) (by kernel_rfl) [1,2,2,2,0,0,2,2,0,0,0,2,3,2] [false,false,false,false,false,false,false,false,false,false,false,false,false,false] _ (fun gx=>[.agg #[.int .i64 1,.string ⟨#[]⟩,.int .i64 0,.slice A3 l.length cn],.int .i64 er,.bool false,.bool false,undef,undef,.bool false,.bool false,undef,undef,undef,.bool false,undef,.bool false]) [] (fun _ _=>True) Gh.zero (by kernel_rfl) (fun gx=>by simp[fin,zAm,zAb,List.range,List.range.loop,Act.put];rfl) (fun _=>by kernel_rfl) zA8.nil (trivial) ?_ (by kernel_rfl) ?_
    ·refine⟨fun gx wq hB hJ hf=>?_,fun gx wq=>jp (.int .i64 er) (by kernel_rfl) rfl,fun gx wq=>jp (.bool false) (by simp[go_sem,evAct,her]) rfl,fun gx wq=>jp (.bool false) (by kernel_rfl) rfl,fun _=>rfl,fun _=>rfl,fun gx wq=>jp (.bool false) (by kernel_rfl) rfl,fun gx wq=>jp (.bool false) (by kernel_rfl) rfl,fun _=>rfl,fun _=>rfl,fun _=>rfl,fun gx wq=>jp (.bool false) (by kernel_rfl) rfl,fun gx wq=>jp (.bool false) (by kernel_rfl) rfl,trivial⟩
     ·have c0:=(keep hB K8.out).cell 0;have c1:=(keep hB K8.out).cell 1;have c2:=(keep hB K8.out).cell 2;have c3:=(keep hB K8.out).cell 3;exact gs (.agg #[.int .i64 1,.string ⟨#[]⟩,.int .i64 0,.slice A3 l.length cn]) hJ (by kernel_rfl) (by simp[go_sem,evAct,c0,c1,c2,c3]) rfl
    ·refine fun gx wq hB hJ hf=>?_
     dsimp only[zAu] at hf;change wpOps _ _ _ [12] _ _;have HBQ9:=jt HB5 hB;have K1Q:=kp hB K15;have HNQ:=zh (HN5.out.keep hB);have kc:=fun i=>K1Q.out.cell i
     have kf:=fun i=>K1Q.out.frozen i
     clear hB hJ hf gx;refine zAw (o:=_) rfl rfl (w':=(((wq.setCell ⟨w.heap.size+1,0,none⟩ (.int .i64 1)).setCell ⟨w.heap.size+1,1,none⟩ (.string ⟨#[]⟩)).setCell ⟨w.heap.size+1,2,none⟩ (.int .i64 0)).setCell ⟨w.heap.size+1,3,none⟩ (.slice A3 l.length cn)) (by simp[go_sem,kc,kf]) ?_;refine zAe ?_;clear kc kf;obtain⟨w9,e9,KZ,HBZ,HGZ⟩:=fin4 K1Q.out HBQ9.out (Nat.le_succ _) (.int .i64 1) (.string ⟨#[]⟩) (.int .i64 0) (.slice A3 l.length cn);rw[e9];clear e9;have HNZ:=zh (HNQ.out.grown (ok':=fun b=>w.heap.size≤b) HGZ.out (fun b _ hb e=>by have h9:b=w.heap.size+1:=sj e;have:=HWS.out;omega) fun b _ hb=>by have:=HSZ.out;omega);go_wp2_with fail;have r0:=KZ.out.cell 0;have r1:=KZ.out.cell 1;have r2:=KZ.out.cell 2;have r3:=KZ.out.cell 3;exact bodyPost_ret (v:=.tuple #[.agg #[.int .i64 1,.string ⟨#[]⟩,.int .i64 0,.slice A3 l.length cn],.bool false]) (by simp[results,Tryz.results57,go_sem,r0,r1,r2,r3]) rfl (show TrP _ _ _ _ by
      rw[HQ.out]
      first
       |exact⟨⟨_,_,_,_,_,_,rfl⟩,HBZ.out⟩
       |(cases bq
         ·exact⟨⟨_,_,_,_,_,_,rfl⟩,HBZ.out⟩
         ·exact⟨⟨A3,cn,rfl,HNZ.out⟩,HBZ.out⟩))
def RfS (B:Nat)(o:Option (List Int))(v:Value)(w:World):Prop:=match o with
 |none=>∃A n cp,v= .slice A n cp
 |some p=>∃A cp,v= .slice A p.length cp∧p.length≤cp∧cp≤9223372036854775807∧zBb w A p∧∀ad,A=some ad→0<p.length→B≤ad.block
theorem RfS.keep {B:Nat}{o:Option (List Int)}{v:Value}{w w':World}(h:RfS B o v w)(hb:Below w.heap.size w w'):RfS B o v w':=by
 cases o with
 |none=>exact h
 |some p=>obtain⟨A,cp,h1,h2,h3,h4,h5⟩:=h;exact⟨A,cp,h1,h2,h3,h4.keep hb,h5⟩
def RfP (B:Nat)(o:Option (List Int))(w:World)(e:Ending)(w':World):Prop:=(∃v,e= .returned (.tuple #[v,.bool o.isSome])∧RfS B o v w')∧Below w.heap.size w w'
theorem yB0 {B:Nat}{o ro:Option (List Int)}{w:World}{e:Ending}{w':World}(he:o=ro)(h:RfP B o w e w'):∃v,e= .returned (.tuple #[v,.bool ro.isSome])∧RfS B ro v w'∧Below w.heap.size w w':=by
 subst he;obtain⟨⟨v,h1,h2⟩,hb⟩:=h;exact⟨v,h1,h2,hb⟩
theorem zJ9 {rs:List Rul}{f:Nat}{path:List Int}:∀{ts:List Trm} {k i:Nat},(∀(j:Nat) t,ts[j]?=some t→j<k→refW rs f t (path++[((i+j:Nat):Int)])=none)→refL rs f ts path i=refL rs f (ts.drop k) path (i+k)
 |ts,0,i,_=>by rw[List.drop_zero,Nat.add_zero]
 |[],k+1,i,_=>by rw[List.drop_nil,refL,refL]
 |t::ts,k+1,i,h=>by
  rw[refL,show refW rs f t (path++[(i:Int)])=none from h 0 t rfl (by omega),List.drop_succ_cons,show i+(k+1)=(i+1)+k by omega];exact zJ9 fun j x hj hk=>by
   have h2:=h (j+1) x hj (by omega);rw[show i+(j+1)=i+1+j by omega] at h2;exact h2
set_option maxRecDepth 100000 in
set_option maxHeartbeats 8000000 in
theorem zOx (W:WrB)(A:Option Addr)(cap:Nat)(rs:List Rul)(f fi:Nat)(HI:zBo W A cap rs fi)(hfi:fi≤10000)(hrc:rs.length≤cap)(hcc:cap≤9223372036854775807)(hrn:rs.length≤1000000)(hff:8*fi≤f)(B:Nat):
  ∀(z:Nat) (m:Trm) (c:Array Value) (path:List Int) (Ap:Option Addr) (cp:Nat) (w:World),szM m≤z∧szM m<fi→path.length+szM m≤100000→zCn w W A cap rs→MAt w m c→zBb w Ap path→path.length≤cp→cp≤9223372036854775807→B≤w.heap.size→(∀ad,Ap=some ad→0<path.length→B≤ad.block)→
  Calls Tryz.prog 58 #[.pointer (some ⟨W.gw,0,none⟩),.agg c,.slice Ap path.length cp] w (RfP B (refW rs f m path) w):=by
 intro z
 induction z with
 |zero=>intro m c path Ap cp w h;have:=zPf m;have:cntM m≤szM m:=Nat.le_add_right _ _;omega
 |succ z ih=>
  intro m c path Ap cp w hz hpl hW hM hP hp1 hp2 hBw hPB;have HBW:=zh hBw;have HPB:=zh hPB;have IH:=zh ih;obtain⟨A2,cap2,rfl,hs1,hs2,hs3,hl,hc,hk⟩:=hM.form;have B1:=zA0 w (.cells (trmC m.kind m.nam m.vr A2 m.args.length cap2 m.form) 31);have HB:=zh B1;have K0:=zh (Blk.new w 31 (trmC m.kind m.nam m.vr A2 m.args.length cap2 m.form));have HW:=zh hW;have HM:=zh hM;have HP:=zh hP;have HPP:=zh (And.intro hp1 hp2);have HZ:=zh hz;have HPL:=zh hpl;have HK:=zh hk;have HSA:=zh (show szL m.args+1=szM m from zDi (Nat.le_of_lt hz.2) (by omega));have hn1:m.args.length≤100000:=by have:=zUk m.args;have:=HSA.out;omega
  clear ih hW hM hP hk B1 hz hpl hp1 hp2 hBw hPB;go_enter Tryz.func58,Tryz.ntmps58;go_upto_region 1 with(fail)
  generalize w.alloc (.cells (trmC m.kind m.nam m.vr A2 m.args.length cap2 m.form) 31)=w1 at*;have k3:=K0.out.cell 3;go_wp2_with fail
  go_loopw [17] (fun i wr=>∃k:Nat,k≤m.args.length∧i= .int .i64 k∧Hid (∀(j:Nat) t,m.args[j]?=some t→j<k→refW rs f t (path++[((0+j:Nat):Int)])=none)∧Hid (Blk wr w.heap.size 31 (trmC m.kind m.nam m.vr A2 m.args.length cap2 m.form))∧Hid (Below w.heap.size w wr)) (fun i _=>m.args.length -(intOf i).toNat)
  case atStart=>exact⟨0,by omega,rfl,zh (fun j t _ h=>by omega),K0,HB⟩
  case round=>
   clear K0 HB k3;obtain⟨k,hk,rfl,HJ,K0,HB⟩:=hrel;rcases Nat.lt_or_ge k m.args.length with hlt|hge
   ·obtain⟨t,ht⟩:∃t,m.args[k]?=some t:=⟨_,gE hlt⟩
    have HT:=zh ht;obtain⟨ad,A4,cap4,rfl,hadl,hP4⟩:=(HK.out.keep HB.out).at_ ht;have HM4:=zh hP4.whole;obtain⟨_,p0,p1,p2,p3,p4,_⟩:=hP4;have hlt2:(k:Int)<(m.args.length:Int):=by omega
    have hba:=zA0 wr (.cells #[.int .i64 t.kind,.string t.nam,.string t.vr,.slice A4 t.args.length cap4,.string t.form] 31);have HB2:=jt HB hba;have HTM:=zh (HM4.out.keep hba);have KA:=zh (Blk.new wr 31 #[.int .i64 t.kind,.string t.nam,.string t.vr,.slice A4 t.args.length cap4,.string t.form]);have K02:=kp hba K0;have HWW:=zh (HW.out.keep HB2.out);have HPW:=zh (HP.out.keep HB2.out);have HCT2:=zh (show szM t+1≤szM m by have:=zMp ht;have:=HSA.out;omega);have HCT:=zh (show szM t≤z∧szM t<fi by have:=HCT2.out;have:=HZ.out;omega);clear ht hadl hba HM4 HB K0;go_upto_region 4 with(fail)
    generalize wr.heap.size=ga at*;generalize wr.alloc (.cells #[.int .i64 t.kind,.string t.nam,.string t.vr,.slice A4 t.args.length cap4,.string t.form] 31)=w3 at*;clear p0 p1 p2 p3 p4;obtain⟨pq,hpq⟩:∃pq,pq=path++[(k:Int)]:=⟨_,rfl⟩
    have HPQ:=zh hpq;obtain⟨ro,hro⟩:∃ro,refW rs f t pq=ro:=⟨_,rfl⟩
    have HRO:=zh hro;have HBL:=zh (show B≤w3.heap.size by have:=HB2.out.size;have:=HBW.out;omega);clear hpq hro;refine zAh (X:=Gh) (by kernel_rfl) [2,1,2,2,1,1,1,1,2,2,2,2,2] [false,false,false,false,false,false,false,false,false,false,false,false,false] _ (fun gx=>[.pointer (some ⟨W.gw,0,none⟩),.agg #[.int .i64 t.kind,.string t.nam,.string t.vr,.slice A4 t.args.length cap4,.string t.form],.slice Ap path.length cp,.int .i64 (↑k),.slice (some ⟨gx.n 27,0,none⟩) 1 1,.slice (some ⟨gx.n 28,0,none⟩) 2 2,gx.v 29,.tuple #[gx.v 31,.bool ro.isSome],.tuple #[gx.v 31,.bool ro.isSome],gx.v 31,.bool ro.isSome,gx.v 31,.bool ro.isSome]) [(4,fun gx wx=>Blk wx (gx.n 27) 3 #[.int .i64 (k:Int)]),(5,fun gx wx=>Blk wx (gx.n 28) 32 #[.slice Ap path.length cp,.slice (some ⟨gx.n 27,0,none⟩) 1 1]),(6,fun gx wx=>∃A8 c8,gx.v 29= .slice A8 pq.length c8∧pq.length≤c8∧c8≤9223372036854775807∧zBb wx A8 pq∧∀ad,A8=some ad→B≤ad.block),(7,fun gx wx=>RfS B ro (gx.v 31) wx)] (fun _ _=>True) Gh.zero (by kernel_rfl) (fun gx=>by simp[fin,zAm,zAb,List.range,List.range.loop,Act.put];rfl) (fun _=>by kernel_rfl) (zA8.cons (fun gx wx w2 h hb=>keep hb h) (zA8.cons (fun gx wx w2 h hb=>keep hb h) (zA8.cons (fun gx wx w2 ⟨A8,c8,h1,h2,h3,h4,h5⟩ hb=>⟨A8,c8,h1,h2,h3,h4.keep hb,h5⟩) (zA8.cons (fun gx wx w2 h hb=>h.keep hb) zA8.nil)))) (trivial) ?_ (by kernel_rfl) ?_
    ·refine⟨fun gx wq=>jp (.pointer (some ⟨W.gw,0,none⟩)) (by kernel_rfl) rfl,fun gx wq hB hJ hf=>?_,fun gx wq=>jp (.slice Ap path.length cp) (by kernel_rfl) rfl,fun gx wq=>jp (.int .i64 (↑k)) (by kernel_rfl) rfl,fun gx wq hB hJ hf=>?_,fun gx wq hB hJ hf=>?_,fun gx wq hB hJ hf=>?_,fun gx wq hB hJ hf=>?_,fun gx wq=>jp (.tuple #[gx.v 31,.bool ro.isSome]) (by kernel_rfl) rfl,fun gx wq=>jp (gx.v 31) (by kernel_rfl) rfl,fun gx wq=>jp (.bool ro.isSome) (by kernel_rfl) rfl,fun gx wq=>jp (gx.v 31) (by kernel_rfl) rfl,fun gx wq=>jp (.bool ro.isSome) (by kernel_rfl) rfl,trivial⟩
     ·have c0:=(keep hB KA.out).cell 0;have c1:=(keep hB KA.out).cell 1;have c2:=(keep hB KA.out).cell 2;have c3:=(keep hB KA.out).cell 3;have c4:=(keep hB KA.out).cell 4;exact gs (.agg #[.int .i64 t.kind,.string t.nam,.string t.vr,.slice A4 t.args.length cap4,.string t.form]) hJ (by kernel_rfl) (by simp[go_sem,evAct,c0,c1,c2,c3,c4]) rfl
     ·exact jv (.slice (some ⟨wq.heap.size,0,none⟩) 1 1) (wq.alloc (.cells #[.int .i64 (k:Int)] 3)) (by simp[go_sem,evAct]) ⟨gx.setN 27 wq.heap.size,rfl,(by refine zA5.of_same ⟨?_,?_,?_,?_,?_,?_,?_,?_,?_,?_,?_,?_,?_,trivial⟩<;>first|exact jK|exact .inl rfl|exact .inr (.inl (by kernel_rfl))),zA0 wq _,⟨Blk.new wq _ _,.inl (by kernel_rfl),.inl (by kernel_rfl),.inl (by kernel_rfl),trivial⟩,trivial⟩
     ·have f27:=hf.1 (by kernel_rfl);exact jv (.slice (some ⟨wq.heap.size,0,none⟩) 2 2) (wq.alloc (.cells #[.slice Ap path.length cp,.slice (some ⟨gx.n 27,0,none⟩) 1 1] 32)) (by simp[go_sem,evAct]) ⟨gx.setN 28 wq.heap.size,rfl,(by refine zA5.of_same ⟨?_,?_,?_,?_,?_,?_,?_,?_,?_,?_,?_,?_,?_,trivial⟩<;>first|exact jK|exact .inl rfl|exact .inr (.inl (by kernel_rfl))),zA0 wq _,⟨.inr fun h=>h,Blk.new wq _ _,.inl (by kernel_rfl),.inl (by kernel_rfl),trivial⟩,trivial⟩
     ·have f27:=hf.1 (by kernel_rfl);have f28:=hf.2.1 (by kernel_rfl);refine jc 75 (#[.slice (some ⟨gx.n 28,0,none⟩) 2 2]) wq (by kernel_rfl) ((zGw (gx.n 28) (gx.n 27) Ap path cp (k:Int) wq f28 f27 (HPW.out.keep hB) (by have:=HPL.out;omega)).mono ?_);rintro e wz ⟨⟨q8,A8,c8,hq8,rfl,hc1,hc2,hpa,hpb⟩,hb⟩;rw[←HPQ.out] at hq8;subst hq8;exact⟨_,rfl,gx.setV 29 (.slice A8 q8.length c8),rfl,(by refine zA5.of_same ⟨?_,?_,?_,?_,?_,?_,?_,?_,?_,?_,?_,?_,?_,trivial⟩<;>first|exact jK|exact .inl rfl|exact .inr (.inl (by kernel_rfl))),hb,⟨.inr fun h=>h,.inr fun h=>h,⟨A8,c8,rfl,hc1,hc2,hpa,fun ad h=>Nat.le_trans HBL.out (Nat.le_trans hB.size (hpb ad h))⟩,.inl (by kernel_rfl),trivial⟩,trivial⟩
     ·have f27:=hf.1 (by kernel_rfl);have f28:=hf.2.1 (by kernel_rfl);have f29:=hf.2.2.1 (by kernel_rfl);obtain⟨A8,c8,e8,hc1,hc2,hpa,hpb⟩:=f29;refine jc 58 (#[.pointer (some ⟨W.gw,0,none⟩),.agg #[.int .i64 t.kind,.string t.nam,.string t.vr,.slice A4 t.args.length cap4,.string t.form],.slice A8 pq.length c8]) wq (by simp[go_sem,evAct,e8]) ((IH.out t _ pq A8 c8 wq HCT.out (by have:=HPL.out;have:=HCT2.out;rw[HPQ.out,List.length_append,List.length_singleton];omega) (HWW.out.keep hB) (HTM.out.keep hB) hpa hc1 hc2 (Nat.le_trans HBL.out hB.size) (fun ad h _=>hpb ad h)).mono ?_);rintro e wz hm;obtain⟨v9,rfl,hrs,hb⟩:=yB0 HRO.out hm;exact⟨_,rfl,gx.setV 31 v9,rfl,(by refine zA5.of_same ⟨?_,?_,?_,?_,?_,?_,?_,?_,?_,?_,?_,?_,?_,trivial⟩<;>first|exact jK|exact .inl rfl|exact .inr (.inl (by kernel_rfl))),hb,⟨.inr fun h=>h,.inr fun h=>h,.inr fun h=>h,hrs,trivial⟩,trivial⟩
    ·refine fun gx wq hB hJ hf=>?_
     dsimp only[zAu] at hf;change wpOps _ _ _ [] _ _;refine zAe ?_;obtain⟨-,-,-,hrs,-⟩:=hf;have HB3:=jt HB2 hB;have K03:=kp hB K02;have HRS:=zh hrs;have HRK:=zh (show refW rs f t (path++[((0+k:Nat):Int)])=ro by rw[Nat.zero_add,←HPQ.out,HRO.out]);clear hrs hJ hB HB2 K02 HWW HPW HTM KA;generalize gx.v 29=v29 at*;generalize gx.v 31=v31 at*;generalize gx.n 27=n27 at*;generalize gx.n 28=n28 at*;clear gx;generalize wq=w4 at*;cases ro with
     |none=>
      have HJ2:=zh (show ∀(j:Nat) x,m.args[j]?=some x→j<k+1→refW rs f x (path++[((0+j:Nat):Int)])=none from fun j x hj hjk=>by
       rcases Nat.lt_or_ge j k with h|h
       ·exact HJ.out j x hj h
       ·obtain rfl:j=k:=by omega
        obtain rfl:=sj (HT.out.symm.trans hj);exact HRK.out)
      clear HJ HRS;go_wp2_with fail;go_roundw
      case rel=>exact⟨k+1,by omega,by go_num,HJ2,K03,HB3⟩
      case measure=>simp[intOf];omega
     |some p=>
      have HR:=zh (show refW rs f m path=some p by
       rw[zHl,zJ9 (k:=k) HJ.out,List.drop_eq_getElem_cons hlt,show m.args[k]=t from sj ((gE hlt).symm.trans HT.out),refL,HRK.out])
      go_wp2_with fail
      go_ret2
      rw[HR.out];exact⟨⟨_,rfl,HRS.out⟩,HB3.out⟩
   ·obtain rfl:k=m.args.length:=by omega
    have HQ:=zh (show refL rs f m.args path 0=none by rw[zJ9 (k:=m.args.length) HJ.out,List.drop_length,refL]);have q0:=K0.out.cell 0;have q1:=K0.out.cell 1;have q2:=K0.out.cell 2;have q3:=K0.out.cell 3;have q4:=K0.out.cell 4;have hml:8*cntM m<f:=by have:=HZ.out.2;have:cntM m≤szM m:=Nat.le_add_right _ _;omega
    go_wp2_with fail;refine(zNg W A cap rs f fi HI hfi hrc hcc hrn m _ wr HZ.out.2 hml (HW.out.keep HB.out) (HM.out.keep HB.out)).mono ?_;rintro r w2 ⟨hres,hb⟩;have HB2:=jt HB hb;have HP2:=zh (HP.out.keep HB2.out);clear hb HB K0 q0 q1 q2 q3 q4 hml;cases hT:zD6 rs f m with
    |none=>
     rw[hT] at hres;obtain⟨nk,ns,nc,nA,nn,ncp,rfl⟩:=hres;have HR:=zh (show refW rs f m path=some path by rw[zHl,HQ.out,hT];rfl);have HB3:=zh (HB2.out.trans ((zA0 w2 (.cells #[.int .i64 nk,.string ns,.int .i64 nc,.slice nA nn ncp] 25)).mono HB2.out.size));have HP3:=zh (HP2.out.keep (zA0 w2 (.cells #[.int .i64 nk,.string ns,.int .i64 nc,.slice nA nn ncp] 25)));clear hT;go_wp2_with fail
     go_ret2
     rw[HR.out];exact⟨⟨_,rfl,Ap,cp,rfl,HPP.out.1,HPP.out.2,HP3.out,HPB.out⟩,HB3.out⟩
    |some n=>
     rw[hT] at hres;obtain⟨nA,ncp,rfl,_⟩:=hres;have HR:=zh (show refW rs f m path=none by rw[zHl,HQ.out,hT];rfl);have HB3:=zh (HB2.out.trans ((zA0 w2 (.cells #[.int .i64 n.kind,.string n.text,.int .i64 n.cols,.slice nA n.kids.length ncp] 25)).mono HB2.out.size));clear hT;go_wp2_with fail
     go_ret2
     rw[HR.out];exact⟨⟨_,rfl,_,_,_,rfl⟩,HB3.out⟩
theorem zMv (W:WrB)(A:Option Addr)(cap:Nat)(rs:List Rul)(hrn:rs.length≤1000000):∀f,f≤10000→zBo W A cap rs f
 |0,_=>fun m c w hm=>absurd hm (by omega)
 |f+1,hf=>fun m c w hm _ hW hM=>zQx W A cap rs f (zMv W A cap rs hrn f (by omega)) (by omega) hrn m c w (by omega) hW hM
def RenP (rs:List Rul)(f:Nat)(m:Trm)(w:World)(e:Ending)(w':World):Prop:=(if(zAg rs&&zAx m)=true then(match zD6 rs f m with
 |some n=>∃A cp,e= .returned (.tuple #[.agg #[.int .i64 n.kind,.string n.text,.int .i64 n.cols,.slice A n.kids.length cp],.slice none 0 0,.int .i64 0])∧NdAt (fun b=>w.heap.size≤b) w' n #[.int .i64 n.kind,.string n.text,.int .i64 n.cols,.slice A n.kids.length cp]
 |none=>∃p A cp,refW rs f m []=some p∧e= .returned (.tuple #[.agg zerD,.slice A p.length cp,.int .i64 19])∧p.length≤cp∧cp≤9223372036854775807∧zBb w' A p)
 else e= .returned (.tuple #[.agg zerD,.slice none 0 0,.int .i64 1]))∧Below w.heap.size w w'
set_option maxRecDepth 100000 in
set_option maxHeartbeats 8000000 in
theorem zLj (A:Option Addr)(cap:Nat)(rs:List Rul)(f fi:Nat)(hfi:fi≤10000)(hrc:rs.length≤cap)(hcc:cap≤9223372036854775807)(hrn:rs.length≤1000000)(hff:8*fi≤f)(m:Trm)(c:Array Value)(w:World)(hm:szM m<fi)(hR:zAi w A rs)(hM:MAt w m c)(hsy:VarE w 0)(hrg:VarE w 1):
  Calls Tryz.prog 26 #[.slice A rs.length cap,.agg c] w (RenP rs f m w):=by
 obtain⟨A2,cap2,rfl,hs1,hs2,hs3,hl,hc,hk⟩:=hM.form;have B1:=zA0 w (.cells (trmC m.kind m.nam m.vr A2 m.args.length cap2 m.form) 31);have s1:(w.alloc (.cells (trmC m.kind m.nam m.vr A2 m.args.length cap2 m.form) 31)).heap.size=w.heap.size+1:=by simp
 have B2:=zA0 (w.alloc (.cells (trmC m.kind m.nam m.vr A2 m.args.length cap2 m.form) 31)) (.cells zerD 25);have HB:=zh (B1.trans (B2.mono B1.size));have K0:=zh (keep B2 (Blk.new w 31 (trmC m.kind m.nam m.vr A2 m.args.length cap2 m.form)));have K1:=zh (Blk.new (w.alloc (.cells (trmC m.kind m.nam m.vr A2 m.args.length cap2 m.form) 31)) 25 zerD);rw[s1] at K1;have HR:=zh hR;have HM:=zh hM;have HMF:=zh hm;have HSY:=zh hsy;have HRG:=zh hrg;clear hR hM hk B1 B2 s1 hm hsy hrg;go_enter Tryz.func26,Tryz.ntmps26;go_upto_region 1 with(fail)
 generalize (w.alloc (.cells (trmC m.kind m.nam m.vr A2 m.args.length cap2 m.form) 31)).alloc (.cells zerD 25)=w1 at*;cases hv:zAg rs with
 |false=>
  have HQ:=zh (show ¬((zAg rs&&zAx m)=true) by rw[hv];simp);have HV:=zh hv;clear hv;go_wp2_with fail;refine(zCe A cap rs w1 (HR.out.keep HB.out) hrc hcc).mono ?_;rintro r w2 ⟨rfl,hb⟩;rw[HV.out];have HB2:=jt HB hb;have K12:=kp hb K1;clear hb;have k1c:=fun i=>K12.out.cell i
  have k1f:=fun i=>K12.out.frozen i
  go_wp2_with fail;obtain⟨w5,e5,K5,HB5,HG5⟩:=fin4 K12.out HB2.out (Nat.le_succ _) (.int .i64 0) (.string ⟨#[]⟩) (.int .i64 0) (.slice none 0 0);rw[e5];have r0:=K5.out.cell 0;have r1:=K5.out.cell 1;have r2:=K5.out.cell 2;have r3:=K5.out.cell 3;exact bodyPost_ret (v:=.tuple #[.agg #[.int .i64 0,.string ⟨#[]⟩,.int .i64 0,.slice none 0 0],.slice none 0 0,.int .i64 1]) (by simp[results,Tryz.results26,go_sem,r0,r1,r2,r3]) rfl (show RenP _ _ _ _ _ _ by unfold RenP;rw[if_neg HQ.out];exact⟨rfl,HB5.out⟩)
 |true=>
  have HV:=zh hv;cases ht:zAx m with
  |false=>
   have HQ:=zh (show ¬((zAg rs&&zAx m)=true) by rw[hv,ht];simp);have HT:=zh ht;clear hv ht;have q0:=K0.out.cell 0;have q1:=K0.out.cell 1;have q2:=K0.out.cell 2;have q3:=K0.out.cell 3;have q4:=K0.out.cell 4;go_wp2_with fail;refine(zCe A cap rs w1 (HR.out.keep HB.out) hrc hcc).mono ?_;rintro r wa ⟨rfl,hb⟩;rw[HV.out];clear q0 q1 q2 q3 q4;have q0:=(keep hb K0.out).cell 0;have q1:=(keep hb K0.out).cell 1;have q2:=(keep hb K0.out).cell 2;have q3:=(keep hb K0.out).cell 3;have q4:=(keep hb K0.out).cell 4;go_wp2_with fail;refine(Sp.zEf m _ wa ((HM.out.keep HB.out).keep hb)).mono ?_;rintro r w2 ⟨rfl,hb2⟩;rw[HT.out];replace hb:=hb.trans (hb2.mono hb.size);have HB2:=jt HB hb;have K12:=kp hb K1;clear hb hb2 q0 q1 q2 q3 q4;have k1c:=fun i=>K12.out.cell i
   have k1f:=fun i=>K12.out.frozen i
   go_wp2_with fail;obtain⟨w5,e5,K5,HB5,HG5⟩:=fin4 K12.out HB2.out (Nat.le_succ _) (.int .i64 0) (.string ⟨#[]⟩) (.int .i64 0) (.slice none 0 0);rw[e5];have r0:=K5.out.cell 0;have r1:=K5.out.cell 1;have r2:=K5.out.cell 2;have r3:=K5.out.cell 3;exact bodyPost_ret (v:=.tuple #[.agg #[.int .i64 0,.string ⟨#[]⟩,.int .i64 0,.slice none 0 0],.slice none 0 0,.int .i64 1]) (by simp[results,Tryz.results26,go_sem,r0,r1,r2,r3]) rfl (show RenP _ _ _ _ _ _ by unfold RenP;rw[if_neg HQ.out];exact⟨rfl,HB5.out⟩)
  |true=>
   have HQ:=zh (show(zAg rs&&zAx m)=true by rw[hv,ht];rfl);have HT:=zh ht;clear hv ht;have q0:=K0.out.cell 0;have q1:=K0.out.cell 1;have q2:=K0.out.cell 2;have q3:=K0.out.cell 3;have q4:=K0.out.cell 4;go_wp2_with fail;refine(zCe A cap rs w1 (HR.out.keep HB.out) hrc hcc).mono ?_;rintro r wa ⟨rfl,hb⟩;rw[HV.out];clear q0 q1 q2 q3 q4;have q0:=(keep hb K0.out).cell 0;have q1:=(keep hb K0.out).cell 1;have q2:=(keep hb K0.out).cell 2;have q3:=(keep hb K0.out).cell 3;have q4:=(keep hb K0.out).cell 4;go_wp2_with fail;refine(Sp.zEf m _ wa ((HM.out.keep HB.out).keep hb)).mono ?_;rintro r wb ⟨rfl,hb2⟩;rw[HT.out];replace hb:=hb.trans (hb2.mono hb.size);have HB2:=jt HB hb;have K02:=kp hb K0;have K12:=kp hb K1;clear hb hb2 q0 q1 q2 q3 q4 HB K0 K1;generalize wb=w2 at*;go_wp2_with fail;refine(zMd A cap rs w2 (HR.out.keep HB2.out) (HSY.out.keep HB2.out) (HRG.out.keep HB2.out)).mono ?_;rintro r w3 ⟨⟨W,rfl,hW⟩,hb⟩;have HI:=zMv W A cap rs hrn fi hfi;have HW:=zh hW;have HB3:=jt HB2 hb;have K03:=kp hb K02;have K13:=kp hb K12;clear hW hb HB2 K02 K12;have q0:=K03.out.cell 0;have q1:=K03.out.cell 1;have q2:=K03.out.cell 2;have q3:=K03.out.cell 3;have q4:=K03.out.cell 4;have hml:8*cntM m<f:=by have:=HMF.out;have:cntM m≤szM m:=Nat.le_add_right _ _;omega
   have HII:=zh HI;clear HI;go_wp2_with fail;refine(zNg W A cap rs f fi HII.out hfi hrc hcc hrn m _ w3 HMF.out hml HW.out (HM.out.keep HB3.out)).mono ?_;rintro r w4 ⟨hres,hb⟩;have HB4:=jt HB3 hb;have HW4:=zh (HW.out.keep hb);have K04:=kp hb K03;have K14:=kp hb K13;have HLT:=zh (show w.heap.size+1<w3.heap.size from K13.out.lt);clear hb HB3 K03 K13 HW q0 q1 q2 q3 q4 hml;cases hT:zD6 rs f m with
   |some n=>
    rw[hT] at hres;obtain⟨nA,ncp,rfl,hn⟩:=hres;have hba:=zA0 w4 (.cells #[.int .i64 n.kind,.string n.text,.int .i64 n.cols,.slice nA n.kids.length ncp] 25);have HB5:=jt HB4 hba;have K15:=kp hba K14;have K8:=zh (Blk.new w4 25 #[.int .i64 n.kind,.string n.text,.int .i64 n.cols,.slice nA n.kids.length ncp]);have HN:=zh (hn.keep hba);have HG:=zh (show w.heap.size+1<w4.heap.size from K14.out.lt);have HTT:=zh hT;clear hn hba hT HB4 K14 K04 HW4;go_upto_region 5 with(fail)
    generalize w4.heap.size=g8 at*;generalize w4.alloc (.cells #[.int .i64 n.kind,.string n.text,.int .i64 n.cols,.slice nA n.kids.length ncp] 25)=w5 at*;have q0:=K8.out.cell 0;have q1:=K8.out.cell 1;have q2:=K8.out.cell 2;have q3:=K8.out.cell 3;have k1c:=fun i=>K15.out.cell i
    have k1f:=fun i=>K15.out.frozen i
    go_wp2_with fail;obtain⟨w6,e5,K5,HB6,HG5⟩:=fin4 K15.out HB5.out (Nat.le_succ _) (.int .i64 n.kind) (.string n.text) (.int .i64 n.cols) (.slice nA n.kids.length ncp);rw[e5];have HNZ:=zh (HN.out.grown (ok':=fun b=>w.heap.size≤b) HG5.out (fun b _ hb e=>by have h9:b=w.heap.size+1:=sj e;have:=HLT.out;omega) fun b _ hb=>by have:=HLT.out;omega);have r0:=K5.out.cell 0;have r1:=K5.out.cell 1;have r2:=K5.out.cell 2;have r3:=K5.out.cell 3;exact bodyPost_ret (v:=.tuple #[.agg #[.int .i64 n.kind,.string n.text,.int .i64 n.cols,.slice nA n.kids.length ncp],.slice none 0 0,.int .i64 0]) (by simp[results,Tryz.results26,go_sem,r0,r1,r2,r3]) rfl (show RenP _ _ _ _ _ _ by unfold RenP;rw[if_pos HQ.out,HTT.out];exact⟨⟨nA,ncp,rfl,HNZ.out⟩,HB6.out⟩)
   |none=>
    rw[hT] at hres;obtain⟨nk,ns,nc,nA,nn,ncp,rfl⟩:=hres;have hba:=zA0 w4 (.cells #[.int .i64 nk,.string ns,.int .i64 nc,.slice nA nn ncp] 25);have HB5:=jt HB4 hba;have K05:=kp hba K04;have K15:=kp hba K14;have HW5:=zh (HW4.out.keep hba);have HTT:=zh hT;clear hba hT HB4 K14 K04 HW4;go_upto_region 5 with(fail)
    generalize w4.alloc (.cells #[.int .i64 nk,.string ns,.int .i64 nc,.slice nA nn ncp] 25)=w5 at*;have q0:=K05.out.cell 0;have q1:=K05.out.cell 1;have q2:=K05.out.cell 2;have q3:=K05.out.cell 3;have q4:=K05.out.cell 4;go_wp2_with fail;refine(zOx W A cap rs f fi HII.out hfi hrc hcc hrn hff (w.heap.size+2) (szM m) m _ [] none 0 w5 ⟨Nat.le_refl _,HMF.out⟩ (by have:=HMF.out;simp only[List.length_nil];omega) HW5.out (HM.out.keep HB5.out) zIe (Nat.le_refl _) (by omega) (by have:=K15.out.lt;omega) (fun ad h=>by cases h)).mono ?_;rintro r w6 ⟨⟨v,rfl,hrs⟩,hb⟩;obtain⟨p,hp⟩:=isNone_none HTT.out [];rw[hp] at hrs⊢;obtain⟨pA,pcp,rfl,hp1,hp2,hpa,hpb⟩:=hrs;have HPB:=zh hpb;have HP:=zh hp;have HPA:=zh hpa;have HB6:=jt HB5 hb;have K16:=kp hb K15;clear hp hpa hpb hb HB5 K15 K05 HW5 q0 q1 q2 q3 q4;have k1c:=fun i=>K16.out.cell i
    have k1f:=fun i=>K16.out.frozen i
    go_wp2_with fail;obtain⟨w7,e5,K5,HB5,HG5⟩:=fin4 K16.out HB6.out (Nat.le_succ _) (.int .i64 0) (.string ⟨#[]⟩) (.int .i64 0) (.slice none 0 0);rw[e5];have HPZ:=zh (HPA.out.grown HG5.out fun ad h1 h2 h3=>by have:=HPB.out ad h1 h2;omega);have r0:=K5.out.cell 0;have r1:=K5.out.cell 1;have r2:=K5.out.cell 2;have r3:=K5.out.cell 3;exact bodyPost_ret (v:=.tuple #[.agg #[.int .i64 0,.string ⟨#[]⟩,.int .i64 0,.slice none 0 0],.slice pA p.length pcp,.int .i64 19]) (by simp[results,Tryz.results26,go_sem,r0,r1,r2,r3]) rfl (show RenP _ _ _ _ _ _ by unfold RenP;rw[if_pos HQ.out,HTT.out];exact⟨⟨p,pA,pcp,HP.out,rfl,hp1,hp2,HPZ.out⟩,HB5.out⟩)
end Go.Proofs.YtadcldfbmkfkaaaGreatDoor.Rn
