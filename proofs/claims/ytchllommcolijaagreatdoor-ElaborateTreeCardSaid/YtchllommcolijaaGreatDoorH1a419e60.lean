/- Read and Tree of the reference. -/
import Derived.Test.YtchllommcolijaaGreatDoorH5c022e81
import Derived.Test.YtchllommcolijaaGreatDoorHfddd7031
namespace Go.Proofs.YtchllommcolijaaGreatDoor.El
open At Ch Sp Sy Go.RowKit
theorem zRw:∀(a b:List Trm),cntL (a++b)=cntL a+cntL b
 |[],b=>by rw[List.nil_append,cntL];omega
 |x::a,b=>by rw[List.cons_append,cntL,cntL,zRw a b];omega
def FewM (M:List Tre→List Int→Nat→Mea Trm):Prop:=∀items p k t,M items p k= .ok t→cntM t+1≤2*zAc items
theorem zGl {M:List Tre→List Int→Nat→Mea Trm}(hM:FewM M){path:List Int}:∀(ks:List Tre) (s b:Nat) (ts:List Trm),zAs M path ks s b= .ok ts→cntL ts≤2*zAc ks
 |[],s,b,ts,h=>by rw[zAs] at h;injection h with h;rw[←h,cntL];omega
 |n::ns,s,b,ts,h=>by
  rw[zAs] at h;cases h1:M n.kids (path++[(s:Int)]) b with
  |bad e p=>rw[h1] at h;cases h
  |ok t=>
   rw[h1] at h;simp only[Mea.then_] at h;cases h2:zAs M path ns (s+1) 0 with
   |bad e p=>rw[h2] at h;cases h
   |ok us=>
    rw[h2] at h;simp only at h;injection h with h;have e1:=hM _ _ _ _ h1;have e2:=zGl hM ns (s+1) 0 us h2;obtain⟨k,x,c,ks⟩:=n;rw[←h,cntL,zAc,zAa];have e3:cntM t+1≤2*zAc ks:=e1;omega
theorem zE1 (n:Tre):zAa n=zAc n.kids+1:=by
 obtain⟨k,x,c,ks⟩:=n;rw[zAa];show _=zAc ks+1;omega
theorem zW1 {M:List Tre→List Int→Nat→Mea Trm}(hM:FewM M){path:List Int}{n:Tre}{p:Prt}(h:zDa M n path= .ok p):cntM p.opnd+1≤2*zAa n∧cntL p.scr+2≤2*zAa n:=by
 have hp:=zE1 n;have h0:cntL ([]:List Trm)=0:=by rw[cntL]
 unfold zDa at h
 split at h
 ·injection h with h;rw[←h];exact⟨by rw[cntM,h0];omega,by rw[h0];omega⟩
 split at h
 ·injection h with h;rw[←h];exact⟨by rw[cntM,h0];omega,by rw[h0];omega⟩
 split at h
 ·injection h with h;rw[←h];exact⟨by rw[cntM,h0];omega,by rw[h0];omega⟩
 ·have key:∀m:Mea (List Trm),(∀ts,m= .ok ts→cntL ts≤2*zAc n.kids)→(m.then_ fun ts=>Mea.ok ⟨Trm.mk 4 (zAz n).1 ⟨#[]⟩ (zAz n).2 ts,[],⟨#[]⟩,⟨#[]⟩⟩)= .ok p→cntM p.opnd+1≤2*zAa n∧cntL p.scr+2≤2*zAa n:=by
   intro m hm he;cases m with
   |bad e q=>cases he
   |ok ts=>
    simp only[Mea.then_] at he;injection he with he;have:=hm ts rfl;rw[←he];exact⟨by rw[cntM];omega,by rw[h0];omega⟩
  refine key _ (fun ts ht=>?_) h;cases hk:n.kids with
  |nil=>rw[hk] at ht;injection ht with ht;rw[←ht,h0];omega
  |cons d ks=>
   rw[hk] at ht;dsimp only at ht
   split at ht
   ·have:=zGl hM _ _ _ _ ht;rw[zAc];omega
   ·exact zGl hM _ _ _ _ ht
theorem zXz {rs:List Rul}{M:List Tre→List Int→Nat→Mea Trm}(hM:FewM M){path:List Int}{n:Tre}{pre:Bool}{p:Prt}(h:scrF rs M n path pre= .ok p):cntM p.opnd+1≤2*zAa n∧cntL p.scr+2≤2*zAa n:=by
 have hp:=zE1 n;have h0:cntL ([]:List Trm)=0:=by rw[cntL]
 have hz:cntM zerT=1:=by unfold zerT;rw[cntM,h0]
 unfold scrF at h
 split at h
 ·injection h with h;rw[←h];exact⟨by show cntM zerT+1≤_;rw[hz];omega,by show cntL ([]:List Trm)+2≤_;rw[h0];omega⟩
 ·cases hs:zAs M path n.kids.tail 1 (if(varN rs n pre).isSome then 2 else 0) with
  |bad e q=>rw[hs] at h;cases h
  |ok ts=>
   rw[hs] at h;simp only[Mea.then_] at h;injection h with h;have h1:=zGl hM _ _ _ _ hs;have h2:zAc n.kids.tail≤zAc n.kids:=by
    cases n.kids with
    |nil=>exact Nat.le_refl _
    |cons d ks=>rw[List.tail_cons,zAc];omega
   rw[←h];exact⟨by rw[hz];omega,by show cntL ts+2≤_;omega⟩
theorem zLv {rs:List Rul}{M:List Tre→List Int→Nat→Mea Trm}(hM:FewM M){path:List Int}{kd:Nat→Int}{k:Nat}:∀(ns:List Tre) (ts:List ByteArray) (i:Nat) (ps:List Prt),zBi rs M path kd k ns ts i= .ok ps→∀(q:Nat) (n:Tre) (t:ByteArray),ns[q]?=some n→ts[q]?=some t→∃p,ps[q]?=some p∧cntM p.opnd+1≤2*zAa n∧cntL p.scr+2≤2*zAa n
 |[],_,_,_,_,q,n,t,h,_=>by simp at h
 |_::_,[],_,_,_,q,n,t,_,h=>by simp at h
 |a::ns,b::ts,i,ps,h,q,n,t,h1,h2=>by
  rw[zBi] at h;cases hm:(if b.data.toList=[35] then zDa M a (path++[((k+i:Nat):Int)]) else scrF rs M a (path++[((k+i:Nat):Int)]) (decide (kd i=2))) with
  |bad e p=>rw[hm] at h;cases h
  |ok p=>
   rw[hm] at h;simp only[Mea.then_] at h;cases hr:zBi rs M path kd k ns ts (i+1) with
   |bad e p=>rw[hr] at h;cases h
   |ok us=>
    rw[hr] at h;simp only at h;injection h with h;subst h;cases q with
    |zero=>
     rw[List.getElem?_cons_zero] at h1 h2;injection h1 with h1;subst h1;refine⟨p,rfl,?_⟩
     split at hm
     ·exact zW1 hM hm
     ·exact zXz hM hm
    |succ q=>
     rw[List.getElem?_cons_succ] at h1 h2;obtain⟨p2,h3,h4⟩:=zLv hM ns ts (i+1) us hr q n t h1 h2;exact⟨p2,by rw[List.getElem?_cons_succ];exact h3,h4⟩
theorem zUo {nam:ByteArray}{k:Int}{p:Prt}{args:List Trm}:cntM (mkOp nam k (some p) args)=1+cntL p.scr+cntL args:=by
 unfold mkOp;dsimp only
 split<;>(rw[cntM,zRw];omega)
theorem zW9 {nam:ByteArray}{k:Int}{args:List Trm}:cntM (mkOp nam k none args)=1+cntL args:=by
 unfold mkOp;rw[cntM];omega
theorem zYz {rs:List Rul}{ps:List Prt}{S:Nat→Nat}{m:Nat}(hS:∀q,q<m→∃p,ps[q]?=some p∧S q+cntM p.opnd+1≤S (q+1)∧S q+cntL p.scr+2≤S (q+1)){x:Rd}{i j:Nat}(h:OkR rs x i j)(hj:j≤m):cntM (trmR rs ps x (j:Int))+1+S i≤S j:=by
 induction h with
 |leaf i=>
  obtain⟨p,h1,h2,_⟩:=hS i (by omega);rw[zE0,if_pos (by decide),Int.toNat_natCast,h1];show cntM p.opnd+1+S i≤S (i+1);omega
 |inf n u i k j y z hu hk h1 h2 hz a b ha hb=>
  obtain⟨p,h3,_,h4⟩:=hS k (by omega);have e1:=ha (by omega);have e2:=hb hj;rw[zE0,if_neg (by omega),(zLt (i:=i) (j:=j) (y:=y) hu hk hz).1,(zLt (i:=i) (j:=j) (y:=y) hu hk hz).2,if_pos (Int.natCast_nonneg _),Int.toNat_natCast,h3,zUo];simp only[trmL,cntL];omega
 |pre n u i j y hu hk h1 a ha=>
  obtain⟨p,h3,_,h4⟩:=hS i (by omega);have e1:=ha hj;rw[zE0,if_neg (by omega),(zMi (i:=i) (j:=j) (y:=y) hu hk).1,(zMi (i:=i) (j:=j) (y:=y) hu hk).2,if_pos (Int.natCast_nonneg _),Int.toNat_natCast,h3,zUo];simp only[trmL,cntL];omega
 |pos n u i j y hu hk h1 a ha=>
  obtain⟨p,h3,_,h4⟩:=hS (j -1) (by omega);have e1:=ha (by omega);rw[show j -1+1=j by omega] at h4;rw[zE0,if_neg (by omega),(zM8 (i:=i) (j:=j) (y:=y) hu hk (by omega)).1,(zM8 (i:=i) (j:=j) (y:=y) hu hk (by omega)).2,if_pos (Int.natCast_nonneg _),Int.toNat_natCast,h3,zUo];simp only[trmL,cntL];omega
 |jux n u i k j y z hu hk h1 h2 hz a b ha hb=>
  have e1:=ha (by omega);have e2:=hb hj;rw[zE0,if_neg (by omega),(zN5 (i:=i) (j:=j) (y:=y) hu hk hz).1,(zN5 (i:=i) (j:=j) (y:=y) hu hk hz).2,if_neg (by omega),zW9];simp only[trmL,cntL];omega
theorem zKw:∀(l:List Tre) (q:Nat) (n:Tre),l[q]?=some n→zAc (l.take (q+1))=zAc (l.take q)+zAa n
 |[],q,n,h=>by simp at h
 |a::l,0,n,h=>by
  obtain rfl:a=n:=by simpa using h
  simp[zAc]
 |a::l,q+1,n,h=>by
  rw[List.take_succ_cons,List.take_succ_cons,zAc,zAc,zKw l q n (by simpa using h)];omega
theorem zPx:∀(l:List Tre) (k:Nat),zAc (l.drop k)≤zAc l
 |[],k=>by simp
 |a::l,0=>Nat.le_refl _
 |a::l,k+1=>by
  have:=zPx l k;rw[List.drop_succ_cons,zAc];omega
theorem zPn (rs:List Rul):∀f,FewM (zAe rs f)
 |0=>fun items p k t h=>by rw[zAe] at h;cases h
 |f+1=>fun items path k t h=>by
  have hM:=zPn rs f;rw[zAe] at h;unfold zHy at h
  split at h
  ·cases h
  ·cases ht:zB5 rs (items.drop k) with
   |inr i=>rw[ht] at h;cases h
   |inl ts=>
    rw[ht] at h;dsimp only at h;rcases hr:zEt rs ts with _|⟨x,_|⟨y,zs⟩⟩
    ·rw[hr] at h;cases h
    ·rw[hr] at h;dsimp only at h;cases hp:zBi rs (zAe rs f) path (fun i=>kndR rs ((zG5 (asgR rs x ts.length) ts.length).getD i 0)) k (items.drop k) ts 0 with
     |bad e p=>rw[hp] at h;cases h
     |ok ps=>
      rw[hp] at h;simp only[Mea.then_] at h;injection h with h;have hx:x∈allR rs ts 0 ts.length:=by
       unfold zEt at hr
       split at hr
       ·rw[hr];exact List.mem_cons_self
       ·cases hr
      have hl:=zDt ht;have h9:=zYz (ps:=ps) (S:=fun q=>2*zAc ((items.drop k).take q)) (m:=ts.length) (fun q hq=>by
       obtain⟨n,hn⟩:∃n,(items.drop k)[q]?=some n:=⟨_,gE (by omega)⟩
       obtain⟨u,hu⟩:∃u,ts[q]?=some u:=⟨_,gE hq⟩
       obtain⟨p,h1,h2,h3⟩:=zLv hM _ _ _ _ hp q n u hn hu;refine⟨p,h1,?_,?_⟩
       ·rw[zKw _ q n hn];omega
       ·rw[zKw _ q n hn];omega) (zBs _ 0 ts.length x (Nat.le_refl _) hx) (Nat.le_refl _)
      have hT:(items.drop k).take ts.length=items.drop k:=List.take_of_length_le (by rw[hl];exact Nat.le_refl _);have hZ:zAc ((items.drop k).take 0)=0:=by rw[List.take_zero,zAc]
      rw[h,hT,hZ] at h9;have:=zPx items k;omega
    ·rw[hr] at h;cases h
theorem zOv (A:Option Addr)(cap:Nat)(rs:List Rul)(hv:zAj rs=true)(hrn:rs.length≤1000):∀f,zW6 A cap rs f
 |0=>fun _ _ _ _ _ _ _ _ _ _ _ _ _ _ _ _ _ _ _ _ _ _ h=>absurd h (by omega)
 |f+1=>zTl A cap rs hv hrn f (zOv A cap rs hv hrn f)
def RdP (rs:List Rul)(n:Tre)(m:Mea Trm)(w:World)(e:Ending)(w':World):Prop:=(match m with
 | .ok t=>∃c,e= .returned (.tuple #[.agg c,.pointer none])∧TmAt (fun b=>w.heap.size≤b) w' t c
 | .bad er p=>∃gf,e= .returned (.tuple #[.agg zerC,.pointer (some ⟨gf,0,none⟩)])∧RFl (fun rds=>er=14→Amb rs n.kids [] 0 p rds) (fun b=>w.heap.size≤b) w' gf er p)∧Below w.heap.size w w'
set_option maxRecDepth 100000 in
set_option maxHeartbeats 8000000 in
theorem zS7 (A:Option Addr)(cap:Nat)(rs:List Rul)(f:Nat)(n:Tre)(c:Array Value)(w:World)(hR:zAg w A rs)(hrn:rs.length≤1000)(hN:zBd w n c)(hf:zAc n.kids<f)(hcn:zAa n≤1000)(hr7:zE4 n=true):
  Calls Tryz.prog 19 #[.slice A rs.length cap,.agg c] w (RdP rs n (zCd rs f n) w):=by
 obtain⟨A2,cap2,rfl,hsz,hl2,hc2,hk⟩:=hN.form;have B1:=zA1 w (.cells #[.int .i64 n.kind,.string n.text,.int .i64 n.cols,.slice A2 n.kids.length cap2] 25);have s1:(w.alloc (.cells #[.int .i64 n.kind,.string n.text,.int .i64 n.cols,.slice A2 n.kids.length cap2] 25)).heap.size=w.heap.size+1:=by simp
 have B2:=zA1 (w.alloc (.cells #[.int .i64 n.kind,.string n.text,.int .i64 n.cols,.slice A2 n.kids.length cap2] 25)) (.cells zerC 31);have HB:=zh (B1.trans (B2.mono B1.size));have K0:=zh (keep B2 (Blk.new w 25 #[.int .i64 n.kind,.string n.text,.int .i64 n.cols,.slice A2 n.kids.length cap2]));have K1:=zh (Blk.new (w.alloc (.cells #[.int .i64 n.kind,.string n.text,.int .i64 n.cols,.slice A2 n.kids.length cap2] 25)) 31 zerC);rw[s1] at K1;have HR0:=zh hR;have HN0:=zh hN;have HK0:=zh hk;have HF:=zh hf;have HCN:=zh hcn;have HR7:=zh hr7;clear hR hN hk hf hsz B1 B2 s1 hcn hr7;go_enter Tryz.func19,Tryz.ntmps19;go_upto_region 1 with(fail)
 generalize (w.alloc (.cells #[.int .i64 n.kind,.string n.text,.int .i64 n.cols,.slice A2 n.kids.length cap2] 25)).alloc (.cells zerC 31)=w1 at*;cases hv:zAj rs with
 |false=>
  have HV:=zh hv;have HO:=zh (show zCd rs f n= .bad 1 [] by unfold zCd;rw[hv];rfl);clear hv;have n0:=K0.out.cell 0;have n1:=K0.out.cell 1;have n2:=K0.out.cell 2;have n3:=K0.out.cell 3;go_wp2_with fail;refine(Go.Proofs.YtchllommcolijaaGreatDoor.zBu A cap rs w1 (HR0.out.keep HB.out) (by omega)).mono ?_;rintro e w2 ⟨rfl,hb⟩;replace HB:=jt HB hb;replace K0:=kp hb K0;replace K1:=kp hb K1;clear hb n0 n1 n2 n3;rw[HV.out];have hba:=zA1 w2 (.cells #[.int .i64 1,.slice none 0 0,.slice none 0 0] 58);have HBF:=jt HB hba;have K1F:=kp hba K1;have HKF:=zh (Blk.new w2 58 #[.int .i64 1,.slice none 0 0,.slice none 0 0]);have HWF:=zh (show w.heap.size+1<w2.heap.size from K1.out.lt);have kc:=fun i=>K1F.out.cell i
  have kf:=fun i=>K1F.out.frozen i
  go_wp2_with fail;obtain⟨w9,e9,KR,HB5,HG5⟩:=fin5 K1F.out HBF.out (by omega) (.int .i64 0) (.string ⟨#[]⟩) (.string ⟨#[]⟩) (.slice none 0 0) (.string ⟨#[]⟩);rw[e9];obtain⟨r0,r1,r2,r3,r4⟩:=jF KR;exact bodyPost_ret (v:=.tuple #[.agg #[.int .i64 0,.string ⟨#[]⟩,.string ⟨#[]⟩,.slice none 0 0,.string ⟨#[]⟩],.pointer (some ⟨w2.heap.size,0,none⟩)]) (by simp[results,Tryz.results19,go_sem,r0,r1,r2,r3,r4]) rfl (show RdP _ _ _ _ _ _ by rw[HO.out];exact⟨⟨_,rfl,none,0,none,0,[],HKF.out.grown HG5.out (fun e=>by have:=sj e;have:=HWF.out;omega),Nat.le_refl _,by omega,zEj,by have:=HWF.out;omega,fun ad h=>(by cases h),Nat.le_refl _,by omega,zAp.nil _ _ _,fun e=>absurd e (by decide)⟩,HB5.out⟩)
 |true=>
  have HV:=zh hv;cases ht:zFt n with
  |false=>
   have HT:=zh ht;have HO:=zh (show zCd rs f n= .bad 1 [] by unfold zCd;rw[hv,ht];rfl);clear hv ht;have n0:=K0.out.cell 0;have n1:=K0.out.cell 1;have n2:=K0.out.cell 2;have n3:=K0.out.cell 3;go_wp2_with fail;refine(Go.Proofs.YtchllommcolijaaGreatDoor.zBu A cap rs w1 (HR0.out.keep HB.out) (by omega)).mono ?_;rintro e w2 ⟨rfl,hb⟩;replace HB:=jt HB hb;replace K0:=kp hb K0;replace K1:=kp hb K1;clear hb n0 n1 n2 n3;rw[HV.out];have n0:=K0.out.cell 0;have n1:=K0.out.cell 1;have n2:=K0.out.cell 2;have n3:=K0.out.cell 3;go_wp2_with fail;refine(At.zBu n _ w2 (by have:=HCN.out;omega) (HN0.out.keep HB.out)).mono ?_;rintro e wq ⟨rfl,hb⟩;replace HB:=jt HB hb;replace K0:=kp hb K0;replace K1:=kp hb K1;clear hb n0 n1 n2 n3;generalize wq=w2 at*;rw[HT.out];have hba:=zA1 w2 (.cells #[.int .i64 1,.slice none 0 0,.slice none 0 0] 58);have HBF:=jt HB hba;have K1F:=kp hba K1;have HKF:=zh (Blk.new w2 58 #[.int .i64 1,.slice none 0 0,.slice none 0 0]);have HWF:=zh (show w.heap.size+1<w2.heap.size from K1.out.lt);have kc:=fun i=>K1F.out.cell i
   have kf:=fun i=>K1F.out.frozen i
   go_wp2_with fail;obtain⟨w9,e9,KR,HB5,HG5⟩:=fin5 K1F.out HBF.out (by omega) (.int .i64 0) (.string ⟨#[]⟩) (.string ⟨#[]⟩) (.slice none 0 0) (.string ⟨#[]⟩);rw[e9];obtain⟨r0,r1,r2,r3,r4⟩:=jF KR;exact bodyPost_ret (v:=.tuple #[.agg #[.int .i64 0,.string ⟨#[]⟩,.string ⟨#[]⟩,.slice none 0 0,.string ⟨#[]⟩],.pointer (some ⟨w2.heap.size,0,none⟩)]) (by simp[results,Tryz.results19,go_sem,r0,r1,r2,r3,r4]) rfl (show RdP _ _ _ _ _ _ by rw[HO.out];exact⟨⟨_,rfl,none,0,none,0,[],HKF.out.grown HG5.out (fun e=>by have:=sj e;have:=HWF.out;omega),Nat.le_refl _,by omega,zEj,by have:=HWF.out;omega,fun ad h=>(by cases h),Nat.le_refl _,by omega,zAp.nil _ _ _,fun e=>absurd e (by decide)⟩,HB5.out⟩)
  |true=>
   have HT:=zh ht;have HO:=zh (show zCd rs f n=match zAe rs f n.kids [] 0 with
    | .ok t=>if zCp t=true then .ok t else .bad 6 [0]
    | .bad e p=>.bad e p by unfold zCd;rw[hv,ht];rfl)
   have HFL:=zh (zEm ht).2.2.2;have H7:=zh (zNb HR7.out (zEm ht).1);have HCT:=zh (show zAc n.kids<1000 from by have h2:=zFa n;have:=HCN.out;omega);clear hv ht;have n0:=K0.out.cell 0;have n1:=K0.out.cell 1;have n2:=K0.out.cell 2;have n3:=K0.out.cell 3;go_wp2_with fail;refine(Go.Proofs.YtchllommcolijaaGreatDoor.zBu A cap rs w1 (HR0.out.keep HB.out) (by omega)).mono ?_;rintro e w2 ⟨rfl,hb⟩;replace HB:=jt HB hb;replace K0:=kp hb K0;replace K1:=kp hb K1;clear hb n0 n1 n2 n3;rw[HV.out];have n0:=K0.out.cell 0;have n1:=K0.out.cell 1;have n2:=K0.out.cell 2;have n3:=K0.out.cell 3;go_wp2_with fail;refine(At.zBu n _ w2 (by have:=HCN.out;omega) (HN0.out.keep HB.out)).mono ?_;rintro e wq ⟨rfl,hb⟩;replace HB:=jt HB hb;replace K0:=kp hb K0;replace K1:=kp hb K1;clear hb n0 n1 n2 n3;generalize wq=w2 at*;rw[HT.out];have n3:=K0.out.cell 3;go_upto_region 4 with(fail)
   have hba:=zA1 w2 (.cells (lstC A cap rs A2 cap2 n.kids none 0 [] 0 (.slice none 0 0)) 96);have KL:=zh (show Blk (w2.alloc (.cells (lstC A cap rs A2 cap2 n.kids none 0 [] 0 (.slice none 0 0)) 96)) w2.heap.size 96 (lstC A cap rs A2 cap2 (n.kids.drop 0) none 0 [] 0 (.slice none 0 0)) from Blk.new w2 _ _);have HBA:=zh hba;have HBL:=jt HB hba;have K1L:=kp hba K1;have HWL:=zh (show w.heap.size+1<w2.heap.size from K1.out.lt);clear hba n3 K0 K1;change Code.wp _ _ _ _ (w2.alloc (.cells (lstC A cap rs A2 cap2 n.kids none 0 [] 0 (.slice none 0 0)) 96));generalize w2.alloc (.cells (lstC A cap rs A2 cap2 n.kids none 0 [] 0 (.slice none 0 0)) 96)=w3 at*;go_wp2_with fail;refine(zOv A cap rs HV.out hrn f n.kids [] 0 A2 none cap2 0 w2.heap.size w2 w3 (HR0.out.keep HB.out) (by rw[List.drop_zero];exact HK0.out.keep HB.out) HBA.out (Nat.le_refl _) hl2 hc2 zEj (fun ad h=>by cases h) (Nat.le_refl _) (by omega) KL.out HFL.out HF.out (by have:=HCT.out;simp only[List.length_nil];omega) H7.out.1 H7.out.2 (by omega)).mono ?_;rintro e w4 ⟨hm,hgr⟩;have HB4:=zh (HBL.out.trans (hgr.down HBL.out.size (by have:=HWL.out;omega)));have K14:=zh (hgr.blk K1L.out (by have:=HWL.out;omega));have HW3:=zh (show w.heap.size≤w3.heap.size from HBL.out.size);have HW31:=zh (show w.heap.size+1<w3.heap.size from K1L.out.lt);clear hgr KL HBL K1L HB;cases hM:zAe rs f n.kids [] 0 with
   |bad er p=>
    rw[hM] at hm;obtain⟨gf,rfl,hff⟩:=hm;have hba:=zA1 w4 (.cells #[.int .i64 0,.string ⟨#[]⟩,.string ⟨#[]⟩,.slice none 0 0,.string ⟨#[]⟩] 31);have HFF:=zh (hff.keep hba);have K7:=zh (Blk.new w4 31 #[.int .i64 0,.string ⟨#[]⟩,.string ⟨#[]⟩,.slice none 0 0,.string ⟨#[]⟩]);have HB7:=jt HB4 hba;have K17:=kp hba K14;have HO2:=zh (show zCd rs f n= .bad er p by rw[HO.out,hM]);clear hff hM hba;go_upto_region 5 with(fail)
    generalize w4.heap.size=g7 at*;generalize w4.alloc (.cells #[.int .i64 0,.string ⟨#[]⟩,.string ⟨#[]⟩,.slice none 0 0,.string ⟨#[]⟩] 31)=w7 at*;have k70:=K7.out.cell 0;have k71:=K7.out.cell 1;have k72:=K7.out.cell 2;have k73:=K7.out.cell 3;have k74:=K7.out.cell 4;have kc:=fun i=>K17.out.cell i
    have kf:=fun i=>K17.out.frozen i
    go_wp2_with fail;obtain⟨w9,e9,KR,HB5,HG5⟩:=fin5 K17.out HB7.out (by omega) (.int .i64 0) (.string ⟨#[]⟩) (.string ⟨#[]⟩) (.slice none 0 0) (.string ⟨#[]⟩);rw[e9];obtain⟨r0,r1,r2,r3,r4⟩:=jF KR;exact bodyPost_ret (v:=.tuple #[.agg #[.int .i64 0,.string ⟨#[]⟩,.string ⟨#[]⟩,.slice none 0 0,.string ⟨#[]⟩],.pointer (some ⟨gf,0,none⟩)]) (by simp[results,Tryz.results19,go_sem,r0,r1,r2,r3,r4]) rfl (show RdP _ _ _ _ _ _ by rw[HO2.out];exact⟨⟨gf,rfl,(HFF.out.grown HG5.out fun hb=>by have:=HW31.out;omega).any (fun _ h=>h) fun b _ hb=>by have:=HW3.out;omega⟩,HB5.out⟩)
   |ok t=>
    rw[hM] at hm;obtain⟨cc,rfl,htm⟩:=hm;obtain⟨tk,ta,tv,tA,tn,tcp,tf,rfl⟩:=htm.ext;have hba:=zA1 w4 (.cells #[.int .i64 tk,.string ta,.string tv,.slice tA tn tcp,.string tf] 31);have HTM:=zh ((htm.keep hba).any (ok':=fun b=>w.heap.size+1<b) fun b _ h=>by have:=HW31.out;omega);have K7:=zh (Blk.new w4 31 #[.int .i64 tk,.string ta,.string tv,.slice tA tn tcp,.string tf]);have HB7:=jt HB4 hba;have K17:=kp hba K14;have HCM:=zh (show cntM t≤1000000 by have h1:=zPn rs f n.kids [] 0 t hM;have:=HCT.out;omega);have HO2:=zh (show zCd rs f n=if zCp t=true then .ok t else .bad 6 [0] by rw[HO.out,hM]);have HW4:=zh (show w.heap.size+1<w4.heap.size from K14.out.lt);clear htm hM hba HB4 K14;go_upto_region 5 with(fail)
    generalize w4.heap.size=g7 at*;generalize w4.alloc (.cells #[.int .i64 tk,.string ta,.string tv,.slice tA tn tcp,.string tf] 31)=w7 at*;have k70:=K7.out.cell 0;have k71:=K7.out.cell 1;have k72:=K7.out.cell 2;have k73:=K7.out.cell 3;have k74:=K7.out.cell 4;go_wp2_with fail;refine(Sp.zBu t _ w7 HCM.out HTM.out.mat).mono ?_;rintro e w8 ⟨rfl,hb⟩;replace HB7:=jt HB7 hb;replace K17:=kp hb K17;replace K7:=kp hb K7;replace HTM:=zh (HTM.out.keep hb);clear hb k70 k71 k72 k73 k74;have k70:=K7.out.cell 0;have k71:=K7.out.cell 1;have k72:=K7.out.cell 2;have k73:=K7.out.cell 3;have k74:=K7.out.cell 4;cases hvm:zCp t with
    |true=>
     have HO3:=zh (show zCd rs f n= .ok t by rw[HO2.out,if_pos hvm]);clear hvm;have kc:=fun i=>K17.out.cell i
     have kf:=fun i=>K17.out.frozen i
     go_wp2_with fail;obtain⟨w9,e9,KR,HB5,HG5⟩:=fin5 K17.out HB7.out (by omega) (.int .i64 tk) (.string ta) (.string tv) (.slice tA tn tcp) (.string tf);rw[e9];obtain⟨r0,r1,r2,r3,r4⟩:=jF KR;exact bodyPost_ret (v:=.tuple #[.agg #[.int .i64 tk,.string ta,.string tv,.slice tA tn tcp,.string tf],.pointer none]) (by simp[results,Tryz.results19,go_sem,r0,r1,r2,r3,r4]) rfl (show RdP _ _ _ _ _ _ by rw[HO3.out];exact⟨⟨_,rfl,(HTM.out.grown (ok':=fun b=>w.heap.size+1<b) HG5.out (fun b _ hb e=>by have:=sj e;omega) (fun _ _ h=>h)).any fun b _ hb=>by omega⟩,HB5.out⟩)
    |false=>
     have HO3:=zh (show zCd rs f n= .bad 6 [0] by rw[HO2.out,if_neg (by rw[hvm];decide)]);clear hvm k70 k71 k72 k73 k74;have hba:=zA1 w8 (.cells #[.int .i64 0] 3);have HPZ:=zh (zMp w8);have HB8:=jt HB7 hba;have K18:=kp hba K17;have HW8:=zh (show w.heap.size+1<w8.heap.size from K17.out.lt);have hbf:=zA1 (w8.alloc (.cells #[.int .i64 0] 3)) (.cells #[.int .i64 6,.slice (some ⟨w8.heap.size,0,none⟩) 1 1,.slice none 0 0] 58);have HB9:=jt HB8 hbf;have K19:=kp hbf K18;have HKF:=zh (Blk.new (w8.alloc (.cells #[.int .i64 0] 3)) 58 #[.int .i64 6,.slice (some ⟨w8.heap.size,0,none⟩) 1 1,.slice none 0 0]);have HPF:=zh (HPZ.out.keep hbf);have kc:=fun i=>K19.out.cell i
     have kf:=fun i=>K19.out.frozen i
     clear hba hbf;go_wp2_with fail;obtain⟨w9,e9,KR,HB5,HG5⟩:=fin5 K19.out HB9.out (by omega) (.int .i64 0) (.string ⟨#[]⟩) (.string ⟨#[]⟩) (.slice none 0 0) (.string ⟨#[]⟩);rw[e9];obtain⟨r0,r1,r2,r3,r4⟩:=jF KR;exact bodyPost_ret (v:=.tuple #[.agg #[.int .i64 0,.string ⟨#[]⟩,.string ⟨#[]⟩,.slice none 0 0,.string ⟨#[]⟩],.pointer (some ⟨(w8.alloc (.cells #[.int .i64 0] 3)).heap.size,0,none⟩)]) (by simp[results,Tryz.results19,go_sem,r0,r1,r2,r3,r4]) rfl (show RdP _ _ _ _ _ _ by rw[HO3.out];exact⟨⟨_,rfl,some ⟨w8.heap.size,0,none⟩,1,none,0,[],HKF.out.grown HG5.out (fun e=>by have:=sj e;rw[World.size_alloc] at this;have:=HW8.out;omega),Nat.le_refl _,by omega,zE9 HPF.out HG5.out (fun ad ha _ e=>by cases ha;have h9:w8.heap.size=w.heap.size+1:=e;have:=HW8.out;omega),by rw[World.size_alloc];have:=HW8.out;omega,fun ad ha _=>by cases ha;show w.heap.size≤w8.heap.size;have:=HW8.out;omega,Nat.le_refl _,by omega,zAp.nil _ _ _,fun e=>absurd e (by decide)⟩,HB5.out⟩)
set_option maxRecDepth 100000 in
set_option maxHeartbeats 8000000 in
theorem zT8 (A:Option Addr)(cap:Nat)(rs:List Rul)(f:Nat)(n:Tre)(c:Array Value)(w:World)(hR:zAg w A rs)(hrn:rs.length≤1000)(hN:zBd w n c)(hf:zAc n.kids<f)(hcn:zAa n≤1000)(hr7:zE4 n=true):
  Calls Tryz.prog 8 #[.slice A rs.length cap,.agg c] w (zIp (zCd rs f n) w):=by
 obtain⟨A2,cap2,rfl,hsz,hl2,hc2,hk⟩:=hN.form;have B1:=zA1 w (.cells #[.int .i64 n.kind,.string n.text,.int .i64 n.cols,.slice A2 n.kids.length cap2] 25);have s1:(w.alloc (.cells #[.int .i64 n.kind,.string n.text,.int .i64 n.cols,.slice A2 n.kids.length cap2] 25)).heap.size=w.heap.size+1:=by simp
 have B2:=zA1 (w.alloc (.cells #[.int .i64 n.kind,.string n.text,.int .i64 n.cols,.slice A2 n.kids.length cap2] 25)) (.cells zerC 31);have HB:=zh (B1.trans (B2.mono B1.size));have K0:=zh (keep B2 (Blk.new w 25 #[.int .i64 n.kind,.string n.text,.int .i64 n.cols,.slice A2 n.kids.length cap2]));have K1:=zh (Blk.new (w.alloc (.cells #[.int .i64 n.kind,.string n.text,.int .i64 n.cols,.slice A2 n.kids.length cap2] 25)) 31 zerC);rw[s1] at K1;have HR1:=zh (hR.keep HB.out);have HN1:=zh (hN.keep HB.out);clear hR hN hk hsz B1 B2 s1;go_enter Tryz.func8,Tryz.ntmps8;go_upto_region 1 with(fail)
 generalize (w.alloc (.cells #[.int .i64 n.kind,.string n.text,.int .i64 n.cols,.slice A2 n.kids.length cap2] 25)).alloc (.cells zerC 31)=w1 at*;have n0:=K0.out.cell 0;have n1:=K0.out.cell 1;have n2:=K0.out.cell 2;have n3:=K0.out.cell 3;have HW1:=zh (show w.heap.size+1<w1.heap.size from K1.out.lt);go_wp2_with fail;refine(zS7 A cap rs f n _ w1 HR1.out hrn HN1.out hf hcn hr7).mono ?_;rintro e w2 ⟨hm,hb⟩;replace HB:=jt HB hb;replace K1:=kp hb K1;clear hb n0 n1 n2 n3 K0 HR1 HN1;cases hM:zCd rs f n with
 |bad er p=>
  rw[hM] at hm;obtain⟨gf,rfl,hff⟩:=hm;have hba:=zA1 w2 (.cells #[.int .i64 0,.string ⟨#[]⟩,.string ⟨#[]⟩,.slice none 0 0,.string ⟨#[]⟩] 31);have HFF:=zh (hff.keep hba);have HB7:=jt HB hba;have K17:=kp hba K1;clear hff hba HB K1;go_upto_region 2 with(fail)
  generalize w2.heap.size=g7 at*;generalize w2.alloc (.cells #[.int .i64 0,.string ⟨#[]⟩,.string ⟨#[]⟩,.slice none 0 0,.string ⟨#[]⟩] 31)=w7 at*;obtain⟨Ap,cp,Ar,cr,rds,hkf,hpc,hpm,hpa,hga,hpb,_⟩:=HFF.out;have HPA:=zh hpa;have HKF:=zh hkf;have HPB:=zh (show ∀ad,Ap=some ad→0<p.length→ad.block≠w.heap.size+1 from fun ad h1 h2 h3=>by have:=hpb ad h1 h2;have:=HW1.out;omega);have HGN:=zh (show gf≠w.heap.size+1 by have:=HW1.out;omega);clear HFF hkf hpa hpb hga;go_upto_region 3 with(fail)
  have f0:=HKF.out.cell 0;have f1:=HKF.out.cell 1;have k1c:=fun i=>K17.out.cell i
  have k1f:=fun i=>K17.out.frozen i
  have hgf:gf≠w.heap.size+1:=HGN.out;have hgf2:w.heap.size+1≠gf:=fun e=>hgf e.symm
  go_region;go_wp2_with fail;obtain⟨w9,e9,KR,HB5,HG5⟩:=fin5 K17.out HB7.out (by omega) (.int .i64 0) (.string ⟨#[]⟩) (.string ⟨#[]⟩) (.slice none 0 0) (.string ⟨#[]⟩);rw[e9];obtain⟨r0,r1,r2,r3,r4⟩:=jF KR;exact bodyPost_ret (v:=.tuple #[.agg #[.int .i64 0,.string ⟨#[]⟩,.string ⟨#[]⟩,.slice none 0 0,.string ⟨#[]⟩],.slice Ap p.length cp,.int .i64 er]) (by simp[results,Tryz.results8,go_sem,r0,r1,r2,r3,r4]) rfl (show zIp _ _ _ _ by exact⟨⟨Ap,cp,rfl,(HPA.out.grown HG5.out HPB.out).keep (zA2 (Below.refl _ _)),hpc,hpm⟩,HB5.out.trans ((zA2 (Below.refl _ _)).mono HB5.out.size)⟩)
 |ok t=>
  rw[hM] at hm;obtain⟨cc,rfl,htm⟩:=hm;obtain⟨tk,ta,tv,tA,tn,tcp,tf,rfl⟩:=htm.ext;have hba:=zA1 w2 (.cells #[.int .i64 tk,.string ta,.string tv,.slice tA tn tcp,.string tf] 31);have HTM:=zh ((htm.keep hba).any (ok':=fun b=>w.heap.size+1<b) fun b _ h=>by have:=HW1.out;omega);have K7:=zh (Blk.new w2 31 #[.int .i64 tk,.string ta,.string tv,.slice tA tn tcp,.string tf]);have HB7:=jt HB hba;have K17:=kp hba K1;have HMM:=zh hM;clear htm hM hba HB K1;go_upto_region 2 with(fail)
  generalize w2.heap.size=g7 at*;generalize w2.alloc (.cells #[.int .i64 tk,.string ta,.string tv,.slice tA tn tcp,.string tf] 31)=w7 at*;have k70:=K7.out.cell 0;have k71:=K7.out.cell 1;have k72:=K7.out.cell 2;have k73:=K7.out.cell 3;have k74:=K7.out.cell 4;have kc:=fun i=>K17.out.cell i
  have kf:=fun i=>K17.out.frozen i
  go_wp2_with fail;obtain⟨w9,e9,KR,HB5,HG5⟩:=fin5 K17.out HB7.out (by omega) (.int .i64 tk) (.string ta) (.string tv) (.slice tA tn tcp) (.string tf);rw[e9];obtain⟨r0,r1,r2,r3,r4⟩:=jF KR;exact bodyPost_ret (v:=.tuple #[.agg #[.int .i64 tk,.string ta,.string tv,.slice tA tn tcp,.string tf],.slice none 0 0,.int .i64 0]) (by simp[results,Tryz.results8,go_sem,r0,r1,r2,r3,r4]) rfl (show zIp _ _ _ _ by rw[HMM.out];exact⟨⟨_,rfl,(HTM.out.grown (ok':=fun b=>w.heap.size+1<b) HG5.out (fun b _ hb e=>by have:=sj e;omega) (fun _ _ h=>h)).any fun b _ hb=>by omega⟩,HB5.out⟩)
def rowT (l:List Tre):Tre:=.mk 1 ⟨#[]⟩ 0 l
def awN:List Tre:=[.mk 2 ⟨#[120]⟩ 0 [],.mk 2 ⟨#[43]⟩ 0 [],.mk 3 ⟨#[49]⟩ 0 []]
def awT:Trm:=.mk 4 ⟨#[112,108,117,115]⟩ ⟨#[]⟩ ⟨#[105,110,102,105,120]⟩ [.mk 2 ⟨#[120]⟩ ⟨#[]⟩ ⟨#[]⟩ [],.mk 1 ⟨#[49]⟩ ⟨#[]⟩ ⟨#[]⟩ []]
set_option maxRecDepth 100000 in
theorem zQi:zCd [zV0] 6 (rowT awN)= .ok awT:=by kernel_rfl
theorem zUs {w:World}{g:Nat}(h:Blk w g 42 zSu):zAg w (some ⟨g,0,none⟩) [zV0]:=fun k r hk=>by
 cases k with
 |succ k=>simp at hk
 |zero=>
  obtain rfl:zV0=r:=by simpa using hk
  refine⟨⟨by decide,by decide⟩,_,rfl,h.lt,fun j v hj=>?_⟩;have hc:=h.cell j
  match j,hj with
  |0,hj|1,hj|2,hj|3,hj|4,hj|5,hj=>exact hc.trans hj
  |j+6,hj=>simp[zV0] at hj
theorem zZd {w:World}{g:Nat}(h:Blk w g 25 #[.int .i64 2,.string ⟨#[120]⟩,.int .i64 0,.slice none 0 0,.int .i64 2,.string ⟨#[43]⟩,.int .i64 0,.slice none 0 0,.int .i64 3,.string ⟨#[49]⟩,.int .i64 0,.slice none 0 0]):zB0 w (some ⟨g,0,none⟩) awN:=fun i t hi=>by
 have leaf:∀(k:Int) (s:ByteArray),s.size≤9223372036854775807→zBd w (.mk k s 0 []) #[.int .i64 k,.string s,.int .i64 0,.slice none 0 0]:=fun k s hs=>zBd.of (ks:=[]) (A:=none) (cap:=0) hs (Nat.le_refl _) (by omega) (fun i t hi=>by simp at hi)
 match i,hi with
 |0,hi=>
  obtain rfl:Tre.mk 2 ⟨#[120]⟩ 0 []=t:=by simpa [awN] using hi
  exact⟨_,rfl,h.lt,_,leaf 2 _ (by decide),fun j hj=>by
   have hc:=h.cell j
   match j,hj with
   |0,_|1,_|2,_|3,_=>exact hc
   |j+4,hj=>omega⟩
 |1,hi=>
  obtain rfl:Tre.mk 2 ⟨#[43]⟩ 0 []=t:=by simpa [awN] using hi
  exact⟨_,rfl,h.lt,_,leaf 2 _ (by decide),fun j hj=>by
   have hc:=h.cell (4+j)
   match j,hj with
   |0,_|1,_|2,_|3,_=>exact hc
   |j+4,hj=>omega⟩
 |2,hi=>
  obtain rfl:Tre.mk 3 ⟨#[49]⟩ 0 []=t:=by simpa [awN] using hi
  exact⟨_,rfl,h.lt,_,leaf 3 _ (by decide),fun j hj=>by
   have hc:=h.cell (8+j)
   match j,hj with
   |0,_|1,_|2,_|3,_=>exact hc
   |j+4,hj=>omega⟩
 |i+3,hi=>simp[awN] at hi
set_option maxRecDepth 100000 in
set_option maxHeartbeats 8000000 in
theorem zU2 (w:World):Calls Tryz.prog 4 #[] w fun e w'=>e= .returned (.bool true)∧Below w.heap.size w w':=by
 go_enter Tryz.func4,Tryz.ntmps4;go_wp2_with fail;refine(zVd w).mono ?_;rintro e w1 ⟨rfl,rfl⟩;have HB:=zh (zA1 w (.cells zSu 42));have K5:=zh (Blk.new w 42 zSu);generalize hn5:w.heap.size=n5 at K5;have HN5:=zh hn5;clear hn5;generalize w.alloc (.cells zSu 42)=w1 at*;go_wp2_with fail;have hba:=zA1 w1 (.cells #[.int .i64 2,.string ⟨#[120]⟩,.int .i64 0,.slice none 0 0,.int .i64 2,.string ⟨#[43]⟩,.int .i64 0,.slice none 0 0,.int .i64 3,.string ⟨#[49]⟩,.int .i64 0,.slice none 0 0] 25);replace HB:=jt HB hba;replace K5:=kp hba K5;have K9:=zh (Blk.new w1 25 #[.int .i64 2,.string ⟨#[120]⟩,.int .i64 0,.slice none 0 0,.int .i64 2,.string ⟨#[43]⟩,.int .i64 0,.slice none 0 0,.int .i64 3,.string ⟨#[49]⟩,.int .i64 0,.slice none 0 0]);clear hba;generalize w1.alloc (.cells #[.int .i64 2,.string ⟨#[120]⟩,.int .i64 0,.slice none 0 0,.int .i64 2,.string ⟨#[43]⟩,.int .i64 0,.slice none 0 0,.int .i64 3,.string ⟨#[49]⟩,.int .i64 0,.slice none 0 0] 25)=w2 at*;refine(zYw (some ⟨w1.heap.size,0,none⟩) 3 3 w2).mono ?_;rintro e w3 ⟨rfl,hb⟩;replace HB:=jt HB hb;replace K5:=kp hb K5;replace K9:=kp hb K9;clear hb;go_wp2_with fail;refine(zPe (some ⟨n5,0,none⟩) 1 [zV0] 6 (rowT awN) _ w3 (zUs K5.out) (Nat.le_refl _) (by decide) (by decide) (zBd.of (by decide) (Nat.le_refl _) (by decide) (zZd K9.out)) (by decide)).mono ?_;rintro e w4 hm;rw[zQi] at hm;obtain⟨⟨c9,rfl,htm⟩,hb⟩:=hm;obtain⟨Aa,ca,rfl,-⟩:=htm.form;replace HB:=jt HB hb;have hba:=zA1 w4 (.cells zerC 31);have HB4:=jt HB hba;have K1:=zh (Blk.new w4 31 zerC);have HL:=zh HB.out.size;clear hb hba htm K5 K9;have k1c:=fun i=>K1.out.cell i
 have k1f:=fun i=>K1.out.frozen i
 dsimp only[awT,Trm.kind,Trm.nam,Trm.vr,Trm.args,Trm.form,trmC,List.length_cons,List.length_nil];go_wp2_with fail;exact bodyPost_ret (v:=.bool true) (by simp[results,Tryz.results4,go_sem]) rfl ⟨rfl,HB.out.trans ((zA1 w4 _).mono HB.out.size)⟩
mutual
theorem zSq:∀t:Trm,eqM t t=true
 | .mk k a v f ts=>by
  rw[eqM];simp only[Trm.kind,Trm.nam,Trm.vr,Trm.form,Trm.args,beq_self_eq_true,decide_true,Bool.true_and];exact zP1 ts
theorem zP1:∀ts:List Trm,eqL ts ts=true
 |[]=>by rw[eqL];rfl
 |t::ts=>by rw[eqL,zSq t,zP1 ts];rfl
end
def badE {α:Type}(m:Mea α):Prop:=∀e p,m= .bad e p→e=14∨e=15
theorem badE.ok {α:Type}(a:α):badE (Mea.ok a):=fun e p h=>by cases h
theorem badE.then_ {α β:Type}{m:Mea α}{f:α→Mea β}(h:badE m)(hf:∀a,m= .ok a→badE (f a)):badE (m.then_ f):=by
 intro e p he;cases m with
 |bad e' p'=>
  have he2:(Mea.bad e' p':Mea β)= .bad e p:=he;injection he2 with h1 h2;rw[←h1];exact h e' p' rfl
 |ok a=>exact hf a rfl e p he
def badN {α:Type}(N:Nat)(m:Mea α):Prop:=∀e p,m= .bad e p→p.length≤N
theorem badN.ok {α:Type}(N:Nat)(a:α):badN N (Mea.ok a):=fun e p h=>by cases h
theorem badN.then_ {α β:Type}{N:Nat}{m:Mea α}{f:α→Mea β}(h:badN N m)(hf:∀a,m= .ok a→badN N (f a)):badN N (m.then_ f):=by
 intro e p he;cases m with
 |bad e' p'=>
  have he2:(Mea.bad e' p':Mea β)= .bad e p:=he;injection he2 with h1 h2;rw[←h2];exact h e' p' rfl
 |ok a=>exact hf a rfl e p he
theorem zFi {M:List Tre→List Int→Nat→Mea Trm}{path:List Int}{N:Nat}:∀(ks:List Tre) (s b:Nat),(∀d∈ks,∀(i:Int) k,badN N (M d.kids (path++[i]) k))→badN N (zAs M path ks s b)
 |[],_,_,_=>by rw[zAs];exact badN.ok _ _
 |n::ns,s,b,h=>by
  rw[zAs];exact(h n List.mem_cons_self _ _).then_ fun t _=>(zFi ns _ _ fun d hd=>h d (List.mem_cons_of_mem _ hd)).then_ fun ts _=>badN.ok _ _
theorem zS2 {M:List Tre→List Int→Nat→Mea Trm}{n:Tre}{path:List Int}{N:Nat}(h:∀d∈n.kids,∀(i:Int) k,badN N (M d.kids (path++[i]) k)):badN N (zDa M n path):=by
 unfold zDa
 split
 ·exact badN.ok _ _
 split
 ·exact badN.ok _ _
 split
 ·exact badN.ok _ _
 ·refine badN.then_ ?_ fun ts _=>badN.ok _ _
  cases hk:n.kids with
  |nil=>exact badN.ok _ _
  |cons d ks=>
   rw[hk] at h;dsimp only
   split
   ·exact zFi ks 1 0 fun e he=>h e (List.mem_cons_of_mem _ he)
   ·exact zFi (d::ks) 0 0 h
theorem zV8 {rs:List Rul}{M:List Tre→List Int→Nat→Mea Trm}{n:Tre}{path:List Int}{p:Bool}{N:Nat}(h:∀d∈n.kids,∀(i:Int) k,badN N (M d.kids (path++[i]) k)):badN N (scrF rs M n path p):=by
 unfold scrF
 split
 ·exact badN.ok _ _
 ·exact(zFi _ _ _ fun d hd=>h d (List.mem_of_mem_tail hd)).then_ fun ts _=>badN.ok _ _
theorem zIl {rs:List Rul}{M:List Tre→List Int→Nat→Mea Trm}{path:List Int}{kd:Nat→Int}{k N:Nat}:∀(ns:List Tre) (ts:List ByteArray) (i:Nat),(∀n∈ns,∀d∈n.kids,∀(j i:Int) k,badN N (M d.kids (path++[j]++[i]) k))→badN N (zBi rs M path kd k ns ts i)
 |[],ts,i,_=>by
  have:zBi rs M path kd k [] ts i= .ok []:=by cases ts<;>simp[zBi]
  rw[this];exact badN.ok _ _
 |n::ns,[],i,_=>by
  have:zBi rs M path kd k (n::ns) [] i= .ok []:=by simp[zBi]
  rw[this];exact badN.ok _ _
 |n::ns,t::ts,i,h=>by
  rw[zBi];refine badN.then_ ?_ fun x _=>(zIl ns ts (i+1) fun m hm=>h m (List.mem_cons_of_mem _ hm)).then_ fun ps _=>badN.ok _ _
  split
  ·exact zS2 fun d hd=>h n List.mem_cons_self d hd _
  ·exact zV8 fun d hd=>h n List.mem_cons_self d hd _
theorem zMg (rs:List Rul):∀(f:Nat) (items:List Tre) (path:List Int) (k:Nat),badN (path.length+2*f+1) (zAe rs f items path k)
 |0,items,path,k=>by rw[zAe];intro e p he;injection he with h1 h2;rw[←h2];omega
 |f+1,items,path,k=>by
  rw[zAe];unfold zHy
  split
  ·intro e p he;injection he with h1 h2;rw[←h2,List.length_append,List.length_singleton];omega
  split
  ·intro e p he;injection he with h1 h2;rw[←h2,List.length_append,List.length_singleton];omega
  split
  ·intro e p he;injection he with h1 h2;rw[←h2,List.length_append,List.length_singleton];omega
  ·refine(zIl _ _ _ fun n hn d hd j i k'=>?_).then_ fun ps _=>badN.ok _ _
   have h:=zMg rs f d.kids (path++[j]++[i]) k';intro e p he;have:=h e p he;rw[List.length_append,List.length_append,List.length_singleton,List.length_singleton] at this;omega
  ·intro e p he;injection he with h1 h2;rw[←h2,List.length_append,List.length_singleton];omega
def outH:Mea Trm→Int×List Int×Trm
 | .ok t=>(0,[],t)
 | .bad e p=>(e,p,zerT)
theorem zIp.zZp {m:Mea Trm}{w w':World}{e:Ending}(h:zIp m w e w'):∃cm A cp,e= .returned (.tuple #[.agg cm,.slice A (outH m).2.1.length cp,.int .i64 (outH m).1])∧TmAt (fun b=>w.heap.size≤b) w' (outH m).2.2 cm∧zAo w' A (outH m).2.1∧(outH m).2.1.length≤cp∧cp≤9223372036854775807∧Below w.heap.size w w':=by
 cases m with
 |ok t=>
  obtain⟨⟨c,h1,h2⟩,hb⟩:=h;exact⟨c,none,0,h1,h2,zEj,Nat.le_refl _,by omega,hb⟩
 |bad er p=>
  obtain⟨⟨A,cp,h1,h2,h3,h4⟩,hb⟩:=h;exact⟨zerC,A,cp,h1,zP3 _ _,h2,h3,h4,hb⟩
theorem zXc (rs:List Rul)(f:Nat)(t:Tre)(hf:f≤1000):(outH (zCd rs f t)).2.1.length≤1000000:=by
 unfold zCd
 split
 ·cases h:zAe rs f t.kids [] 0 with
  |ok u=>
   dsimp only
   split
   ·exact Nat.zero_le _
   ·simp[outH]
  |bad e p=>
   have:=zMg rs f t.kids [] 0 e p h;simp only[List.length_nil] at this;show p.length≤1000000;omega
 ·exact Nat.zero_le _
set_option maxRecDepth 100000 in
set_option maxHeartbeats 8000000 in
theorem zV2 (A:Option Addr)(cap:Nat)(rs:List Rul)(t:Tre)(c:Array Value)(w:World)(hR:zAg w A rs)(hrc:rs.length≤cap)(hcc:cap≤9223372036854775807)(hN:zBd w t c):Calls Tryz.prog 3 #[.slice A rs.length cap,.agg c] w fun e w'=>e= .returned (.bool true)∧Below w.heap.size w w':=by
 obtain⟨A2,cap2,rfl,hsz,hl2,hc2,hk⟩:=hN.form;have HB:=zh (zA1 w (.cells #[.int .i64 t.kind,.string t.text,.int .i64 t.cols,.slice A2 t.kids.length cap2] 25));have K0:=zh (Blk.new w 25 #[.int .i64 t.kind,.string t.text,.int .i64 t.cols,.slice A2 t.kids.length cap2]);have HR:=zh (hR.keep HB.out);have HN:=zh (hN.keep HB.out);have HLN:=zh (And.intro hrc hcc);clear hR hN hk hsz hrc hcc hl2 hc2;go_enter Tryz.func3,Tryz.ntmps3;go_upto_region 1 with(fail)
 generalize w.alloc (.cells #[.int .i64 t.kind,.string t.text,.int .i64 t.cols,.slice A2 t.kids.length cap2] 25)=w1 at*;go_wp2_with fail;refine(zU2 w1).mono ?_;rintro e w2 ⟨rfl,hb⟩;replace HB:=jt HB hb;replace K0:=kp hb K0;replace HR:=zh (HR.out.keep hb);replace HN:=zh (HN.out.keep hb);clear hb;go_wp2_with fail;refine(zNp A cap rs w2 HR.out (by have:=HLN.out;omega)).mono ?_;rintro e w3 ⟨rfl,rfl⟩;cases hs4:zEv rs with
 |false=>
  clear hs4;go_wp2_with fail;exact bodyPost_ret (v:=.bool true) (by simp[results,Tryz.results3,go_sem]) rfl ⟨rfl,HB.out⟩
 |true=>
 have HS40:=zh (zRl hs4);clear hs4;have n0:=K0.out.cell 0;have n1:=K0.out.cell 1;have n2:=K0.out.cell 2;have n3:=K0.out.cell 3;go_wp2_with fail;refine(zU1 t _ 60 w2 HN.out (by decide) (by decide)).mono ?_;rintro e w3 ⟨rfl,hb⟩;replace HB:=jt HB hb;replace K0:=kp hb K0;replace HR:=zh (HR.out.keep hb);replace HN:=zh (HN.out.keep hb);clear hb n0 n1 n2 n3;cases hs4:zN1 t 60 with
 |false=>
  clear hs4;go_wp2_with fail;exact bodyPost_ret (v:=.bool true) (by simp[results,Tryz.results3,go_sem]) rfl ⟨rfl,HB.out⟩
 |true=>
 have HC60:=zh (show zAa t≤60 by have h:=(zOz (by decide) hs4).1;omega);have H7:=zh (zOz (by decide) hs4).2;clear hs4;have n0:=K0.out.cell 0;have n1:=K0.out.cell 1;have n2:=K0.out.cell 2;have n3:=K0.out.cell 3;go_wp2_with fail;refine(zPe A cap rs 102 t _ w3 HR.out HLN.out.1 HLN.out.2 (by have:=HS40.out;omega) HN.out (by have:=HC60.out;have:=zFa t;omega)).mono ?_;rintro e wa hm;obtain⟨cm,pA,pc,rfl,hmt,hpp,hp1,hp2,hb⟩:=hm.zZp;replace HB:=jt HB hb;replace K0:=kp hb K0;replace HR:=zh (HR.out.keep hb);replace HN:=zh (HN.out.keep hb);have HPL:=zh (zXc rs 102 t (by decide));have HMM:=zh hmt;have HPP:=zh hpp;have HPC:=zh (And.intro hp1 hp2);clear hb n0 n1 n2 n3 hm hmt hpp hp1 hp2;obtain⟨o,ho⟩:∃o,o=outH (zCd rs 102 t):=⟨_,rfl⟩
 have HOO:=zh (show outH (zCd rs 102 t)=o from ho.symm);rw[←ho] at HPL HMM HPP HPC⊢;clear ho;obtain⟨er,p,u⟩:=o;dsimp only at HPL HMM HPP HPC⊢;obtain⟨mA,mc,rfl,hm2⟩:=HMM.out.form;clear hm2;have z0:=fun i=>(Blk.new wa 31 zerC).cell i
 have z1:=fun i=>(Blk.new wa 31 zerC).frozen i
 go_upto_region 6 with(fail)
 have hb:=zA1 wa (.cells #[.int .i64 u.kind,.string u.nam,.string u.vr,.slice mA u.args.length mc,.string u.form] 31);have K8:=zh (Blk.new wa 31 #[.int .i64 u.kind,.string u.nam,.string u.vr,.slice mA u.args.length mc,.string u.form]);replace HB:=jt HB hb;replace K0:=kp hb K0;replace HR:=zh (HR.out.keep hb);replace HN:=zh (HN.out.keep hb);replace HMM:=zh (HMM.out.keep hb);replace HPP:=zh (HPP.out.keep hb);clear hb z0 z1;generalize wa.alloc (.cells #[.int .i64 u.kind,.string u.nam,.string u.vr,.slice mA u.args.length mc,.string u.form] 31)=wb at*;generalize wa.heap.size=g8 at*;have n0:=K0.out.cell 0;have n1:=K0.out.cell 1;have n2:=K0.out.cell 2;have n3:=K0.out.cell 3;go_wp2_with fail;refine(zT8 A cap rs 102 t _ wb HR.out (by have:=HS40.out;omega) HN.out (by have:=HC60.out;have:=zFa t;omega) (by have:=HC60.out;omega) H7.out).mono ?_;rintro e wc hm;obtain⟨cm,pB,pd,rfl,hmt,hpp,hp1,hp2,hb⟩:=hm.zZp;rw[HOO.out] at hmt hpp hp1⊢;dsimp only at hmt hpp hp1⊢;replace HB:=jt HB hb;replace K8:=kp hb K8;replace HMM:=zh (HMM.out.keep hb);replace HPP:=zh (HPP.out.keep hb);have HM2:=zh hmt;have HP2:=zh hpp;have HP2C:=zh (And.intro hp1 hp2);clear hb n0 n1 n2 n3 hm hmt hpp hp1 hp2 HR HOO HN K0;obtain⟨nA,nc,rfl,hm2⟩:=HM2.out.form;clear hm2;have z0:=fun i=>(Blk.new wc 31 zerC).cell i
 have z1:=fun i=>(Blk.new wc 31 zerC).frozen i
 go_upto_region 7 with(fail)
 have hb:=zA1 wc (.cells #[.int .i64 u.kind,.string u.nam,.string u.vr,.slice nA u.args.length nc,.string u.form] 31);have K9:=zh (Blk.new wc 31 #[.int .i64 u.kind,.string u.nam,.string u.vr,.slice nA u.args.length nc,.string u.form]);replace HB:=jt HB hb;replace K8:=kp hb K8;replace HMM:=zh (HMM.out.keep hb);replace HPP:=zh (HPP.out.keep hb);replace HM2:=zh (HM2.out.keep hb);replace HP2:=zh (HP2.out.keep hb);clear hb z0 z1;generalize wc.alloc (.cells #[.int .i64 u.kind,.string u.nam,.string u.vr,.slice nA u.args.length nc,.string u.form] 31)=wd at*;generalize wc.heap.size=g9 at*;have qe:(er==er)=true:=beq_self_eq_true _;go_wp2_with fail;refine(zVk pA pB pc pd p p wd HPP.out HP2.out HPL.out).mono ?_;rintro e we ⟨he,hb⟩;rw[decide_eq_true rfl] at he;subst he;replace HB:=jt HB hb;replace K8:=kp hb K8;replace K9:=kp hb K9;replace HMM:=zh (HMM.out.keep hb);replace HM2:=zh (HM2.out.keep hb);clear hb;have a0:=K8.out.cell 0;have a1:=K8.out.cell 1;have a2:=K8.out.cell 2;have a3:=K8.out.cell 3;have a4:=K8.out.cell 4;have b0:=K9.out.cell 0;have b1:=K9.out.cell 1;have b2:=K9.out.cell 2;have b3:=K9.out.cell 3;have b4:=K9.out.cell 4;go_wp2_with fail;refine(zQh _ u u _ _ we (Nat.le_refl _) HMM.out.mat HM2.out.mat).mono ?_;rintro e wf ⟨he,hb⟩;rw[show eqM u u=true from zSq u] at he;subst he;replace HB:=jt HB hb;clear hb;go_wp2_with fail;exact bodyPost_ret (v:=.bool true) (by simp[results,Tryz.results3,go_sem]) rfl ⟨rfl,HB.out⟩
end Go.Proofs.YtchllommcolijaaGreatDoor.El
