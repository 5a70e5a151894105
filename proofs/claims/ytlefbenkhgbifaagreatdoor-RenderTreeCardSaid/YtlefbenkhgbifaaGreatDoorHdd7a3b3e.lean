/- What the reference computes of a list, plain; that it is what the program computes. -/
import Derived.Test.YtlefbenkhgbifaaGreatDoorH01aeb754
set_option linter.all false
namespace Go.Proofs.YtlefbenkhgbifaaGreatDoor.El
open At Ch Sp Sy Go.RowKit
variable{rs:List aD}{x y z:Rd}{i j q k:Nat}{n:aG}{ts:List ByteArray}{path:List Int}{pre:Bool}{t:ByteArray}{u:aD}
mutual
def kH (rs:List aD):Rd->List Int
 | .mk r a ks=>(if 0<=r/\dF rs r=2 then[a] else[])++kQ rs ks
def kQ (rs:List aD):List Rd->List Int
 |[]=>[]
 |k::ks=>kH rs k++kQ rs ks
end
def Ex (h:mf rs x i j):∀q:Int,q∈kH rs x↔∃n:Int,(q,n)∈eQ rs x (j:Int)/\dF rs n=2:=by
 induction h with
 |leaf i=>intro q;rw[Jh,kH];simp[kQ]
 |inf n u i k j y z e f l r o a b g p=>
  intro q;rw[CU e f o,kH,kQ,kQ,kQ,ai (by rw[mZ e,f];omega)];simp only[iA,bX,iZ,g,p,dD];constructor
  ·rintro(⟨m,c,d⟩|⟨m,c,d⟩)
   ·exact⟨m,.inr (.inl c),d⟩
   ·exact⟨m,.inr (.inr c),d⟩
  ·rintro⟨m,c|c|c,d⟩
   ·injection c with _ c;rw[c,mZ e,f] at d;omega
   ·exact .inl ⟨m,c,d⟩
   ·exact .inr ⟨m,c,d⟩
 |pre n u i j y e f l a g=>
  intro q;rw[CV e f,kH,kQ,kQ,ak ⟨aa,by rw[mZ e,f]⟩];simp only[bX,iZ,g,dD];constructor
  ·rintro((rfl|c)|⟨m,c,d⟩)
   ·exact⟨(n:Int),.inl rfl,by rw[mZ e,f]⟩
   ·cases c
   ·exact⟨m,.inr c,d⟩
  ·rintro⟨m,c|c,d⟩
   ·injection c with c _;exact .inl (.inl c)
   ·exact .inr ⟨m,c,d⟩
 |pos n u i j y e f l a g=>
  intro q;rw[CW e f aa,kH,kQ,kQ,ai (by rw[mZ e,f];omega)];simp only[iA,bX,g,dD];constructor
  ·rintro⟨m,c,d⟩;exact⟨m,.inr c,d⟩
  ·rintro⟨m,c|c,d⟩
   ·injection c with _ c;rw[c,mZ e,f] at d;omega
   ·exact⟨m,c,d⟩
 |jux n u i k j y z e f l r o a b g p=>
  intro q;rw[CX e f o,kH,kQ,kQ,kQ,ai (by rw[mZ e,f];omega)];simp only[iA,bX,iZ,g,p];constructor
  ·rintro(⟨m,c,d⟩|⟨m,c,d⟩)
   ·exact⟨m,.inl c,d⟩
   ·exact⟨m,.inr c,d⟩
  ·rintro⟨m,c|c,d⟩
   ·exact .inl ⟨m,c,d⟩
   ·exact .inr ⟨m,c,d⟩
def NS:∀(a:List (Int×Int)) (l:List Int) (q:Nat),(∀p∈a,p.1.toNat≠q)->(a.foldl (λl p=>l.set p.1.toNat p.2) l)[q]?=l[q]?
 |[],_,_,_=>rfl
 |p::a,l,q,h=>by
  rw[List.foldl_cons,NS a _ q λr b=>h r (dP _ b),wI (h p bZ)]
def fold_at:∀(a:List (Int×Int)) (l:List Int),(a.map Prod.fst).Nodup->(∀p∈a,0<=p.1/\p.1.toNat<l.length)->∀(q:Nat) (n:Int),((q:Int),n)∈a->(a.foldl (λl p=>l.set p.1.toNat p.2) l)[q]?=some n
 |[],_,_,_,_,_,h=>by cases h
 |p::a,l,c,d,q,n,h=>by
  rw[di,ut] at c;rw[List.foldl_cons];rcases dD.1 h with h|h
  ·rw[NS a _ q,<-h,fU,wH]
   ·have:=(d p bZ).2;rw[<-h] at this
    simpa using this
   ·intro r b e;have f:=(d r (dP _ b)).1;refine c.1 (nM.2 ⟨r,b,?_⟩);rw[<-h];show r.1=(q:Int);omega
  ·refine fold_at a _ c.2 (λr b=>?_) q n h;rw[uu];exact d r (dP _ b)
def BV (h:mf rs x 0 j){n:Int}(c:((q:Int),n)∈eQ rs x (j:Int)):(wT (eQ rs x (j:Int)) j).getD q 0=n:=by
 unfold wT;rw[rf,fold_at _ _ (Uy h) (λp d=>?_) q n c]
 ·rfl
 ·obtain⟨a,b,rfl,_,e,_⟩:=BO h p d;rw[mG,fU];exact⟨by show(0:Int)<=(a:Int);omega,e⟩
def qy {rs:List aD}{ts:List ByteArray}:∀(m i j:Nat) (x:Rd),j -i<=m->x∈aX rs ts i j->∀q,i<=q->q<j->ed ts q oD=true\/∃n:Nat,((q:Int),(n:Int))∈eQ rs x (j:Int)
 |0,i,j,x,p,h=>av (sD h)
 |m+1,i,j,x,p,h=>by
  intro q l o;have r:=sD h;rcases(AX r).1 h with⟨rfl,s,rfl⟩|⟨n,u,g,t⟩
  ·obtain rfl:q=i:=by omega
   exact .inl s
  ·rcases t with⟨d,k,y,z,v,w,_,e,f,rfl⟩|⟨d,y,_,e,rfl⟩|⟨d,y,_,e,rfl⟩|⟨d,k,y,z,v,w,e,f,rfl⟩
   ·rw[CU g d (xH f).1];rcases Nat.lt_trichotomy q k with b|rfl|b
    ·rcases qy m i k y aa (lW.1 e).1 q l b with a|⟨c,a⟩
     ·exact .inl a
     ·exact .inr ⟨c,dP _ (mH _ a)⟩
    ·exact .inr ⟨n,bZ⟩
    ·rcases qy m (k+1) j z aa (lW.1 f).1 q aa o with a|⟨c,a⟩
     ·exact .inl a
     ·exact .inr ⟨c,dP _ (mI _ a)⟩
   ·rw[CV g d]
    by_cases b:q=i
    ·subst b;exact .inr ⟨n,bZ⟩
    ·rcases qy m (i+1) j y aa (lW.1 e).1 q aa o with a|⟨c,a⟩
     ·exact .inl a
     ·exact .inr ⟨c,dP _ a⟩
   ·rw[CW g d aa]
    by_cases b:q=j -1
    ·subst b;exact .inr ⟨n,bZ⟩
    ·rcases qy m i (j -1) y aa (lW.1 e).1 q l aa with a|⟨c,a⟩
     ·exact .inl a
     ·exact .inr ⟨c,dP _ a⟩
   ·rw[CX g d (xH f).1]
    by_cases b:q<k
    ·rcases qy m i k y aa (lW.1 e).1 q l b with a|⟨c,a⟩
     ·exact .inl a
     ·exact .inr ⟨c,mH _ a⟩
    ·rcases qy m k j z aa (lW.1 f).1 q aa o with a|⟨c,a⟩
     ·exact .inl a
     ·exact .inr ⟨c,mI _ a⟩
def Vk (c:x∈aX rs ts 0 j)(f:q<j)(d:ed ts q oD=false):decide ((q:Int)∈kH rs x)=decide (dF rs ((wT (eQ rs x (j:Int)) j).getD q 0)=2):=by
 have a:=yH _ 0 j x (aH _) c;rcases qy _ 0 j x (aH _) c q (dZ _) f with h|⟨n,h⟩
 ·rw[h] at d;cases d
 ·rw[BV a h];refine fE.2 ⟨λb=>?_,λb=>(Ex a _).2 ⟨_,h,b⟩⟩;obtain⟨m,g,i⟩:=(Ex a _).1 b;have e:=BV a h;rw[BV a g] at e;rw[<-e];exact i
def iQ (n:aG)(k:Nat):ByteArray×ByteArray:=
 if n.kind=5 then(wU,mM)
 else if n.kind=6 then(if k=1 then vG else jW,jW)
 else if n.kind=7 then(wV,dM) else if n.kind=8 then(wW,dV) else if n.kind=9 then(BL,jU)
 else if n.kind=10 then(n.text,jb)
 else if n.kind=12 then(eX,eX++jy (Lib.decDigits n.cols.toNat))
 else((if n.text.data.toList=[124,124] then vH else uH),ik++n.text)
def lM (n:aG)(ts:List aC):aC:=
 if n.kind=2 then .mk 2 n.text ⟨#[]⟩ ⟨#[]⟩ [] else if n.kind=3 then .mk 1 n.text ⟨#[]⟩ ⟨#[]⟩ [] else if n.kind=4 then .mk 3 n.text ⟨#[]⟩ ⟨#[]⟩ []
 else .mk 4 (iQ n ts.length).1 ⟨#[]⟩ (iQ n ts.length).2 ts
def iX (rs:List aD)(M:List aG->List Int->Nat->bO aC)(n:aG)(path:List Int)(op pre:Bool):bO (List aC):=
 if op=true then kF M path n.kids.tail 1 (if(dN rs n pre).isSome then 2 else 0)
 else match n.kids with
  |d::ks=>if n.kind=6/\d.kids.isEmpty=true then kF M path ks 1 0 else kF M path (d::ks) 0 0
  |[]=>.ok []
def eT (k:Int):ByteArray:=if k=7 then dM else if k=8 then dV else if k=9 then jU else⟨#[]⟩
def kR:aG:=.mk 0 ⟨#[]⟩ 0 []
def yK (rs:List aD)(nam:ByteArray)(k:Int)(p:Option (aG×List aC))(args:List aC):aC:=match p with
 |none=>.mk 4 nam ⟨#[]⟩ (iW k) args
 |some (n,ts)=>match dN rs n (decide (k=2)) with
  |none=>.mk 4 nam ⟨#[]⟩ (iW k++eT n.kind) (ts++args)
  |some v=>.mk 5 nam v (mh++eT n.kind) (ts++args)
mutual
def dO (rs:List aD)(items:List aG)(xs:List (List aC)):Rd->Int->aC
 | .mk r a ks,fin=>if r<0 then lM ((items[a.toNat]?).getD kR) ((xs[a.toNat]?).getD [])
  else yK rs (vX rs r) (dF rs r) (if 0<=eY rs (.mk r a ks) fin then some ((items[(eY rs (.mk r a ks) fin).toNat]?).getD kR,(xs[(eY rs (.mk r a ks) fin).toNat]?).getD []) else none) (lN rs items xs ks (iI rs (.mk r a ks) fin))
def lN (rs:List aD)(items:List aG)(xs:List (List aC)):List Rd->List Int->List aC
 |k::ks,e::es=>dO rs items xs k e::lN rs items xs ks es
 |_,_=>[]
end
def uM (rs:List aD)(M:List aG->List Int->Nat->bO aC)(path:List Int)(pb:Nat->Bool)(k:Nat):List aG->List ByteArray->Nat->bO (List (List aC))
 |n::ns,t::ts,i=>(iX rs M n (path++[((k+i:Nat):Int)]) (!decide (t.data.toList=[35])) (pb i)).then_ λp=>(uM rs M path pb k ns ts (i+1)).then_ λps=>.ok (p::ps)
 |_,_,_=>.ok []
def zP (rs:List aD)(t:ByteArray)(n:aG)(kd:Int)(ts:List aC):gP:=
 if t.data.toList=[35] then⟨lM n ts,[],⟨#[]⟩,⟨#[]⟩⟩ else if n.kind=2 then lZ else⟨pO,ts,nD n.kind,(dN rs n (decide (kd=2))).getD ⟨#[]⟩⟩
def BX (rs:List aD)(kd:Nat->Int):List aG->List ByteArray->List (List aC)->Nat->List gP
 |n::ns,t::ts,x::xs,i=>zP rs t n (kd i) x::BX rs kd ns ts xs (i+1)
 |_,_,_,_=>[]
def NT (rs:List aD)(kd:Nat->Int):∀(g:List aG) (ts:List ByteArray) (xs:List (List aC)) (i q:Nat) (n:aG) (t:ByteArray) (x:List aC),g[q]?=some n->ts[q]?=some t->xs[q]?=some x->(BX rs kd g ts xs i)[q]?=some (zP rs t n (kd (i+q)) x)
 |[],_,_,_,q,_,_,_,h,_,_=>by simp at h
 |_::_,[],_,_,q,_,_,_,_,h,_=>by simp at h
 |_::_,_::_,[],_,q,_,_,_,_,_,h=>by simp at h
 |a::g,b::ts,c::xs,i,0,n,t,x,d,e,f=>by
  rw[iD] at d e f;injection d with d;injection e with e;injection f with f;subst d;subst e;subst f;rfl
 |a::g,b::ts,c::xs,i,q+1,n,t,x,d,e,f=>by
  rw[eD] at d e f;rw[BX,eD,NT rs kd g ts xs (i+1) q n t x d e f,show i+1+q=i+(q+1) from aa]
def De {M:List aG->List Int->Nat->bO aC}{path:List Int}:∀{ks:List aG} {s b:Nat} {ts:List aC},kF M path ks s b= .ok ts->ts.length=ks.length
 |[],_,_,ts,h=>by rw[kF] at h;injection h with h;rw[<-h];rfl
 |n::d,s,b,ts,h=>by
  rw[kF] at h;cases c:M n.kids (path++[(s:Int)]) b with
  |bad e p=>rw[c] at h;cases h
  |ok t=>
   rw[c] at h;simp only[bO.then_] at h;cases a:kF M path d (s+1) 0 with
   |bad e p=>rw[a] at h;cases h
   |ok us=>
    rw[a] at h;simp only at h;injection h with h;rw[<-h,aY,aY,De a]
def nY (n:aG):Prop:=(n.kind=2\/n.kind=3\/n.kind=4->n.kids=[])/\(n.kind=6->n.kids.length=2)
def Vl {M:List aG->List Int->Nat->bO aC}(h:nY n):qH M n path=(iX rs M n path false pre).then_ λts=>.ok ⟨lM n ts,[],⟨#[]⟩,⟨#[]⟩⟩:=by
 unfold qH iX lM;rw[ai (by decide:¬(false=true))]
 by_cases a:n.kind=2
 ·rw[ak a,h.1 (.inl a)];simp only[bO.then_,ak a]
 rw[ai a]
 by_cases b:n.kind=3
 ·rw[ak b,h.1 (.inr (.inl b))];simp only[bO.then_,ak b,ai a]
 rw[ai b]
 by_cases f:n.kind=4
 ·rw[ak f,h.1 (.inr (.inr f))];simp only[bO.then_,ak f,ai a,ai b]
 rw[ai f];simp only[ai a,ai b,ai f]
 by_cases c:n.kind=6
 ·have j:=h.2 c
  match hq:n.kids with
  |[]=>rw[hq] at j;simp at j
  |d::l=>
   rw[hq,aY] at j;dsimp only;have g:∀m:Nat,(mo n=iQ n m)↔(if d.kids.isEmpty=true then vG else jW)=(if m=1 then vG else jW):=by
    intro m;unfold mo iQ;have o:¬n.kind=5:=aa
    rw[ai o,ak c,ai o,ak c,hq];dsimp only;rw[nP];exact⟨λe=>e.1,λe=>⟨e,rfl⟩⟩
   by_cases i:d.kids.isEmpty=true
   ·rw[ak ⟨c,i⟩];cases k:kF M path l 1 0 with
    |bad e p=>rfl
    |ok ts=>
     have:=De k;simp only[bO.then_];rw[(g ts.length).2 (by rw[ak i,ak aa])]
   ·rw[ai (λe=>i e.2)];cases k:kF M path (d::l) 0 0 with
    |bad e p=>rfl
    |ok ts=>
     have:=De k;rw[aY] at this;simp only[bO.then_];rw[(g ts.length).2 (by rw[ai i,ai aa])]
 ·have g:∀m:Nat,mo n=iQ n m:=by
   intro m;unfold mo iQ;rw[ai c,ai c]
  congr 1
  funext ts
  rw[g ts.length]
def Vm {M:List aG->List Int->Nat->bO aC}(h:nY n):lL rs M n path pre=(iX rs M n path true pre).then_ λts=>.ok (if n.kind=2 then lZ else⟨pO,ts,nD n.kind,(dN rs n pre).getD ⟨#[]⟩⟩):=by
 unfold lL iX;rw[ak rfl]
 by_cases a:n.kind=2
 ·rw[ak a,h.1 (.inl a),List.tail_nil,kF];simp only[bO.then_,ak a]
 ·rw[ai a];simp only[ai a]
def NU {rs:List aD}{M:List aG->List Int->Nat->bO aC}{path:List Int}{pb:Nat->Bool}{kd:Nat->Int}{k:Nat}:∀(a:List aG) (ts:List ByteArray) (i:Nat),(∀n∈a,nY n)->(∀(q:Nat) (t:ByteArray),ts[q]?=some t->t.data.toList≠[35]->pb (i+q)=decide (kd (i+q)=2))->
  pR rs M path kd k a ts i=(uM rs M path pb k a ts i).then_ λxs=>.ok (BX rs kd a ts xs i)
 |[],_,_,_,_=>by simp[pR,uM,bO.then_,BX]
 |_::_,[],_,_,_=>by simp[pR,uM,bO.then_,BX]
 |n::a,t::ts,i,b,c=>by
  have f:=NU (rs:=rs) (M:=M) (path:=path) (pb:=pb) (kd:=kd) (k:=k) a ts (i+1) (λm g=>b m (dP _ g)) (λq u j l=>by have:=c (q+1) u (by simpa using j) l;rw[show i+1+q=i+(q+1) from aa];exact this);rw[pR,uM,f];have d:=b n bZ;have o:(if t.data.toList=[35] then qH M n (path++[((k+i:Nat):Int)]) else lL rs M n (path++[((k+i:Nat):Int)]) (decide (kd i=2)))=(iX rs M n (path++[((k+i:Nat):Int)]) (!decide (t.data.toList=[35])) (pb i)).then_ λx=>.ok (zP rs t n (kd i) x):=by
   by_cases h:t.data.toList=[35]
   ·rw[ak h,aJ h,Bool.not_true,Vl (rs:=rs) (pre:=pb i) d]
    congr 1
    funext x
    unfold zP;rw[ak h]
   ·have:=c 0 t rfl h;rw[rF] at this;rw[ai h,aK h,ry,this,Vm d]
    congr 1
    funext x
    unfold zP;rw[ai h]
  rw[o];cases iX rs M n (path++[((k+i:Nat):Int)]) (!decide (t.data.toList=[35])) (pb i) with
  |bad e p=>rfl
  |ok x=>
   simp only[bO.then_];cases uM rs M path pb k a ts (i+1) with
   |bad e p=>rfl
   |ok xs=>simp only[BX]
def Vn {l:List UInt8}(h:mY l=true):l≠[]:=by
 rintro rfl;revert h;decide
def JD {p:Bool}{v:ByteArray}(h:dN rs n p=some v):v.data.toList≠[]/\(n.kind=7\/n.kind=9)/\p=true:=by
 unfold dN at h
 split at h
 ·next hk=>
  refine⟨?_,hk.2,hk.1⟩
  split at h
  ·unfold vY at h
   split at h
   ·split at h
    ·next hc=>injection h with h;rw[<-h];exact Vn hc.1.2.1
    ·cases h
   ·cases h
  ·cases h
 ·cases h
def Vo {kd:Int}{ts:List aC}{nam:ByteArray}{args:List aC}(e:t.data.toList≠[35])(f:n.kind=2\/fO n.kind=true)(g:n.kind=2->ts=[]):pQ nam kd (some (zP rs t n kd ts)) args=yK rs nam kd (some (n,ts)) args:=by
 unfold zP;rw[ai e]
 by_cases b:n.kind=2
 ·rw[ak b,g b];have a:dN rs n (decide (kd=2))=none:=by
   cases a:dN rs n (decide (kd=2)) with
   |none=>rfl
   |some v=>have:=(JD a).2.1;omega
  unfold pQ yK;dsimp only;rw[a,ak (by decide:lZ.vr.data.toList=[])];dsimp only;have c:eT n.kind=⟨#[]⟩:=by unfold eT;rw[ai aa,ai aa,ai aa]
  rw[c];rfl
 ·rw[ai b];have d:=f.resolve_left b;unfold fO at d;have h:=bD d;have c:eT n.kind=nD n.kind:=by
   unfold eT nD
   split
   ·rfl
   split
   ·rfl
   ·rw[ak aa]
  unfold pQ yK;dsimp only;rw[c];cases a:dN rs n (decide (kd=2)) with
  |none=>
   rw[ak aI]
  |some v=>
   rw[ai (by rw[fB];exact(JD a).1)];rfl
def Df {n:Nat}(b:rs[n]?=some u)(a:u.kind=1)(c:z.at_=((k+1:Nat):Int)):eY rs (.mk n i [y,z]) (j:Int)=(k:Int)/\iI rs (.mk n i [y,z]) (j:Int)=[(k:Int),(j:Int)]:=by
 unfold eY iI xL;rw[show Rd.rule (.mk n i [y,z])=(n:Int) from rfl,mZ b,ak a,ak a];show z.at_ -1=_/\[z.at_ -1,_]=_;rw[c,show(((k+1:Nat):Int) -1)=(k:Int) by omega];exact⟨rfl,rfl⟩
def Dg {n:Nat}(c:rs[n]?=some u)(a:u.kind=2):eY rs (.mk n i [y]) (j:Int)=(i:Int)/\iI rs (.mk n i [y]) (j:Int)=[(j:Int)]:=by
 have b:¬u.kind=1:=aa
 unfold eY iI;rw[show Rd.rule (.mk n i [y])=(n:Int) from rfl,mZ c,ai b,ak a,ai b,ak a];exact⟨rfl,rfl⟩
def Dh {n:Nat}(d:rs[n]?=some u)(a:u.kind=3)(f:0<j):eY rs (.mk n i [y]) (j:Int)=((j -1:Nat):Int)/\iI rs (.mk n i [y]) (j:Int)=[((j -1:Nat):Int)]:=by
 have b:¬u.kind=1:=aa
 have c:¬u.kind=2:=aa
 have e:(j:Int) -1=((j -1:Nat):Int):=aa
 unfold eY iI;rw[show Rd.rule (.mk n i [y])=(n:Int) from rfl,mZ d,ai b,ai c,ak a,ai b,ai c,ak a,e];exact⟨rfl,rfl⟩
def Di {n:Nat}(d:rs[n]?=some u)(f:u.kind=4)(e:z.at_=(k:Int)):eY rs (.mk n i [y,z]) (j:Int)= -1/\iI rs (.mk n i [y,z]) (j:Int)=[(k:Int),(j:Int)]:=by
 have a:¬u.kind=1:=aa
 have b:¬u.kind=2:=aa
 have c:¬u.kind=3:=aa
 unfold eY iI xL;rw[show Rd.rule (.mk n i [y,z])=(n:Int) from rfl,mZ d,ai a,ai b,ai c,ai a,ai b,ai c];show _/\[z.at_,_]=_;rw[e];exact⟨rfl,rfl⟩
def zQ (rs:List aD)(ps:List gP)(r a:Int)(ks:List Rd)(e:Int):mi rs ps (.mk r a ks) e=if r<0 then(match ps[a.toNat]? with
   |some p=>p.opnd
   |none=>pO) else pQ (vX rs r) (dF rs r) (if 0<=eY rs (.mk r a ks) e then ps[(eY rs (.mk r a ks) e).toNat]? else none) (iF rs ps ks (iI rs (.mk r a ks) e)):=by
 rw[mi];rfl
def xg (rs:List aD)(items:List aG)(xs:List (List aC))(r a:Int)(ks:List Rd)(fin:Int):dO rs items xs (.mk r a ks) fin=if r<0 then lM ((items[a.toNat]?).getD kR) ((xs[a.toNat]?).getD [])
  else yK rs (vX rs r) (dF rs r) (if 0<=eY rs (.mk r a ks) fin then some ((items[(eY rs (.mk r a ks) fin).toNat]?).getD kR,(xs[(eY rs (.mk r a ks) fin).toNat]?).getD []) else none) (lN rs items xs ks (iI rs (.mk r a ks) fin)):=by rw[dO]
def NV (rs:List aD)(ts:List ByteArray)(items:List aG)(xs:List (List aC))(ps:List gP)(kd:Nat->Int)(m:Nat):Prop:=∀q,q<m->∃n t x,items[q]?=some n/\ts[q]?=some t/\xs[q]?=some x/\ps[q]?=some (zP rs t n (kd q) x)/\(t.data.toList≠[35]->(n.kind=2\/fO n.kind=true)/\(n.kind=2->x=[]))
def Dj (h:ts[q]?=some t)(s:List UInt8):ed ts q s=decide (t.data.toList=s):=by
 unfold ed;rw[h];dsimp only;rw[bz,fI,aT,rq]
def NW (b:fZ rs=true){n:Nat}(c:rs[n]?=some u):u.sym.toList≠[35]:=by
 have h:=Fe b c;intro e;rcases Ia h with a|a|a|⟨_,a⟩
 ·unfold ni at h;rw[ak a,e] at h;simp only[aM] at h;exact absurd h.2.2.2.2 aI
 ·unfold ni at h;rw[ai aa,ak a,e] at h;simp only[aM] at h;exact absurd h.2.2.2.2.1 aI
 ·unfold ni at h;rw[ai aa,ai aa,ak a,e] at h;simp only[aM] at h;exact absurd h.2.2.2.2.1 aI
 ·rw[a] at e;cases e
def BZ {rs:List aD}(r:fZ rs=true){ts:List ByteArray}{items:List aG}{xs:List (List aC)}{ps:List gP}{kd:Nat->Int}:∀(m i j:Nat) (x:Rd),j -i<=m->NV rs ts items xs ps kd j->x∈aX rs ts i j->(∀p∈eQ rs x (j:Int),kd p.1.toNat=dF rs p.2)->mi rs ps x (j:Int)=dO rs items xs x (j:Int)
 |0,i,j,x,Q,_,h=>av (sD h)
 |m+1,i,j,x,Q,A,h=>by
  intro b;have R:=sD h;have sub:∀D,D<=j->NV rs ts items xs ps kd D:=λD W q L=>A q aa
  have E:∀(q n:Nat) (u:aD),q<j->rs[n]?=some u->ed ts q u.sym.toList=true->((q:Int),(n:Int))∈eQ rs x (j:Int)->∀F M:List aC,F=M->pQ (vX rs n) (dF rs n) (ps[q]?) F=yK rs (vX rs n) (dF rs n) (some ((items[q]?).getD kR,(xs[q]?).getD [])) M:=by
   rintro q n u L a o S F _ rfl;obtain⟨N,t,O,G,H,B,C,I⟩:=A q L;rw[Dj H] at o;have J:t.data.toList≠[35]:=by rw[bD o];exact NW r a
   have T:kd q=dF rs n:=by have:=b _ S;rwa [fU] at this
   rw[C,G,B,T,fB,fB];exact Vo J (I J).1 (I J).2
  rcases(AX R).1 h with⟨rfl,P,rfl⟩|⟨n,u,a,U⟩
  ·obtain⟨N,t,O,G,H,B,C,I⟩:=A i aa;rw[Dj H] at P;have V:t.data.toList=[35]:=bD P;rw[zQ,xg,ak aI,ak aI,fU,C,G,B,fB,fB];show(zP rs t N (kd i) O).opnd=_;unfold zP;rw[ak V]
  ·rcases U with⟨d,k,y,z,B,C,o,s,v,rfl⟩|⟨d,y,o,s,rfl⟩|⟨d,y,o,s,rfl⟩|⟨d,k,y,z,B,C,s,v,rfl⟩
   ·have l:=CU (i:=i) (j:=j) (y:=y) a d (xH v).1;have e:¬((n:Int)<0):=by omega
    have f:=Df (i:=i) (j:=j) (y:=y) a d (xH v).1;rw[zQ,xg,ai e,ai e,f.1,f.2,ak (jf _),ak (jf _),fU];refine E k n u aa a o (by rw[l];exact bZ) _ _ ?_;rw[l] at b;have w:=BZ r m i k y aa (sub k aa) (lW.1 s).1 λp g=>b p (dP _ (mH _ g))
    have K:=BZ r m (k+1) j z aa A (lW.1 v).1 λp g=>b p (dP _ (mI _ g))
    simp only[iF,lN,w,K]
   ·have l:=CV (i:=i) (j:=j) (y:=y) a d;have e:¬((n:Int)<0):=by omega
    have f:=Dg (i:=i) (j:=j) (y:=y) a d;rw[zQ,xg,ai e,ai e,f.1,f.2,ak (jf _),ak (jf _),fU];refine E i n u aa a o (by rw[l];exact bZ) _ _ ?_;rw[l] at b;have w:=BZ r m (i+1) j y aa A (lW.1 s).1 λp g=>b p (dP _ g)
    simp only[iF,lN,w]
   ·have l:=CW (i:=i) (j:=j) (y:=y) a d aa;have e:¬((n:Int)<0):=by omega
    have f:=Dh (i:=i) (j:=j) (y:=y) a d aa;rw[zQ,xg,ai e,ai e,f.1,f.2,ak (jf _),ak (jf _),fU];refine E (j -1) n u aa a o (by rw[l];exact bZ) _ _ ?_;rw[l] at b;have w:=BZ r m i (j -1) y aa (sub _ aa) (lW.1 s).1 λp g=>b p (dP _ g)
    simp only[iF,lN,w]
   ·have l:=CX (i:=i) (j:=j) (y:=y) a d (xH v).1;have e:¬((n:Int)<0):=by omega
    have f:=Di (i:=i) (j:=j) (y:=y) a d (xH v).1;rw[zQ,xg,ai e,ai e,f.1,f.2,ai (c:=0<=(-1:Int)) aa,ai (c:=0<=(-1:Int)) aa];rw[l] at b;have w:=BZ r m i k y aa (sub k aa) (lW.1 s).1 λp g=>b p (mH _ g)
    have K:=BZ r m k j z aa A (lW.1 v).1 λp g=>b p (mI _ g)
    simp only[iF,lN,w,K];rfl
def Ey {rs:List aD}:∀{l:List aG} {ts:List ByteArray},jP rs l= .inl ts->∀(q:Nat) (n:aG),l[q]?=some n->ts[q]?=some (iM rs n)/\ma rs n=true
 |[],ts,h,q,n,a=>by simp at a
 |x::l,ts,h,q,n,a=>by
  simp only[jP,FU] at h;cases b:ma rs x with
  |false=>rw[b] at h;simp at h
  |true=>
   rw[b,ak rfl] at h;dsimp only at h;cases c:jP rs l with
   |inr j=>rw[c] at h;cases h
   |inl us=>
    rw[c] at h;simp only[rJ] at h;subst h;cases q with
    |zero=>
     rw[iD] at a⊢;injection a with a;subst a;exact⟨rfl,b⟩
    |succ q=>
     rw[eD] at a⊢;exact Ey c q n a
def JE (h:(iM rs n).data.toList≠[35]):oh rs n=true:=by
 unfold iM at h
 split at h
 ·assumption
 ·exact absurd rfl h
def NY (h:oh rs n=true):n.kind=2\/fO n.kind=true:=by
 unfold oh at h;rw[aM,eF] at h;cases a:fO n.kind with
 |true=>exact .inr rfl
 |false=>rw[Jb a] at h;exact .inl h.1
end Go.Proofs.YtlefbenkhgbifaaGreatDoor.El
