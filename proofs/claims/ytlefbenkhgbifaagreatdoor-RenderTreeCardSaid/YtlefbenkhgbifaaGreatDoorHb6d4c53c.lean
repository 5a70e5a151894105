/- form, Valid and ValidItems of the reference. -/
import Derived.Lib.IndexBytes
import Derived.Test.YtlefbenkhgbifaaGreatDoorH8cbef255
set_option linter.all false
set_option maxRecDepth 100000
set_option maxHeartbeats 2000000
namespace Go.Proofs.YtlefbenkhgbifaaGreatDoor.At
open Go.Shelf Go.RowKit Go.Lib Tryz
variable {P : Program} {ρ : Ren}
def TC (L:Lays.n220 P ρ)(s:ByteArray)(c:UInt8)(w:World)(B:s.size<=9223372036854775807):
  Calls P (ρ.f 220) #[af s,af ⟨#[c]⟩] w λe w'=>e= .returned (.tuple #[af ⟨(Lib.cut s.data.toList [c]).1.toArray⟩,af ⟨(Lib.cut s.data.toList [c]).2.1.toArray⟩,.bool (Lib.cut s.data.toList [c]).2.2])/\∃n,w'=w.drewN n:=by
 rcases Lib.indexB_cases s ⟨#[c]⟩ with a|⟨i,a,j⟩
 ·obtain⟨b,d,f⟩:=Lib.cutB_miss s ⟨#[c]⟩ a;rw[show[c]=(⟨#[c]⟩:ByteArray).data.toList from rfl,b,d,f];have g:=ah (Lib.indexByte s.data.toList c=_) ((Lib.index_one s.data.toList c).symm.trans a);clear b d f a;have k:=L.t3;have l:=L.t4;have m:=L.t9;have o:∀w,(isAgg (ρ.t 3)).run P w= .ok false w:=run_isAgg_plain L.t3 rfl;have p:∀w,(isAgg (ρ.t 4)).run P w= .ok false w:=run_isAgg_plain L.t4 rfl;have q:∀w,(isAgg (ρ.t 9)).run P w= .ok false w:=run_isAgg_plain L.t9 rfl;have r:∀args w,(callFunc (ρ.f 219) args).run P w= .ok (.enter (ρ.f 219) args) w:=enters_of L.f219 aj rfl;have t:=L.mixed;have u:=L.z3;have v:=L.v3;have x:=L.z4;have y:=L.v4;have z:=L.z9;have A:=L.v9;go_enter L.f220,Body.n220_ntmps ρ;go_wp2_with (go_at_fn (ρ.f 219);refine(Any.stringslite_Index_one {L with} _ _ _).mono ?_;rintro e w' ⟨rfl,rfl⟩;rw[g.o])
  go_ret3
  exact⟨rfl,0,rfl⟩
 ·obtain⟨b,d,f⟩:=Lib.cutB_hit s ⟨#[c]⟩ i a;rw[show[c]=(⟨#[c]⟩:ByteArray).data.toList from rfl,b,d,f];have g:=ah (Lib.indexByte s.data.toList c=_) ((Lib.index_one s.data.toList c).symm.trans a);clear b d f a;have h:(⟨#[c]⟩:ByteArray).size=1:=rfl;rw[h] at j;have C:(0:Int)<=↑i:=by omega
  have D:(↑i:Int)<=↑s.size:=aa
  have E:(0:Int)<=↑i+1:=aa
  have F:(↑i+1:Int)<=↑s.size:=aa
  clear h;have k:=L.t3;have l:=L.t4;have m:=L.t9;have o:∀w,(isAgg (ρ.t 3)).run P w= .ok false w:=run_isAgg_plain L.t3 rfl;have p:∀w,(isAgg (ρ.t 4)).run P w= .ok false w:=run_isAgg_plain L.t4 rfl;have q:∀w,(isAgg (ρ.t 9)).run P w= .ok false w:=run_isAgg_plain L.t9 rfl;have r:∀args w,(callFunc (ρ.f 219) args).run P w= .ok (.enter (ρ.f 219) args) w:=enters_of L.f219 aj rfl;have t:=L.mixed;have u:=L.z3;have v:=L.v3;have x:=L.z4;have y:=L.v4;have z:=L.z9;have A:=L.v9;go_enter L.f220,Body.n220_ntmps ρ;go_wp2_with (go_at_fn (ρ.f 219);refine(Any.stringslite_Index_one {L with} _ _ _).mono ?_;rintro e w' ⟨rfl,rfl⟩;rw[g.o])
  go_region_o
  go_wp2
  go_ret3
  exact⟨rfl,1,rfl⟩
def TD (L:Lays.n145 P ρ)(s:ByteArray)(c:UInt8)(w:World)(a:s.size<=9223372036854775807):
  Calls P (ρ.f 145) #[af s,af ⟨#[c]⟩] w λe w'=>e= .returned (.tuple #[af ⟨(Lib.cut s.data.toList [c]).1.toArray⟩,af ⟨(Lib.cut s.data.toList [c]).2.1.toArray⟩,.bool (Lib.cut s.data.toList [c]).2.2])/\∃n,w'=w.drewN n:=by
 have b:=L.t4;have d:=L.t9;have f:=L.t59;have g:∀w,(isAgg (ρ.t 4)).run P w= .ok false w:=run_isAgg_plain L.t4 rfl;have h:∀w,(isAgg (ρ.t 9)).run P w= .ok false w:=run_isAgg_plain L.t9 rfl;have i:∀w,(isAgg (ρ.t 59)).run P w= .ok false w:=run_isAgg_plain L.t59 rfl;have j:∀args w,(callFunc (ρ.f 220) args).run P w= .ok (.enter (ρ.f 220) args) w:=enters_of L.f220 aj rfl;have k:=L.mixed;have l:=L.z4;have m:=L.v4;have o:=L.z9;have p:=L.v9;have q:=L.z59;have r:=L.v59;go_enter L.f145,Body.n145_ntmps ρ;go_wp2_with (go_at_fn (ρ.f 220);refine(TC {L with} _ _ _ a).mono ?_;rintro e w' ⟨rfl,n,rfl⟩)
 go_ret3
 exact⟨rfl,n,rfl⟩
end Go.Proofs.YtlefbenkhgbifaaGreatDoor.At
namespace Go.Proofs
open YtlefbenkhgbifaaGreatDoor
open Go.RowKit Tryz
def Tryz.zKz (s:ByteArray)(c:UInt8)(w:World)(a:s.size<=9223372036854775807):
  Calls prog 139 #[af s,af ⟨#[c]⟩] w λe w'=>e= .returned (.tuple #[af ⟨(Lib.cut s.data.toList [c]).1.toArray⟩,af ⟨(Lib.cut s.data.toList [c]).2.1.toArray⟩,.bool (Lib.cut s.data.toList [c]).2.2])/\∃n,w'=w.drewN n:=YtlefbenkhgbifaaGreatDoor.At.TD Tryz.lays145 s c w a
end Go.Proofs
namespace Go.Proofs.YtlefbenkhgbifaaGreatDoor.At
open Tryz
end Go.Proofs.YtlefbenkhgbifaaGreatDoor.At
namespace Go.Proofs.YtlefbenkhgbifaaGreatDoor.At
open Go.RowKit Tryz
variable{w:World}{t x:aG}{k n i:Nat}{s:ByteArray}{ks ts:List aG}{A:Option Addr}{q:Int}
inductive lX (w:World):aG->Array Value->Prop
 |mk (k:Int) (s:ByteArray) (c:Int) (ks:List aG) (A:Option Addr) (cap:Nat) (ad:Addr) (cs:Nat->Array Value) (hs:s.size<=9223372036854775807) (hn:ks.length<=cap) (hc:cap<=9223372036854775807)
   (hA:ks=[]\/(A=some ad/\ad.block<w.heap.size)) (hcell:∀i,i<ks.length->∀j,j<4->w.cell? (ad.add (i*4+j))=(cs i)[j]?)
   (hk:∀(i:Nat) (h:i<ks.length),lX w ks[i] (cs i)):lX w (.mk k s c ks) #[qI k,af s,qI c,.slice A ks.length cap]
def mO (w:World)(A:Option Addr)(ts:List aG):Prop:=∀(i:Nat) (t:aG),ts[i]?=some t->∃ad:Addr,A=some ad/\ad.block<w.heap.size/\∃c,lX w t c/\∀j,j<4->w.cell? (ad.add (i*4+j))=c[j]?
def yG (a:Addr)(n:Nat):(a.add n).block=a.block:=by unfold Addr.add;split<;>rfl
def lX.keep {w':World}(b:Below w.heap.size w w'){c:Array Value}(h:lX w t c):lX w' t c:=by
 induction h with
 |mk k s c ks A g l m n o p d q v r=>
  refine .mk k s c ks A g l m n o p (d.imp id λ⟨e,a⟩=>⟨e,bf a b.size⟩) (λi f j u=>?_) r;rcases d with h|⟨e,a⟩
  ·subst h;simp at f
  ·rw[b.cell (by rw[yG];exact a)];exact q i f j u
def mO.keep {w w':World}(a:Below w.heap.size w w'){A:Option Addr}{ts:List aG}(h:mO w A ts):mO w' A ts:=λi t d=>by
 obtain⟨e,f,b,c,g,k⟩:=h i t d;exact⟨e,f,bf b a.size,c,g.keep a,λj l=>by rw[a.cell (by rw[yG];exact b)];exact k j l⟩
def lX.form {c:Array Value}(h:lX w t c):∃A cap,c=(qC t A cap)/\t.text.size<=9223372036854775807/\t.kids.length<=cap/\cap<=9223372036854775807/\mO w A t.kids:=by
 cases h with
 |mk k s c ks A cap b d e f g j l m=>
  refine⟨A,cap,rfl,e,f,g,λi t n=>?_⟩;obtain⟨a,rfl⟩:=bP.1 n;rcases j with h|⟨o,p⟩
  ·rw[show(aG.mk k s c ks).kids=ks from rfl] at a;subst h;simp at a
  ·exact⟨b,o,p,d i,m i a,l i a⟩
def lX.of {k:Int}{c:Int}{cap:Nat}(e:s.size<=9223372036854775807)(f:ks.length<=cap)(g:cap<=9223372036854775807)(h:mO w A ks):lX w (.mk k s c ks) #[qI k,af s,qI c,.slice A ks.length cap]:=by
 cases ks with
 |nil=>exact .mk k s c [] A cap ⟨0,0,none⟩ (λ_=> #[]) e f g (.inl rfl) (λi a=>by simp at a) (λi a=>by simp at a)
 |cons t ts=>
  obtain⟨l,m,n,_⟩:=h 0 t rfl;have d:∀i,∃b:Array Value,∀(a:i<(t::ts).length),lX w (t::ts)[i] b/\∀j,j<4->w.cell? (l.add (i*4+j))=b[j]?:=λi=>by
   by_cases a:i<(t::ts).length
   ·obtain⟨r,o,_,b,p,q⟩:=h i _ (gE a);obtain rfl:=sj (m.symm.trans o);exact⟨b,λ_=>⟨p,q⟩⟩
   ·exact⟨#[],λh=>absurd h a⟩
  exact .mk k s c (t::ts) A cap l (λi=>(d i).choose) e f g (.inr ⟨m,n⟩) (λi a=>((d i).choose_spec a).2) (λi a=>((d i).choose_spec a).1)
def uU {a:Addr}{j:Nat}{v:Option Value}(h:w.cell? (a.add (n+(j+1)))=v):w.cell? ⟨(a.add n).block,(a.add n).off+(j+1),none⟩=v:=by
 rw[<-oO] at h;unfold Addr.add at h⊢
 simpa using h
def mO.at_ (h:mO w A ts)(g:ts[i]?=some t):
  ∃a d b,A=some a/\a.block<w.heap.size/\t.text.size<=9223372036854775807/\t.kids.length<=b/\b<=9223372036854775807/\mO w d t.kids/\lX w t (qC t d b)/\w.cell? (a.add (i*4))=some (qI t.kind)/\w.cell? ⟨(a.add (i*4)).block,(a.add (i*4)).off+1,none⟩=some (af t.text)/\w.cell? ⟨(a.add (i*4)).block,(a.add (i*4)).off+2,none⟩=some (qI t.cols)/\w.cell? ⟨(a.add (i*4)).block,(a.add (i*4)).off+3,none⟩=some (.slice d t.kids.length b):=by
 obtain⟨a,k,l,c,f,e⟩:=h i t g;obtain⟨d,b,rfl,m,n,o,p⟩:=f.form;exact⟨a,d,b,k,l,m,n,o,p,f,e 0 aa,uU (j:=0) (e 1 aa),uU (j:=1) (e 2 aa),uU (j:=2) (e 3 aa)⟩
def TE (l:List UInt8):(⟨l.toArray⟩:ByteArray).toList=l:=by rw[bz]
def size_mk (l:List UInt8):(⟨l.toArray⟩:ByteArray).size=l.length:=by simp[ByteArray.size]
def TF (l:List UInt8):(Lib.cut l [46]).1.length<=l.length/\(Lib.cut l [46]).2.1.length<=l.length:=by
 rcases Lp 46 l with h|⟨a,b,rfl,h⟩
 ·rw[Lm 46 h];simp
 ·rw[Ll 46 h];simp;omega
def MP (s:ByteArray)(w:World)(m:s.size<=9223372036854775807):Calls prog 103 #[af s] w λe w'=>e= .returned (.bool (oG s.data.toList))/\Below w.heap.size w w':=by
 have g:s.data.toList.length=s.size:=aS
 obtain⟨o,q⟩:=TF s.data.toList;have c:=ah (oG s.data.toList=(decide (s.size<=20)&&(yB (Lib.cut s.data.toList [46]).1&&(!(Lib.cut s.data.toList [46]).2.2||yB (Lib.cut s.data.toList [46]).2.1)))) (by unfold oG;rw[g]);have i:=zh (Tryz.zKz s 46 w m);rw[g] at o q;clear g;generalize (Lib.cut s.data.toList [46]).1=a at*;generalize (Lib.cut s.data.toList [46]).2.1=b at*;generalize (Lib.cut s.data.toList [46]).2.2=p at*;have j:=zh (λh=>MO (⟨a.toArray⟩:ByteArray) h (by rw[size_mk];omega));have k:=zh (λh=>MO (⟨b.toArray⟩:ByteArray) h (by rw[size_mk];omega));rw[TE] at j k
 by_cases l:s.size<=20
 ·rw[aJ l,aW] at c;go_enter func103,ntmps103;go_wp2_with fail;refine i.o.mono ?_;rintro e w' ⟨rfl,n,rfl⟩;go_wp2_with fail;refine(j.o _).mono ?_;rintro e w' ⟨rfl,rfl⟩;cases f:yB a
  ·rw[f] at c;clear f;go_wp2;go_ret;exact⟨aU (by rw[c.o];rfl),below_drewN (aL _ _) n⟩
  ·rw[f,aW] at c;clear f;cases p
   ·go_wp2;go_ret;exact⟨aU (by rw[c.o];rfl),below_drewN (aL _ _) n⟩
   ·rw[Bool.not_true,ow] at c;go_wp2_with fail;refine(k.o _).mono ?_;rintro e w' ⟨rfl,rfl⟩;generalize yB b=d at*;go_wp2;go_ret;exact⟨aU (by rw[c.o]),below_drewN (aL _ _) n⟩
 ·rw[aK l,bL] at c;go_enter func103,ntmps103;go_wp2_with fail;refine i.o.mono ?_;rintro e w' ⟨rfl,n,rfl⟩;go_wp2;go_ret;exact⟨aU (by rw[c.o]),below_drewN (aL _ _) n⟩
def MQ (c:UInt8):decide (0<=Lib.indexByte [40,41,91,93,123,125,60,62,47,124,46] c)=lI AY c:=by
 have h:∀n:Nat,n<256->decide (0<=Lib.indexByte [40,41,91,93,123,125,60,62,47,124,46] (UInt8.ofNat n))=lI AY (UInt8.ofNat n):=dW
 have:=h c.toNat c.toNat_lt
 rwa [UInt8.ofNat_toNat] at this
def two_bytes (s:ByteArray)(h:s.size=2):∃a b:UInt8,s=⟨#[a,b]⟩:=by
 obtain⟨⟨l⟩⟩:=s
 match l,h with
 |[a,b],_=>exact⟨a,b,rfl⟩
 |[],h=>simp[ByteArray.size] at h
 |[_],h=>simp[ByteArray.size] at h
 |_::_::_::_,h=>simp[ByteArray.size] at h
def MR (a b:UInt8):Bu (⟨#[a,b]⟩:ByteArray).data.toList=(lI AY a&&lI AY b):=rfl
def MS (h:s.size≠2):Bu s.data.toList=false:=by
 have c:s.data.toList.length=s.size:=aS
 unfold Bu
 split
 ·rename_i a b d
  rw[d] at c;simp at c;omega
 ·rfl
def TG (s:ByteArray)(w:World):Calls prog 105 #[af s] w λe w'=>e= .returned (.bool (Bu s.data.toList))/\Below w.heap.size w w':=by
 by_cases h:s.size=2
 ·obtain⟨a,b,rfl⟩:=two_bytes s h;clear h;rw[MR];have c:=zh (Tryz.strings_IndexByte ⟨#[40,41,91,93,123,125,60,62,47,124,46]⟩ a.toNat);have d:=zh (Tryz.strings_IndexByte ⟨#[40,41,91,93,123,125,60,62,47,124,46]⟩ b.toNat);have f:=zh (MQ a);have g:=zh (MQ b);rw[show((a.toNat:Int).toNat.toUInt8)=a by simp,show(⟨#[40,41,91,93,123,125,60,62,47,124,46]⟩:ByteArray).data.toList=[40,41,91,93,123,125,60,62,47,124,46] from rfl] at c;rw[show((b.toNat:Int).toNat.toUInt8)=b by simp,show(⟨#[40,41,91,93,123,125,60,62,47,124,46]⟩:ByteArray).data.toList=[40,41,91,93,123,125,60,62,47,124,46] from rfl] at d;generalize Lib.indexByte [40,41,91,93,123,125,60,62,47,124,46] a=x at*;generalize Lib.indexByte [40,41,91,93,123,125,60,62,47,124,46] b=y at*;go_enter func105,ntmps105;go_wp2_with fail;refine(c.o _).mono ?_;rintro e w' ⟨rfl,rfl⟩
  by_cases i:0<=x
  ·go_wp2_with fail;refine(d.o _).mono ?_;rintro e w' ⟨rfl,rfl⟩;go_wp2;go_ret;exact⟨aU (by rw[<-f.o,<-g.o,aJ i,aW]),aL _ _⟩
  ·go_wp2;go_ret;exact⟨aU (by rw[<-f.o,aK aa,bL]),aL _ _⟩
 ·have j:=zh (MS h);have k:((s.size:Int)==2)=false:=by rw[aZ];omega
  clear h;go_enter func105,ntmps105;go_wp2;go_ret;exact⟨aU j.o.symm,aL _ _⟩
def wP {k:IntKind}{a b:Int}(h:a=b):Ending.returned (.int k a)= .returned (.int k b):=by rw[h]
def Eh (h:ks[i]?=some t):dK t<=bK ks:=by
 induction ks generalizing i with
 |nil=>simp at h
 |cons x r a=>
  rw[bK];cases i with
  |zero=>simp at h;subst h;omega
  |succ i=>have:=a (i:=i) (by simpa using h);omega
def yc (s:ByteArray)(j:Nat)(h:j<s.size):Prop:=(s[j]=46/\0<j/\j+1<s.size)\/qi s[j]=true
def CR (s:ByteArray)(j:Nat)(h:j<s.size):s.data.toList[j]?=some s[j]:=by
 rw[gE (by simpa using h)];rfl
def TH (H:∀(j:Nat) (b:j<s.size),yc s j b):vB s.data.toList=(decide (0<s.size)&&(decide (s.size<=20)&&decide (s.data.toList.count 46<=1))):=by
 have d:s.data.toList.length=s.size:=aS
 unfold vB;have f:s.data.toList.all (λc=>c==46||qi c)=true:=by
  rw[cz];intro x g;obtain⟨j,b,rfl⟩:=List.mem_iff_getElem.1 g;rcases H j aa with⟨h,_⟩|h
  ·rw[kT];exact .inl (by rw[aT];exact h)
  ·rw[kT];exact .inr h
 have i:s.data.toList.head?≠some 46:=by
  intro e;rw[List.head?_eq_getElem?] at e;have a:0<s.size:=by
   rcases oP s.size with a|a
   ·rw[ko aa] at e;cases e
   ·exact a
  rw[CR s 0 a] at e;rcases H 0 a with⟨_,h,_⟩|h
  ·omega
  ·exact Ic _ h (sj e)
 have k:s.data.toList.getLast?≠some 46:=by
  intro e;rw[List.getLast?_eq_getElem?,d] at e;have a:0<s.size:=by
   rcases oP s.size with a|a
   ·rw[ko aa] at e;cases e
   ·exact a
  rw[CR s (s.size -1) aa] at e;rcases H (s.size -1) aa with⟨_,_,h⟩|h
  ·omega
  ·exact Ic _ h (sj e)
 rw[f,aJ i,aJ k,d];rfl
def MU (a:k<s.size)(h:¬yc s k a):vB s.data.toList=false:=by
 have g:s.data.toList.length=s.size:=aS
 unfold yc at h;unfold vB
 by_cases b:s[k]=46
 ·have f:k=0\/k+1=s.size:=by
   rcases oP k with d|d
   ·exact .inl d
   ·exact .inr (oC λm=>h (.inl ⟨b,d,aa⟩))
  rcases f with rfl|f
  ·have i:s.data.toList.head?=some 46:=by rw[List.head?_eq_getElem?,CR s 0 a,b]
   rw[i];simp
  ·have j:s.data.toList.getLast?=some 46:=by rw[List.getLast?_eq_getElem?,g,show s.size -1=k from aa,CR s k a,b]
   rw[j];simp
 ·have e:qi s[k]=false:=by
   cases e:qi s[k]
   ·rfl
   ·exact absurd (.inr e) h
  have l:s.data.toList.all (λc=>c==46||qi c)=false:=by
   rw[uY];refine⟨s[k],dQ (CR s k a),?_⟩;rw[e,aZ.2 b];simp
  rw[l];rfl
def IV (a:k<s.size):(s.data.toList.take (k+1)).count 46=(s.data.toList.take k).count 46+(if s[k]=46 then 1 else 0):=by
 rw[dA,CR s k a,Option.toList,List.count_append,List.count_singleton]
 by_cases h:s[k]=46<;>simp[h]
def MV (s:ByteArray)(w:World)(F:s.size<=9223372036854775807):Calls prog 113 #[af s] w λe w'=>e= .returned (.bool (vB s.data.toList))/\w=w':=by
 have z:s.data.toList.length=s.size:=aS
 have A:=zh z;clear z;go_enter func113,ntmps113;go_wp2_with fail
 go_loop [3,4] (λp i=>∃k c:Nat,k<=s.size/\c<=k/\i=qI k/\p=qI c/\Hy (c=(s.data.toList.take k).count 46)/\Hy (∀(j:Nat) (f:j<s.size),j<k->yc s j f)) (λ_ i=>s.size -(intOf i).toNat)
 case atStart=>exact⟨0,0,aa,aa,rfl,rfl,rfl,λj _ h=>aa⟩
 case round=>
  obtain⟨k,c,G,H,rfl,rfl,n,t⟩:=hrel
  by_cases o:k<s.size
  ·have B:=zh (IV o)
   by_cases d:s[k]=46
   ·have E:((s[k].toNat:Int)==46)=true:=by rw[d];rfl
    have g:=ah (qi s[k]=false) (by rw[d];rfl)
    by_cases u:0<k/\k+1<s.size
    ·obtain⟨m,C⟩:=u;have I:(k:Int)<(s.size:Int) -1:=by omega
     have x:=ah (yc s k o) (.inl ⟨d,m,C⟩);have y:=ah (c+1=(s.data.toList.take (k+1)).count 46) (by rw[B.o,<-n.o,ak d]);clear d;go_wp2;go_round
     case rel=>exact⟨k+1,c+1,aa,aa,bi,bi,y,λj f h=>by
      rcases bu j k with q|q
      ·exact t.o j f q
      ·obtain rfl:j=k:=by omega
       exact x.o⟩
     case measure=>simp[intOf];omega
    ·have v:=zh (MU o (λh=>by
      rcases h with⟨_,a,b⟩|h
      ·exact u ⟨a,b⟩
      ·rw[g.o] at h;cases h))
     clear d
     by_cases m:0<k
     ·have C:¬(k:Int)<(s.size:Int) -1:=by omega
      clear u;go_wp2_with fail;refine(FM s[k] _).mono ?_;rintro e w' ⟨rfl,rfl⟩;rw[g.o];go_wp2;go_ret;exact⟨aU v.o.symm,rfl⟩
     ·clear u;go_wp2_with fail;refine(FM s[k] _).mono ?_;rintro e w' ⟨rfl,rfl⟩;rw[g.o];go_wp2;go_ret;exact⟨aU v.o.symm,rfl⟩
   ·have E:((s[k].toNat:Int)==46)=false:=by
     rw[aZ];intro e;apply d;exact UInt8.toNat_inj.1 (show s[k].toNat=46 from aa)
    cases r:qi s[k]
    ·have g:=zh r;have v:=zh (MU o (λh=>by
      rcases h with⟨a,_⟩|h
      ·exact d a
      ·rw[g.o] at h;cases h))
     clear d r;go_wp2_with fail;refine(FM s[k] _).mono ?_;rintro e w' ⟨rfl,rfl⟩;rw[g.o];go_wp2;go_ret;exact⟨aU v.o.symm,rfl⟩
    ·have g:=zh r;have x:=ah (yc s k o) (.inr r);have y:=ah (c=(s.data.toList.take (k+1)).count 46) (by rw[B.o,<-n.o,ai d];rfl);clear d r;go_wp2_with fail;refine(FM s[k] _).mono ?_;rintro e w' ⟨rfl,rfl⟩;rw[g.o];go_wp2;go_round
     case rel=>exact⟨k+1,c,aa,aa,bi,rfl,y,λj f h=>by
      rcases bu j k with q|q
      ·exact t.o j f q
      ·obtain rfl:j=k:=by omega
       exact x.o⟩
     case measure=>simp[intOf];omega
  ·obtain rfl:k=s.size:=by omega
   have l:=zh (TH (s:=s) λj f=>t.o j f f);rw[show s.data.toList.take s.size=s.data.toList by rw[<-A.o];exact bW] at n;rw[<-n.o] at l;clear A n t
   by_cases m:0<s.size
   ·by_cases D:s.size<=20
    ·rw[aJ m,aJ D] at l;go_wp2;go_ret;exact⟨aU (by rw[l.o];simp;omega),rfl⟩
    ·rw[aJ m,aK D] at l;go_wp2;go_ret;exact⟨aU (by rw[l.o];rfl),rfl⟩
   ·rw[aK m] at l;go_wp2;go_ret;exact⟨aU (by rw[l.o];rfl),rfl⟩
def TI:(⟨#[40,41,91,93,123,125,124,60,62,47,46]⟩:ByteArray).toList=AY:=by rw[bz];rfl
def tl (s:ByteArray):s.toList=s.data.toList:=bz s
def TJ (k:Int)(s:ByteArray)(cols:Int)(A:Option Addr)(n cap:Nat)(w:World)(m:s.size<=9223372036854775807):Calls prog 164 #[.agg #[qI k,af s,qI cols,.slice A n cap]] w λe w'=>e= .returned (.bool (qD k s.data.toList))/\Below w.heap.size w w':=by
 have u:=ah (s.data.toList.length=s.size) aS
 by_cases f:k=2
 ·subst f;have c:=ah (qD 2 s.data.toList=fV s.toList) (by unfold qD;rw[ak rfl,tl]);go_enter func164,ntmps164;go_wp2_with fail;refine(yD s _ m).mono ?_;rintro e d ⟨rfl,h⟩;have i:=zh ((aN w _).trans (h.mono aS));clear h;go_wp2;go_ret;exact⟨aU c.o.symm,i.o⟩
 have o:(k==2)=false:=aZ.2 f
 by_cases g:k=3
 ·subst g;clear f o;have c:=ah (qD 3 s.data.toList=vB s.data.toList) (by rw[Ls];rfl);go_enter func164,ntmps164;go_wp2_with fail;refine(MV s _ m).mono ?_;rintro e d ⟨rfl,rfl⟩;go_wp2;go_ret;exact⟨aU c.o.symm,aN _ _⟩
 have t:(k==3)=false:=aZ.2 g
 by_cases j:k=4
 ·subst j;clear f o g t;have c:=ah (qD 4 s.data.toList=(decide (s.size<=200)&&zG s.toList)) (by rw[<-u.o,tl];rfl)
  by_cases v:s.size<=200
  ·rw[aJ v,aW] at c;go_enter func164,ntmps164;go_wp2_with fail;refine(TA s _ m).mono ?_;rintro e d ⟨rfl,rfl⟩;go_wp2;go_ret;exact⟨aU c.o.symm,aN _ _⟩
  ·rw[aK v,bL] at c;go_enter func164,ntmps164;go_wp2;go_ret;exact⟨aU c.o.symm,aN _ _⟩
 have x:(k==4)=false:=aZ.2 j
 by_cases l:k=10
 ·subst l;clear f o g t j x;have c:=ah (qD 10 s.data.toList=kV (AZ.map (·.toList)) s.toList) (by rw[Lx,tl];rfl);go_enter func164,ntmps164;go_wp2_with fail;have y:=zh (au.new w 31 #[qI 10,af s,qI cols,.slice A n cap]);have z:=zh (aN w (.cells #[qI 10,af s,qI cols,.slice A n cap] 31));generalize w.alloc (.cells #[qI 10,af s,qI cols,.slice A n cap] 31)=G at*;have H:=y.o.drew.cell 1;have D:Hy (AZ.length=6):=rfl
  go_region_with (first
   |(go_at_call 112;refine(LA _).mono ?_;rintro e d ⟨rfl,B,h⟩;have E:=zh B;have i:=zh ((fC z.o).trans (h.mono z.o.size));have I:=(ae h y.o.drew).cell 1;clear B h)
   |(go_at_call 110;rw[<-D.o];refine(Im _ 6 AZ s _ E.o aI).mono ?_;rintro e J ⟨rfl,rfl⟩))
  all_goals
   go_wp2;go_ret;exact⟨aU c.o.symm,i.o⟩
 have F:(k==10)=false:=aZ.2 l
 by_cases p:k=11
 ·subst p;clear f o g t j x l F;have c:=ah (qD 11 s.data.toList=Bu s.data.toList) rfl
  by_cases q:s.size=2
  ·obtain⟨a,b,rfl⟩:=two_bytes s q;clear q u m;rw[MR] at c;have C:=zh (λd=>Il ⟨#[40,41,91,93,123,125,124,60,62,47,46]⟩ a d aI);have i:=zh (λd=>Il ⟨#[40,41,91,93,123,125,124,60,62,47,46]⟩ b d aI);rw[TI] at C i;go_enter func164,ntmps164;go_wp2_with fail;refine(C.o _).mono ?_;rintro e d ⟨rfl,rfl⟩;cases r:lI AY a
   ·rw[r] at c;clear r;go_wp2;go_ret;exact⟨aU c.o.symm,aN _ _⟩
   ·rw[r] at c;clear r;go_wp2_with fail;refine(i.o _).mono ?_;rintro e d ⟨rfl,rfl⟩;go_wp2;go_ret;exact⟨aU (by rw[c.o,aW]),aN _ _⟩
  ·rw[MS q] at c;have K:((s.size:Int)==2)=false:=by rw[aZ];omega
   clear q;go_enter func164,ntmps164;go_wp2;go_ret;exact⟨aU c.o.symm,aN _ _⟩
 have L:(k==11)=false:=aZ.2 p;have c:=ah (qD k s.data.toList=s.toList.isEmpty) (by unfold qD;rw[ai f,ai g,ai j,ai l,ai p,tl]);clear f g j l p;go_enter func164,ntmps164;go_wp2;go_ret;exact⟨aU c.o.symm,aN _ _⟩
def TK (k:Int)(s:ByteArray)(c:Int)(A:Option Addr)(n cap:Nat)(w:World)(z:n<=9223372036854775807):Calls prog 165 #[.agg #[qI k,af s,qI c,.slice A n cap]] w λe w'=>e= .returned (.bool (lJ k c n))/\Below w.heap.size w w':=by
 by_cases b:k=12
 ·subst b;have a:=ah (lJ 12 c n=(decide (1<=c/\c<=16)&&(decide (1<=n/\n<=256)&&decide ((n:Int)%c=0)))) rfl
  by_cases u:1<=c
  ·by_cases v:c<=16
   ·rw[aJ ⟨u,v⟩,aW] at a
    by_cases x:1<=n
    ·by_cases y:n<=256
     ·rw[aJ ⟨x,y⟩,aW] at a;go_enter func165,ntmps165;go_wp2;go_ret;exact⟨aU (by rw[a.o];first|rfl|(simp;done)),aN _ _⟩
     ·rw[aK (p:=1<=n/\n<=256) aa,bL] at a;go_enter func165,ntmps165;go_wp2;go_ret;exact⟨aU (by rw[a.o]),aN _ _⟩
    ·rw[aK (p:=1<=n/\n<=256) aa,bL] at a;go_enter func165,ntmps165;go_wp2;go_ret;exact⟨aU (by rw[a.o]),aN _ _⟩
   ·rw[aK (p:=1<=c/\c<=16) aa,bL] at a;go_enter func165,ntmps165;go_wp2;go_ret;exact⟨aU (by rw[a.o]),aN _ _⟩
  ·rw[aK (p:=1<=c/\c<=16) aa,bL] at a;go_enter func165,ntmps165;go_wp2;go_ret;exact⟨aU (by rw[a.o]),aN _ _⟩
 have B:(k==12)=false:=aZ.2 b
 by_cases d:c=0
 ·subst d;have a:=ah (lJ k 0 n=(if k=1 then decide (n<=200) else if k=2\/k=3\/k=4 then decide (n=0) else if k=5\/k=6\/k=7\/k=8 then decide (n=2) else if k=9 then decide (n=3) else if k=10\/k=11 then decide (n=1) else false)) (by unfold lJ;rw[ai b,aJ rfl,aW])
  by_cases f:k=1
  ·subst f;go_enter func165,ntmps165;go_wp2;go_ret;exact⟨aU (by rw[a.o,fI];simp;try omega),aN _ _⟩
  have C:(k==1)=false:=aZ.2 f
  by_cases h:k=2
  ·subst h;go_enter func165,ntmps165;go_wp2;go_ret;exact⟨aU (by rw[a.o,fI];simp;try omega),aN _ _⟩
  have D:(k==2)=false:=aZ.2 h
  by_cases i:k=3
  ·subst i;go_enter func165,ntmps165;go_wp2;go_ret;exact⟨aU (by rw[a.o,fI];simp;try omega),aN _ _⟩
  have E:(k==3)=false:=aZ.2 i
  by_cases j:k=4
  ·subst j;go_enter func165,ntmps165;go_wp2;go_ret;exact⟨aU (by rw[a.o,fI];simp;try omega),aN _ _⟩
  have F:(k==4)=false:=aZ.2 j
  by_cases l:k=5
  ·subst l;go_enter func165,ntmps165;go_wp2;go_ret;exact⟨aU (by rw[a.o,fI];simp;try omega),aN _ _⟩
  have G:(k==5)=false:=aZ.2 l
  by_cases m:k=6
  ·subst m;go_enter func165,ntmps165;go_wp2;go_ret;exact⟨aU (by rw[a.o,fI];simp;try omega),aN _ _⟩
  have H:(k==6)=false:=aZ.2 m
  by_cases o:k=7
  ·subst o;go_enter func165,ntmps165;go_wp2;go_ret;exact⟨aU (by rw[a.o,fI];simp;try omega),aN _ _⟩
  have I:(k==7)=false:=aZ.2 o
  by_cases q:k=8
  ·subst q;go_enter func165,ntmps165;go_wp2;go_ret;exact⟨aU (by rw[a.o,fI];simp;try omega),aN _ _⟩
  have J:(k==8)=false:=aZ.2 q
  by_cases g:k=9
  ·subst g;go_enter func165,ntmps165;go_wp2;go_ret;exact⟨aU (by rw[a.o,fI];simp;try omega),aN _ _⟩
  have K:(k==9)=false:=aZ.2 g
  by_cases r:k=10
  ·subst r;go_enter func165,ntmps165;go_wp2;go_ret;exact⟨aU (by rw[a.o,fI];simp;try omega),aN _ _⟩
  have L:(k==10)=false:=aZ.2 r
  by_cases t:k=11
  ·subst t;go_enter func165,ntmps165;go_wp2;go_ret;exact⟨aU (by rw[a.o,fI];simp;try omega),aN _ _⟩
  have M:(k==11)=false:=aZ.2 t;rw[ai f,ai aa,ai aa,ai g,ai aa] at a;clear f h i j l m o q g r t b;go_enter func165,ntmps165;go_wp2;go_ret;exact⟨aU (by rw[a.o]),aN _ _⟩
 ·have a:=ah (lJ k c n=false) (by unfold lJ;rw[ai b,aK d,bL]);have qc:(c==0)=false:=aZ.2 d;have N:(c !=0)=true:=by rw[bne,qc];rfl
  clear d b;go_enter func165,ntmps165;go_wp2;go_ret;exact⟨aU (by rw[a.o]),aN _ _⟩
abbrev gu (k:Int)(s:ByteArray)(c:Int)(A:Option Addr)(n cap:Nat):Array Value:= #[qI k,af s,qI c,.slice A n cap]
def TL (h:ks[k]?=some x):bK (ks.take (k+1))=bK (ks.take k)+dK x:=by
 rw[dA,h,Option.toList];generalize ks.take k=l
 induction l with
 |nil=>simp[bK]
 |cons a r b=>rw[iB,bK,bK,b];omega
def TM (ks:List aG)(k:Nat):bK (ks.take k)<=bK ks:=by
 induction ks generalizing k with
 |nil=>simp[bK]
 |cons a r b=>
  cases k with
  |zero=>simp[bK]
  |succ k=>rw[fo,bK,bK];have:=b k;omega
def TN (h:ks[k]?=some x):vU (ks.take (k+1))=max (vU (ks.take k)) (wO x):=by
 rw[dA,h,Option.toList];generalize ks.take k=l
 induction l with
 |nil=>simp[vU]
 |cons a r b=>rw[iB,vU,vU,b];omega
mutual
def IW:∀t:aG,wO t<=dK t
 | .mk k s c ks=>by rw[wO,dK];have:=MW ks;omega
def MW:∀ts:List aG,vU ts<=bK ts
 |[]=>by rw[vU,bK];omega
 |t::ts=>by rw[vU,bK];have:=IW t;have:=MW ts;omega
end
def TP (h:ks[k]?=some x):nz q (ks.take (k+1))=(nz q (ks.take k)&&(!sF q x.kind&&fJ x)):=by
 rw[dA,h,Option.toList];generalize ks.take k=l
 induction l with
 |nil=>simp[nz]
 |cons a r b=>rw[iB,nz,nz,b];simp[Bool.and_assoc]
def MX (h:nz q (ks.take k)=false):nz q ks=false:=by
 induction ks generalizing k with
 |nil=>rw[qX] at h;rw[nz] at h;cases h
 |cons a r b=>
  cases k with
  |zero=>rw[eZ,nz] at h;cases h
  |succ k=>
   rw[fo,nz] at h;rw[nz];cases c:(!sF q a.kind)
   ·rfl
   ·cases d:fJ a
    ·rfl
    ·rw[c,d,aW,aW] at h;rw[b h];rfl
def TQ:∀(m:Nat) (t:aG) (c:Array Value) (w:World),dK t<m->m<=1000000->lX w t c->Calls prog 145 #[.agg c] w λe w'=>e= .returned (qI (dK t:Nat))/\Below w.heap.size w w':=by
 intro m
 induction m with
 |zero=>intro t c w h;omega
 |succ m A=>
  intro t c w B V g;have I:=zh (λt c w h g=>A t c w h aa g);clear A;obtain⟨k,s,cols,ks⟩:=t;obtain⟨f,l,rfl,J,K,L,r⟩:=g.form;dsimp only[qC,aG.kind,aG.text,aG.cols,aG.kids] at J K L r⊢;have a:=zh r;have C:=ah (dK (.mk k s cols ks)=bK ks+1) (by rw[dK]);rw[C.o] at B;have W:=zh B;have n:=TM ks;have M:=zh n;clear r g n;go_enter func145,ntmps145;go_wp2_with fail;have d:=zh (au.new w 31 (gu k s cols f ks.length l));have b:=zh (aN w (.cells (gu k s cols f ks.length l) 31));have a:=zh (a.o.keep b.o);dsimp only[gu] at d b a;generalize w.alloc (.cells #[qI k,af s,qI cols,.slice f ks.length l] 31)=X at*
  go_loopw [3,4] (λv i wr=>∃(j x:Nat),j<=ks.length/\i=qI j/\v=qI x/\x<=1000000/\Hy (x=bK (ks.take j)+1)/\Hy (au wr w.heap.size 31 (gu k s cols f ks.length l))/\Hy (mO wr f ks)/\Hy (Below w.heap.size w wr)) (λ_ i _=>ks.length -(intOf i).toNat)
  case atStart=>exact⟨0,1,aa,rfl,rfl,aa,rfl,d,a,b⟩
  case round=>
   clear d a b;obtain⟨j,x,Y,rfl,rfl,Z,z,d,a,b⟩:=hrel;have D:=d.o.cell 3;dsimp only[gu] at D
   by_cases N:j<ks.length
   ·obtain⟨y,o⟩:∃y,ks[j]?=some y:=⟨_,gE N⟩
    obtain⟨a0,a1,a2,rfl,a3,a4,a5,a6,O,E,P,Q,R,S⟩:=a.o.at_ o;have T:=zh E;have p:=Eh o;have F:=TL o;have n:=M.o (j+1);have G:=ah (x+dK y=bK (ks.take (j+1))+1) (by rw[F,z.o];omega);have a7:x+dK y<=1000000:=by rw[G.o];omega
    have U:Hy (dK y<m):=by show _<_;omega
    clear o O E F n p;generalize p:dK y=u at*;have H:=zh p;clear p;go_wp2_with fail;refine(I.o y _ wr (by rw[H.o];exact U.o) T.o).mono ?_;rw[H.o];rintro e a8 ⟨rfl,q⟩;have d:=kp q d;have a:=zh (a.o.keep q);have b:=jt b q;clear q D P Q R S;go_wp2;go_roundw
    case rel=>exact⟨j+1,x+u,aa,bi,bi,aa,G,d,a,b⟩
    case measure=>simp[intOf];omega
   ·obtain rfl:j=ks.length:=by omega
    rw[bW] at z;go_wp2;go_ret;exact⟨wP (by rw[C.o,<-z.o]),b.o⟩
def TR:∀(m:Nat) (t:aG) (c:Array Value) (w:World),dK t<m->m<=1000000->lX w t c->Calls prog 146 #[.agg c] w λe w'=>e= .returned (qI (wO t:Nat))/\Below w.heap.size w w':=by
 intro m
 induction m with
 |zero=>intro t c w h;omega
 |succ m z=>
  intro t c w A U g;have E:=zh (λt c w h g=>z t c w h aa g);clear z;obtain⟨k,s,cols,ks⟩:=t;obtain⟨f,l,rfl,F,G,H,q⟩:=g.form;dsimp only[qC,aG.kind,aG.text,aG.cols,aG.kids] at F G H q⊢;have a:=zh q;have I:=ah (wO (.mk k s cols ks)=vU ks+1) (by rw[wO]);rw[dK] at A;have V:=zh A;clear q g;go_enter func146,ntmps146;go_wp2_with fail;have d:=zh (au.new w 31 (gu k s cols f ks.length l));have b:=zh (aN w (.cells (gu k s cols f ks.length l) 31));have a:=zh (a.o.keep b.o);dsimp only[gu] at d b a;generalize w.alloc (.cells #[qI k,af s,qI cols,.slice f ks.length l] 31)=W at*
  go_loopw [3,4] (λv i wr=>∃(j x:Nat),j<=ks.length/\i=qI j/\v=qI x/\x<=1000000/\Hy (x=vU (ks.take j))/\Hy (au wr w.heap.size 31 (gu k s cols f ks.length l))/\Hy (mO wr f ks)/\Hy (Below w.heap.size w wr)) (λ_ i _=>ks.length -(intOf i).toNat)
  case atStart=>exact⟨0,0,aa,rfl,rfl,aa,rfl,d,a,b⟩
  case round=>
   clear d a b;obtain⟨j,x,X,rfl,rfl,Y,r,d,a,b⟩:=hrel;have B:=d.o.cell 3;dsimp only[gu] at B
   by_cases J:j<ks.length
   ·obtain⟨y,n⟩:∃y,ks[j]?=some y:=⟨_,gE J⟩
    obtain⟨Z,a0,a1,rfl,a2,a3,a4,a5,K,C,L,M,N,O⟩:=a.o.at_ n;have P:=zh C;have o:=Eh n;have D:=TN n;have Q:=IW y;have R:=ah (max x (wO y)=vU (ks.take (j+1))) (by rw[D,r.o]);have a6:wO y<=1000000:=aa
    have S:Hy (dK y<m):=by show _<_;omega
    clear n K C D o Q;generalize o:wO y=u at*;have T:=zh o;clear o;go_wp2_with fail;refine(E.o y _ wr S.o P.o).mono ?_;rw[T.o];rintro e a7 ⟨rfl,p⟩;have d:=kp p d;have a:=zh (a.o.keep p);have b:=jt b p;clear p B L M N O;have a8:max (x:Int) (u:Int)=((max x u:Nat):Int):=aa
    have a9:(if(x:Int)<u then(u:Int) else x)=((max x u:Nat):Int):=by split<;>omega
    go_wp2_with fail
    all_goals
     go_roundw
     case rel=>exact⟨j+1,max x u,aa,bi,(by first|rfl|(congr 1;omega)),aa,R,d,a,b⟩
     case measure=>simp[intOf];omega
   ·obtain rfl:j=ks.length:=by omega
    rw[bW] at r;go_wp2;go_ret;exact⟨wP (by rw[I.o,<-r.o];rfl),b.o⟩
structure nE (w:World)(p:Addr)(t:aG)(A:Option Addr)(cap:Nat):Prop where
 lt:p.block<w.heap.size
 kind:w.cell? p=some (qI t.kind)
 text:w.cell? (aF p 1)=some (af t.text)
 cols:w.cell? (aF p 2)=some (qI t.cols)
 kids:w.cell? (aF p 3)=some (.slice A t.kids.length cap)
 size:t.text.size<=9223372036854775807
 len:t.kids.length<=cap
 capl:cap<=9223372036854775807
 down:mO w A t.kids
def nE.keep {w w':World}{p:Addr}{t:aG}{A:Option Addr}{cap:Nat}(h:nE w p t A cap)(a:Below w.heap.size w w'):nE w' p t A cap:=
 ⟨ll h.lt a.size,(a.cell h.lt).trans h.kind,(a.cell (p:=aF p 1) h.lt).trans h.text,(a.cell (p:=aF p 2) h.lt).trans h.cols,(a.cell (p:=aF p 3) h.lt).trans h.kids,h.size,h.len,h.capl,h.down.keep a⟩
def nE.drew {w:World}{p:Addr}{t:aG}{A:Option Addr}{cap:Nat}(h:nE w p t A cap):nE w.drew p t A cap:=h.keep (fC (aL _ _))
def mO.ptr (h:mO w A ts)(d:ts[i]?=some t):∃a b c,A=some a/\nE w (a.add (i*4)) t b c:=by
 obtain⟨a,b,c,e,f,g,j,k,l,q,m,n,o,p⟩:=h.at_ d;exact⟨a,b,c,e,⟨by rw[yG];exact f,m,n,o,p,g,j,k,l⟩⟩
def FN (k:Int)(s:ByteArray)(c:Int)(ks:List aG):(aG.mk k s c ks).kind=k:=rfl
def MZ (k j:Int):((j==1)==(k==1))=sF k j:=by
 unfold sF;rw[show(j==1)=decide (j=1) from rfl,show(k==1)=decide (k=1) from rfl];cases decide (j=1)<;>cases decide (k=1)<;>rfl
def TS:∀(m:Nat) (t:aG) (c:Array Value) (w:World),dK t<m->lX w t c->Calls prog 144 #[.agg c] w λe w'=>e= .returned (.bool (fJ t))/\Below w.heap.size w w':=by
 intro m
 induction m with
 |zero=>intro t c w a8;omega
 |succ m V=>
  intro t c w W X;have Y:=zh V;clear V;obtain⟨k,s,cols,ks⟩:=t;obtain⟨E,h,rfl,Z,a1,a2,Q⟩:=X.form;dsimp only[qC,aG.kind,aG.text,aG.cols,aG.kids] at Z a1 a2 Q⊢;have n:=zh Q;have a3:=zh W;have F:=ah (fJ (.mk k s cols ks)=(qD k s.data.toList&&lJ k cols ks.length&&nz k ks)) (by rw[fJ,kz]);clear Q X W;go_enter func144,ntmps144;go_wp2_with fail;have o:=zh (au.new w 31 (gu k s cols E ks.length h));have l:=zh (aN w (.cells (gu k s cols E ks.length h) 31));have n:=zh (n.o.keep l.o);dsimp only[gu] at o l n;generalize w.alloc (.cells #[qI k,af s,qI cols,.slice E ks.length h] 31)=a9 at*;refine(TJ k s cols E ks.length h _ Z).mono ?_;rintro e b0 ⟨rfl,z⟩;have o:=kp z o;have n:=zh (n.o.keep z);have l:=jt l z;clear z;cases A:qD k s.data.toList
  ·have G:=ah (fJ (.mk k s cols ks)=false) (by rw[F.o,A];rfl);clear A;go_wp2;go_ret;exact⟨aU G.o.symm,l.o⟩
  rw[A,aW] at F;clear A;obtain⟨x,H,I,J⟩:=qb o;go_wp2_with fail;refine(TK k s cols E ks.length h _ aa).mono ?_;rintro e b1 ⟨rfl,z⟩;have o:=kp z o;have n:=zh (n.o.keep z);have l:=jt l z;clear z x H I J;cases A:lJ k cols ks.length
  ·have G:=ah (fJ (.mk k s cols ks)=false) (by rw[F.o,A];rfl);clear A;go_wp2;go_ret;exact⟨aU G.o.symm,l.o⟩
  rw[A,aW] at F;clear A;go_wp2_with fail
  go_loopw [3] (λi wr=>∃(j:Nat),j<=ks.length/\i=qI j/\Hy (nz k (ks.take j)=true)/\Hy (au wr w.heap.size 31 (gu k s cols E ks.length h))/\Hy (mO wr E ks)/\Hy (Below w.heap.size w wr)) (λi _=>ks.length -(intOf i).toNat)
  case atStart=>exact⟨0,aa,rfl,ah (nz k (ks.take 0)=true) (by rw[eZ,nz]),o,n,l⟩
  case round=>
   clear o n l;obtain⟨j,b2,rfl,R,o,n,l⟩:=hrel;have x:=o.o.cell 3;dsimp only[gu] at x
   by_cases K:j<ks.length
   ·obtain⟨y,N⟩:∃y,ks[j]?=some y:=⟨_,gE K⟩
    obtain⟨d,B,C,rfl,p⟩:=n.o.ptr N;have S:=zh p;have a4:=Eh N;have O:=zh (TP (q:=k) N);have a0:Hy (dK y<m):=by have a5:=a3.o;show _<_;rw[dK] at a5;omega
    obtain⟨f,r,u,v⟩:=y;clear N p a4;have P:=zh (MZ k f);go_upto_region 6 with(fail)
    clear x;cases M:((f==1)==(k==1))
    ·rw[M] at P;rw[FN f r u v,<-P.o,R.o,aW,ry,aW] at O;cases L:fJ (.mk f r u v)
     ·have T:=zh L;have G:=ah (fJ (.mk k s cols ks)=false) (by rw[F.o];exact MX (O.o.trans L));clear L;refine ql [aR w.heap.size (3),ay d ks.length h,qI j,az (d.add (j*4)),az (d.add (j*4)),qI f,.bool (f==1),qP w.heap.size,qI k,.bool (k==1),.bool false,.bool false,aR w.heap.size (3),ay d ks.length h,qI j,az (d.add (j*4)),.agg (gu f r u B v.length C),.bool false,.bool true,.bool true] (qt 20 []) (λb=>Hy (au b w.heap.size 31 (gu k s cols (some d) ks.length h))/\Hy (nE b (d.add (j*4)) (.mk f r u v) B C)/\Hy (mO b (some d) ks)/\Hy (Below w.heap.size w b)) ⟨o.o.drew,S.o.drew,n.o.keep (fC (aL _ _)),fC l.o⟩ ?_ ?_
      ·refine⟨λb a=>?_,λb a=>?_,jA,λb a=>?_,λb a=>?_,λb a=>?_,λb a=>?_,λb a=>?_,λb a=>?_,λb a=>?_,λb a=>?_,jA,λb a=>?_,λb a=>?_,jA,λb a=>?_,λb a=>?_,λb a=>?_,λb a=>?_,jA,trivial⟩
       ·exact jv (aR w.heap.size (3)) b jY ⟨rfl,a⟩
       ·have g:=a.1.o.cell 3;exact jv (ay d ks.length h) b (iy g) ⟨rfl,a⟩
       ·skip
        exact jv (az (d.add (j*4))) b (qW K) ⟨rfl,a⟩
       ·exact jv (az (d.add (j*4))) b jY ⟨rfl,a⟩
       ·have g:b.cell? (d.add (j*4))=some (qI f):=a.2.1.o.kind;exact jv (qI f) b (iy g) ⟨rfl,a⟩
       ·exact jv (.bool (f==1)) b jY ⟨rfl,a⟩
       ·exact jv (qP w.heap.size) b jY ⟨rfl,a⟩
       ·have g:=a.1.o.cell 0;exact jv (qI k) b (iy g) ⟨rfl,a⟩
       ·exact jv (.bool (k==1)) b jY ⟨rfl,a⟩
       ·skip
        exact jv (.bool false) b (iy M) ⟨rfl,a⟩
       ·exact jv (aR w.heap.size (3)) b jY ⟨rfl,a⟩
       ·have g:=a.1.o.cell 3;exact jv (ay d ks.length h) b (iy g) ⟨rfl,a⟩
       ·skip
        exact jv (az (d.add (j*4))) b (qW K) ⟨rfl,a⟩
       ·have p:=a.2.1.o;have x:=p.kind;have H:=p.text;have I:=p.cols;have J:=p.kids;dsimp only[aG.kind,aG.text,aG.cols,aG.kids] at x H I J;clear p;exact jv (.agg (gu f r u B v.length C)) b (AU x H I J) ⟨rfl,a⟩
       ·refine jc 144 (#[.agg (gu f r u B v.length C)]) b aj ((Y.o (.mk f r u v) _ b a0.o (lX.of a.2.1.o.size a.2.1.o.len a.2.1.o.capl a.2.1.o.down)).mono ?_);rintro e a6 ⟨rfl,D⟩;exact⟨_,rfl,by rw[T.o],ae D a.1.o,a.2.1.o.keep D,a.2.2.1.o.keep D,a.2.2.2.o.trans (D.mono a.2.2.2.o.size)⟩
       ·exact jv (.bool true) b jY ⟨rfl,a⟩
      ·intro b a;have U:=a.2.2.2;clear a;go_wp2;go_ret;exact⟨aU G.o.symm,U.o⟩
     ·have T:=zh L;have a7:=zh (O.o.trans L);clear L;refine ql [aR w.heap.size (3),ay d ks.length h,qI j,az (d.add (j*4)),az (d.add (j*4)),qI f,.bool (f==1),qP w.heap.size,qI k,.bool (k==1),.bool false,.bool false,aR w.heap.size (3),ay d ks.length h,qI j,az (d.add (j*4)),.agg (gu f r u B v.length C),.bool true,.bool false,.bool false] (qt 20 []) (λb=>Hy (au b w.heap.size 31 (gu k s cols (some d) ks.length h))/\Hy (nE b (d.add (j*4)) (.mk f r u v) B C)/\Hy (mO b (some d) ks)/\Hy (Below w.heap.size w b)) ⟨o.o.drew,S.o.drew,n.o.keep (fC (aL _ _)),fC l.o⟩ ?_ ?_
      ·refine⟨λb a=>?_,λb a=>?_,jA,λb a=>?_,λb a=>?_,λb a=>?_,λb a=>?_,λb a=>?_,λb a=>?_,λb a=>?_,λb a=>?_,jA,λb a=>?_,λb a=>?_,jA,λb a=>?_,λb a=>?_,λb a=>?_,λb a=>?_,jA,trivial⟩
       ·exact jv (aR w.heap.size (3)) b jY ⟨rfl,a⟩
       ·have g:=a.1.o.cell 3;exact jv (ay d ks.length h) b (iy g) ⟨rfl,a⟩
       ·skip
        exact jv (az (d.add (j*4))) b (qW K) ⟨rfl,a⟩
       ·exact jv (az (d.add (j*4))) b jY ⟨rfl,a⟩
       ·have g:b.cell? (d.add (j*4))=some (qI f):=a.2.1.o.kind;exact jv (qI f) b (iy g) ⟨rfl,a⟩
       ·exact jv (.bool (f==1)) b jY ⟨rfl,a⟩
       ·exact jv (qP w.heap.size) b jY ⟨rfl,a⟩
       ·have g:=a.1.o.cell 0;exact jv (qI k) b (iy g) ⟨rfl,a⟩
       ·exact jv (.bool (k==1)) b jY ⟨rfl,a⟩
       ·skip
        exact jv (.bool false) b (iy M) ⟨rfl,a⟩
       ·exact jv (aR w.heap.size (3)) b jY ⟨rfl,a⟩
       ·have g:=a.1.o.cell 3;exact jv (ay d ks.length h) b (iy g) ⟨rfl,a⟩
       ·skip
        exact jv (az (d.add (j*4))) b (qW K) ⟨rfl,a⟩
       ·have p:=a.2.1.o;have x:=p.kind;have H:=p.text;have I:=p.cols;have J:=p.kids;dsimp only[aG.kind,aG.text,aG.cols,aG.kids] at x H I J;clear p;exact jv (.agg (gu f r u B v.length C)) b (AU x H I J) ⟨rfl,a⟩
       ·refine jc 144 (#[.agg (gu f r u B v.length C)]) b aj ((Y.o (.mk f r u v) _ b a0.o (lX.of a.2.1.o.size a.2.1.o.len a.2.1.o.capl a.2.1.o.down)).mono ?_);rintro e a6 ⟨rfl,D⟩;exact⟨_,rfl,by rw[T.o],ae D a.1.o,a.2.1.o.keep D,a.2.2.1.o.keep D,a.2.2.2.o.trans (D.mono a.2.2.2.o.size)⟩
       ·exact jv (.bool false) b jY ⟨rfl,a⟩
      ·intro b a;have n:=a.2.2.1;have o:=a.1;have l:=a.2.2.2;clear a;go_wp2;go_roundw
       case rel=>exact⟨j+1,aa,bi,a7,o,n,l⟩
       case measure=>simp[intOf];omega
    ·rw[M] at P;have G:=zh (show fJ (.mk k s cols ks)=false by
      rw[F.o];refine MX (O.o.trans ?_);rw[FN f r u v,<-P.o];simp)
     refine ql [aR w.heap.size (3),ay d ks.length h,qI j,az (d.add (j*4)),az (d.add (j*4)),qI f,.bool (f==1),qP w.heap.size,qI k,.bool (k==1),.bool true,.bool true,undef,undef,undef,undef,undef,undef,undef,.bool true] (qt 12 (qf 7 (qt 1 []))) (λb=>Hy (au b w.heap.size 31 (gu k s cols (some d) ks.length h))/\Hy (nE b (d.add (j*4)) (.mk f r u v) B C)/\Hy (mO b (some d) ks)/\Hy (Below w.heap.size w b)) ⟨o.o.drew,S.o.drew,n.o.keep (fC (aL _ _)),fC l.o⟩ ?_ ?_
     ·refine⟨λb a=>?_,λb a=>?_,jA,λb a=>?_,λb a=>?_,λb a=>?_,λb a=>?_,λb a=>?_,λb a=>?_,λb a=>?_,λb a=>?_,jA,rfl,rfl,rfl,rfl,rfl,rfl,rfl,jA,trivial⟩
      ·exact jv (aR w.heap.size (3)) b jY ⟨rfl,a⟩
      ·have g:=a.1.o.cell 3;exact jv (ay d ks.length h) b (iy g) ⟨rfl,a⟩
      ·skip
       exact jv (az (d.add (j*4))) b (qW K) ⟨rfl,a⟩
      ·exact jv (az (d.add (j*4))) b jY ⟨rfl,a⟩
      ·have g:b.cell? (d.add (j*4))=some (qI f):=a.2.1.o.kind;exact jv (qI f) b (iy g) ⟨rfl,a⟩
      ·exact jv (.bool (f==1)) b jY ⟨rfl,a⟩
      ·exact jv (qP w.heap.size) b jY ⟨rfl,a⟩
      ·have g:=a.1.o.cell 0;exact jv (qI k) b (iy g) ⟨rfl,a⟩
      ·exact jv (.bool (k==1)) b jY ⟨rfl,a⟩
      ·skip
       exact jv (.bool true) b (iy M) ⟨rfl,a⟩
     ·intro b a;have U:=a.2.2.2;clear a;go_wp2;go_ret;exact⟨aU G.o.symm,U.o⟩
   ·obtain rfl:j=ks.length:=by omega
    rw[bW] at R;go_wp2;go_ret;exact⟨aU (by rw[F.o,R.o]),l.o⟩
def xJ (t:aG)(c:Array Value)(w:World)(I:dK t<=900000)(p:lX w t c):Calls prog 118 #[.agg c] w λe w'=>e= .returned (.bool (yC t))/\Below w.heap.size w w':=by
 obtain⟨k,s,cols,ks⟩:=t;have b:=ah (yC (.mk k s cols ks)=(decide (k=1)&&(fJ (.mk k s cols ks)&&(decide (dK (.mk k s cols ks)<=1000)&&decide (wO (.mk k s cols ks)<=24))))) rfl;obtain⟨l,m,rfl,z,A,B,x⟩:=p.form;dsimp only[qC,aG.kind,aG.text,aG.cols,aG.kids] at z A B x⊢;have i:=zh (p.keep (aN w (.cells (gu k s cols l ks.length m) 31)));have C:=zh (λc w h=>TS (dK (.mk k s cols ks)+1) (.mk k s cols ks) c w aa h);have D:=zh (λc w h=>TQ (dK (.mk k s cols ks)+1) (.mk k s cols ks) c w aa aa h);have E:=zh (λc w h=>TR (dK (.mk k s cols ks)+1) (.mk k s cols ks) c w aa aa h);clear x p;have J:=IW (.mk k s cols ks);generalize F:fJ (.mk k s cols ks)=f at*;generalize G:dK (.mk k s cols ks)=n at*;generalize H:wO (.mk k s cols ks)=d at*;clear F G H
 by_cases o:k=1
 ·subst o;rw[aJ rfl,aW] at b;go_enter func118,ntmps118;go_wp2_with fail;have j:=zh (au.new w 31 (gu 1 s cols l ks.length m));have g:=zh (aN w (.cells (gu 1 s cols l ks.length m) 31));dsimp only[gu] at j g i;generalize w.alloc (.cells #[qI 1,af s,qI cols,.slice l ks.length m] 31)=K at*;refine(C.o _ _ i.o).mono ?_;rintro e L ⟨rfl,a⟩;have j:=kp a j;have i:=zh (i.o.keep a);have g:=jt g a;clear a;cases f
  ·rw[bL] at b;go_wp2;go_ret;exact⟨aU b.o.symm,g.o⟩
  rw[aW] at b;obtain⟨q,r,u,v⟩:=qb j;go_wp2_with fail;refine(D.o _ _ i.o).mono ?_;rintro e M ⟨rfl,a⟩;have j:=kp a j;have i:=zh (i.o.keep a);have g:=jt g a;clear a q r u v
  by_cases y:n<=1000
  ·rw[aJ y,aW] at b;obtain⟨q,r,u,v⟩:=qb j;go_wp2_with fail;refine(E.o _ _ i.o).mono ?_;rintro e N ⟨rfl,a⟩;have g:=jt g a;clear a q r u v;go_wp2;go_ret;exact⟨aU (by rw[b.o];first|rfl|(rw[fE];omega)),g.o⟩
  ·rw[aK y,bL] at b;go_wp2;go_ret;exact⟨aU b.o.symm,g.o⟩
 ·rw[aK o,bL] at b;have O:(k==1)=false:=bn o;clear o;go_enter func118,ntmps118;go_wp2;go_ret;exact⟨aU b.o.symm,aN _ _⟩
def FO:Array Value:= #[qE,qI 0,.nilFunc,af ⟨#[114,111,119]⟩,qI 0,.func (.func 102) #[] #[],af ⟨#[115,121,109]⟩,qI 0,.func (.func 59) #[] #[],af ⟨#[110,117,109]⟩,qI 0,.func (.func 103) #[] #[],af ⟨#[116,101,120,116]⟩,qI 0,.func (.func 104) #[] #[],af ⟨#[102,114,97,99]⟩,qI 2,.func (.func 102) #[] #[],af ⟨#[114,111,111,116]⟩,qI 2,.func (.func 102) #[] #[],af ⟨#[115,117,98]⟩,qI 2,.func (.func 102) #[] #[],af ⟨#[115,117,112]⟩,qI 2,.func (.func 102) #[] #[],af ⟨#[98,111,116,104]⟩,qI 3,.func (.func 102) #[] #[],af ⟨#[97,99,99,101,110,116]⟩,qI 1,.func (.func 86) #[] #[],af ⟨#[102,101,110,99,101]⟩,qI 1,.func (.func 105) #[] #[],af ⟨#[109,97,116,114,105,120]⟩,qI 0,.func (.func 102) #[] #[]]
def fu (n:Int):Array Value:= #[qE,qI 0,.nilFunc,af ⟨#[114,111,119]⟩,qI 0,.func (.func 102) #[] #[],af ⟨#[115,121,109]⟩,qI 0,.func (.func 59) #[] #[],af ⟨#[110,117,109]⟩,qI 0,.func (.func 103) #[] #[],af ⟨#[116,101,120,116]⟩,qI 0,.func (.func 104) #[] #[],af ⟨#[102,114,97,99]⟩,qI 2,.func (.func 102) #[] #[],af ⟨#[114,111,111,116]⟩,qI 2,.func (.func 102) #[] #[],af ⟨#[115,117,98]⟩,qI 2,.func (.func 102) #[] #[],af ⟨#[115,117,112]⟩,qI 2,.func (.func 102) #[] #[],af ⟨#[98,111,116,104]⟩,qI 3,.func (.func 102) #[] #[],af ⟨#[97,99,99,101,110,116]⟩,qI 1,.func (.func 86) #[] #[],af ⟨#[102,101,110,99,101]⟩,qI 1,.func (.func 105) #[] #[],af ⟨#[109,97,116,114,105,120]⟩,qI 0,.func (.func 102) #[] #[],qI n]
def TT (w:World):Calls prog 70 #[] w λe w'=>e= .returned (.agg FO)/\Below w.heap.size w w':=by
 have a:=run_loadVar_new (P:=prog) w 102 FO 13 101 underlying102 aj;go_enter func70,ntmps70;go_wp2_with (refine wpList_store_row (by rfl) 102 (.tmp 0) (.tmp 13) (by rfl) w.heap.size FO (by rfl) (by rfl) 102 _ (heap_alloc_new w _) aj (by rfl) aj ?_;rw[World.setRow_alloc_new])
 refine aB (v:=.agg FO) (by simp[results,results70,Act.put,asAddr,a]) rfl ⟨rfl,aN _ _⟩
def vI (k:Nat):Int:=if k=5\/k=6\/k=7\/k=8 then 2 else if k=9 then 3 else if k=10\/k=11 then 1 else 0
def TU (k:Nat)(h:k<=12)(n:Int):(fu n)[k*3+1]?=some (qI (vI k)):=by
 match k,h with
 |0,_=>rfl
 |1,_=>rfl
 |2,_=>rfl
 |3,_=>rfl
 |4,_=>rfl
 |5,_=>rfl
 |6,_=>rfl
 |7,_=>rfl
 |8,_=>rfl
 |9,_=>rfl
 |10,_=>rfl
 |11,_=>rfl
 |12,_=>rfl
 |k+13,h=>omega
def TV (s:ByteArray):fV s.toList=qD 2 s.data.toList:=by rw[tl];rfl
def FP (k:Nat)(d:1<=k)(f:k<=12)(s:ByteArray)(b:s.size<=9223372036854775807):∃F:FuncId,(∀n,(fu n)[k*3+2]?=some (.func (.func F) #[] #[]))/\(∀args w,(callFunc F args).run prog w= .ok (.enter F args) w)/\(∀w,Calls prog F #[af s] w λe w'=>e= .returned (.bool (qD k s.data.toList))/\Below w.heap.size w w'):=by
 have g:s.data.toList.length=s.size:=aS
 have a:∀w,Calls prog 102 #[af s] w λe w'=>e= .returned (.bool s.data.toList.isEmpty)/\Below w.heap.size w w':=λw=>by
  refine(TB s w).mono ?_;rintro e c ⟨rfl,rfl⟩;exact⟨by rw[tl],aL _ _⟩
 match k,d,f with
 |1,_,_=>exact⟨102,λ_=>rfl,λargs w=>aj,a⟩
 |2,_,_=>exact⟨59,λ_=>rfl,λargs w=>aj,λw=>by
   refine(CF s w b).mono ?_;rintro e c ⟨rfl,h⟩;exact⟨by rw[TV];rfl,h⟩⟩
 |3,_,_=>exact⟨103,λ_=>rfl,λargs w=>aj,λw=>MP s w b⟩
 |4,_,_=>exact⟨104,λ_=>rfl,λargs w=>aj,λw=>by
   refine(Tz s w b).mono ?_;rintro e c ⟨rfl,rfl⟩;exact⟨by rw[<-g,tl];rfl,aL _ _⟩⟩
 |5,_,_=>exact⟨102,λ_=>rfl,λargs w=>aj,a⟩
 |6,_,_=>exact⟨102,λ_=>rfl,λargs w=>aj,a⟩
 |7,_,_=>exact⟨102,λ_=>rfl,λargs w=>aj,a⟩
 |8,_,_=>exact⟨102,λ_=>rfl,λargs w=>aj,a⟩
 |9,_,_=>exact⟨102,λ_=>rfl,λargs w=>aj,a⟩
 |10,_,_=>exact⟨86,λ_=>rfl,λargs w=>aj,λw=>by
   refine(Lv s w).mono ?_;rintro e c ⟨rfl,rfl⟩;exact⟨by rw[tl];rfl,aL _ _⟩⟩
 |11,_,_=>exact⟨105,λ_=>rfl,λargs w=>aj,λw=>TG s w⟩
 |12,_,_=>exact⟨102,λ_=>rfl,λargs w=>aj,a⟩
def TW {k:Int}{s:List UInt8}{c:Int}(h:k<1\/12<k):kz k s c n=false:=by
 unfold kz lJ;rw[ai aa,ai aa,ai aa,ai aa,ai aa,ai aa,bF,bF]
def TY (d:Nat)(n:Int)(p:Addr)(k:Int)(s:ByteArray)(cols:Int)(ks:List aG)(A:Option Addr)(cap:Nat)(w:World)(h:nE w p (.mk k s cols ks) A cap)(i:au w d 105 (fu n))(f:k<1\/12<k):Calls prog 106 #[qP d,az p] w λe w'=>e= .returned (.bool (kz k s.data.toList cols ks.length))/\Below w.heap.size w w':=by
 have j:=zh h;have l:=zh i;have m:=zh (TW (s:=s.data.toList) (c:=cols) (n:=ks.length) f);clear h i
 by_cases o:k<1
 ·clear f;go_enter func106,ntmps106;go_upto_region 1 with(fail)
  refine ql [az p,az p,az p,qI k,.bool true,.bool true,undef,undef,undef,undef,undef,.bool true,.bool true,undef,undef,undef,undef,undef,undef,undef,undef,undef,undef,undef,undef,undef,undef,undef,undef,.bool true] (qt 6 (qf 5 (qt 2 (qf 16 (qt 1 []))))) (λa=>Hy (nE a p (.mk k s cols ks) A cap)/\Hy (au a d 105 (fu n))/\Hy (Below w.heap.size w a)) ⟨j.o.drew,l.o.drew,fC (aL _ _)⟩ ?_ ?_
  ·refine⟨jA,jB,jB,jQ λa b=>(show a.cell? p=some (qI k) from b.1.o.kind),λa b=>?_,jA,rfl,rfl,rfl,rfl,rfl,jA,jA,rfl,rfl,rfl,rfl,rfl,rfl,rfl,rfl,rfl,rfl,rfl,rfl,rfl,rfl,rfl,rfl,jA,trivial⟩
   ·skip
    exact jv (.bool true) a (bE o) ⟨rfl,b⟩
  ·intro a b;have g:=b.2.2;clear b;go_wp2;go_ret;exact⟨aU m.o.symm,g.o⟩
 ·have q:12<k:=by omega
  clear f;go_enter func106,ntmps106;go_upto_region 1 with(fail)
  refine ql [az p,az p,az p,qI k,.bool false,.bool false,az p,az p,az p,qI k,.bool true,.bool true,.bool true,undef,undef,undef,undef,undef,undef,undef,undef,undef,undef,undef,undef,undef,undef,undef,undef,.bool true] (qt 13 (qf 16 (qt 1 []))) (λa=>Hy (nE a p (.mk k s cols ks) A cap)/\Hy (au a d 105 (fu n))/\Hy (Below w.heap.size w a)) ⟨j.o.drew,l.o.drew,fC (aL _ _)⟩ ?_ ?_
  ·refine⟨jA,jB,jB,jQ λa b=>(show a.cell? p=some (qI k) from b.1.o.kind),λa b=>?_,jA,jA,jB,jB,jQ λa b=>(show a.cell? p=some (qI k) from b.1.o.kind),λa b=>?_,jA,jA,rfl,rfl,rfl,rfl,rfl,rfl,rfl,rfl,rfl,rfl,rfl,rfl,rfl,rfl,rfl,rfl,jA,trivial⟩
   ·skip
    exact jv (.bool false) a sI ⟨rfl,b⟩
   ·skip
    exact jv (.bool true) a (bE q) ⟨rfl,b⟩
  ·intro a b;have g:=b.2.2;clear b;go_wp2;go_ret;exact⟨aU m.o.symm,g.o⟩
def TZ (d:Nat)(n:Int)(p:Addr)(c:Nat)(s:ByteArray)(cols:Int)(ks:List aG)(A:Option Addr)(cap:Nat)(w:World)(f:nE w p (.mk c s cols ks) A cap)(i:au w d 105 (fu n))(o:1<=c)(j:c<=12)(g:qD c s.data.toList=false):Calls prog 106 #[qP d,az p] w λe w'=>e= .returned (.bool (kz c s.data.toList cols ks.length))/\Below w.heap.size w w':=by
 obtain⟨F,k,l,m⟩:=FP c o j s f.size;have q:=zh f;have r:=zh i;have t:=zh k;have u:=zh l;have v:=zh m;have x:=zh g;have y:=ah (kz c s.data.toList cols ks.length=false) (by unfold kz;rw[g];rfl);clear f i k l m g;go_enter func106,ntmps106;go_upto_region 1 with(fail)
 ·skip
  refine ql [az p,az p,az p,qI (c:Int),.bool false,.bool false,az p,az p,az p,qI (c:Int),.bool false,.bool false,.bool false,qP d,az p,az p,az p,qI (c:Int),qP d,qP d,az (ag d (c*3)),aR d (c*3+2),.func (.func F) #[] #[],az p,az p,aR p.block (p.off+1),af s,.bool false,.bool true,.bool true] (qt 30 []) (λa=>Hy (nE a p (.mk (c:Int) s cols ks) A cap)/\Hy (au a d 105 (fu n))/\Hy (Below w.heap.size w a)) ⟨q.o.drew,r.o.drew,fC (aL _ _)⟩ ?_ ?_
  ·refine⟨jA,jB,jB,jQ λa b=>(show a.cell? p=some (qI (c:Int)) from b.1.o.kind),λa b=>?_,jA,jA,jB,jB,jQ λa b=>(show a.cell? p=some (qI (c:Int)) from b.1.o.kind),λa b=>?_,jA,jA,jA,jA,jB,jB,jQ λa b=>(show a.cell? p=some (qI (c:Int)) from b.1.o.kind),jB,jB,λa b=>?_,jB,jQ λa b=>(show a.cell? (ag d (c*3+2))=some (.func (.func F) #[] #[]) from(b.2.1.o.cell _).trans (t.o n)),jA,jB,jB,jQ λa b=>(show a.cell? (aF p 1)=some (af s) from b.1.o.text),λa b=>?_,jB,jA,trivial⟩
   ·skip
    exact jv (.bool false) a sI ⟨rfl,b⟩
   ·skip
    exact jv (.bool false) a sI ⟨rfl,b⟩
   ·have B:=j;exact jv (az (ag d (c*3))) a jw ⟨rfl,b⟩
   ·refine jc F (#[af s]) a (iy u.o) ((v.o a).mono ?_);rintro e C ⟨rfl,h⟩;exact⟨_,rfl,by rw[x.o],b.1.o.keep h,ae h b.2.1.o,b.2.2.o.trans (h.mono b.2.2.o.size)⟩
  ·intro a b;have z:=b.2.2;clear b;go_wp2;go_ret;exact⟨aU y.o.symm,z.o⟩
end Go.Proofs.YtlefbenkhgbifaaGreatDoor.At
