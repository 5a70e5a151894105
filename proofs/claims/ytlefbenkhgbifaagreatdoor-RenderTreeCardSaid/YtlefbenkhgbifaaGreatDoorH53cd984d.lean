/- A region that draws its order, where each operation comes to one value whatever the. -/
import Derived.Shelf.Small.Strs
import Derived.Shelf.Small.Wraps
import Derived.Shelf.Strconv.Atoi
import Derived.Shelf.Strconv.Itoa0
import Derived.Shelf.Strconv.Itoa1
import Derived.Shelf.LaysM
import Derived.Shelf.Strconv.Itoa2
import Derived.Shelf.Strconv.Itoa3
import Derived.Shelf.Strconv.AtoiErrFast
import Derived.Shelf.Strconv.ParseIntEmpty
import Derived.Shelf.Strconv.AtoiFail
import Derived.Shelf.Strconv.Clone
import Derived.Shelf.Strconv.SyntaxError
import Derived.Shelf.LaysC
import Derived.Shelf.Strconv.ToError
import Derived.Shelf.Strconv.Lower
import Derived.Shelf.Strconv.ParseUint10
import Derived.Shelf.Strconv.ParseUint10Empty
import Derived.Shelf.Strconv.ParseUint10Any
import Derived.Shelf.Strconv.ParseInt10
import Derived.Shelf.Strconv.AtoiLong
import Derived.Shelf.Strconv.AtoiInnerAll
import Derived.Shelf.Strconv.RangeError
import Derived.Shelf.Strconv.ToErrorRange
import Derived.Shelf.Strconv.AtoiAll
import Derived.Shelf.Strconv.ErrVarAll
import Derived.Shelf.Strings.Search1
import Derived.Shelf.Strings.Search2
import Derived.Shelf.Strings.Search3
import Derived.Shelf.Strings.Cut
import Derived.Shelf.Strings.Shaped
import Derived.Shelf.Strings.Prefix
import Derived.Test.YtlefbenkhgbifaaGreatDoorH2117b88b
import Derived.Orders
set_option linter.all false
set_option maxRecDepth 100000
set_option maxHeartbeats 800000
namespace Go.Proofs
open YtlefbenkhgbifaaGreatDoor
open Go.Shelf Tryz
def Tryz.lays137_ren:Go.Shelf.Ren:=⟨fun|137=>141|217=>163|266=>183|n=>n,fun|9=>9|5=>5|3=>3|n=>n,fun|n=>n⟩
def Tryz.lays137:Go.Proofs.Lays.n137 prog Tryz.lays137_ren:={
 mixed:=aj
 f137:=func141.trans (congrArg some aj)
 f217:=func163.trans (congrArg some aj)
 f266:=func183.trans (congrArg some aj)
 t3:=underlying3
 a3:=tJ
 z3:=tK
 v3:=tL
 t5:=underlying5
 a5:=Tryz.isAgg5
 z5:=uZ
 v5:=ve
 t9:=underlying9
 a9:=tN
 z9:=tO
 v9:=tQ}
open Go.RowKit in
def Tryz.strings_IndexByte (s:ByteArray)(c:Int)(w:World):
  Calls prog 141 #[af s,.int .u8 c] w λe w'=>e= .returned (.int .i64 (Lib.indexByte s.data.toList c.toNat.toUInt8))/\w'=w:=Any.strings_IndexByte Tryz.lays137 s c w
def Tryz.lays171_ren:Go.Shelf.Ren:=⟨fun|171=>158|243=>177|246=>191|283=>194|284=>195|285=>196|286=>197|129=>199|317=>198|318=>200|319=>201|320=>202|337=>203|338=>204|n=>n,fun|3=>3|9=>9|2=>2|4=>4|171=>241|0=>0|53=>194|37=>162|5=>5|173=>244|212=>247|51=>234|20=>20|213=>248|46=>197|232=>252|233=>253|n=>n,fun|17=>3|18=>4|19=>5|n=>n⟩
def Tryz.lays171:Go.Proofs.Lays.n171 prog Tryz.lays171_ren:={
 mixed:=aj
 f129:=func199.trans (congrArg some aj)
 f171:=func158.trans (congrArg some aj)
 f243:=func177.trans (congrArg some aj)
 f246:=func191.trans (congrArg some aj)
 f283:=func194.trans (congrArg some aj)
 f284:=func195.trans (congrArg some aj)
 f285:=func196.trans (congrArg some aj)
 f286:=func197.trans (congrArg some aj)
 f317:=func198.trans (congrArg some aj)
 f318:=func200.trans (congrArg some aj)
 f319:=func201.trans (congrArg some aj)
 f320:=func202.trans (congrArg some aj)
 f337:=func203.trans (congrArg some aj)
 f338:=func204.trans (congrArg some aj)
 t0:=underlying0
 a0:=Tryz.isAgg0
 z0:=Tryz.sizeOf0
 v0:=Tryz.zeroValue0
 t2:=underlying2
 a2:=Tryz.isAgg2
 z2:=Tryz.sizeOf2
 v2:=Tryz.zeroValue2
 t3:=underlying3
 a3:=tJ
 z3:=tK
 v3:=tL
 t4:=underlying4
 a4:=Tryz.isAgg4
 z4:=vg
 v4:=tT
 t5:=underlying5
 a5:=Tryz.isAgg5
 z5:=uZ
 v5:=ve
 t9:=underlying9
 a9:=tN
 z9:=tO
 v9:=tQ
 t20:=underlying20
 a20:=Tryz.isAgg20
 z20:=Tryz.sizeOf20
 v20:=Tryz.zeroValue20
 t37:=underlying162
 a37:=Tryz.isAgg162
 z37:=Tryz.sizeOf162
 v37:=Tryz.zeroValue162
 t46:=underlying197
 a46:=Tryz.isAgg197
 z46:=Tryz.sizeOf197
 v46:=xB
 t51:=underlying234
 a51:=Tryz.isAgg234
 z51:=Tryz.sizeOf234
 v51:=xC
 t53:=underlying194
 a53:=Tryz.isAgg194
 z53:=Tryz.sizeOf194
 v53:=Tryz.zeroValue194
 t171:=underlying241
 a171:=Tryz.isAgg241
 z171:=Tryz.sizeOf241
 v171:=Tryz.zeroValue241
 t173:=underlying244
 a173:=Tryz.isAgg244
 z173:=Tryz.sizeOf244
 v173:=Tryz.zeroValue244
 t212:=underlying247
 a212:=Tryz.isAgg247
 z212:=Tryz.sizeOf247
 v212:=Tryz.zeroValue247
 t213:=underlying248
 a213:=Tryz.isAgg248
 z213:=Tryz.sizeOf248
 t232:=underlying252
 a232:=Tryz.isAgg252
 z232:=Tryz.sizeOf252
 v232:=Tryz.zeroValue252
 t233:=underlying253
 a233:=Tryz.isAgg253
 z233:=Tryz.sizeOf253
 v233:=Tryz.zeroValue253
 g17:=aj
 g18:=aj
 g19:=aj}
open Go.RowKit Go.Sort Go.Lib in
def Tryz.strconv_Itoa_small (i:Nat)(a:i<100)(w:World):
  Calls prog 158 #[.int .i64 i] w λe w'=>e= .returned (af ⟨(Lib.decDigits i).toArray⟩)/\w'=w:=Any.strconv_Itoa_small Tryz.lays171 i a w
def Tryz.lays144_ren:Go.Shelf.Ren:=⟨fun|144=>84|143=>120|219=>153|217=>163|225=>172|224=>173|267=>174|266=>183|314=>190|n=>n,fun|9=>9|4=>4|3=>3|5=>5|46=>197|146=>235|51=>234|n=>n,fun|1=>2|n=>n⟩
def Tryz.lays144:Go.Proofs.Lays.n144 prog Tryz.lays144_ren:={
 mixed:=aj
 f143:=func120.trans (congrArg some aj)
 f144:=func84.trans (congrArg some aj)
 f217:=func163.trans (congrArg some aj)
 f219:=func153.trans (congrArg some aj)
 f224:=func173.trans (congrArg some aj)
 f225:=func172.trans (congrArg some aj)
 f266:=func183.trans (congrArg some aj)
 f267:=func174.trans (congrArg some aj)
 f314:=func190.trans (congrArg some aj)
 t3:=underlying3
 a3:=tJ
 z3:=tK
 v3:=tL
 t4:=underlying4
 a4:=Tryz.isAgg4
 z4:=vg
 v4:=tT
 t5:=underlying5
 a5:=Tryz.isAgg5
 z5:=uZ
 v5:=ve
 t9:=underlying9
 a9:=tN
 z9:=tO
 v9:=tQ
 t46:=underlying197
 a46:=Tryz.isAgg197
 z46:=Tryz.sizeOf197
 v46:=xB
 t51:=underlying234
 a51:=Tryz.isAgg234
 z51:=Tryz.sizeOf234
 v51:=xC
 t146:=underlying235
 a146:=Tryz.isAgg235
 z146:=Tryz.sizeOf235
 v146:=Tryz.zeroValue235
 g1:=aj}
open Go.RowKit Go.Lib in
def Tryz.strings_Contains_one (s:ByteArray)(c:UInt8)(w:World):
  Calls prog 84 #[af s,af ⟨#[c]⟩] w λe w'=>e= .returned (.bool (decide (0<=Lib.indexByte s.data.toList c)))/\w'=w:=Any.strings_Contains_one Tryz.lays144 s c w
def Tryz.lays145_ren:Go.Shelf.Ren:=⟨fun|145=>139|220=>162|219=>153|217=>163|225=>172|224=>173|267=>174|266=>183|314=>190|n=>n,fun|9=>9|4=>4|59=>180|3=>3|5=>5|46=>197|146=>235|51=>234|n=>n,fun|1=>2|n=>n⟩
def Tryz.lays145:Go.Proofs.Lays.n145 prog Tryz.lays145_ren:={
 mixed:=aj
 f145:=func139.trans (congrArg some aj)
 f217:=func163.trans (congrArg some aj)
 f219:=func153.trans (congrArg some aj)
 f220:=func162.trans (congrArg some aj)
 f224:=func173.trans (congrArg some aj)
 f225:=func172.trans (congrArg some aj)
 f266:=func183.trans (congrArg some aj)
 f267:=func174.trans (congrArg some aj)
 f314:=func190.trans (congrArg some aj)
 t3:=underlying3
 a3:=tJ
 z3:=tK
 v3:=tL
 t4:=underlying4
 a4:=Tryz.isAgg4
 z4:=vg
 v4:=tT
 t5:=underlying5
 a5:=Tryz.isAgg5
 z5:=uZ
 v5:=ve
 t9:=underlying9
 a9:=tN
 z9:=tO
 v9:=tQ
 t46:=underlying197
 a46:=Tryz.isAgg197
 z46:=Tryz.sizeOf197
 v46:=xB
 t51:=underlying234
 a51:=Tryz.isAgg234
 z51:=Tryz.sizeOf234
 v51:=xC
 t59:=underlying180
 a59:=Tryz.isAgg180
 z59:=Tryz.sizeOf180
 v59:=Tryz.zeroValue180
 t146:=underlying235
 a146:=Tryz.isAgg235
 z146:=Tryz.sizeOf235
 v146:=Tryz.zeroValue235
 g1:=aj}
end Go.Proofs
namespace Go.Proofs.YtlefbenkhgbifaaGreatDoor
open Go.RowKit Tryz
variable{B g:Nat}{t:TypeId}{cs:Array Value}{a w w':World}{ss:List ByteArray}{s:ByteArray}
def au (w:World)(g:Nat)(t:TypeId)(cs:Array Value):Prop:=w.heap[g]?=some (.cells cs t (0,0))
section
variable {w w' : World} {g : Nat} {t : TypeId} {cs : Array Value}
def au.lt (h:au w g t cs):g<w.heap.size:=by
 rcases bu g w.heap.size with a|b
 ·exact a
 ·unfold au at h;rw[ig b] at h;cases h
def au.cell (h:au w g t cs)(i:Nat):w.cell? (ag g i)=cs[i]?:=cell_of_row w g i cs t (0,0) h
def au.frozen (h:au w g t cs)(i:Nat):w.frozen? (ag g i)=false:=by
 unfold au at h;simp[World.frozen?,h]
def au.new (w:World)(t:TypeId)(cs:Array Value):au (w.alloc (.cells cs t)) w.heap.size t cs:=heap_alloc_new w _
def au.drew (h:au w g t cs):au w.drew g t cs:=h
def au.drewN (h:au w g t cs)(n:Nat):au (w.drewN n) g t cs:=h
def au.alloc (h:au w g t cs)(o:Obj):au (w.alloc o) g t cs:=(Below.heap_alloc w o g h.lt).trans h
def au.set_ (h:au w g t cs)(i:Nat)(u:Value):au (w.setCell (ag g i) u) g t (cs.setIfInBounds i u):=by
 unfold au at h⊢;simp[World.setCell,Array.getElem?_modify,h]
def au.far (h:au w g t cs){p:Addr}(a:g≠p.block)(u:Value):au (w.setCell p u) g t cs:=(xD w p u g a).trans h
def au.below (h:au w g t cs)(a:Below B w w')(b:g<B):au w' g t cs:=(a.block g b).trans h
def au.grown {row:Option Nat}(h:au w g t cs)(a:w.grownBy w' row)(b:some g≠row):au w' g t cs:=(a.block g h.lt b).trans h
end
def ae {W a:World}(b:Below W.heap.size W a)(h:au W g t cs):au a g t cs:=h.below b h.lt
def fC (h:Below B a w):Below B a w.drew:=⟨h.os,h.tape,h.output,h.size,h.block⟩
def below_drewN (h:Below B a w)(n:Nat):Below B a (w.drewN n):=⟨h.os,h.tape,h.output,h.size,h.block⟩
def aN (w:World)(o:Obj):Below w.heap.size w (w.alloc o):=(aL _ _).alloc (aH _) o
def Bw (w:World)(g:Nat)(ss:List ByteArray):Prop:=g<w.heap.size/\∀(j:Nat) (s:ByteArray),ss[j]?=some s->w.cell? (ag g j)=some (af s)
def Bw.new (w:World)(ss:List ByteArray)(t:TypeId):Bw (w.alloc (.cells (ss.map Value.string).toArray t)) w.heap.size ss:=by
 refine⟨aS,λj s a=>?_⟩;rw[au.cell (au.new w t _)];simp[a]
def Rw {x:ByteArray}{k:Nat}(a:ss[k]?=some x)(h:(x.toList==s.toList)=true):kV (ss.map (·.toList)) s.toList=true:=by
 unfold kV;rw[rz];rw[<-aT.1 h];exact nM.2 ⟨x,dQ a,rfl⟩
def Rx (h:∀(j:Nat) x,ss[j]?=some x->(x.toList==s.toList)=false):kV (ss.map (·.toList)) s.toList=false:=by
 unfold kV;rw[tH];intro a;rw[rz,nM] at a;obtain⟨x,b,c⟩:=a;obtain⟨j,d⟩:=gz.1 b;have:=h j x d;rw[c] at this;simp at this
def Im (g cap:Nat)(ss:List ByteArray)(s:ByteArray)(w:World)(d:Bw w g ss)(r:ss.length<=1000000):Calls prog 110 #[ay (ag g (0)) ss.length cap,af s] w λe w'=>e= .returned (.bool (kV (ss.map (·.toList)) s.toList))/\w=w':=by
 have n:=zh d;clear d;go_enter func110,ntmps110;go_wp2_with fail
 go_loop [5] (λi=>∃k:Nat,k<=ss.length/\i=qI k/\Hy (∀(j:Nat) x,ss[j]?=some x->j<k->(x.toList==s.toList)=false)) (λi=>ss.length -(intOf i).toNat)
 case atStart=>exact⟨0,aa,rfl,λj _ _ h=>aa⟩
 case round=>
  obtain⟨k,t,rfl,f⟩:=hrel
  by_cases o:k<ss.length
  ·obtain⟨x,b⟩:∃x,ss[k]?=some x:=⟨_,gE o⟩
   have u:=n.o.2 k x b;cases l:(x.toList==s.toList)
   ·have p:=zh b;have q:=zh l;clear b;go_wp2_with fail;go_round
    case rel=>exact⟨k+1,aa,bi,λj y a h=>by
     rcases bu j k with m|m
     ·exact f.o j y a m
     ·obtain rfl:j=k:=by omega
      rw[p.o] at a;obtain rfl:=sj a;exact q.o⟩
    case measure=>simp[intOf];omega
   ·have c:=zh (Rw b l);clear b;go_wp2_with fail;go_ret;exact⟨aU c.o.symm,rfl⟩
  ·have c:=zh (Rx (ss:=ss) (s:=s) λj x a=>f.o j x a (by
    rcases bu j ss.length with h|h
    ·omega
    ·rw[ko h] at a;cases a))
   go_wp2_with fail;go_ret;exact⟨aU c.o.symm,rfl⟩
def DW:List ByteArray:=[⟨#[102,114,97,99]⟩,⟨#[114,111,111,116]⟩,⟨#[109,97,116,114,105,120]⟩,⟨#[102,101,110,99,101]⟩]
def Ry:DW.map (·.toList)=vw:=by
 simp only[DW,di,jl,bz];rfl
def Rz (w:World):Calls prog 111 #[] w λe w'=>e= .returned (ay (ag w.heap.size (0)) 4 4)/\Bw w' w.heap.size DW/\Below w.heap.size w w':=by
 go_enter func111,ntmps111;go_wp2_with fail;go_ret;exact⟨rfl,Bw.new w DW _,aN _ _⟩
def AZ:List ByteArray:=[⟨#[104,97,116]⟩,⟨#[98,97,114]⟩,⟨#[118,101,99]⟩,⟨#[100,111,116]⟩,⟨#[116,105,108,100,101]⟩,⟨#[99,104,101,99,107]⟩]
def Lx:AZ.map (·.toList)=rT:=by
 simp only[AZ,di,jl,bz];rfl
def LA (w:World):Calls prog 112 #[] w λe w'=>e= .returned (ay (ag w.heap.size (0)) 6 6)/\Bw w' w.heap.size AZ/\Below w.heap.size w w':=by
 go_enter func112,ntmps112;go_wp2_with fail;go_ret;exact⟨rfl,Bw.new w AZ _,aN _ _⟩
def LB (h:s.size=1):∃c:UInt8,s=⟨#[c]⟩:=Lib.one_byte s h
def LC (c:UInt8):fV (⟨#[c]⟩:ByteArray).toList=(bU c||lI yA c):=by rw[bz];rfl
def LD (h:s.size≠1):fV s.toList=(decide (2<=s.size)&&(decide (s.size<=16)&&(tY s.toList&&(!kV vw s.toList&& !kV rT s.toList)))):=by
 rw[<-Bv s] at h⊢;unfold fV
 split
 ·rename_i c a;rw[a] at h;exact absurd rfl h
 ·rfl
def RB (c:UInt8)(w:World):Calls prog 75 #[af ⟨#[c]⟩] w λe w'=>e= .returned (.bool (fV (⟨#[c]⟩:ByteArray).toList))/\Below w.heap.size w w':=by
 rw[LC];go_enter func75,ntmps75;go_wp2_with fail;refine(Rv c _).mono ?_;rintro e w' ⟨rfl,rfl⟩;generalize a:(bU c||lI yA c)=b;have d:=zh a;clear a;go_wp2_with fail;go_ret;exact⟨aU d.o.symm,aL _ _⟩
def RD (s:ByteArray)(w:World)(A:s.size<=9223372036854775807)(n:s.size≠1):Calls prog 75 #[af s] w λe w'=>e= .returned (.bool (fV s.toList))/\Below w.heap.size w w':=by
 have a:=zh (LD n);have B:((s.size:Int)==1)=false:=wF
 clear n;go_enter func75,ntmps75;go_wp2_with fail
 go_loop [3] (λi=>∃k:Nat,k<=s.size/\i=qI k/\Hy (∀(j:Nat) (f:j<s.size),j<k->bU s[j]=true)) (λi=>s.size -(intOf i).toNat)
 case atStart=>exact⟨0,aa,rfl,λj _ h=>aa⟩
 case round=>
  obtain⟨k,b,rfl,o⟩:=hrel
  by_cases x:k<s.size
  ·go_wp2_with fail;refine(Ik s[k] _).mono ?_;rintro e w' ⟨rfl,rfl⟩;cases g:bU s[k]
   ·have m:=zh (vV x g);clear g;go_wp2_with fail;go_ret;exact⟨aU (by rw[a.o];unfold tY;rw[m.o];simp),aL _ _⟩
   ·have y:=zh g;clear g;go_wp2_with fail;go_round
    case rel=>exact⟨k+1,aa,bi,λj f h=>by
     rcases bu j k with q|q
     ·exact o.o j f q
     ·obtain rfl:j=k:=by omega
      exact y.o⟩
    case measure=>simp[intOf];omega
  ·have m:=ah (tY s.toList=true) (yY (s:=s) (p:=bU) λj f=>o.o j f aa)
   by_cases r:2<=s.size
   ·by_cases t:s.size<=16
    ·rw[aJ r,aJ t,m.o] at a;go_wp2_with fail;refine(Rz _).mono ?_;rintro e z ⟨rfl,c,d⟩;have u:=zh d;clear d;go_wp2_with fail;refine(Im w.heap.size 4 DW s _ c aI).mono ?_;rintro e w' ⟨rfl,rfl⟩;clear c;rw[Ry];cases b:kV vw s.toList
     ·rw[b] at a;clear b;go_wp2_with fail;refine(LA _).mono ?_;rintro e C ⟨rfl,c,d⟩;have v:=jt u d;clear d;go_wp2_with fail;refine(Im z.heap.size 6 AZ s _ c aI).mono ?_;rintro e w' ⟨rfl,rfl⟩;clear c;rw[Lx];cases l:kV rT s.toList
      ·rw[l] at a;clear l;go_wp2_with fail;go_ret;exact⟨aU (by rw[a.o];rfl),v.o⟩
      ·rw[l] at a;clear l;go_wp2_with fail;go_ret;exact⟨aU (by rw[a.o];rfl),v.o⟩
     ·rw[b] at a;clear b;go_wp2_with fail;go_ret;exact⟨aU (by rw[a.o];rfl),u.o⟩
    ·rw[aK t,bL,bF] at a;go_wp2_with fail;go_ret;exact⟨aU (by rw[a.o]),aL _ _⟩
   ·rw[aK r,bL] at a;go_wp2_with fail;go_ret;exact⟨aU (by rw[a.o]),aL _ _⟩
def yD (s:ByteArray)(w:World)(a:s.size<=9223372036854775807):Calls prog 75 #[af s] w λe w'=>e= .returned (.bool (fV s.toList))/\Below w.heap.size w w':=by
 by_cases h:s.size=1
 ·obtain⟨c,rfl⟩:=LB h;exact RB c w
 ·exact RD s w a h
def contains_one (c:UInt8):decide (0<=Lib.indexByte yA c)=lI yA c:=by
 have h:∀n:Nat,n<256->decide (0<=Lib.indexByte yA (UInt8.ofNat n))=lI yA (UInt8.ofNat n):=dW
 have:=h c.toNat c.toNat_lt
 rwa [UInt8.ofNat_toNat] at this
def LF (c:UInt8):tY (⟨#[c]⟩:ByteArray).toList=bU c:=by rw[bz];simp[tY]
def RF (c:UInt8)(w:World):Calls prog 59 #[af ⟨#[c]⟩] w λe w'=>e= .returned (.bool (fV (⟨#[c]⟩:ByteArray).toList))/\Below w.heap.size w w':=by
 rw[LC];have g:=zh (contains_one c);cases a:bU c
 ·have d:=zh a;clear a;go_enter func59,ntmps59;go_wp2_with fail;refine(Ih _ _ (by show 1<=9223372036854775807;omega)).mono ?_;rintro e w' ⟨rfl,rfl⟩;rw[LF,d.o];go_wp2_with fail;refine(Tryz.strings_Contains_one _ _ _).mono ?_;rintro e w' ⟨rfl,rfl⟩;rw[show(⟨#[43,45,42,47,61,60,62,44,59,58,33,124,39,63,126,64]⟩:ByteArray).data.toList=yA from rfl,g.o];generalize f:lI yA c=b;have h:=zh f;clear f;go_wp2_with fail;go_ret;exact⟨aU (by rw[h.o,ow]),aL _ _⟩
 ·have d:=zh a;clear a;go_enter func59,ntmps59;go_wp2_with fail;refine(Ih _ _ (by show 1<=9223372036854775807;omega)).mono ?_;rintro e w' ⟨rfl,rfl⟩;rw[LF,d.o];go_wp2_with fail;go_ret;exact⟨aU (Bool.true_or _).symm,aL _ _⟩
def RG (s:ByteArray)(w:World)(i:s.size<=9223372036854775807)(f:s.size≠1):Calls prog 59 #[af s] w λe w'=>e= .returned (.bool (fV s.toList))/\Below w.heap.size w w':=by
 have a:=zh (LD f);have j:((s.size:Int)==1)=false:=wF
 clear f
 by_cases g:2<=s.size
 ·by_cases h:s.size<=16
  ·rw[aJ g,aJ h] at a;go_enter func59,ntmps59;go_wp2_with fail;refine(Ih s _ i).mono ?_;rintro e w' ⟨rfl,rfl⟩;cases b:tY s.toList
   ·rw[b] at a;clear b;go_wp2_with fail;go_ret;exact⟨aU (by rw[a.o];rfl),aL _ _⟩
   ·rw[b] at a;clear b;go_wp2_with fail;refine(Rp s _).mono ?_;rintro e w' ⟨rfl,rfl⟩;cases c:kV vw s.toList
    ·rw[c] at a;clear c;go_wp2_with fail;refine(Lv s _).mono ?_;rintro e w' ⟨rfl,rfl⟩;cases d:kV rT s.toList
     ·rw[d] at a;clear d;go_wp2_with fail;go_ret;exact⟨aU (by rw[a.o];rfl),aL _ _⟩
     ·rw[d] at a;clear d;go_wp2_with fail;go_ret;exact⟨aU (by rw[a.o];rfl),aL _ _⟩
    ·rw[c] at a;clear c;go_wp2_with fail;go_ret;exact⟨aU (by rw[a.o];rfl),aL _ _⟩
  ·rw[aK h,bL,bF] at a;go_enter func59,ntmps59;go_wp2_with fail;go_ret;exact⟨aU (by rw[a.o]),aL _ _⟩
 ·rw[aK g,bL] at a;go_enter func59,ntmps59;go_wp2_with fail;go_ret;exact⟨aU (by rw[a.o]),aL _ _⟩
def CF (s:ByteArray)(w:World)(a:s.size<=9223372036854775807):Calls prog 59 #[af s] w λe w'=>e= .returned (.bool (fV s.toList))/\Below w.heap.size w w':=by
 by_cases h:s.size=1
 ·obtain⟨c,rfl⟩:=LB h;exact RF c w
 ·exact RG s w a h
def kp (a:Below w.heap.size w w')(h:Hy (au w g t cs)):Hy (au w' g t cs):=zh (ae a h.o)
def qa (h:Hy (au w g t cs)):w.cell? (ag g (0))=cs[0]?/\w.cell? (ag g (1))=cs[1]?/\w.cell? (ag g (2))=cs[2]?:=⟨h.o.cell 0,h.o.cell 1,h.o.cell 2⟩
def qb (h:Hy (au w g t cs)):w.cell? (ag g (0))=cs[0]?/\w.cell? (ag g (1))=cs[1]?/\w.cell? (ag g (2))=cs[2]?/\w.cell? (ag g (3))=cs[3]?:=⟨h.o.cell 0,h.o.cell 1,h.o.cell 2,h.o.cell 3⟩
def qc (h:Hy (au w g t cs)):w.cell? (ag g (0))=cs[0]?/\w.cell? (ag g (1))=cs[1]?/\w.cell? (ag g (2))=cs[2]?/\w.cell? (ag g (3))=cs[3]?/\w.cell? (ag g (4))=cs[4]?:=⟨h.o.cell 0,h.o.cell 1,h.o.cell 2,h.o.cell 3,h.o.cell 4⟩
abbrev aD.c (r:aD):Array Value:= #[qI r.kind,af r.sym,af r.nam,qI r.prec,qI r.left,qI r.right]
abbrev aD.v (r:aD):Value:=.agg r.c
def aD.fits (r:aD):Prop:=r.sym.size<=9223372036854775807/\r.nam.size<=9223372036854775807
def Io (r:aD):Bool:=if r.kind=1 then fV r.sym.toList else if r.kind=2 then fV r.sym.toList&&decide (r.left=0) else if r.kind=3 then fV r.sym.toList&&decide (r.right=0) else decide (r.kind=4)&&r.sym.toList.isEmpty
def LG (r:aD):ni r=(ky r.nam.toList&&(pG r.prec 1 100&&(pG r.left 0 101&&(pG r.right 0 101&&Io r)))):=rfl
def Bz (r:aD)(w:World)(t:r.fits):Calls prog 25 #[r.v] w λe w'=>e= .returned (.bool (ni r))/\Below w.heap.size w w':=by
 have a:=zh (LG r);have m:=zh t;clear t;go_enter func25,ntmps25;go_wp2_with fail;refine(Rq r.nam _ m.o.2).mono ?_;rintro e w' ⟨rfl,rfl⟩;cases n:ky r.nam.toList
 ·rw[n,bL] at a;clear n;go_wp2_with fail;go_ret;exact⟨aU a.o.symm,aN _ _⟩
 ·rw[n] at a;clear n;go_wp2_with fail;refine(Ii r.prec 1 100 _).mono ?_;rintro e w' ⟨rfl,rfl⟩;cases o:pG r.prec 1 100
  ·rw[o,bL,bF] at a;clear o;go_wp2_with fail;go_ret;exact⟨aU a.o.symm,aN _ _⟩
  ·rw[o] at a;clear o;go_wp2_with fail;refine(Ii r.left 0 101 _).mono ?_;rintro e w' ⟨rfl,rfl⟩;cases p:pG r.left 0 101
   ·rw[p,bL,bF,bF] at a;clear p;go_wp2_with fail;go_ret;exact⟨aU a.o.symm,aN _ _⟩
   ·rw[p] at a;clear p;go_wp2_with fail;refine(Ii r.right 0 101 _).mono ?_;rintro e w' ⟨rfl,rfl⟩;cases q:pG r.right 0 101
    ·rw[q,bL,bF,bF,bF] at a;clear q;go_wp2_with fail;go_ret;exact⟨aU a.o.symm,aN _ _⟩
    ·rw[q] at a;clear q;rw[aW,aW,aW,aW] at a;unfold Io at a
     by_cases f:r.kind=1
     ·rw[ak f] at a;have y:(r.kind==1)=true:=by rw[f];rfl
      clear f;go_wp2_with fail;refine(CF r.sym _ m.o.1).mono ?_;rintro e u ⟨rfl,d⟩;have i:=zh (ae d (au.new w 41 r.c));have g:=zh ((aN w _).trans (d.mono aS));have v:=i.o.cell;have x:=i.o.lt;clear d;generalize fV r.sym.toList=b at a⊢;go_wp2_with fail;go_ret;exact⟨aU a.o.symm,g.o⟩
     ·rw[ai f] at a;have y:(r.kind==1)=false:=by rw[aZ];exact f
      by_cases j:r.kind=2
      ·rw[ak j] at a;have z:(r.kind==2)=true:=by rw[j];rfl
       clear f j;go_wp2_with fail;refine(CF r.sym _ m.o.1).mono ?_;rintro e u ⟨rfl,d⟩;have i:=zh (ae d (au.new w 41 r.c));have g:=zh ((aN w _).trans (d.mono aS));have v:=i.o.cell;have x:=i.o.lt;clear d;cases h:fV r.sym.toList
       ·rw[h,bL] at a;clear h;go_wp2_with fail;go_ret;exact⟨aU a.o.symm,g.o⟩
       ·rw[h,aW] at a;clear h
        by_cases c:r.left=0
        ·rw[aJ c] at a;have s:(r.left==0)=true:=by rw[c];rfl
         clear c;go_wp2_with fail;go_ret;exact⟨aU a.o.symm,g.o⟩
        ·rw[aK c] at a;have s:(r.left==0)=false:=by rw[aZ];exact c
         clear c;go_wp2_with fail;go_ret;exact⟨aU a.o.symm,g.o⟩
      ·rw[ai j] at a;have z:(r.kind==2)=false:=by rw[aZ];exact j
       by_cases k:r.kind=3
       ·rw[ak k] at a;have A:(r.kind==3)=true:=by rw[k];rfl
        clear f j k;go_wp2_with fail;refine(CF r.sym _ m.o.1).mono ?_;rintro e u ⟨rfl,d⟩;have i:=zh (ae d (au.new w 41 r.c));have g:=zh ((aN w _).trans (d.mono aS));have v:=i.o.cell;have x:=i.o.lt;clear d;cases h:fV r.sym.toList
        ·rw[h,bL] at a;clear h;go_wp2_with fail;go_ret;exact⟨aU a.o.symm,g.o⟩
        ·rw[h,aW] at a;clear h
         by_cases c:r.right=0
         ·rw[aJ c] at a;have s:(r.right==0)=true:=by rw[c];rfl
          clear c;go_wp2_with fail;go_ret;exact⟨aU a.o.symm,g.o⟩
         ·rw[aK c] at a;have s:(r.right==0)=false:=by rw[aZ];exact c
          clear c;go_wp2_with fail;go_ret;exact⟨aU a.o.symm,g.o⟩
       ·rw[ai k] at a;have A:(r.kind==3)=false:=by rw[aZ];exact k
        by_cases l:r.kind=4
        ·rw[aJ l,aW] at a;have B:(r.kind==4)=true:=by rw[l];rfl
         clear f j k l;go_wp2_with fail;go_ret;exact⟨aU (by first|exact a.o.symm|(rw[a.o])),aN _ _⟩
        ·rw[aK l,bL] at a;have B:(r.kind==4)=false:=by rw[aZ];exact l
         clear f j k l;go_wp2_with fail;go_ret;exact⟨aU a.o.symm,aN _ _⟩
def RH (r:aD)(w:World)(t:r.fits):Calls prog 49 #[r.v] w λe w'=>e= .returned (.bool (ni r))/\Below w.heap.size w w':=by
 have a:=zh (LG r);have m:=zh t;clear t;go_enter func49,ntmps49;go_wp2_with fail;refine(DV r.nam _ m.o.2).mono ?_;rintro e w' ⟨rfl,rfl⟩;cases n:ky r.nam.toList
 ·rw[n,bL] at a;clear n;go_wp2_with fail;go_ret;exact⟨aU a.o.symm,aN _ _⟩
 ·rw[n] at a;clear n;go_wp2_with fail;refine(Ij r.prec 1 100 _).mono ?_;rintro e w' ⟨rfl,rfl⟩;cases o:pG r.prec 1 100
  ·rw[o,bL,bF] at a;clear o;go_wp2_with fail;go_ret;exact⟨aU a.o.symm,aN _ _⟩
  ·rw[o] at a;clear o;go_wp2_with fail;refine(Ij r.left 0 101 _).mono ?_;rintro e w' ⟨rfl,rfl⟩;cases p:pG r.left 0 101
   ·rw[p,bL,bF,bF] at a;clear p;go_wp2_with fail;go_ret;exact⟨aU a.o.symm,aN _ _⟩
   ·rw[p] at a;clear p;go_wp2_with fail;refine(Ij r.right 0 101 _).mono ?_;rintro e w' ⟨rfl,rfl⟩;cases q:pG r.right 0 101
    ·rw[q,bL,bF,bF,bF] at a;clear q;go_wp2_with fail;go_ret;exact⟨aU a.o.symm,aN _ _⟩
    ·rw[q] at a;clear q;rw[aW,aW,aW,aW] at a;unfold Io at a
     by_cases f:r.kind=1
     ·rw[ak f] at a;have y:(r.kind==1)=true:=by rw[f];rfl
      clear f;go_wp2_with fail;refine(yD r.sym _ m.o.1).mono ?_;rintro e u ⟨rfl,d⟩;have i:=zh (ae d (au.new w 41 r.c));have g:=zh ((aN w _).trans (d.mono aS));have v:=i.o.cell;have x:=i.o.lt;clear d;generalize fV r.sym.toList=b at a⊢;go_wp2_with fail;go_ret;exact⟨aU a.o.symm,g.o⟩
     ·rw[ai f] at a;have y:(r.kind==1)=false:=by rw[aZ];exact f
      by_cases j:r.kind=2
      ·rw[ak j] at a;have z:(r.kind==2)=true:=by rw[j];rfl
       clear f j;go_wp2_with fail;refine(yD r.sym _ m.o.1).mono ?_;rintro e u ⟨rfl,d⟩;have i:=zh (ae d (au.new w 41 r.c));have g:=zh ((aN w _).trans (d.mono aS));have v:=i.o.cell;have x:=i.o.lt;clear d;cases h:fV r.sym.toList
       ·rw[h,bL] at a;clear h;go_wp2_with fail;go_ret;exact⟨aU a.o.symm,g.o⟩
       ·rw[h,aW] at a;clear h
        by_cases c:r.left=0
        ·rw[aJ c] at a;have s:(r.left==0)=true:=by rw[c];rfl
         clear c;go_wp2_with fail;go_ret;exact⟨aU a.o.symm,g.o⟩
        ·rw[aK c] at a;have s:(r.left==0)=false:=by rw[aZ];exact c
         clear c;go_wp2_with fail;go_ret;exact⟨aU a.o.symm,g.o⟩
      ·rw[ai j] at a;have z:(r.kind==2)=false:=by rw[aZ];exact j
       by_cases k:r.kind=3
       ·rw[ak k] at a;have A:(r.kind==3)=true:=by rw[k];rfl
        clear f j k;go_wp2_with fail;refine(yD r.sym _ m.o.1).mono ?_;rintro e u ⟨rfl,d⟩;have i:=zh (ae d (au.new w 41 r.c));have g:=zh ((aN w _).trans (d.mono aS));have v:=i.o.cell;have x:=i.o.lt;clear d;cases h:fV r.sym.toList
        ·rw[h,bL] at a;clear h;go_wp2_with fail;go_ret;exact⟨aU a.o.symm,g.o⟩
        ·rw[h,aW] at a;clear h
         by_cases c:r.right=0
         ·rw[aJ c] at a;have s:(r.right==0)=true:=by rw[c];rfl
          clear c;go_wp2_with fail;go_ret;exact⟨aU a.o.symm,g.o⟩
         ·rw[aK c] at a;have s:(r.right==0)=false:=by rw[aZ];exact c
          clear c;go_wp2_with fail;go_ret;exact⟨aU a.o.symm,g.o⟩
       ·rw[ai k] at a;have A:(r.kind==3)=false:=by rw[aZ];exact k
        by_cases l:r.kind=4
        ·rw[aJ l,aW] at a;have B:(r.kind==4)=true:=by rw[l];rfl
         clear f j k l;go_wp2_with fail;go_ret;exact⟨aU (by first|exact a.o.symm|(rw[a.o])),aN _ _⟩
        ·rw[aK l,bL] at a;have B:(r.kind==4)=false:=by rw[aZ];exact l
         clear f j k l;go_wp2_with fail;go_ret;exact⟨aU a.o.symm,aN _ _⟩
def LH (o r:aD)(w:World):Calls prog 50 #[o.v,r.v] w λe w'=>e= .returned (.bool (nk o r))/\Below w.heap.size w w':=by
 cases c:(o.kind==r.kind)
 ·have a:=ah (nk o r=false) (by unfold nk;rw[aK (by rw[aZ] at c;exact c)];rfl);go_enter func50,ntmps50;go_wp2_with fail;go_ret;exact⟨aU a.o.symm,(aN w _).trans ((aN _ _).mono aS)⟩
 ·have b:decide (o.kind=r.kind)=true:=aJ (aT.1 c);cases d:(o.sym.toList==r.sym.toList)
  ·have a:=ah (nk o r=(o.nam.toList==r.nam.toList)) (by unfold nk;rw[b,d];rfl);clear b;go_enter func50,ntmps50;go_wp2_with fail;go_ret;exact⟨aU a.o.symm,(aN w _).trans ((aN _ _).mono aS)⟩
  ·have a:=ah (nk o r=true) (by unfold nk;rw[b,d];rfl);clear b;go_enter func50,ntmps50;go_wp2_with fail;go_ret;exact⟨aU a.o.symm,(aN w _).trans ((aN _ _).mono aS)⟩
def RI (o r:aD)(g:Nat)(w:World)(a:au w g 41 r.c):Calls prog 61 #[o.v,qP g] w λe w'=>e= .returned (.bool (nk o r))/\Below w.heap.size w w':=by
 cases d:(o.kind==r.kind)
 ·have b:=ah (nk o r=false) (by unfold nk;rw[aK (by rw[aZ] at d;exact d)];rfl);have f:=λi=>a.cell i
  have h:=a.lt;go_enter func61,ntmps61;go_wp2_with fail;go_ret;exact⟨aU b.o.symm,aN _ _⟩
 ·have c:decide (o.kind=r.kind)=true:=aJ (aT.1 d);cases j:(o.sym.toList==r.sym.toList)
  ·have b:=ah (nk o r=(o.nam.toList==r.nam.toList)) (by unfold nk;rw[c,j];rfl);clear c;have f:=λi=>a.cell i
   have h:=a.lt;go_enter func61,ntmps61;go_wp2_with fail;go_ret;exact⟨aU b.o.symm,aN _ _⟩
  ·have b:=ah (nk o r=true) (by unfold nk;rw[c,j];rfl);clear c;have f:=λi=>a.cell i
   have h:=a.lt;go_enter func61,ntmps61;go_wp2_with fail;go_ret;exact⟨aU b.o.symm,aN _ _⟩
end Go.Proofs.YtlefbenkhgbifaaGreatDoor
namespace Go.Proofs.YtlefbenkhgbifaaGreatDoor
open Tryz
variable{P:Program}{w w0:World}{R:Value->World->Prop}{i t id:Nat}{vals:Nat->Value}{a0:Act}{L:Nat->Bool}{a b:Prop}{I:World->Prop}
def aP (P:Program)(s:Sem Next)(w:World)(R:Value->World->Prop):Prop:=
 match s.run P w with
 | .ok (.value v) w'=>R v w'
 | .ok .skip w'=>R undef w'
 | .ok (.enter f args) w'=>Calls P f args w' λe w''=>∃v,e= .returned v/\R v w''
 |_=>False
def aP.wp {P:Program}{o:Oper}{a:Act}{w:World}{R:Value->World->Prop}{K:Act->World->Prop}{Q:Exit->Act->World->Prop}(h:aP P (execOp a.eval o) w R)(b:∀v w',R v w'->K (a.put o.dst v) w'):o.wp P a w K Q:=by
 unfold Oper.wp;unfold aP at h;generalize (execOp a.eval o).run P w=x at h;cases x with
 |halt e w'=>exact h.elim
 |ok n w'=>
  cases n with
  |value v=>exact b _ _ h
  |skip=>exact b _ _ h
  |enter f args=>
   refine rA h λe g c=>?_
   obtain⟨v,rfl,d⟩:=c;exact b _ _ d
  |_=>exact h.elim
def aP.value {P:Program}{s:Sem Next}{w w':World}{v:Value}{R:Value->World->Prop}(h:s.run P w= .ok (.value v) w')(a:R v w'):aP P s w R:=by unfold aP;rw[h];exact a
def aP.skip {P:Program}{s:Sem Next}{w w':World}{R:Value->World->Prop}(h:s.run P w= .ok .skip w')(a:R undef w'):aP P s w R:=by unfold aP;rw[h];exact a
def aP.call {s:Sem Next}{w':World}{f:FuncId}{args:Array Value}(h:s.run P w= .ok (.enter f args) w')(a:Calls P f args w' λe b=>∃v,e= .returned v/\R v b):aP P s w R:=by unfold aP;rw[h];exact a
section
variable {P : Program} {ops : Array Oper} {Q : Exit -> Act -> World -> Prop}
def fK (ops:Array Oper)(i:Nat):Option Tmp:=(ops[i]?).bind (·.dst)
def mX (ops:Array Oper)(vals:Nat->Value)(a:Act)(l:List Nat):Act:=l.foldl (λa i=>a.put (fK ops i) (vals i)) a
def fin (ops:Array Oper)(vals:Nat->Value)(a:Act):Act:=mX ops vals a (List.range ops.size)
def yZ (ops:Array Oper):Bool:=(List.range ops.size).all λi=>(List.range ops.size).all λj=>i==j||fK ops i !=fK ops j||(fK ops i).isNone
def kC (o:Oper)(j:Nat):Bool:=o.after.any λe=>e.on==j&&Region.binds .any e
def xI (ops:Array Oper)(o:Oper):Bool:=
 (o.op.operands.all fun| .tmp t=>(List.range ops.size).all λj=>fK ops j !=some t||kC o j |_=>true)&&
 (match o.guard with|none=>true|some (g,_)=>kC o g)
def zZ (ops:Array Oper):Bool:=Region.noSelect ops&&yZ ops&&(ops.all (xI ops))&&(List.range ops.size).all λi=>match ops[i]? with
 |some o=>o.after.all λe=> !Region.binds .any e||decide (e.on<i)
 |none=>true
def za (a:Act)(d:Option Tmp)(v:Value)(t:Nat):(a.put d v).tmps[t]?=if d=some t/\t<a.tmps.size then some v else a.tmps[t]?:=by
 cases d with
 |none=>simp[Act.put]
 |some d=>
  simp only[Act.put,tV,gV]
  by_cases h:d=t
  ·subst h
   by_cases b:d<a.tmps.size
   ·simp[b]
   ·simp[b]
  ·simp[h]
def CG (a:Act)(d:Option Tmp)(v:Value):(a.put d v).tmps.size=a.tmps.size:=by cases d<;>simp[Act.put]
def put_defers (a:Act)(d:Option Tmp)(v:Value):(a.put d v).defers=a.defers:=by cases d<;>simp[Act.put]
def zb (vals:Nat->Value):∀(l:List Nat) (a:Act),(mX ops vals a l).tmps.size=a.tmps.size/\(mX ops vals a l).defers=a.defers
 |[],a=>⟨rfl,rfl⟩
 |i::l,a=>by
  obtain⟨b,c⟩:=zb vals l (a.put (fK ops i) (vals i));exact⟨b.trans (CG _ _ _),c.trans (put_defers _ _ _)⟩
def BA (vals:Nat->Value)(t:Nat):∀(l:List Nat) (a:Act),(∀i∈l,fK ops i≠some t)->(mX ops vals a l).tmps[t]?=a.tmps[t]?
 |[],_,_=>rfl
 |i::l,a,h=>by
  have:=BA vals t l (a.put (fK ops i) (vals i)) (λj b=>h j (dP _ b));rw[show mX ops vals a (i::l)=mX ops vals (a.put (fK ops i) (vals i)) l from rfl,this,za,ai (λc=>h i bZ c.1)]
def Ip (vals:Nat->Value)(g:yZ ops=true)(t i:Nat)(c:fK ops i=some t):∀(l:List Nat) (a:Act),i∈l->(∀j∈l,j<ops.size)->t<a.tmps.size->(mX ops vals a l).tmps[t]?=some (vals i)
 |[],_,h,_,_=>by cases h
 |j::l,a,h,d,m=>by
  rw[show mX ops vals a (j::l)=mX ops vals (a.put (fK ops j) (vals j)) l from rfl]
  by_cases e:i∈l
  ·exact Ip vals g t i c l _ e (λk b=>d k (dP _ b)) (by rw[CG];exact m)
  ·obtain rfl:i=j:=by simpa [e] using h
   rw[BA vals t l _ ?_,za,ak ⟨c,m⟩];intro k b n;have o:=cz.1 g i (eu.2 (d i bZ));have f:=cz.1 o k (eu.2 (d k (dP _ b)));rw[c,n] at f;simp at f;subst f;exact e b
def vC (h:fK ops i=some t):i<ops.size:=by
 rcases bu i ops.size with a|a
 ·exact a
 ·unfold fK at h;rw[ig a] at h;cases h
structure rV (ops:Array Oper)(vals:Nat->Value)(a0:Act)(L:Nat->Bool)(a:Act):Prop where
 size:a.tmps.size=a0.tmps.size
 defers:a.defers=a0.defers
 done:∀i t,fK ops i=some t->L i=true->a.tmps[t]?=(fin ops vals a0).tmps[t]?
 rest:∀t,(∀i,L i=true->fK ops i≠some t)->a.tmps[t]?=a0.tmps[t]?
def fin_at (a:yZ ops=true)(h:fK ops i=some t)(b:t<a0.tmps.size):(fin ops vals a0).tmps[t]?=some (vals i):=
 Ip vals a t i h _ a0 (eu.2 (vC h)) (λ_ c=>eu.1 c) b
def rV.put {vals:Nat->Value}{a0:Act}{L:Nat->Bool}{a:Act}(k:yZ ops=true)(h:rV ops vals a0 L a)(i:Nat)(q:i<ops.size)(r:L i=false):rV ops vals a0 (λj=>L j||j==i) (a.put (fK ops i) (vals i)):=by
 obtain⟨d,l,m,n⟩:=h;refine⟨(CG _ _ _).trans d,(put_defers _ _ _).trans l,λj t c o=>?_,λt e=>?_⟩
 ·rw[za]
  by_cases b:fK ops i=some t/\t<a.tmps.size
  ·rw[ak b,fin_at k b.1 (by have:=b.2;rwa [d] at this)]
  ·rw[ai b]
   by_cases f:j=i
   ·subst f;have g:¬t<a.tmps.size:=λp=>b ⟨c,p⟩
    rw[ig (lH g)];exact(ig (show(mX ops vals a0 (List.range ops.size)).tmps.size<=t by rw[(zb vals _ a0).1,<-d];exact lH g)).symm
   ·exact m j t c (by simpa [f] using o)
 ·rw[za,ai (λb=>e i aS b.1)];exact n t λj c=>e j (by simp[c])
def rV.end {a:Act}(h:rV ops vals a0 L a)(f:∀i,i<ops.size->L i=true):a=fin ops vals a0:=by
 obtain⟨n,g,j,k⟩:=h;have c:a.tmps=(fin ops vals a0).tmps:=by
  refine tX λt=>?_
  by_cases d:∃i,fK ops i=some t
  ·obtain⟨i,b⟩:=d;exact j i t b (f i (vC b))
  ·rw[k t λi _ b=>d ⟨i,b⟩];exact(BA vals t _ a0 λi _ b=>d ⟨i,b⟩).symm
 cases a with
 |mk o l=>
  have e:l=(fin ops vals a0).defers:=g.trans (zb vals _ a0).2.symm;cases m:fin ops vals a0 with
  |mk p q=>rw[m] at c e;simp only at c e;rw[c,e]
def DX {o:Oper}{j:Nat}(a:kC o j=true)(b:∀e∈o.after,Region.binds .any e=true->L e.on=true):L j=true:=by
 unfold kC at a;obtain⟨e,c,h⟩:=vo.1 a;simp only[aM,aT] at h;rw[<-h.1];exact b e c h.2
def rV.eval {vals:Nat->Value}{a0:Act}{L:Nat->Bool}{a:Act}(h:rV ops vals a0 L a){o:Oper}(c:xI ops o=true)(f:∀e∈o.after,Region.binds .any e=true->L e.on=true):
  (∀x∈o.op.operands,a.eval x=(fin ops vals a0).eval x)/\Region.wanted o (yielded ops a.tmps)=Region.wanted o (yielded ops (fin ops vals a0).tmps):=by
 unfold xI at c;rw[aM] at c;obtain⟨k,j⟩:=c;refine⟨λx l=>?_,?_⟩
 ·cases x with
  |tmp t=>
   have m:=kU.1 k _ l;have e:a.tmps[t]?=(fin ops vals a0).tmps[t]?:=by
    by_cases d:∃i,fK ops i=some t
    ·obtain⟨i,b⟩:=d;have:=cz.1 m i (eu.2 (vC b));rw[b] at this;exact h.done i t b (DX (by simpa using this) f)
    ·rw[h.rest t λi _ b=>d ⟨i,b⟩];exact(BA vals t _ a0 λi _ b=>d ⟨i,b⟩).symm
   simp only[Act.eval,bR,e]
  |_=>rfl
 ·unfold Region.wanted;cases n:o.guard with
  |none=>rfl
  |some p=>
   obtain⟨g,s⟩:=p;rw[n] at j;have q:=DX j f;have:yielded ops a.tmps g=yielded ops (fin ops vals a0).tmps g:=by
    unfold yielded;cases r:(ops[g]?).bind (·.dst) with
    |none=>rfl
    |some t=>simp only[oz,h.done g t r q]
   simp only[this]
def CJ:∀(l:List Bool) (i:Nat),l[i]?=some false->l.countP (·==false)=(l.set i true).countP (·==false)+1
 |[],i,h=>by simp at h
 |b::l,0,h=>by
  obtain rfl:b=false:=by simpa using h
  simp
 |b::l,i+1,h=>by
  have a:=CJ l i (by simpa using h);simp only[List.set_cons_succ,List.countP_cons];omega
def LJ {Inv:(Nat->Bool)->World->Prop}(x:zZ ops=true)
  (I:∀(i:Nat) (o:Oper) (L:Nat->Bool) (w:World),ops[i]?=some o->L i=false->(∀e∈o.after,Region.binds .any e=true->L e.on=true)->Inv L w->
   if Region.wanted o (yielded ops (fin ops vals a0).tmps)=true then aP P (execOp (fin ops vals a0).eval o) w (λv w'=>v=vals i/\Inv (λj=>L j||j==i) w') else vals i=undef/\Inv (λj=>L j||j==i) w)
  (J:∀(L:Nat->Bool) (w:World),(∀i,i<ops.size->L i=true)->Inv L w->Q .normal (fin ops vals a0) w):
  ∀(fuel:Nat) (listed:Array Bool) (a:Act) (w:World),listed.size=ops.size->(listed.toList.countP (·==false))<=fuel->rV ops vals a0 (λj=>listed.getD j false) a->Inv (λj=>listed.getD j false) w->wpAny P .any ops Q fuel listed a w:=by
 simp only[zZ,aM] at x;obtain⟨⟨⟨K,M⟩,N⟩,O⟩:=x;have y:∀(listed:Array Bool) (a:Act) (w:World),listed.size=ops.size->rV ops vals a0 (λj=>listed.getD j false) a->Inv (λj=>listed.getD j false) w->Region.ready .any ops listed=[]->Q .normal a w:=by
  intro listed a w d c f l;have z:∀i,i<ops.size->listed.getD i false=true:=by
   intro i
   induction i using Nat.strongRecOn with
   |_ i q=>
    intro g;refine oC λA=>?_
    have B:i∈Region.ready .any ops listed:=by
     rw[kr];refine⟨?_,ops[i],cB g,λe S m=>?_⟩
     ·have r:i<listed.size:=by omega
      simp only[bR,cB r,fB] at A⊢
      simpa using A
     ·have C:=cz.1 O i (eu.2 g);rw[cB g] at C;have D:=kU.1 C e S;rw[m] at D;have T:e.on<i:=by simpa using D
      exact q e.on T aa
    rw[l] at B;cases B
  rw[c.end z];exact J _ w z f
 intro fuel
 induction fuel with
 |zero=>
  intro listed a w d U c f;have l:Region.ready .any ops listed=[]:=by
   rw[vv];intro j E;rw[kr] at E;obtain⟨s,o,V,_⟩:=E;have W:j<listed.size:=by rw[d];exact(gD.1 V).1
   have n:listed[j]=false:=by simpa [bR,cB W] using s
   have:0<listed.toList.countP (·==false):=rC.2 ⟨false,by rw[<-n];simp,rfl⟩;omega
  exact⟨l,y listed a w d c f l⟩
 |succ fuel q=>
  intro listed a w d U c f;refine⟨y listed a w d c f,λi g=>?_⟩;rw[kr] at g;obtain⟨s,o,h,m⟩:=g;have r:i<ops.size:=(gD.1 h).1;have p:i<listed.size:=aa
  have n:listed[i]=false:=by simpa [bR,cB p] using s
  have F:listed.getD i false=false:=by simp[bR,cB p,n]
  have G:(λj=>(listed.setIfInBounds i true).getD j false)=λj=>listed.getD j false||j==i:=by
   funext j
   by_cases t:j=i
   ·subst t;simp[bR,p]
   ·rw[kv false (ou t)];simp[t]
  have X:(listed.setIfInBounds i true).toList.countP (·==false)<=fuel:=by
   rw[oM];have Y:i<listed.toList.length:=by simpa using p
   have a6:listed.toList.countP (·==false)=(listed.toList.set i true).countP (·==false)+1:=by
    exact CJ _ _ (by rw[nJ Y];simpa using n)
   omega
  have Z:xI ops o=true:=by
   obtain⟨_,a1⟩:=gD.1 h;exact kU.1 N o (by rw[<-a1];exact xA _)
  obtain⟨a2,a3⟩:=c.eval Z m;have a4:execOp a.eval o=execOp (fin ops vals a0).eval o:=nN o (λcs b=>nO K i o cs b h) a2;have k:=I i o _ w h F m f;have a5:o.dst=fK ops i:=by unfold fK;rw[h];rfl
  have next:∀w',Inv (λj=>listed.getD j false||j==i) w'->wpAny P .any ops Q fuel (listed.setIfInBounds i true) (a.put o.dst (vals i)) w':=by
   intro w' u;refine q _ _ w' (by simpa using d) X ?_ (by rw[G];exact u);rw[G,a5];exact c.put M i r F
  unfold wpOp;simp only[h];rw[a3]
  by_cases H:Region.wanted o (yielded ops (fin ops vals a0).tmps)=true
  ·rw[ak H] at k⊢;refine .inl (aP.wp (R:=λv w'=>v=vals i/\Inv (λj=>listed.getD j false||j==i) w') (by rw[a4];exact k) ?_);rintro v w' ⟨rfl,u⟩;exact next w' u
  ·rw[ai H] at k⊢;rw[<-k.1];exact next w k.2
def RJ (b:P.follows .mixedOrders=true)(vals:Nat->Value)(Inv:World->Prop)(c:zZ ops=true)(d:Inv w0.drew)
  (e:∀(i:Nat) (o:Oper) (w:World),ops[i]?=some o->Inv w->
   if Region.wanted o (yielded ops (fin ops vals a0).tmps)=true then aP P (execOp (fin ops vals a0).eval o) w (λv w'=>v=vals i/\Inv w') else vals i=undef/\Inv w)
  (f:∀w:World,Inv w->Q .normal (fin ops vals a0) w):(Code.region id ops true).wp P Q a0 w0:=by
 refine oN b ?_;refine LJ (vals:=vals) (a0:=a0) (Inv:=λ_ w=>Inv w) c (λi o L w g _ _ a=>e i o w g a) (λ_ w _ a=>f w a) ops.size (Array.replicate ops.size false) a0 _ aS (by
  refine ax (rD) ?_;simp) ⟨rfl,rfl,λi t _ h=>?_,λ_ _=>rfl⟩ d
 rw[bR,iC] at h
 split at h<;>simp at h
def uD (P:Program)(F:Act)(Inv:World->Prop):List Oper->List Value->List Bool->Prop
 |o::os,v::vs,true::bs=>(∀w,Inv w->aP P (execOp F.eval o) w λu w'=>u=v/\Inv w')/\uD P F Inv os vs bs
 |_::os,v::vs,false::bs=>v=undef/\uD P F Inv os vs bs
 |[],[],[]=>True
 |_,_,_=>False
def uD.at_ {F:Act}{Inv:World->Prop}:∀{os:List Oper} {a:List Value} {bs:List Bool},uD P F Inv os a bs->∀{i:Nat} {o:Oper},os[i]?=some o->∃b,bs[i]?=some b/\∀w,Inv w->if b=true then aP P (execOp F.eval o) w (λu w'=>u=a.getD i undef/\Inv w') else a.getD i undef=undef/\Inv w
 |[],[],[],_,i,o,h=>by simp at h
 |o::os,v::a,true::bs,⟨d,e⟩,0,c,h=>by
  obtain rfl:o=c:=by simpa using h
  exact⟨true,rfl,λw f=>by rw[ak rfl];exact d w f⟩
 |o::os,v::a,false::bs,⟨d,e⟩,0,c,h=>⟨false,rfl,λw f=>by rw[ai aS];exact⟨d,f⟩⟩
 |o::os,v::a,true::bs,⟨d,e⟩,i+1,c,h=>by
  obtain⟨b,g,j⟩:=uD.at_ e (i:=i) (o:=c) (by simpa using h);exact⟨b,by simpa using g,by simpa using j⟩
 |o::os,v::a,false::bs,⟨d,e⟩,i+1,c,h=>by
  obtain⟨b,g,j⟩:=uD.at_ e (i:=i) (o:=c) (by simpa using h);exact⟨b,by simpa using g,by simpa using j⟩
 |[],[],_::_,h,_,_,_=>h.elim
 |[],_::_,_,h,_,_,_=>h.elim
 |_::_,[],_,h,_,_,_=>h.elim
 |_::_,_::_,[],h,_,_,_=>h.elim
def LK (e:P.follows .mixedOrders=true)(F:Act)(a:List Value)(bs:List Bool)(Inv:World->Prop)(f:zZ ops=true)(g:fin ops (λi=>a.getD i undef) a0=F)
  (h:((List.range ops.size).map λi=>((ops[i]?).map λo=>Region.wanted o (yielded ops F.tmps)).getD true)=bs) (j:Inv w0.drew) (k:uD P F Inv ops.toList a bs) (l:∀w:World,Inv w->Q .normal F w):(Code.region id ops true).wp P Q a0 w0:=by
 subst g;refine RJ e (λi=>a.getD i undef) Inv f j (λi o w c m=>?_) l;have n:i<ops.size:=(gD.1 c).1;obtain⟨b,d,p⟩:=k.at_ (i:=i) (o:=o) (by rw[gF];exact c);rw[<-h,gL,kX n] at d;simp only[je,c,fB,gV] at d;have:=p w m;rw[<-d] at this;exact this
end
def jv {s:Sem Next}(v:Value)(w':World)(h:s.run P w= .ok (.value v) w')(a:R v w'):aP P s w R:=aP.value h a
def jc {s:Sem Next}(f:FuncId)(args:Array Value)(w':World)(h:s.run P w= .ok (.enter f args) w')(a:Calls P f args w' λe b=>∃v,e= .returned v/\R v b):aP P s w R:=aP.call h a
def bn {α:Type _}[BEq α][LawfulBEq α]{a b:α}(h:¬a=b):(a==b)=false:=aZ.2 h
def ll {n m k:Nat}(h:n<m)(a:m<=k):n<k:=bf h a
def jK {α:Sort _}{x:α}:a\/b\/x=x:=.inr (.inr rfl)
def jA {s:Sem Next}{v:Value}(h:∀w:World,s.run P w= .ok (.value v) w:=by intro _;kernel_rfl)(w:World)(a:I w):aP P s w λu x=>u=v/\I x:=aP.value (h w) ⟨rfl,a⟩
def jB {s:Sem Next}{v:Value}(h:∀w:World,s.run P w= .ok (.value v) w:=by intro _;simp[go_sem])(w:World)(a:I w):aP P s w λu x=>u=v/\I x:=aP.value (h w) ⟨rfl,a⟩
def jQ {s:Sem Next}{v:Value}{q:World->Prop}(k:∀w:World,I w->q w)(h:∀w:World,q w->s.run P w= .ok (.value v) w:=by intro _ c;simp[go_sem,c])(w:World)(a:I w):aP P s w λu x=>u=v/\I x:=aP.value (h w (k w a)) ⟨rfl,a⟩
def jC {X:Type}{s:X->Sem Next}{v:X->Value}(h:∀(x:X) (w:World),(s x).run P w= .ok (.value (v x)) w:=by intro _ _;kernel_rfl)(x:X)(w:World):aP P (s x) w λu y=>u=v x/\y=w:=aP.value (h x w) ⟨rfl,rfl⟩
def jI {X:Type}{s:X->Sem Next}{v:X->Value}(h:∀(x:X) (w:World),(s x).run P w= .ok (.value (v x)) w:=by intro _ _;simp[go_sem,evAct])(x:X)(w:World):aP P (s x) w λu y=>u=v x/\y=w:=aP.value (h x w) ⟨rfl,rfl⟩
def jM {s:Sem Next}{v:Value}{a b c:(Nat->Bool)->Prop}{I J:(Nat->Bool)->World->Prop}(h:∀w:World,s.run P w= .ok (.value v) w:=by intro _;kernel_rfl)(g:∀L w,I L w->J L w:=by intro _ _ h;exact h)(L:Nat->Bool)(w:World)(_:a L)(_:b L)(_:c L)(d:I L w):aP P s w λu x=>u=v/\J L x:=aP.value (h w) ⟨rfl,g L w d⟩
def jO {s:Sem Next}{v:Value}{a b c:(Nat->Bool)->Prop}{I J:(Nat->Bool)->World->Prop}(h:∀w:World,s.run P w= .ok (.value v) w:=by intro _;simp[go_sem])(g:∀L w,I L w->J L w:=by intro _ _ h;exact h)(L:Nat->Bool)(w:World)(_:a L)(_:b L)(_:c L)(d:I L w):aP P s w λu x=>u=v/\J L x:=aP.value (h w) ⟨rfl,g L w d⟩
def jE (h:a->b)(g:a:=by kernel_rfl):b:=h g
def jG (h:a:=by kernel_rfl):a\/b:=.inl h
def jH :a\/(b->b):=.inr λh=>h
def qt:Nat->List Bool->List Bool
 |0,l=>l
 |n+1,l=>true::qt n l
def qf:Nat->List Bool->List Bool
 |0,l=>l
 |n+1,l=>false::qf n l
def ql {ops:Array Oper}{Q:Exit->Act->World->Prop}{F:Act}(a:List Value)(bs:List Bool)(Inv:World->Prop)(b:Inv w0.drew)(c:uD P F Inv ops.toList a bs)(d:∀w:World,Inv w->Q .normal F w)(e:P.follows .mixedOrders=true:=by kernel_rfl)(f:zZ ops=true:=by kernel_rfl)(g:fin ops (λi=>a.getD i undef) a0=F:=by simp[fin,mX,fK,List.range,List.range.loop,Act.put];rfl)
  (h:((List.range ops.size).map λi=>((ops[i]?).map λo=>Region.wanted o (yielded ops F.tmps)).getD true)=bs:=by kernel_rfl):(Code.region id ops true).wp P Q a0 w0:=LK e F a bs Inv f g h b c d
end Go.Proofs.YtlefbenkhgbifaaGreatDoor
