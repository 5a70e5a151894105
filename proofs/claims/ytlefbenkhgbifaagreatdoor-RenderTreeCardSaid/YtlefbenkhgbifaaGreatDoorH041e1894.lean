/- The fields of a term: the program and the reference. -/
import Derived.Test.YtlefbenkhgbifaaGreatDoorH01aeb754
set_option linter.all false
set_option maxRecDepth 100000
set_option maxHeartbeats 800000
namespace Go.Proofs.YtlefbenkhgbifaaGreatDoor.Sp
open At Go.RowKit Tryz
def Vt (s:ByteArray)(w:World)(a:s.size<=9223372036854775807):Calls prog 103 #[af s] w λe w'=>e= .returned (.bool (oG s.toList))/\Below w.heap.size w w':=by
 rw[bz];exact MP s w a
def Vu (s:ByteArray)(w:World)(a:s.size<=9223372036854775807):Calls prog 113 #[af s] w λe w'=>e= .returned (.bool (oG s.toList))/\Below w.heap.size w w':=by
 rw[bz,<-Ls];exact(MV s w a).mono λe w' ⟨b,c⟩=>⟨b,by rw[c];exact aL _ _⟩
def Cb (s:ByteArray)(a n:Nat)(w:World)(b:s.size<=9223372036854775807):Calls prog 121 #[af s,.int .u8 (a:Int),qI (n:Int)] w λe w'=>e= .returned (.bool (oH a s.toList&&decide (s.toList.length<=n)))/\Below w.heap.size w w':=by
 rw[Bv];exact(Uk s a n w b).mono λe w' ⟨c,d⟩=>⟨c,by rw[d];exact aL _ _⟩
def JF (s:ByteArray)(a n:Nat)(w:World)(b:s.size<=9223372036854775807):Calls prog 115 #[af s,.int .u8 (a:Int),qI (n:Int)] w λe w'=>e= .returned (.bool (oH a s.toList&&decide (s.toList.length<=n)))/\Below w.heap.size w w':=by
 rw[Bv];exact(Ul s a n w b).mono λe w' ⟨c,d⟩=>⟨c,by rw[d];exact aL _ _⟩
def NZ (s:ByteArray)(w:World)(a:s.size<=9223372036854775807):Calls prog 123 #[af s] w λe w'=>e= .returned (.bool (ky s.toList))/\Below w.heap.size w w':=
 (Uj s w a).mono λe w' ⟨b,c⟩=>⟨b,by rw[c];exact aL _ _⟩
def Oa (s:ByteArray)(w:World)(a:s.size<=9223372036854775807):Calls prog 73 #[af s] w λe w'=>e= .returned (.bool (ky s.toList))/\Below w.heap.size w w':=
 (DV s w a).mono λe w' ⟨b,c⟩=>⟨b,by rw[c];exact aL _ _⟩
def IX (a v f:ByteArray)(ts:List aC)(p:Addr)(A:Option Addr)(cap:Nat)(w:World)(u:sH w p (.mk 1 a v f ts) A cap):Calls prog 88 #[az p] w λe w'=>e= .returned (.bool (gq 1 a.toList v.toList f.toList ts.length))/\Below w.heap.size w w':=by
 obtain⟨c,g,h,i,j,k,q,x,r,y,C,-⟩:=u;dsimp only[aC.kind,aC.nam,aC.vr,aC.form,aC.args] at g h i j k q x r y;have d:=zh (aL w.heap.size w);have m:=zh (λw=>Cb f 33 16 w r);have l:=ah (gq 1 a.toList v.toList f.toList ts.length=((v.toList.isEmpty&&(f.toList.isEmpty&&decide (ts.length=0)))&&oG a.toList)) rfl;have z:=zh (λw=>Vt a w q);generalize (oH 33 f.toList&&decide (f.toList.length<=16))=D at*;generalize oG a.toList=E at*;cases s:v.toList.isEmpty
 ·rw[s] at l;go_enter func88,ntmps88;go_wp2_with fail;refine(m.o _).mono ?_;rintro e n ⟨rfl,b⟩;have d:=jt d b;replace g:=(b.cell c).trans g;replace h:=(b.cell (p:=aF p 1) c).trans h;replace i:=(b.cell (p:=aF p 2) c).trans i;replace j:=(b.cell (p:=aF p 3) c).trans j;replace k:=(b.cell (p:=aF p 4) c).trans k;replace c:=bf c b.size;clear b;go_wp2;go_ret;exact⟨aU (by rw[l.o];rfl),d.o⟩
 ·rw[s,aW] at l;cases t:f.toList.isEmpty
  ·rw[t] at l;go_enter func88,ntmps88;go_wp2_with fail;refine(m.o _).mono ?_;rintro e n ⟨rfl,b⟩;have d:=jt d b;replace g:=(b.cell c).trans g;replace h:=(b.cell (p:=aF p 1) c).trans h;replace i:=(b.cell (p:=aF p 2) c).trans i;replace j:=(b.cell (p:=aF p 3) c).trans j;replace k:=(b.cell (p:=aF p 4) c).trans k;replace c:=bf c b.size;clear b;go_wp2;go_ret;exact⟨aU (by rw[l.o];rfl),d.o⟩
  ·rw[t,aW] at l
   by_cases o:ts.length=0
   ·have B:((ts.length:Int)==0)=true:=by rw[aT];omega
    rw[aJ o,aW] at l;clear o;go_enter func88,ntmps88;go_wp2_with fail;refine(m.o _).mono ?_;rintro e n ⟨rfl,b⟩;have d:=jt d b;replace g:=(b.cell c).trans g;replace h:=(b.cell (p:=aF p 1) c).trans h;replace i:=(b.cell (p:=aF p 2) c).trans i;replace j:=(b.cell (p:=aF p 3) c).trans j;replace k:=(b.cell (p:=aF p 4) c).trans k;replace c:=bf c b.size;clear b;go_wp2_with fail;refine(z.o _).mono ?_;rintro e n ⟨rfl,b⟩;have d:=jt d b;replace g:=(b.cell c).trans g;replace h:=(b.cell (p:=aF p 1) c).trans h;replace i:=(b.cell (p:=aF p 2) c).trans i;replace j:=(b.cell (p:=aF p 3) c).trans j;replace k:=(b.cell (p:=aF p 4) c).trans k;replace c:=bf c b.size;clear b;go_wp2;go_ret;exact⟨aU (by rw[l.o]),d.o⟩
   ·have B:((ts.length:Int)==0)=false:=by rw[aZ];omega
    rw[aK o] at l;clear o;go_enter func88,ntmps88;go_wp2_with fail;refine(m.o _).mono ?_;rintro e n ⟨rfl,b⟩;have d:=jt d b;replace g:=(b.cell c).trans g;replace h:=(b.cell (p:=aF p 1) c).trans h;replace i:=(b.cell (p:=aF p 2) c).trans i;replace j:=(b.cell (p:=aF p 3) c).trans j;replace k:=(b.cell (p:=aF p 4) c).trans k;replace c:=bf c b.size;clear b;go_wp2;go_ret;exact⟨aU (by rw[l.o];rfl),d.o⟩
def Vv (a v f:ByteArray)(ts:List aC)(p:Addr)(A:Option Addr)(cap:Nat)(w:World)(u:sH w p (.mk 2 a v f ts) A cap):Calls prog 88 #[az p] w λe w'=>e= .returned (.bool (gq 2 a.toList v.toList f.toList ts.length))/\Below w.heap.size w w':=by
 obtain⟨c,g,h,i,j,k,q,x,r,y,C,-⟩:=u;dsimp only[aC.kind,aC.nam,aC.vr,aC.form,aC.args] at g h i j k q x r y;have d:=zh (aL w.heap.size w);have m:=zh (λw=>Cb f 33 16 w r);have l:=ah (gq 2 a.toList v.toList f.toList ts.length=((v.toList.isEmpty&&(f.toList.isEmpty&&decide (ts.length=0)))&&mY a.toList)) rfl;have z:=zh (λw=>FR a w q);generalize (oH 33 f.toList&&decide (f.toList.length<=16))=D at*;generalize mY a.toList=E at*;cases s:v.toList.isEmpty
 ·rw[s] at l;go_enter func88,ntmps88;go_wp2_with fail;refine(m.o _).mono ?_;rintro e n ⟨rfl,b⟩;have d:=jt d b;replace g:=(b.cell c).trans g;replace h:=(b.cell (p:=aF p 1) c).trans h;replace i:=(b.cell (p:=aF p 2) c).trans i;replace j:=(b.cell (p:=aF p 3) c).trans j;replace k:=(b.cell (p:=aF p 4) c).trans k;replace c:=bf c b.size;clear b;go_wp2;go_ret;exact⟨aU (by rw[l.o];rfl),d.o⟩
 ·rw[s,aW] at l;cases t:f.toList.isEmpty
  ·rw[t] at l;go_enter func88,ntmps88;go_wp2_with fail;refine(m.o _).mono ?_;rintro e n ⟨rfl,b⟩;have d:=jt d b;replace g:=(b.cell c).trans g;replace h:=(b.cell (p:=aF p 1) c).trans h;replace i:=(b.cell (p:=aF p 2) c).trans i;replace j:=(b.cell (p:=aF p 3) c).trans j;replace k:=(b.cell (p:=aF p 4) c).trans k;replace c:=bf c b.size;clear b;go_wp2;go_ret;exact⟨aU (by rw[l.o];rfl),d.o⟩
  ·rw[t,aW] at l
   by_cases o:ts.length=0
   ·have B:((ts.length:Int)==0)=true:=by rw[aT];omega
    rw[aJ o,aW] at l;clear o;go_enter func88,ntmps88;go_wp2_with fail;refine(m.o _).mono ?_;rintro e n ⟨rfl,b⟩;have d:=jt d b;replace g:=(b.cell c).trans g;replace h:=(b.cell (p:=aF p 1) c).trans h;replace i:=(b.cell (p:=aF p 2) c).trans i;replace j:=(b.cell (p:=aF p 3) c).trans j;replace k:=(b.cell (p:=aF p 4) c).trans k;replace c:=bf c b.size;clear b;go_wp2_with fail;refine(z.o _).mono ?_;rintro e n ⟨rfl,b⟩;have d:=jt d b;replace g:=(b.cell c).trans g;replace h:=(b.cell (p:=aF p 1) c).trans h;replace i:=(b.cell (p:=aF p 2) c).trans i;replace j:=(b.cell (p:=aF p 3) c).trans j;replace k:=(b.cell (p:=aF p 4) c).trans k;replace c:=bf c b.size;clear b;go_wp2;go_ret;exact⟨aU (by rw[l.o]),d.o⟩
   ·have B:((ts.length:Int)==0)=false:=by rw[aZ];omega
    rw[aK o] at l;clear o;go_enter func88,ntmps88;go_wp2_with fail;refine(m.o _).mono ?_;rintro e n ⟨rfl,b⟩;have d:=jt d b;replace g:=(b.cell c).trans g;replace h:=(b.cell (p:=aF p 1) c).trans h;replace i:=(b.cell (p:=aF p 2) c).trans i;replace j:=(b.cell (p:=aF p 3) c).trans j;replace k:=(b.cell (p:=aF p 4) c).trans k;replace c:=bf c b.size;clear b;go_wp2;go_ret;exact⟨aU (by rw[l.o];rfl),d.o⟩
def Vw (a v f:ByteArray)(ts:List aC)(p:Addr)(A:Option Addr)(cap:Nat)(w:World)(u:sH w p (.mk 3 a v f ts) A cap):Calls prog 88 #[az p] w λe w'=>e= .returned (.bool (gq 3 a.toList v.toList f.toList ts.length))/\Below w.heap.size w w':=by
 obtain⟨c,g,h,i,j,k,q,x,r,y,C,-⟩:=u;dsimp only[aC.kind,aC.nam,aC.vr,aC.form,aC.args] at g h i j k q x r y;have d:=zh (aL w.heap.size w);have m:=zh (λw=>Cb f 33 16 w r);have l:=ah (gq 3 a.toList v.toList f.toList ts.length=((v.toList.isEmpty&&(f.toList.isEmpty&&decide (ts.length=0)))&&(oH 32 a.toList&&decide (a.toList.length<=200)))) rfl;have z:=zh (λw=>Cb a 32 200 w q);generalize (oH 33 f.toList&&decide (f.toList.length<=16))=D at*;generalize (oH 32 a.toList&&decide (a.toList.length<=200))=E at*;cases s:v.toList.isEmpty
 ·rw[s] at l;go_enter func88,ntmps88;go_wp2_with fail;refine(m.o _).mono ?_;rintro e n ⟨rfl,b⟩;have d:=jt d b;replace g:=(b.cell c).trans g;replace h:=(b.cell (p:=aF p 1) c).trans h;replace i:=(b.cell (p:=aF p 2) c).trans i;replace j:=(b.cell (p:=aF p 3) c).trans j;replace k:=(b.cell (p:=aF p 4) c).trans k;replace c:=bf c b.size;clear b;go_wp2;go_ret;exact⟨aU (by rw[l.o];rfl),d.o⟩
 ·rw[s,aW] at l;cases t:f.toList.isEmpty
  ·rw[t] at l;go_enter func88,ntmps88;go_wp2_with fail;refine(m.o _).mono ?_;rintro e n ⟨rfl,b⟩;have d:=jt d b;replace g:=(b.cell c).trans g;replace h:=(b.cell (p:=aF p 1) c).trans h;replace i:=(b.cell (p:=aF p 2) c).trans i;replace j:=(b.cell (p:=aF p 3) c).trans j;replace k:=(b.cell (p:=aF p 4) c).trans k;replace c:=bf c b.size;clear b;go_wp2;go_ret;exact⟨aU (by rw[l.o];rfl),d.o⟩
  ·rw[t,aW] at l
   by_cases o:ts.length=0
   ·have B:((ts.length:Int)==0)=true:=by rw[aT];omega
    rw[aJ o,aW] at l;clear o;go_enter func88,ntmps88;go_wp2_with fail;refine(m.o _).mono ?_;rintro e n ⟨rfl,b⟩;have d:=jt d b;replace g:=(b.cell c).trans g;replace h:=(b.cell (p:=aF p 1) c).trans h;replace i:=(b.cell (p:=aF p 2) c).trans i;replace j:=(b.cell (p:=aF p 3) c).trans j;replace k:=(b.cell (p:=aF p 4) c).trans k;replace c:=bf c b.size;clear b;go_wp2_with fail;refine(z.o _).mono ?_;rintro e n ⟨rfl,b⟩;have d:=jt d b;replace g:=(b.cell c).trans g;replace h:=(b.cell (p:=aF p 1) c).trans h;replace i:=(b.cell (p:=aF p 2) c).trans i;replace j:=(b.cell (p:=aF p 3) c).trans j;replace k:=(b.cell (p:=aF p 4) c).trans k;replace c:=bf c b.size;clear b;go_wp2;go_ret;exact⟨aU (by rw[l.o]),d.o⟩
   ·have B:((ts.length:Int)==0)=false:=by rw[aZ];omega
    rw[aK o] at l;clear o;go_enter func88,ntmps88;go_wp2_with fail;refine(m.o _).mono ?_;rintro e n ⟨rfl,b⟩;have d:=jt d b;replace g:=(b.cell c).trans g;replace h:=(b.cell (p:=aF p 1) c).trans h;replace i:=(b.cell (p:=aF p 2) c).trans i;replace j:=(b.cell (p:=aF p 3) c).trans j;replace k:=(b.cell (p:=aF p 4) c).trans k;replace c:=bf c b.size;clear b;go_wp2;go_ret;exact⟨aU (by rw[l.o];rfl),d.o⟩
def Vx (a v f:ByteArray)(ts:List aC)(p:Addr)(A:Option Addr)(cap:Nat)(w:World)(x:sH w p (.mk 4 a v f ts) A cap):Calls prog 88 #[az p] w λe w'=>e= .returned (.bool (gq 4 a.toList v.toList f.toList ts.length))/\Below w.heap.size w w':=by
 obtain⟨c,g,h,i,j,k,t,y,u,z,D,-⟩:=x;dsimp only[aC.kind,aC.nam,aC.vr,aC.form,aC.args] at g h i j k t y u z;have d:=zh (aL w.heap.size w);have n:=zh (λw=>Cb f 33 16 w u);have l:=ah (gq 4 a.toList v.toList f.toList ts.length=((oH 33 f.toList&&decide (f.toList.length<=16))&&(ky a.toList&&v.toList.isEmpty))) rfl;have o:=zh (λw=>NZ a w t);generalize (oH 33 f.toList&&decide (f.toList.length<=16))=q at*;generalize ky a.toList=r at*;cases s:v.toList.isEmpty
 ·skip
  rw[s] at l;go_enter func88,ntmps88;go_wp2_with fail;refine(n.o _).mono ?_;rintro e m ⟨rfl,b⟩;have d:=jt d b;replace g:=(b.cell c).trans g;replace h:=(b.cell (p:=aF p 1) c).trans h;replace i:=(b.cell (p:=aF p 2) c).trans i;replace j:=(b.cell (p:=aF p 3) c).trans j;replace k:=(b.cell (p:=aF p 4) c).trans k;replace c:=bf c b.size;clear b;cases q
  ·go_wp2;go_ret;exact⟨aU (by rw[l.o];rfl),d.o⟩
  ·go_wp2_with fail;refine(o.o _).mono ?_;rintro e m ⟨rfl,b⟩;have d:=jt d b;replace g:=(b.cell c).trans g;replace h:=(b.cell (p:=aF p 1) c).trans h;replace i:=(b.cell (p:=aF p 2) c).trans i;replace j:=(b.cell (p:=aF p 3) c).trans j;replace k:=(b.cell (p:=aF p 4) c).trans k;replace c:=bf c b.size;clear b;cases r
   ·go_wp2;go_ret;exact⟨aU (by rw[l.o];rfl),d.o⟩
   ·go_wp2;go_ret;exact⟨aU (by rw[l.o];rfl),d.o⟩
 ·cases E:f.toList.isEmpty
  ·skip
   rw[s] at l;go_enter func88,ntmps88;go_wp2_with fail;refine(n.o _).mono ?_;rintro e m ⟨rfl,b⟩;have d:=jt d b;replace g:=(b.cell c).trans g;replace h:=(b.cell (p:=aF p 1) c).trans h;replace i:=(b.cell (p:=aF p 2) c).trans i;replace j:=(b.cell (p:=aF p 3) c).trans j;replace k:=(b.cell (p:=aF p 4) c).trans k;replace c:=bf c b.size;clear b;cases q
   ·go_wp2;go_ret;exact⟨aU (by rw[l.o];rfl),d.o⟩
   ·go_wp2_with fail;refine(o.o _).mono ?_;rintro e m ⟨rfl,b⟩;have d:=jt d b;replace g:=(b.cell c).trans g;replace h:=(b.cell (p:=aF p 1) c).trans h;replace i:=(b.cell (p:=aF p 2) c).trans i;replace j:=(b.cell (p:=aF p 3) c).trans j;replace k:=(b.cell (p:=aF p 4) c).trans k;replace c:=bf c b.size;clear b;cases r
    ·go_wp2;go_ret;exact⟨aU (by rw[l.o];rfl),d.o⟩
    ·go_wp2;go_ret;exact⟨aU (by rw[l.o];rfl),d.o⟩
  ·by_cases F:ts.length=0
   ·have B:((ts.length:Int)==0)=true:=by rw[aT];omega
    have C:¬(0:Int)<(ts.length:Int):=aa
    rw[s] at l;go_enter func88,ntmps88;go_wp2_with fail;refine(n.o _).mono ?_;rintro e m ⟨rfl,b⟩;have d:=jt d b;replace g:=(b.cell c).trans g;replace h:=(b.cell (p:=aF p 1) c).trans h;replace i:=(b.cell (p:=aF p 2) c).trans i;replace j:=(b.cell (p:=aF p 3) c).trans j;replace k:=(b.cell (p:=aF p 4) c).trans k;replace c:=bf c b.size;clear b;cases q
    ·go_wp2;go_ret;exact⟨aU (by rw[l.o];rfl),d.o⟩
    ·go_wp2_with fail;refine(o.o _).mono ?_;rintro e m ⟨rfl,b⟩;have d:=jt d b;replace g:=(b.cell c).trans g;replace h:=(b.cell (p:=aF p 1) c).trans h;replace i:=(b.cell (p:=aF p 2) c).trans i;replace j:=(b.cell (p:=aF p 3) c).trans j;replace k:=(b.cell (p:=aF p 4) c).trans k;replace c:=bf c b.size;clear b;cases r
     ·go_wp2;go_ret;exact⟨aU (by rw[l.o];rfl),d.o⟩
     ·go_wp2;go_ret;exact⟨aU (by rw[l.o];rfl),d.o⟩
   ·have B:((ts.length:Int)==0)=false:=by rw[aZ];omega
    have C:(0:Int)<(ts.length:Int):=aa
    rw[s] at l;go_enter func88,ntmps88;go_wp2_with fail;refine(n.o _).mono ?_;rintro e m ⟨rfl,b⟩;have d:=jt d b;replace g:=(b.cell c).trans g;replace h:=(b.cell (p:=aF p 1) c).trans h;replace i:=(b.cell (p:=aF p 2) c).trans i;replace j:=(b.cell (p:=aF p 3) c).trans j;replace k:=(b.cell (p:=aF p 4) c).trans k;replace c:=bf c b.size;clear b;cases q
    ·go_wp2;go_ret;exact⟨aU (by rw[l.o];rfl),d.o⟩
    ·go_wp2_with fail;refine(o.o _).mono ?_;rintro e m ⟨rfl,b⟩;have d:=jt d b;replace g:=(b.cell c).trans g;replace h:=(b.cell (p:=aF p 1) c).trans h;replace i:=(b.cell (p:=aF p 2) c).trans i;replace j:=(b.cell (p:=aF p 3) c).trans j;replace k:=(b.cell (p:=aF p 4) c).trans k;replace c:=bf c b.size;clear b;cases r
     ·go_wp2;go_ret;exact⟨aU (by rw[l.o];rfl),d.o⟩
     ·go_wp2;go_ret;exact⟨aU (by rw[l.o];rfl),d.o⟩
def Vy (a v f:ByteArray)(ts:List aC)(p:Addr)(A:Option Addr)(cap:Nat)(w:World)(C:sH w p (.mk 5 a v f ts) A cap):Calls prog 88 #[az p] w λe w'=>e= .returned (.bool (gq 5 a.toList v.toList f.toList ts.length))/\Below w.heap.size w w':=by
 obtain⟨c,g,h,i,j,k,x,y,z,D,F,-⟩:=C;dsimp only[aC.kind,aC.nam,aC.vr,aC.form,aC.args] at g h i j k x y z D;have d:=zh (aL w.heap.size w);have o:=zh (λw=>Cb f 33 16 w z);have l:=ah (gq 5 a.toList v.toList f.toList ts.length=((oH 33 f.toList&&decide (f.toList.length<=16))&&(ky a.toList&&(mY v.toList&&decide (0<ts.length))))) rfl;have q:=zh (λw=>NZ a w x);have r:=zh (λw=>FR v w y);generalize (oH 33 f.toList&&decide (f.toList.length<=16))=s at*;generalize ky a.toList=t at*;generalize mY v.toList=u at*;cases G:v.toList.isEmpty
 ·skip
  go_enter func88,ntmps88;go_wp2_with fail;refine(o.o _).mono ?_;rintro e m ⟨rfl,b⟩;have d:=jt d b;replace g:=(b.cell c).trans g;replace h:=(b.cell (p:=aF p 1) c).trans h;replace i:=(b.cell (p:=aF p 2) c).trans i;replace j:=(b.cell (p:=aF p 3) c).trans j;replace k:=(b.cell (p:=aF p 4) c).trans k;replace c:=bf c b.size;clear b;cases s
  ·go_wp2;go_ret;exact⟨aU (by rw[l.o];rfl),d.o⟩
  ·go_wp2_with fail;refine(q.o _).mono ?_;rintro e m ⟨rfl,b⟩;have d:=jt d b;replace g:=(b.cell c).trans g;replace h:=(b.cell (p:=aF p 1) c).trans h;replace i:=(b.cell (p:=aF p 2) c).trans i;replace j:=(b.cell (p:=aF p 3) c).trans j;replace k:=(b.cell (p:=aF p 4) c).trans k;replace c:=bf c b.size;clear b;cases t
   ·go_wp2;go_ret;exact⟨aU (by rw[l.o];rfl),d.o⟩
   ·go_wp2_with fail;refine(r.o _).mono ?_;rintro e m ⟨rfl,b⟩;have d:=jt d b;replace g:=(b.cell c).trans g;replace h:=(b.cell (p:=aF p 1) c).trans h;replace i:=(b.cell (p:=aF p 2) c).trans i;replace j:=(b.cell (p:=aF p 3) c).trans j;replace k:=(b.cell (p:=aF p 4) c).trans k;replace c:=bf c b.size;clear b;cases u
    ·go_wp2;go_ret;exact⟨aU (by rw[l.o];rfl),d.o⟩
    ·by_cases B:ts.length=0
     ·have n:¬(0:Int)<(ts.length:Int):=by omega
      go_wp2;go_ret;exact⟨aU (by rw[l.o];rw[aK aa];rfl),d.o⟩
     ·have n:(0:Int)<(ts.length:Int):=by omega
      go_wp2;go_ret;exact⟨aU (by rw[l.o];rw[aJ aa];rfl),d.o⟩
 ·cases H:f.toList.isEmpty
  ·skip
   go_enter func88,ntmps88;go_wp2_with fail;refine(o.o _).mono ?_;rintro e m ⟨rfl,b⟩;have d:=jt d b;replace g:=(b.cell c).trans g;replace h:=(b.cell (p:=aF p 1) c).trans h;replace i:=(b.cell (p:=aF p 2) c).trans i;replace j:=(b.cell (p:=aF p 3) c).trans j;replace k:=(b.cell (p:=aF p 4) c).trans k;replace c:=bf c b.size;clear b;cases s
   ·go_wp2;go_ret;exact⟨aU (by rw[l.o];rfl),d.o⟩
   ·go_wp2_with fail;refine(q.o _).mono ?_;rintro e m ⟨rfl,b⟩;have d:=jt d b;replace g:=(b.cell c).trans g;replace h:=(b.cell (p:=aF p 1) c).trans h;replace i:=(b.cell (p:=aF p 2) c).trans i;replace j:=(b.cell (p:=aF p 3) c).trans j;replace k:=(b.cell (p:=aF p 4) c).trans k;replace c:=bf c b.size;clear b;cases t
    ·go_wp2;go_ret;exact⟨aU (by rw[l.o];rfl),d.o⟩
    ·go_wp2_with fail;refine(r.o _).mono ?_;rintro e m ⟨rfl,b⟩;have d:=jt d b;replace g:=(b.cell c).trans g;replace h:=(b.cell (p:=aF p 1) c).trans h;replace i:=(b.cell (p:=aF p 2) c).trans i;replace j:=(b.cell (p:=aF p 3) c).trans j;replace k:=(b.cell (p:=aF p 4) c).trans k;replace c:=bf c b.size;clear b;cases u
     ·go_wp2;go_ret;exact⟨aU (by rw[l.o];rfl),d.o⟩
     ·by_cases B:ts.length=0
      ·have n:¬(0:Int)<(ts.length:Int):=by omega
       go_wp2;go_ret;exact⟨aU (by rw[l.o];rw[aK aa];rfl),d.o⟩
      ·have n:(0:Int)<(ts.length:Int):=by omega
       go_wp2;go_ret;exact⟨aU (by rw[l.o];rw[aJ aa];rfl),d.o⟩
  ·by_cases B:ts.length=0
   ·have E:((ts.length:Int)==0)=true:=by rw[aT];omega
    have n:¬(0:Int)<(ts.length:Int):=aa
    go_enter func88,ntmps88;go_wp2_with fail;refine(o.o _).mono ?_;rintro e m ⟨rfl,b⟩;have d:=jt d b;replace g:=(b.cell c).trans g;replace h:=(b.cell (p:=aF p 1) c).trans h;replace i:=(b.cell (p:=aF p 2) c).trans i;replace j:=(b.cell (p:=aF p 3) c).trans j;replace k:=(b.cell (p:=aF p 4) c).trans k;replace c:=bf c b.size;clear b;cases s
    ·go_wp2;go_ret;exact⟨aU (by rw[l.o];rfl),d.o⟩
    ·go_wp2_with fail;refine(q.o _).mono ?_;rintro e m ⟨rfl,b⟩;have d:=jt d b;replace g:=(b.cell c).trans g;replace h:=(b.cell (p:=aF p 1) c).trans h;replace i:=(b.cell (p:=aF p 2) c).trans i;replace j:=(b.cell (p:=aF p 3) c).trans j;replace k:=(b.cell (p:=aF p 4) c).trans k;replace c:=bf c b.size;clear b;cases t
     ·go_wp2;go_ret;exact⟨aU (by rw[l.o];rfl),d.o⟩
     ·go_wp2_with fail;refine(r.o _).mono ?_;rintro e m ⟨rfl,b⟩;have d:=jt d b;replace g:=(b.cell c).trans g;replace h:=(b.cell (p:=aF p 1) c).trans h;replace i:=(b.cell (p:=aF p 2) c).trans i;replace j:=(b.cell (p:=aF p 3) c).trans j;replace k:=(b.cell (p:=aF p 4) c).trans k;replace c:=bf c b.size;clear b;cases u
      ·go_wp2;go_ret;exact⟨aU (by rw[l.o];rfl),d.o⟩
      ·go_wp2;go_ret;exact⟨aU (by rw[l.o];rw[aK aa];rfl),d.o⟩
   ·have E:((ts.length:Int)==0)=false:=by rw[aZ];omega
    have n:(0:Int)<(ts.length:Int):=aa
    go_enter func88,ntmps88;go_wp2_with fail;refine(o.o _).mono ?_;rintro e m ⟨rfl,b⟩;have d:=jt d b;replace g:=(b.cell c).trans g;replace h:=(b.cell (p:=aF p 1) c).trans h;replace i:=(b.cell (p:=aF p 2) c).trans i;replace j:=(b.cell (p:=aF p 3) c).trans j;replace k:=(b.cell (p:=aF p 4) c).trans k;replace c:=bf c b.size;clear b;cases s
    ·go_wp2;go_ret;exact⟨aU (by rw[l.o];rfl),d.o⟩
    ·go_wp2_with fail;refine(q.o _).mono ?_;rintro e m ⟨rfl,b⟩;have d:=jt d b;replace g:=(b.cell c).trans g;replace h:=(b.cell (p:=aF p 1) c).trans h;replace i:=(b.cell (p:=aF p 2) c).trans i;replace j:=(b.cell (p:=aF p 3) c).trans j;replace k:=(b.cell (p:=aF p 4) c).trans k;replace c:=bf c b.size;clear b;cases t
     ·go_wp2;go_ret;exact⟨aU (by rw[l.o];rfl),d.o⟩
     ·go_wp2_with fail;refine(r.o _).mono ?_;rintro e m ⟨rfl,b⟩;have d:=jt d b;replace g:=(b.cell c).trans g;replace h:=(b.cell (p:=aF p 1) c).trans h;replace i:=(b.cell (p:=aF p 2) c).trans i;replace j:=(b.cell (p:=aF p 3) c).trans j;replace k:=(b.cell (p:=aF p 4) c).trans k;replace c:=bf c b.size;clear b;cases u
      ·go_wp2;go_ret;exact⟨aU (by rw[l.o];rfl),d.o⟩
      ·go_wp2;go_ret;exact⟨aU (by rw[l.o];rw[aJ aa];rfl),d.o⟩
def Vz (k:Int)(a v f:ByteArray)(ts:List aC)(p:Addr)(A:Option Addr)(cap:Nat)(w:World)(r:sH w p (.mk k a v f ts) A cap)(s:(k==1)=false)(t:(k==2)=false)(u:(k==3)=false)(x:(k==4)=false)(y:(k==5)=false):Calls prog 88 #[az p] w λe w'=>e= .returned (.bool (gq k a.toList v.toList f.toList ts.length))/\Below w.heap.size w w':=by
 obtain⟨c,g,h,i,j,l,z,B,q,C,F,-⟩:=r;dsimp only[aC.kind,aC.nam,aC.vr,aC.form,aC.args] at g h i j l z B q C;have d:=zh (aL w.heap.size w);have m:=zh (λw=>Cb f 33 16 w q);have n:=ah (gq k a.toList v.toList f.toList ts.length=false) (by unfold gq;rw[ai (aZ.1 s),ai (aZ.1 t),ai (aZ.1 u),ai (aZ.1 x),ai (aZ.1 y)]);generalize (oH 33 f.toList&&decide (f.toList.length<=16))=G at*;cases H:v.toList.isEmpty
 ·skip
  go_enter func88,ntmps88;go_wp2_with fail;refine(m.o _).mono ?_;rintro e o ⟨rfl,b⟩;have d:=jt d b;replace g:=(b.cell c).trans g;replace h:=(b.cell (p:=aF p 1) c).trans h;replace i:=(b.cell (p:=aF p 2) c).trans i;replace j:=(b.cell (p:=aF p 3) c).trans j;replace l:=(b.cell (p:=aF p 4) c).trans l;replace c:=bf c b.size;clear b;go_wp2;go_ret;exact⟨aU (by rw[n.o]),d.o⟩
 ·cases I:f.toList.isEmpty
  ·skip
   go_enter func88,ntmps88;go_wp2_with fail;refine(m.o _).mono ?_;rintro e o ⟨rfl,b⟩;have d:=jt d b;replace g:=(b.cell c).trans g;replace h:=(b.cell (p:=aF p 1) c).trans h;replace i:=(b.cell (p:=aF p 2) c).trans i;replace j:=(b.cell (p:=aF p 3) c).trans j;replace l:=(b.cell (p:=aF p 4) c).trans l;replace c:=bf c b.size;clear b;go_wp2;go_ret;exact⟨aU (by rw[n.o]),d.o⟩
  ·by_cases J:ts.length=0
   ·have D:((ts.length:Int)==0)=true:=by rw[aT];omega
    have E:¬(0:Int)<(ts.length:Int):=aa
    go_enter func88,ntmps88;go_wp2_with fail;refine(m.o _).mono ?_;rintro e o ⟨rfl,b⟩;have d:=jt d b;replace g:=(b.cell c).trans g;replace h:=(b.cell (p:=aF p 1) c).trans h;replace i:=(b.cell (p:=aF p 2) c).trans i;replace j:=(b.cell (p:=aF p 3) c).trans j;replace l:=(b.cell (p:=aF p 4) c).trans l;replace c:=bf c b.size;clear b;go_wp2;go_ret;exact⟨aU (by rw[n.o]),d.o⟩
   ·have D:((ts.length:Int)==0)=false:=by rw[aZ];omega
    have E:(0:Int)<(ts.length:Int):=aa
    go_enter func88,ntmps88;go_wp2_with fail;refine(m.o _).mono ?_;rintro e o ⟨rfl,b⟩;have d:=jt d b;replace g:=(b.cell c).trans g;replace h:=(b.cell (p:=aF p 1) c).trans h;replace i:=(b.cell (p:=aF p 2) c).trans i;replace j:=(b.cell (p:=aF p 3) c).trans j;replace l:=(b.cell (p:=aF p 4) c).trans l;replace c:=bf c b.size;clear b;go_wp2;go_ret;exact⟨aU (by rw[n.o]),d.o⟩
def Bz (t:aC)(p:Addr)(A:Option Addr)(cap:Nat)(w:World)(b:sH w p t A cap):Calls prog 88 #[az p] w λe w'=>e= .returned (.bool (gq t.kind t.nam.data.toList t.vr.data.toList t.form.data.toList t.args.length))/\Below w.heap.size w w':=by
 obtain⟨k,a,v,f,c⟩:=t;dsimp only[aC.kind,aC.nam,aC.vr,aC.form,aC.args];rw[<-bz,<-bz,<-bz]
 by_cases d:k=1
 ·subst d;exact IX a v f c p A cap w b
 by_cases g:k=2
 ·subst g;exact Vv a v f c p A cap w b
 by_cases h:k=3
 ·subst h;exact Vw a v f c p A cap w b
 by_cases i:k=4
 ·subst i;exact Vx a v f c p A cap w b
 by_cases j:k=5
 ·subst j;exact Vy a v f c p A cap w b
 exact Vz k a v f c p A cap w b (aZ.2 d) (aZ.2 g) (aZ.2 h) (aZ.2 i) (aZ.2 j)
end Go.Proofs.YtlefbenkhgbifaaGreatDoor.Sp
