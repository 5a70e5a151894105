/- The fields of a term: the reference. -/
import Derived.Test.YtlefbenkhgbifaaGreatDoorH041e1894
import Derived.Test.YtlefbenkhgbifaaGreatDoorHf03b340f
import Derived.Lib.AtoiAll
set_option linter.all false
set_option maxRecDepth 100000
set_option maxHeartbeats 8000000
namespace Go.Proofs.YtlefbenkhgbifaaGreatDoor
open Tryz
namespace Sp
open At Go.RowKit
def VA (a v f:ByteArray)(n:Nat)(A:Option Addr)(cap:Nat)(w:World)(t:a.size<=9223372036854775807)(z:n<=9223372036854775807):Calls prog 76 #[.agg (aA 1 a v A n cap f)] w λe w'=>e= .returned (.bool (gq 1 a.toList v.toList f.toList n))/\Below w.heap.size w w':=by
 have g:=ah (gq 1 a.toList v.toList f.toList n=((v.toList.isEmpty&&(f.toList.isEmpty&&decide (n=0)))&&oG a.toList)) rfl;have u:=zh (λw=>Vu a w t);generalize oG a.toList=B at*
 by_cases h:n=0
 ·have x:((n:Int)==0)=true:=by rw[aT];omega
  have y:¬(0:Int)<(n:Int):=aa
  replace h:=zh h;cases q:v.toList.isEmpty
  ·skip
   rw[q] at g;go_enter func76,ntmps76;go_wp2_with fail;have b:=zh (au.new w 25 (aA 1 a v A n cap f));have c:=zh (aN w (.cells (aA 1 a v A n cap f) 25));dsimp only[aA] at b c;generalize w.alloc (.cells #[qI 1,af a,af v,.slice A n cap,af f] 25)=r at*;obtain⟨j,k,l,m,o⟩:=qc b;have d:=b.o.lt;go_wp2;go_ret;exact⟨aU (by rw[g.o];rfl),c.o⟩
  ·cases s:f.toList.isEmpty
   ·skip
    rw[q,s] at g;go_enter func76,ntmps76;go_wp2_with fail;have b:=zh (au.new w 25 (aA 1 a v A n cap f));have c:=zh (aN w (.cells (aA 1 a v A n cap f) 25));dsimp only[aA] at b c;generalize w.alloc (.cells #[qI 1,af a,af v,.slice A n cap,af f] 25)=r at*;obtain⟨j,k,l,m,o⟩:=qc b;have d:=b.o.lt;go_wp2;go_ret;exact⟨aU (by rw[g.o];rfl),c.o⟩
   ·skip
    rw[q,s,aJ h.o,aW,aW,aW] at g;clear h;go_enter func76,ntmps76;go_wp2_with fail;have b:=zh (au.new w 25 (aA 1 a v A n cap f));have c:=zh (aN w (.cells (aA 1 a v A n cap f) 25));dsimp only[aA] at b c;generalize w.alloc (.cells #[qI 1,af a,af v,.slice A n cap,af f] 25)=r at*;obtain⟨j,k,l,m,o⟩:=qc b;have d:=b.o.lt
    skip
    refine(u.o _).mono ?_;rintro e C ⟨rfl,i⟩;have c:=jt c i;replace j:=(i.cell (p:=ag w.heap.size (0)) d).trans j;replace k:=(i.cell (p:=ag w.heap.size (1)) d).trans k;replace l:=(i.cell (p:=ag w.heap.size (2)) d).trans l;replace m:=(i.cell (p:=ag w.heap.size (3)) d).trans m;replace o:=(i.cell (p:=ag w.heap.size (4)) d).trans o;replace d:=bf d i.size;clear i;go_wp2;go_ret;exact⟨aU (by rw[g.o]),c.o⟩
 ·have x:((n:Int)==0)=false:=by rw[aZ];omega
  have y:(0:Int)<(n:Int):=aa
  replace h:=zh h;rw[aK h.o,bF,bF] at g;clear h;go_enter func76,ntmps76;go_wp2_with fail;have b:=zh (au.new w 25 (aA 1 a v A n cap f));have c:=zh (aN w (.cells (aA 1 a v A n cap f) 25));dsimp only[aA] at b c;generalize w.alloc (.cells #[qI 1,af a,af v,.slice A n cap,af f] 25)=r at*;obtain⟨j,k,l,m,o⟩:=qc b;have d:=b.o.lt;go_wp2;go_ret;exact⟨aU (by rw[g.o];rfl),c.o⟩
def VB (a v f:ByteArray)(n:Nat)(A:Option Addr)(cap:Nat)(w:World)(t:a.size<=9223372036854775807)(z:n<=9223372036854775807):Calls prog 76 #[.agg (aA 2 a v A n cap f)] w λe w'=>e= .returned (.bool (gq 2 a.toList v.toList f.toList n))/\Below w.heap.size w w':=by
 have g:=ah (gq 2 a.toList v.toList f.toList n=((v.toList.isEmpty&&(f.toList.isEmpty&&decide (n=0)))&&mY a.toList)) rfl;have u:=zh (λw=>FT a w t);generalize mY a.toList=B at*
 by_cases h:n=0
 ·have x:((n:Int)==0)=true:=by rw[aT];omega
  have y:¬(0:Int)<(n:Int):=aa
  replace h:=zh h;cases q:v.toList.isEmpty
  ·skip
   rw[q] at g;go_enter func76,ntmps76;go_wp2_with fail;have b:=zh (au.new w 25 (aA 2 a v A n cap f));have c:=zh (aN w (.cells (aA 2 a v A n cap f) 25));dsimp only[aA] at b c;generalize w.alloc (.cells #[qI 2,af a,af v,.slice A n cap,af f] 25)=r at*;obtain⟨j,k,l,m,o⟩:=qc b;have d:=b.o.lt;go_wp2;go_ret;exact⟨aU (by rw[g.o];rfl),c.o⟩
  ·cases s:f.toList.isEmpty
   ·skip
    rw[q,s] at g;go_enter func76,ntmps76;go_wp2_with fail;have b:=zh (au.new w 25 (aA 2 a v A n cap f));have c:=zh (aN w (.cells (aA 2 a v A n cap f) 25));dsimp only[aA] at b c;generalize w.alloc (.cells #[qI 2,af a,af v,.slice A n cap,af f] 25)=r at*;obtain⟨j,k,l,m,o⟩:=qc b;have d:=b.o.lt;go_wp2;go_ret;exact⟨aU (by rw[g.o];rfl),c.o⟩
   ·skip
    rw[q,s,aJ h.o,aW,aW,aW] at g;clear h;go_enter func76,ntmps76;go_wp2_with fail;have b:=zh (au.new w 25 (aA 2 a v A n cap f));have c:=zh (aN w (.cells (aA 2 a v A n cap f) 25));dsimp only[aA] at b c;generalize w.alloc (.cells #[qI 2,af a,af v,.slice A n cap,af f] 25)=r at*;obtain⟨j,k,l,m,o⟩:=qc b;have d:=b.o.lt
    skip
    refine(u.o _).mono ?_;rintro e C ⟨rfl,i⟩;have c:=jt c i;replace j:=(i.cell (p:=ag w.heap.size (0)) d).trans j;replace k:=(i.cell (p:=ag w.heap.size (1)) d).trans k;replace l:=(i.cell (p:=ag w.heap.size (2)) d).trans l;replace m:=(i.cell (p:=ag w.heap.size (3)) d).trans m;replace o:=(i.cell (p:=ag w.heap.size (4)) d).trans o;replace d:=bf d i.size;clear i;go_wp2;go_ret;exact⟨aU (by rw[g.o]),c.o⟩
 ·have x:((n:Int)==0)=false:=by rw[aZ];omega
  have y:(0:Int)<(n:Int):=aa
  replace h:=zh h;rw[aK h.o,bF,bF] at g;clear h;go_enter func76,ntmps76;go_wp2_with fail;have b:=zh (au.new w 25 (aA 2 a v A n cap f));have c:=zh (aN w (.cells (aA 2 a v A n cap f) 25));dsimp only[aA] at b c;generalize w.alloc (.cells #[qI 2,af a,af v,.slice A n cap,af f] 25)=r at*;obtain⟨j,k,l,m,o⟩:=qc b;have d:=b.o.lt;go_wp2;go_ret;exact⟨aU (by rw[g.o];rfl),c.o⟩
def VC (a v f:ByteArray)(n:Nat)(A:Option Addr)(cap:Nat)(w:World)(t:a.size<=9223372036854775807)(z:n<=9223372036854775807):Calls prog 76 #[.agg (aA 3 a v A n cap f)] w λe w'=>e= .returned (.bool (gq 3 a.toList v.toList f.toList n))/\Below w.heap.size w w':=by
 have g:=ah (gq 3 a.toList v.toList f.toList n=((v.toList.isEmpty&&(f.toList.isEmpty&&decide (n=0)))&&(oH 32 a.toList&&decide (a.toList.length<=200)))) rfl;have u:=zh (λw=>JF a 32 200 w t);generalize (oH 32 a.toList&&decide (a.toList.length<=200))=B at*
 by_cases h:n=0
 ·have x:((n:Int)==0)=true:=by rw[aT];omega
  have y:¬(0:Int)<(n:Int):=aa
  replace h:=zh h;cases q:v.toList.isEmpty
  ·skip
   rw[q] at g;go_enter func76,ntmps76;go_wp2_with fail;have b:=zh (au.new w 25 (aA 3 a v A n cap f));have c:=zh (aN w (.cells (aA 3 a v A n cap f) 25));dsimp only[aA] at b c;generalize w.alloc (.cells #[qI 3,af a,af v,.slice A n cap,af f] 25)=r at*;obtain⟨j,k,l,m,o⟩:=qc b;have d:=b.o.lt;go_wp2;go_ret;exact⟨aU (by rw[g.o];rfl),c.o⟩
  ·cases s:f.toList.isEmpty
   ·skip
    rw[q,s] at g;go_enter func76,ntmps76;go_wp2_with fail;have b:=zh (au.new w 25 (aA 3 a v A n cap f));have c:=zh (aN w (.cells (aA 3 a v A n cap f) 25));dsimp only[aA] at b c;generalize w.alloc (.cells #[qI 3,af a,af v,.slice A n cap,af f] 25)=r at*;obtain⟨j,k,l,m,o⟩:=qc b;have d:=b.o.lt;go_wp2;go_ret;exact⟨aU (by rw[g.o];rfl),c.o⟩
   ·skip
    rw[q,s,aJ h.o,aW,aW,aW] at g;clear h;go_enter func76,ntmps76;go_wp2_with fail;have b:=zh (au.new w 25 (aA 3 a v A n cap f));have c:=zh (aN w (.cells (aA 3 a v A n cap f) 25));dsimp only[aA] at b c;generalize w.alloc (.cells #[qI 3,af a,af v,.slice A n cap,af f] 25)=r at*;obtain⟨j,k,l,m,o⟩:=qc b;have d:=b.o.lt
    skip
    refine(u.o _).mono ?_;rintro e C ⟨rfl,i⟩;have c:=jt c i;replace j:=(i.cell (p:=ag w.heap.size (0)) d).trans j;replace k:=(i.cell (p:=ag w.heap.size (1)) d).trans k;replace l:=(i.cell (p:=ag w.heap.size (2)) d).trans l;replace m:=(i.cell (p:=ag w.heap.size (3)) d).trans m;replace o:=(i.cell (p:=ag w.heap.size (4)) d).trans o;replace d:=bf d i.size;clear i;go_wp2;go_ret;exact⟨aU (by rw[g.o]),c.o⟩
 ·have x:((n:Int)==0)=false:=by rw[aZ];omega
  have y:(0:Int)<(n:Int):=aa
  replace h:=zh h;rw[aK h.o,bF,bF] at g;clear h;go_enter func76,ntmps76;go_wp2_with fail;have b:=zh (au.new w 25 (aA 3 a v A n cap f));have c:=zh (aN w (.cells (aA 3 a v A n cap f) 25));dsimp only[aA] at b c;generalize w.alloc (.cells #[qI 3,af a,af v,.slice A n cap,af f] 25)=r at*;obtain⟨j,k,l,m,o⟩:=qc b;have d:=b.o.lt;go_wp2;go_ret;exact⟨aU (by rw[g.o];rfl),c.o⟩
def VD (a v f:ByteArray)(n:Nat)(A:Option Addr)(cap:Nat)(w:World)(z:a.size<=9223372036854775807)(B:f.size<=9223372036854775807)(E:n<=9223372036854775807):Calls prog 76 #[.agg (aA 4 a v A n cap f)] w λe w'=>e= .returned (.bool (gq 4 a.toList v.toList f.toList n))/\Below w.heap.size w w':=by
 have m:=ah (gq 4 a.toList v.toList f.toList n=((oH 33 f.toList&&decide (f.toList.length<=16))&&(ky a.toList&&v.toList.isEmpty))) rfl;have s:=zh (λw=>Oa a w z);have y:=zh (λw=>JF f 33 16 w B);generalize (oH 33 f.toList&&decide (f.toList.length<=16))=o at*;generalize ky a.toList=t at*
 by_cases u:n=0
 ·have C:((n:Int)==0)=true:=by rw[aT];omega
  have D:¬(0:Int)<(n:Int):=aa
  replace u:=zh u;cases r:v.toList.isEmpty
  ·skip
   rw[r] at m;go_enter func76,ntmps76;go_wp2_with fail;have l:=zh (au.new w 25 (aA 4 a v A n cap f));have d:=zh (aN w (.cells (aA 4 a v A n cap f) 25));dsimp only[aA] at l d;generalize w.alloc (.cells #[qI 4,af a,af v,.slice A n cap,af f] 25)=x at*;obtain⟨g,h,i,j,k⟩:=qc l;have c:=l.o.lt;refine(s.o _).mono ?_;rintro e q ⟨rfl,b⟩;have d:=jt d b;replace g:=(b.cell (p:=ag w.heap.size (0)) c).trans g;replace h:=(b.cell (p:=ag w.heap.size (1)) c).trans h;replace i:=(b.cell (p:=ag w.heap.size (2)) c).trans i;replace j:=(b.cell (p:=ag w.heap.size (3)) c).trans j;replace k:=(b.cell (p:=ag w.heap.size (4)) c).trans k;replace c:=bf c b.size;clear b;cases t
   ·go_wp2;go_ret;exact⟨aU (by rw[m.o];cases o<;>rfl),d.o⟩
   ·go_wp2;go_ret;exact⟨aU (by rw[m.o];cases o<;>rfl),d.o⟩
  ·cases F:f.toList.isEmpty
   ·skip
    rw[r] at m;go_enter func76,ntmps76;go_wp2_with fail;have l:=zh (au.new w 25 (aA 4 a v A n cap f));have d:=zh (aN w (.cells (aA 4 a v A n cap f) 25));dsimp only[aA] at l d;generalize w.alloc (.cells #[qI 4,af a,af v,.slice A n cap,af f] 25)=x at*;obtain⟨g,h,i,j,k⟩:=qc l;have c:=l.o.lt;refine(s.o _).mono ?_;rintro e q ⟨rfl,b⟩;have d:=jt d b;replace g:=(b.cell (p:=ag w.heap.size (0)) c).trans g;replace h:=(b.cell (p:=ag w.heap.size (1)) c).trans h;replace i:=(b.cell (p:=ag w.heap.size (2)) c).trans i;replace j:=(b.cell (p:=ag w.heap.size (3)) c).trans j;replace k:=(b.cell (p:=ag w.heap.size (4)) c).trans k;replace c:=bf c b.size;clear b;cases t
    ·go_wp2;go_ret;exact⟨aU (by rw[m.o];cases o<;>rfl),d.o⟩
    ·go_wp2_with fail;refine(y.o _).mono ?_;rintro e q ⟨rfl,b⟩;have d:=jt d b;replace g:=(b.cell (p:=ag w.heap.size (0)) c).trans g;replace h:=(b.cell (p:=ag w.heap.size (1)) c).trans h;replace i:=(b.cell (p:=ag w.heap.size (2)) c).trans i;replace j:=(b.cell (p:=ag w.heap.size (3)) c).trans j;replace k:=(b.cell (p:=ag w.heap.size (4)) c).trans k;replace c:=bf c b.size;clear b;go_wp2;go_ret;exact⟨aU (by rw[m.o];cases o<;>rfl),d.o⟩
   ·skip
    rw[r] at m;go_enter func76,ntmps76;go_wp2_with fail;have l:=zh (au.new w 25 (aA 4 a v A n cap f));have d:=zh (aN w (.cells (aA 4 a v A n cap f) 25));dsimp only[aA] at l d;generalize w.alloc (.cells #[qI 4,af a,af v,.slice A n cap,af f] 25)=x at*;obtain⟨g,h,i,j,k⟩:=qc l;have c:=l.o.lt;refine(s.o _).mono ?_;rintro e q ⟨rfl,b⟩;have d:=jt d b;replace g:=(b.cell (p:=ag w.heap.size (0)) c).trans g;replace h:=(b.cell (p:=ag w.heap.size (1)) c).trans h;replace i:=(b.cell (p:=ag w.heap.size (2)) c).trans i;replace j:=(b.cell (p:=ag w.heap.size (3)) c).trans j;replace k:=(b.cell (p:=ag w.heap.size (4)) c).trans k;replace c:=bf c b.size;clear b;cases t
    ·go_wp2;go_ret;exact⟨aU (by rw[m.o];cases o<;>rfl),d.o⟩
    ·go_wp2_with fail;refine(y.o _).mono ?_;rintro e q ⟨rfl,b⟩;have d:=jt d b;replace g:=(b.cell (p:=ag w.heap.size (0)) c).trans g;replace h:=(b.cell (p:=ag w.heap.size (1)) c).trans h;replace i:=(b.cell (p:=ag w.heap.size (2)) c).trans i;replace j:=(b.cell (p:=ag w.heap.size (3)) c).trans j;replace k:=(b.cell (p:=ag w.heap.size (4)) c).trans k;replace c:=bf c b.size;clear b;go_wp2;go_ret;exact⟨aU (by rw[m.o];cases o<;>rfl),d.o⟩
 ·have C:((n:Int)==0)=false:=by rw[aZ];omega
  have D:(0:Int)<(n:Int):=aa
  replace u:=zh u;cases r:v.toList.isEmpty
  ·skip
   rw[r] at m;go_enter func76,ntmps76;go_wp2_with fail;have l:=zh (au.new w 25 (aA 4 a v A n cap f));have d:=zh (aN w (.cells (aA 4 a v A n cap f) 25));dsimp only[aA] at l d;generalize w.alloc (.cells #[qI 4,af a,af v,.slice A n cap,af f] 25)=x at*;obtain⟨g,h,i,j,k⟩:=qc l;have c:=l.o.lt;refine(s.o _).mono ?_;rintro e q ⟨rfl,b⟩;have d:=jt d b;replace g:=(b.cell (p:=ag w.heap.size (0)) c).trans g;replace h:=(b.cell (p:=ag w.heap.size (1)) c).trans h;replace i:=(b.cell (p:=ag w.heap.size (2)) c).trans i;replace j:=(b.cell (p:=ag w.heap.size (3)) c).trans j;replace k:=(b.cell (p:=ag w.heap.size (4)) c).trans k;replace c:=bf c b.size;clear b;cases t
   ·go_wp2;go_ret;exact⟨aU (by rw[m.o];cases o<;>rfl),d.o⟩
   ·go_wp2;go_ret;exact⟨aU (by rw[m.o];cases o<;>rfl),d.o⟩
  ·skip
   rw[r] at m;go_enter func76,ntmps76;go_wp2_with fail;have l:=zh (au.new w 25 (aA 4 a v A n cap f));have d:=zh (aN w (.cells (aA 4 a v A n cap f) 25));dsimp only[aA] at l d;generalize w.alloc (.cells #[qI 4,af a,af v,.slice A n cap,af f] 25)=x at*;obtain⟨g,h,i,j,k⟩:=qc l;have c:=l.o.lt;refine(s.o _).mono ?_;rintro e q ⟨rfl,b⟩;have d:=jt d b;replace g:=(b.cell (p:=ag w.heap.size (0)) c).trans g;replace h:=(b.cell (p:=ag w.heap.size (1)) c).trans h;replace i:=(b.cell (p:=ag w.heap.size (2)) c).trans i;replace j:=(b.cell (p:=ag w.heap.size (3)) c).trans j;replace k:=(b.cell (p:=ag w.heap.size (4)) c).trans k;replace c:=bf c b.size;clear b;cases t
   ·go_wp2;go_ret;exact⟨aU (by rw[m.o];cases o<;>rfl),d.o⟩
   ·go_wp2_with fail;refine(y.o _).mono ?_;rintro e q ⟨rfl,b⟩;have d:=jt d b;replace g:=(b.cell (p:=ag w.heap.size (0)) c).trans g;replace h:=(b.cell (p:=ag w.heap.size (1)) c).trans h;replace i:=(b.cell (p:=ag w.heap.size (2)) c).trans i;replace j:=(b.cell (p:=ag w.heap.size (3)) c).trans j;replace k:=(b.cell (p:=ag w.heap.size (4)) c).trans k;replace c:=bf c b.size;clear b;go_wp2;go_ret;exact⟨aU (by rw[m.o];cases o<;>rfl),d.o⟩
def VE (a v f:ByteArray)(n:Nat)(A:Option Addr)(cap:Nat)(w:World)(B:a.size<=9223372036854775807)(C:v.size<=9223372036854775807)(D:f.size<=9223372036854775807)(G:n<=9223372036854775807):Calls prog 76 #[.agg (aA 5 a v A n cap f)] w λe w'=>e= .returned (.bool (gq 5 a.toList v.toList f.toList n))/\Below w.heap.size w w':=by
 have l:=ah (gq 5 a.toList v.toList f.toList n=((oH 33 f.toList&&decide (f.toList.length<=16))&&(ky a.toList&&(mY v.toList&&decide (0<n))))) rfl;have r:=zh (λw=>Oa a w B);have s:=zh (λw=>FT v w C);have t:=zh (λw=>JF f 33 16 w D);generalize (oH 33 f.toList&&decide (f.toList.length<=16))=o at*;generalize ky a.toList=u at*;generalize mY v.toList=x at*
 by_cases y:n=0
 ·have E:((n:Int)==0)=true:=by rw[aT];omega
  have F:¬(0:Int)<(n:Int):=aa
  replace y:=zh y;cases H:v.toList.isEmpty
  ·skip
   rw[show decide (0<n)=false by rw[aK aa]] at l;go_enter func76,ntmps76;go_wp2_with fail;have m:=zh (au.new w 25 (aA 5 a v A n cap f));have d:=zh (aN w (.cells (aA 5 a v A n cap f) 25));dsimp only[aA] at m d;generalize w.alloc (.cells #[qI 5,af a,af v,.slice A n cap,af f] 25)=z at*;obtain⟨g,h,i,j,k⟩:=qc m;have c:=m.o.lt;refine(r.o _).mono ?_;rintro e q ⟨rfl,b⟩;have d:=jt d b;replace g:=(b.cell (p:=ag w.heap.size (0)) c).trans g;replace h:=(b.cell (p:=ag w.heap.size (1)) c).trans h;replace i:=(b.cell (p:=ag w.heap.size (2)) c).trans i;replace j:=(b.cell (p:=ag w.heap.size (3)) c).trans j;replace k:=(b.cell (p:=ag w.heap.size (4)) c).trans k;replace c:=bf c b.size;clear b;cases u
   ·go_wp2;go_ret;exact⟨aU (by rw[l.o];cases o<;>rfl),d.o⟩
   ·go_wp2_with fail;refine(s.o _).mono ?_;rintro e q ⟨rfl,b⟩;have d:=jt d b;replace g:=(b.cell (p:=ag w.heap.size (0)) c).trans g;replace h:=(b.cell (p:=ag w.heap.size (1)) c).trans h;replace i:=(b.cell (p:=ag w.heap.size (2)) c).trans i;replace j:=(b.cell (p:=ag w.heap.size (3)) c).trans j;replace k:=(b.cell (p:=ag w.heap.size (4)) c).trans k;replace c:=bf c b.size;clear b;cases x
    ·go_wp2;go_ret;exact⟨aU (by rw[l.o];cases o<;>rfl),d.o⟩
    ·go_wp2_with fail;refine(t.o _).mono ?_;rintro e q ⟨rfl,b⟩;have d:=jt d b;replace g:=(b.cell (p:=ag w.heap.size (0)) c).trans g;replace h:=(b.cell (p:=ag w.heap.size (1)) c).trans h;replace i:=(b.cell (p:=ag w.heap.size (2)) c).trans i;replace j:=(b.cell (p:=ag w.heap.size (3)) c).trans j;replace k:=(b.cell (p:=ag w.heap.size (4)) c).trans k;replace c:=bf c b.size;clear b;cases o
     ·go_wp2;go_ret;exact⟨aU (by rw[l.o];rfl),d.o⟩
     ·go_wp2;go_ret;exact⟨aU (by rw[l.o];first|rfl|(simp;omega)),d.o⟩
  ·cases I:f.toList.isEmpty
   ·skip
    rw[show decide (0<n)=false by rw[aK aa]] at l;go_enter func76,ntmps76;go_wp2_with fail;have m:=zh (au.new w 25 (aA 5 a v A n cap f));have d:=zh (aN w (.cells (aA 5 a v A n cap f) 25));dsimp only[aA] at m d;generalize w.alloc (.cells #[qI 5,af a,af v,.slice A n cap,af f] 25)=z at*;obtain⟨g,h,i,j,k⟩:=qc m;have c:=m.o.lt;refine(r.o _).mono ?_;rintro e q ⟨rfl,b⟩;have d:=jt d b;replace g:=(b.cell (p:=ag w.heap.size (0)) c).trans g;replace h:=(b.cell (p:=ag w.heap.size (1)) c).trans h;replace i:=(b.cell (p:=ag w.heap.size (2)) c).trans i;replace j:=(b.cell (p:=ag w.heap.size (3)) c).trans j;replace k:=(b.cell (p:=ag w.heap.size (4)) c).trans k;replace c:=bf c b.size;clear b;cases u
    ·go_wp2;go_ret;exact⟨aU (by rw[l.o];cases o<;>rfl),d.o⟩
    ·go_wp2_with fail;refine(s.o _).mono ?_;rintro e q ⟨rfl,b⟩;have d:=jt d b;replace g:=(b.cell (p:=ag w.heap.size (0)) c).trans g;replace h:=(b.cell (p:=ag w.heap.size (1)) c).trans h;replace i:=(b.cell (p:=ag w.heap.size (2)) c).trans i;replace j:=(b.cell (p:=ag w.heap.size (3)) c).trans j;replace k:=(b.cell (p:=ag w.heap.size (4)) c).trans k;replace c:=bf c b.size;clear b;cases x
     ·go_wp2;go_ret;exact⟨aU (by rw[l.o];cases o<;>rfl),d.o⟩
     ·go_wp2_with fail;refine(t.o _).mono ?_;rintro e q ⟨rfl,b⟩;have d:=jt d b;replace g:=(b.cell (p:=ag w.heap.size (0)) c).trans g;replace h:=(b.cell (p:=ag w.heap.size (1)) c).trans h;replace i:=(b.cell (p:=ag w.heap.size (2)) c).trans i;replace j:=(b.cell (p:=ag w.heap.size (3)) c).trans j;replace k:=(b.cell (p:=ag w.heap.size (4)) c).trans k;replace c:=bf c b.size;clear b;cases o
      ·go_wp2;go_ret;exact⟨aU (by rw[l.o];rfl),d.o⟩
      ·go_wp2;go_ret;exact⟨aU (by rw[l.o];first|rfl|(simp;omega)),d.o⟩
   ·skip
    rw[show decide (0<n)=false by rw[aK aa]] at l;go_enter func76,ntmps76;go_wp2_with fail;have m:=zh (au.new w 25 (aA 5 a v A n cap f));have d:=zh (aN w (.cells (aA 5 a v A n cap f) 25));dsimp only[aA] at m d;generalize w.alloc (.cells #[qI 5,af a,af v,.slice A n cap,af f] 25)=z at*;obtain⟨g,h,i,j,k⟩:=qc m;have c:=m.o.lt;refine(r.o _).mono ?_;rintro e q ⟨rfl,b⟩;have d:=jt d b;replace g:=(b.cell (p:=ag w.heap.size (0)) c).trans g;replace h:=(b.cell (p:=ag w.heap.size (1)) c).trans h;replace i:=(b.cell (p:=ag w.heap.size (2)) c).trans i;replace j:=(b.cell (p:=ag w.heap.size (3)) c).trans j;replace k:=(b.cell (p:=ag w.heap.size (4)) c).trans k;replace c:=bf c b.size;clear b;cases u
    ·go_wp2;go_ret;exact⟨aU (by rw[l.o];cases o<;>rfl),d.o⟩
    ·go_wp2_with fail;refine(s.o _).mono ?_;rintro e q ⟨rfl,b⟩;have d:=jt d b;replace g:=(b.cell (p:=ag w.heap.size (0)) c).trans g;replace h:=(b.cell (p:=ag w.heap.size (1)) c).trans h;replace i:=(b.cell (p:=ag w.heap.size (2)) c).trans i;replace j:=(b.cell (p:=ag w.heap.size (3)) c).trans j;replace k:=(b.cell (p:=ag w.heap.size (4)) c).trans k;replace c:=bf c b.size;clear b;cases x
     ·go_wp2;go_ret;exact⟨aU (by rw[l.o];cases o<;>rfl),d.o⟩
     ·go_wp2_with fail;refine(t.o _).mono ?_;rintro e q ⟨rfl,b⟩;have d:=jt d b;replace g:=(b.cell (p:=ag w.heap.size (0)) c).trans g;replace h:=(b.cell (p:=ag w.heap.size (1)) c).trans h;replace i:=(b.cell (p:=ag w.heap.size (2)) c).trans i;replace j:=(b.cell (p:=ag w.heap.size (3)) c).trans j;replace k:=(b.cell (p:=ag w.heap.size (4)) c).trans k;replace c:=bf c b.size;clear b;cases o
      ·go_wp2;go_ret;exact⟨aU (by rw[l.o];rfl),d.o⟩
      ·go_wp2;go_ret;exact⟨aU (by rw[l.o];first|rfl|(simp;omega)),d.o⟩
 ·have E:((n:Int)==0)=false:=by rw[aZ];omega
  have F:(0:Int)<(n:Int):=aa
  replace y:=zh y;rw[show decide (0<n)=true by rw[aJ aa]] at l;go_enter func76,ntmps76;go_wp2_with fail;have m:=zh (au.new w 25 (aA 5 a v A n cap f));have d:=zh (aN w (.cells (aA 5 a v A n cap f) 25));dsimp only[aA] at m d;generalize w.alloc (.cells #[qI 5,af a,af v,.slice A n cap,af f] 25)=z at*;obtain⟨g,h,i,j,k⟩:=qc m;have c:=m.o.lt;refine(r.o _).mono ?_;rintro e q ⟨rfl,b⟩;have d:=jt d b;replace g:=(b.cell (p:=ag w.heap.size (0)) c).trans g;replace h:=(b.cell (p:=ag w.heap.size (1)) c).trans h;replace i:=(b.cell (p:=ag w.heap.size (2)) c).trans i;replace j:=(b.cell (p:=ag w.heap.size (3)) c).trans j;replace k:=(b.cell (p:=ag w.heap.size (4)) c).trans k;replace c:=bf c b.size;clear b;cases u
  ·go_wp2;go_ret;exact⟨aU (by rw[l.o];cases o<;>rfl),d.o⟩
  ·go_wp2_with fail;refine(s.o _).mono ?_;rintro e q ⟨rfl,b⟩;have d:=jt d b;replace g:=(b.cell (p:=ag w.heap.size (0)) c).trans g;replace h:=(b.cell (p:=ag w.heap.size (1)) c).trans h;replace i:=(b.cell (p:=ag w.heap.size (2)) c).trans i;replace j:=(b.cell (p:=ag w.heap.size (3)) c).trans j;replace k:=(b.cell (p:=ag w.heap.size (4)) c).trans k;replace c:=bf c b.size;clear b;cases x
   ·go_wp2;go_ret;exact⟨aU (by rw[l.o];cases o<;>rfl),d.o⟩
   ·go_wp2_with fail;refine(t.o _).mono ?_;rintro e q ⟨rfl,b⟩;have d:=jt d b;replace g:=(b.cell (p:=ag w.heap.size (0)) c).trans g;replace h:=(b.cell (p:=ag w.heap.size (1)) c).trans h;replace i:=(b.cell (p:=ag w.heap.size (2)) c).trans i;replace j:=(b.cell (p:=ag w.heap.size (3)) c).trans j;replace k:=(b.cell (p:=ag w.heap.size (4)) c).trans k;replace c:=bf c b.size;clear b;cases o
    ·go_wp2;go_ret;exact⟨aU (by rw[l.o];rfl),d.o⟩
    ·go_wp2;go_ret;exact⟨aU (by rw[l.o];first|rfl|(simp;omega)),d.o⟩
def VF (k:Int)(a v f:ByteArray)(n:Nat)(A:Option Addr)(cap:Nat)(w:World)(z:n<=9223372036854775807)(q:(k==1)=false)(r:(k==2)=false)(s:(k==3)=false)(t:(k==4)=false)(u:(k==5)=false):Calls prog 76 #[.agg (aA k a v A n cap f)] w λe w'=>e= .returned (.bool (gq k a.toList v.toList f.toList n))/\Below w.heap.size w w':=by
 have d:=ah (gq k a.toList v.toList f.toList n=false) (by unfold gq;rw[ai (aZ.1 q),ai (aZ.1 r),ai (aZ.1 s),ai (aZ.1 t),ai (aZ.1 u)])
 by_cases g:n=0
 ·have x:((n:Int)==0)=true:=by rw[aT];omega
  have y:¬(0:Int)<(n:Int):=aa
  replace g:=zh g;cases B:v.toList.isEmpty
  ·skip
   go_enter func76,ntmps76;go_wp2_with fail;have b:=zh (au.new w 25 (aA k a v A n cap f));have c:=zh (aN w (.cells (aA k a v A n cap f) 25));dsimp only[aA] at b c;generalize w.alloc (.cells #[qI k,af a,af v,.slice A n cap,af f] 25)=h at*;obtain⟨i,j,l,m,o⟩:=qc b;have p:=b.o.lt;go_wp2;go_ret;exact⟨aU (by rw[d.o]),c.o⟩
  ·cases C:f.toList.isEmpty
   ·skip
    go_enter func76,ntmps76;go_wp2_with fail;have b:=zh (au.new w 25 (aA k a v A n cap f));have c:=zh (aN w (.cells (aA k a v A n cap f) 25));dsimp only[aA] at b c;generalize w.alloc (.cells #[qI k,af a,af v,.slice A n cap,af f] 25)=h at*;obtain⟨i,j,l,m,o⟩:=qc b;have p:=b.o.lt;go_wp2;go_ret;exact⟨aU (by rw[d.o]),c.o⟩
   ·skip
    go_enter func76,ntmps76;go_wp2_with fail;have b:=zh (au.new w 25 (aA k a v A n cap f));have c:=zh (aN w (.cells (aA k a v A n cap f) 25));dsimp only[aA] at b c;generalize w.alloc (.cells #[qI k,af a,af v,.slice A n cap,af f] 25)=h at*;obtain⟨i,j,l,m,o⟩:=qc b;have p:=b.o.lt;go_wp2;go_ret;exact⟨aU (by rw[d.o]),c.o⟩
 ·have x:((n:Int)==0)=false:=by rw[aZ];omega
  have y:(0:Int)<(n:Int):=aa
  replace g:=zh g;go_enter func76,ntmps76;go_wp2_with fail;have b:=zh (au.new w 25 (aA k a v A n cap f));have c:=zh (aN w (.cells (aA k a v A n cap f) 25));dsimp only[aA] at b c;generalize w.alloc (.cells #[qI k,af a,af v,.slice A n cap,af f] 25)=h at*;obtain⟨i,j,l,m,o⟩:=qc b;have p:=b.o.lt;go_wp2;go_ret;exact⟨aU (by rw[d.o]),c.o⟩
def VG (t:aC)(c:Array Value)(w:World)(p:gK w t c):Calls prog 76 #[.agg c] w λe w'=>e= .returned (.bool (gq t.kind t.nam.data.toList t.vr.data.toList t.form.data.toList t.args.length))/\Below w.heap.size w w':=by
 obtain⟨A,d,rfl,g,i,h,b,r,-⟩:=p.form;obtain⟨k,a,v,f,q⟩:=t;dsimp only[aC.kind,aC.nam,aC.vr,aC.form,aC.args] at g i h b⊢;rw[<-bz,<-bz,<-bz];have b:q.length<=9223372036854775807:=aa
 by_cases j:k=1
 ·subst j;exact VA a v f _ A d w g b
 by_cases l:k=2
 ·subst l;exact VB a v f _ A d w g b
 by_cases m:k=3
 ·subst m;exact VC a v f _ A d w g b
 by_cases n:k=4
 ·subst n;exact VD a v f _ A d w g h b
 by_cases o:k=5
 ·subst o;exact VE a v f _ A d w g i h b
 exact VF k a v f _ A d w b (aZ.2 j) (aZ.2 l) (aZ.2 m) (aZ.2 n) (aZ.2 o)
def VH:∀(z:Nat) (t:aC) (c:Array Value) (w:World),bg t<=z->z<=1000000->gK w t c->Calls prog 51 #[.agg c] w λe w'=>e= .returned (qI (nW t))/\Below w.heap.size w w':=by
 intro z
 induction z with
 |zero=>intro t c w h;have:=vW t;omega
 |succ z O=>
  intro t c w V b6 G;have W:=zh (λt c w h X=>O t c w h aa X);clear O;obtain⟨A,r,rfl,Y,Z,a0,a1,b7,H⟩:=G.form;have D:=zh (G.keep (aN w (.cells (aA t.kind t.nam t.vr A t.args.length r t.form) 25)));obtain⟨d,a,v,f,b⟩:=t;dsimp only[aC.kind,aC.nam,aC.vr,aC.form,aC.args] at Y Z a0 a1 H D⊢;have m:=zh (H.keep (aN w (.cells (aA d a v A b.length r f) 25)));have g:=zh (aN w (.cells (aA d a v A b.length r f) 25));have l:=zh (au.new w 25 (aA d a v A b.length r f));have P:bg (.mk d a v f b)=bq b+1:=by rw[bg]
  have I:=ah (qj (.mk d a v f b)=(gq d a.data.toList v.data.toList f.data.toList b.length&&qo b)) (by rw[qj]);have Q:=Ee b;have a2:=ah (bq b<=z) aa;have b8:b.length<=1000000:=aa
  have q:=ah (nW (.mk d a v f b)=if qj (.mk d a v f b)=true/\bq b+1<=1000 then((bq b+1:Nat):Int) else -1) (by unfold nW;rw[P]);have a3:=zh Q;clear V G H P Q;dsimp only[aA] at m g l D;go_enter func51,ntmps51;go_wp2_with fail;refine(VG _ _ _ D.o).mono ?_;rintro e b9 ⟨rfl,n⟩;dsimp only[aC.kind,aC.nam,aC.vr,aC.form,aC.args];replace m:=zh (m.o.keep n);replace l:=kp n l;replace g:=jt g n;clear n D;have E:=l.o.cell 3;cases F:gq d a.data.toList v.data.toList f.data.toList b.length
  ·have o:=ah (nW (.mk d a v f b)= -1) (by rw[q.o,ai (λh=>by rw[I.o,F] at h;simp at h)]);clear F;go_wp2;go_ret;exact⟨wP o.o.symm,g.o⟩
  rw[F,aW] at I;clear F
  by_cases c0:1000<(b.length:Int)
  ·have o:=ah (nW (.mk d a v f b)= -1) (by rw[q.o,ai (λh=>av a3.o)]);go_wp2;go_ret;exact⟨wP o.o.symm,g.o⟩
  rw[I.o] at q;go_wp2_with fail;clear E
  go_loopw [3,4] (λa4 i wr=>∃(j x:Nat),j<=b.length/\i=qI j/\a4=qI x/\x<=1000/\Hy (x=bq (b.take j)+1)/\Hy (qo (b.take j)=true)/\Hy (au wr w.heap.size 25 (aA d a v A b.length r f))/\Hy (uf wr A b)/\Hy (Below w.heap.size w wr)) (λ_ i _=>b.length -(intOf i).toNat)
  case atStart=>exact⟨0,1,aa,rfl,rfl,aa,rfl,rfl,l,m,g⟩
  case round=>
   clear l m g;obtain⟨j,x,c1,rfl,rfl,c2,p,J,l,m,g⟩:=hrel;have E:=l.o.cell 3;dsimp only[aA] at E
   by_cases a5:j<b.length
   ·obtain⟨y,s⟩:∃y,b[j]?=some y:=⟨_,gE a5⟩
    obtain⟨c3,c4,c5,rfl,c6,R⟩:=m.o.at_ s;have S:=zh R.whole;obtain⟨-,a6,a7,a8,a9,b0,-⟩:=R;have T:=ah (bg y<=z) (aV (Ak s) a2.o);have B:=zh (MC s);have K:=zh (Tu s);have U:=zh (Tt b (j+1));have b1:=zh (λh=>Tv (ks:=b) (k:=j+1) h);have b2:=zh (vW y);clear s;go_wp2_with fail;refine(W.o y _ _ T.o S.o).mono ?_;rintro e c7 ⟨rfl,n⟩;replace m:=zh (m.o.keep n);replace l:=kp n l;replace g:=jt g n;clear n S a6 a7 a8 a9 b0 E
    by_cases C:qj y=true/\bg y<=1000
    ·rw[show nW y=(bg y:Int) by unfold nW;rw[ak C]];obtain⟨L,c8⟩:=C;rw[J.o,L] at K;have c9:=b2.o
     by_cases d0:1000<x+bg y
     ·have o:=ah (nW (.mk d a v f b)= -1) (by rw[q.o,ai (λh=>by have M:=B.o;have b3:=p.o;have N:=U.o;omega)]);clear L B p;generalize bg y=u at*;go_wp2;go_ret;exact⟨wP o.o.symm,g.o⟩
     ·have b4:=ah (x+bg y=bq (b.take (j+1))+1) (by rw[B.o,p.o];omega);clear L B p T;generalize bg y=u at*;go_wp2;go_roundw
      case rel=>exact⟨j+1,x+u,aa,bi,bi,aa,b4,K,l,m,g⟩
      case measure=>simp[intOf];omega
    ·rw[show nW y= -1 by unfold nW;rw[ai C]];have o:=zh (show nW (.mk d a v f b)= -1 by
      rw[q.o,ai];rintro⟨M,b3⟩
      apply C
      refine⟨?_,?_⟩
      ·cases b5:qj y
       ·have N:=b1.o (by rw[K.o,b5,bF]);rw[N] at M;cases M
       ·rfl
      ·have N:=B.o;have d1:=U.o;omega)
     clear C;go_wp2;go_ret;exact⟨wP o.o.symm,g.o⟩
   ·obtain rfl:j=b.length:=by omega
    rw[bW] at p J;have o:=ah (nW (.mk d a v f b)=(x:Int)) (by rw[q.o,ak ⟨J.o,av p.o⟩,p.o]);go_wp2;go_ret;exact⟨wP o.o.symm,g.o⟩
def xJ (t:aC)(c:Array Value)(w:World)(f:bg t<=1000000)(b:gK w t c):Calls prog 20 #[.agg c] w λe w'=>e= .returned (.bool (nV t))/\Below w.heap.size w w':=by
 obtain⟨A,d,rfl,m,n,o,p,q,i⟩:=b.form;have g:=zh (b.keep (aN w (.cells (aA t.kind t.nam t.vr A t.args.length d t.form) 25)));have a:=zh (aN w (.cells (aA t.kind t.nam t.vr A t.args.length d t.form) 25));have j:=zh (au.new w 25 (aA t.kind t.nam t.vr A t.args.length d t.form));have k:=zh (Tw t);have l:=zh f;clear b i f;dsimp only[aA] at g a j;go_enter func20,ntmps20;go_wp2_with fail;refine(VH (bg t) t _ _ (aH _) l.o g.o).mono ?_;rintro e r ⟨rfl,h⟩;replace a:=jt a h;clear h;generalize nW t=s at*;go_wp2;go_ret;exact⟨aU k.o,a.o⟩
def JG:∀(a b:List aC) (n:Nat),oK (a++b) n=if(oK a n).1=true then oK b (oK a n).2 else oK a n
 |[],b,n=>by rw[iA,show oK [] n=(true,n) by rw[oK],ak rfl]
 |x::r,b,n=>by
  rw[iB,oK,oK];cases h:(iV x n).1
  ·simp
  ·rw[ak rfl,ak rfl,JG r b]
def VI {ks:List aC}{j n a:Nat}{y:aC}(c:ks[j]?=some y)(h:oK (ks.take j) n=(true,a)):oK (ks.take (j+1)) n=iV y a:=by
 rw[dA,c,Option.toList,JG,h,ak rfl,oK];cases b:(iV y a).1
 ·rw[ai aS];rw[<-b]
 ·rw[ak rfl,oK];rw[<-b]
def VJ {ks:List aC}{j n:Nat}(h:(oK (ks.take j) n).1=false):oK ks n=oK (ks.take j) n:=by
 conv=>lhs;rw[<-kw j ks]
 rw[JG,h,ai aS]
def VK (t:aC)(n:Nat)(h:(iV t n).1=true):(iV t n).2<=1000:=by
 obtain⟨a,b⟩:=FJ t n;rw[b h];exact(a.1 h).2
def Aa:∀(m:Nat) (t:aC) (p:Addr) (A:Option Addr) (cap c n:Nat) (d w:World),bg t<=m->sH d p t A cap->Below d.heap.size d w->au w c 3 #[qI (n:Int)]->d.heap.size<=c->n<=1000->Calls prog 62 #[az p,qP c] w λe w'=>e= .returned (.bool (iV t n).1)/\au w' c 3 #[qI ((iV t n).2:Int)]/\Below d.heap.size d w':=by
 intro m
 induction m with
 |zero=>intro t p A cap c n d w h;have:=vW t;omega
 |succ m M=>
  intro t p A cap c n d w N O P B H c1;have Y:=zh M;clear M;obtain⟨k,a,v,f,b⟩:=t;have C:=zh O;have Z:=ah (bq b<=m) (by rw[bg] at N;omega);have u:=ah (iV (.mk k a v f b) n=if 1000<n+1\/gq k a.data.toList v.data.toList f.data.toList b.length=false then(false,n+1) else oK b (n+1)) (by rw[iV]);have a0:=B.frozen 0;have a1:=B.cell 0;have D:=ah (au (w.setCell (ag c (0)) (qI ((n:Int)+1))) c 3 #[qI ((n+1:Nat):Int)]) (B.set_ 0 (qI ((n:Int)+1)));have E:=zh (P.setCell (p:=ag c (0)) H (qI ((n:Int)+1)));have a2:=zh H;clear O P B N H;have a3:=D.o.cell 0;go_enter func62,ntmps62
  by_cases Q:1000<n+1
  ·have l:=ah (iV (.mk k a v f b) n=(false,n+1)) (by rw[u.o,ak (.inl Q)]);go_wp2;go_ret;exact⟨aU (by rw[l.o]),by rw[l.o];exact D.o,E.o⟩
  go_wp2_with fail;generalize w.setCell (ag c (0)) (qI ((n:Int)+1))=a4 at*;clear a0 a1 a3;refine(Bz _ p A cap a4 (C.o.keep E.o)).mono ?_;rintro e c2 ⟨rfl,I⟩;dsimp only[aC.kind,aC.nam,aC.vr,aC.form,aC.args];have r:=kp I D;have g:=jt E I;clear I D E;cases F:gq k a.data.toList v.data.toList f.data.toList b.length
  ·have l:=ah (iV (.mk k a v f b) n=(false,n+1)) (by rw[u.o,ak (.inr F)]);clear F;go_wp2;go_ret;exact⟨aU (by rw[l.o]),by rw[l.o];exact r.o,g.o⟩
  rw[ai (by rintro(h|h);exact Q h;rw[F] at h;cases h)] at u;clear F;obtain⟨-,-,-,-,x,-,-,-,-,a5,c3,-⟩:=C.o.keep g.o;dsimp only[aC.kind,aC.nam,aC.vr,aC.form,aC.args] at x a5;go_wp2_with fail;clear x
  go_loopw [25] (λi wr=>∃(o q:Nat),o<=b.length/\i=qI o/\q<=1000/\Hy (oK (b.take o) (n+1)=(true,q))/\Hy (au wr c 3 #[qI (q:Int)])/\Hy (Below d.heap.size d wr)) (λi _=>b.length -(intOf i).toNat)
  case atStart=>exact⟨0,n+1,aa,rfl,aa,(by rw[eZ];show oK [] (n+1)=_;rw[oK]),r,g⟩
  case round=>
   clear r g;obtain⟨o,q,c4,rfl,a6,J,r,g⟩:=hrel
   by_cases a7:o<b.length
   ·obtain⟨y,z⟩:∃y,b[o]?=some y:=⟨_,gE a7⟩
    obtain⟨-,-,-,-,x,-,-,-,-,-,-,K⟩:=C.o.keep g.o;dsimp only[aC.kind,aC.nam,aC.vr,aC.form,aC.args] at x K;obtain⟨a8,R,S,rfl,c5,T⟩:=K.at_ z;have a9:Hy (sH d (a8.add (o*5)) y R S):=by
     obtain⟨-,-,-,-,-,-,-,-,-,-,-,U⟩:=C.o;dsimp only[aC.args] at U;obtain⟨c6,c7,c8,b0,c9,V⟩:=U.at_ z;obtain rfl:=sj b0;have b1:=V.keep g.o;obtain⟨-,-,-,-,b2,-⟩:=b1;obtain⟨-,-,-,-,G,-⟩:=T;rw[b2] at G;injection G with G;injection G with b3 _ b4;subst b3;subst b4;exact V
    have b5:=ah (bg y<=m) (aV (Ak z) Z.o);have L:=zh (VI z J.o);have b6:=zh (λh=>VJ (ks:=b) (j:=o+1) (n:=n+1) h);have b7:=zh (VK y q);clear z K T;go_wp2_with fail;refine(Y.o y _ R S c q d wr b5.o a9.o g.o r.o a2.o a6).mono ?_;rintro e d0 ⟨rfl,W,X⟩;have r:=zh W;have g:=zh X;clear W X x;cases s:(iV y q).1
    ·have l:=ah (iV (.mk k a v f b) n=(false,(iV y q).2)) (by rw[u.o,b6.o (by rw[L.o,s]),L.o,<-s]);clear s;go_wp2;go_ret;exact⟨aU (by rw[l.o]),by rw[l.o];exact r.o,g.o⟩
    ·have b8:=ah (oK (b.take (o+1)) (n+1)=(true,(iV y q).2)) (by rw[L.o,<-s]);have b9:=b7.o s;clear s;generalize (iV y q).2=c0 at*;go_wp2;go_roundw
     case rel=>exact⟨o+1,c0,aa,bi,b9,b8,r,g⟩
     case measure=>simp[intOf];omega
   ·obtain rfl:o=b.length:=by omega
    rw[bW] at J;have l:=ah (iV (.mk k a v f b) n=(true,q)) (by rw[u.o,J.o]);go_wp2;go_ret;exact⟨aU (by rw[l.o]),by rw[l.o];exact r.o,g.o⟩
def ym (t:aC):Int:=if nV t=true then(bg t:Int) else 0
def VL (t:aC)(c:Array Value)(w:World)(i:gK w t c):Calls prog 27 #[.agg c] w λe w'=>e= .returned (qI (ym t))/\Below w.heap.size w w':=by
 obtain⟨A,d,rfl,o,p,q,r,s,j⟩:=i.form;have a:=zh (aN w (.cells (aA t.kind t.nam t.vr A t.args.length d t.form) 25));have k:=zh (au.new w 25 (aA t.kind t.nam t.vr A t.args.length d t.form));have l:=zh (sH.box k.o o p q r s (j.keep a.o));have u:=zh (MB t);have v:=zh (@Tq t);clear i j;dsimp only[aA] at a k l;go_enter func27,ntmps27;go_wp2_with fail;have g:=ah ((w.alloc (.cells (aA t.kind t.nam t.vr A t.args.length d t.form) 25)).heap.size=w.heap.size+1) (by simp);dsimp only[aA] at g;generalize w.alloc (.cells #[qI t.kind,af t.nam,af t.vr,.slice A t.args.length d,af t.form] 25)=b at*;have x:=ah (au (b.alloc (.cells #[qI 0] 3)) (w.heap.size+1) 3 #[qI ((0:Nat):Int)]) (by rw[<-g.o];exact au.new b 3 #[qI 0]);have y:=zh (aN b (.cells #[qI 0] 3));have z:=ah (b.heap.size<=w.heap.size+1) (by rw[g.o];exact aH _);generalize b.alloc (.cells #[qI 0] 3)=B at*;refine(Aa (bg t) t _ A d (w.heap.size+1) 0 b B (aH _) l.o y.o x.o z.o aa).mono ?_;rintro e D ⟨rfl,m,n⟩;have a:=jt a n;have C:=m.cell 0;clear n m;rw[u.o];cases f:nV t
 ·have h:=ah (ym t=0) (by unfold ym;rw[ai (by rw[f];simp)]);clear f;go_wp2;go_ret;exact⟨wP h.o.symm,a.o⟩
 ·rw[v.o f] at C;have h:=ah (ym t=bg t) (by unfold ym;rw[ak f]);clear f;go_wp2;go_ret;exact⟨wP h.o.symm,a.o⟩
def Ed (t:aC)(c:Array Value)(w:World)(f:gK w t c):Calls prog 15 #[.agg c] w λe w'=>e= .returned (.bool (nV t))/\Below w.heap.size w w':=by
 obtain⟨A,g,rfl,m,n,o,p,q,k⟩:=f.form;have i:=zh (f.keep (aN w (.cells (aA t.kind t.nam t.vr A t.args.length g t.form) 25)));have b:=zh (aN w (.cells (aA t.kind t.nam t.vr A t.args.length g t.form) 25));have l:=zh (au.new w 25 (aA t.kind t.nam t.vr A t.args.length g t.form));have r:=vW t;have d:=ah (ym t=if nV t=true then(bg t:Int) else 0) rfl;clear f k;dsimp only[aA] at i b l;go_enter func15,ntmps15;go_wp2_with fail;refine(VL t _ _ i.o).mono ?_;rintro e s ⟨rfl,j⟩;have b:=jt b j;clear j;cases a:nV t
 ·have h:=zh a;rw[a,ai aS] at d;rw[d.o];clear a;go_wp2;go_ret;exact⟨aU (by rw[h.o]),b.o⟩
 ·have h:=zh a;rw[a,ak rfl] at d;rw[d.o];clear a d;generalize bg t=u at*;go_wp2;go_ret;exact⟨aU (by rw[h.o];first|rfl|(simp;omega)),b.o⟩
end Sp
namespace El
open At Ch Sp Sy Go.RowKit
def Ob (g:Nat)(A:Option Addr)(cap:Nat)(rs:List aD)(a:rs.length<=cap)(b:cap<=9223372036854775807):∀f,Eu g A cap rs f
 |0=>λ_ _ _ _ _ _ _ _ _ _ _ _ _ _ h=>absurd h aa
 |f+1=>Vs g A cap rs a b f (Ob g A cap rs a b f)
def kW (rs:List aD)(f:Nat)(n:aG):bO aC:=if(fZ rs&&yC n)=true then(match dE rs f n.kids [] 0 with
 | .ok t=>if nV t=true then .ok t else .bad 6 [0]
 | .bad e p=>.bad e p) else .bad 1 []
def zR (m:bO aC)(w:World)(e:Ending)(w':World):Prop:=(match m with
 | .ok t=>∃c,e= .returned (.tuple #[.agg c,qN,qI 0])/\bH (λb=>w.heap.size<=b) w' t c
 | .bad er p=>∃A cp,e= .returned (.tuple #[.agg cK,.slice A p.length cp,qI er])/\kK w' A p/\p.length<=cp/\cp<=9223372036854775807)/\Below w.heap.size w w'
def Dk {n:aG}(h:yC n=true):n.kind=1/\fJ n=true/\dK n<=1000/\nz 1 n.kids=true:=by
 unfold yC at h;simp only[aM,eF] at h;refine⟨h.1,h.2.1,h.2.2.1,?_⟩;have a:=h.2.1;obtain⟨k,t,c,d⟩:=n;have b:k=1:=h.1;subst b;rw[fJ,aM] at a;exact a.2
def Oc (n:aG):bK n.kids+1=dK n:=by
 obtain⟨k,t,c,a⟩:=n;rw[dK];rfl
def zS {w:World}:kK w none []:=⟨rfl,λh=>absurd h aS⟩
def kK.grown {w w':World}{A:Option Addr}{p:List Int}{q:Nat}(h:kK w A p)(b:w.grownBy w' (some q))(i:∀a,A=some a->0<p.length->a.block≠q):kK w' A p:=by
 obtain⟨k,l⟩:=h;refine⟨k,λc=>?_⟩;obtain⟨a,d,f,m⟩:=l c;refine⟨a,d,ll f b.size,λj u n=>?_⟩;rw[<-m j u n];refine dm (b.block _ (by rw[gX];exact f) λe=>?_);have g:=sj e;rw[gX] at g;exact i a d c g
def Od (w:World):kK (w.alloc (.cells #[qI 0] 3)) (some (ag w.heap.size (0))) [0]:=by
 have b:=au.new w 3 #[qI 0];refine⟨rfl,λ_=>⟨_,rfl,b.lt,λj u a=>?_⟩⟩;cases j with
 |zero=>
  simp only[dG,di,jl,iD,gV] at a;rw[<-a];exact b.cell 0
 |succ j=>simp[dG] at a
def VM (A:Option Addr)(cap:Nat)(rs:List aD)(f:Nat)(n:aG)(c:Array Value)(w:World)(d2:fG w A rs)(a9:rs.length<=cap)(b0:cap<=9223372036854775807)(f1:rs.length<=1000000)(b9:lX w n c)(J:bK n.kids<f):
  Calls prog 45 #[.slice A rs.length cap,.agg c] w (zR (kW rs f n) w):=by
 obtain⟨r,s,rfl,f2,f3,f4,d3⟩:=b9.form;have c0:=aN w (qO n r s);have s1:(w.alloc (qO n r s)).heap.size=w.heap.size+1:=aS
 have c1:=aN (w.alloc (qO n r s)) (.cells cK 25);have i:=zh (c0.trans (c1.mono c0.size));have k:=zh (ae c1 (au.new w 31 (qC n r s)));have d:=zh (au.new (w.alloc (qO n r s)) 25 cK);rw[s1] at d;have a0:=zh (d2.keep i.o);have c2:=zh (b9.keep i.o);have d4:=zh (d3.keep i.o);have f5:=zh J;clear d2 b9 d3 J f2 c0 c1 s1;go_enter func45,ntmps45;go_upto_region 1 with(fail)
 generalize (w.alloc (qO n r s)).alloc (.cells cK 25)=c3 at*;cases m:fZ rs with
 |false=>
  have b1:=zh m;have V:=ah (kW rs f n= .bad 1 []) (by unfold kW;rw[m];rfl);clear m;obtain⟨u,x,y,z⟩:=qb k;go_wp2_with fail;refine(Aa A cap rs c3 a0.o a9 b0).mono ?_;rintro e a1 ⟨rfl,a⟩;rw[b1.o];clear u x y z;generalize a1=l at*;replace i:=jt i a;replace d:=kp a d;clear a;generalize l=W at*;have p:=d.o.cell;have q:=d.o.frozen;go_wp2_with fail;obtain⟨b2,B,C,D,N⟩:=gQ d.o i.o aa (qI 0) qE qE qN qE;rw[B];obtain⟨E,F,G,H,I⟩:=jF C;exact aB (v:=.tuple #[.agg qT,qN,qI 1]) (by simp[results,results45,go_sem,E,F,G,H,I]) rfl (show zR _ _ _ _ by rw[V.o];exact⟨⟨none,0,rfl,zS,aH _,aa⟩,D.o⟩)
 |true=>
  have b1:=zh m;cases K:yC n with
  |false=>
   have c4:=zh K;have V:=ah (kW rs f n= .bad 1 []) (by unfold kW;rw[m,K];rfl);clear m K;obtain⟨u,x,y,z⟩:=qb k;go_wp2_with fail;refine(Aa A cap rs c3 a0.o a9 b0).mono ?_;rintro e a1 ⟨rfl,a⟩;rw[b1.o];clear u x y z;have u:=(ae a k.o).cell 0;have x:=(ae a k.o).cell 1;have y:=(ae a k.o).cell 2;have z:=(ae a k.o).cell 3;go_wp2_with fail;refine(IZ n _ a1 (c2.o.keep a)).mono ?_;rintro e l ⟨rfl,a2⟩;rw[c4.o];replace a:=a.trans (a2.mono a.size);clear a2 u x y z;replace i:=jt i a;replace d:=kp a d;clear a;generalize l=W at*;have p:=d.o.cell;have q:=d.o.frozen;go_wp2_with fail;obtain⟨b2,B,C,D,N⟩:=gQ d.o i.o aa (qI 0) qE qE qN qE;rw[B];obtain⟨E,F,G,H,I⟩:=jF C;exact aB (v:=.tuple #[.agg qT,qN,qI 1]) (by simp[results,results45,go_sem,E,F,G,H,I]) rfl (show zR _ _ _ _ by rw[V.o];exact⟨⟨none,0,rfl,zS,aH _,aa⟩,D.o⟩)
  |true=>
   have c4:=zh K;have V:=zh (show kW rs f n=match dE rs f n.kids [] 0 with
    | .ok t=>if nV t=true then .ok t else .bad 6 [0]
    | .bad e a3=>.bad e a3 by unfold kW;rw[m,K];rfl)
   have f6:=zh (Dk K).2.2.2;have f7:=ah (bK n.kids<1000) (by have b3:=(Dk K).2.2.1;have d5:=Oc n;omega);clear m K;obtain⟨u,x,y,z⟩:=qb k;go_wp2_with fail;refine(Aa A cap rs c3 a0.o a9 b0).mono ?_;rintro e a1 ⟨rfl,a⟩;rw[b1.o];clear u x y z;have u:=(ae a k.o).cell 0;have x:=(ae a k.o).cell 1;have y:=(ae a k.o).cell 2;have z:=(ae a k.o).cell 3;go_wp2_with fail;refine(IZ n _ a1 (c2.o.keep a)).mono ?_;rintro e l ⟨rfl,a2⟩;rw[c4.o];replace a:=a.trans (a2.mono a.size);clear a2 u x y z;have L:=zh (a0.o.keep a);have d6:=zh (d4.o.keep a);replace k:=kp a k;replace i:=jt i a;replace d:=kp a d;clear a a0 c2 d4;generalize l=W at*;have f8:=ah (w.heap.size+1<W.heap.size) d.o.lt;go_upto_region 3 with(fail)
   refine qm [2,1,2,1,1,2,2,2,3,2] (List.replicate 10 false) (λb=>[.slice A rs.length cap,qP (b.n 19),aR w.heap.size (3),.slice r n.kids.length s,.tuple #[b.v 23,b.v 24],.tuple #[b.v 23,b.v 24],b.v 23,b.v 24,undef,b.v 24]) [(1,λb a4=>wX a4 (b.n 19) A cap rs),(4,λb a4=>xc (b.n 22) (b.n 23) (dE rs f n.kids [] 0) a4 (b.v 23) (b.v 24)/\W.heap.size<=b.n 22)] (λ_ _=>True) (bV.cons (λb a4 W b4 h=>b4.keep h) (bV.cons (λb a4 W b4 h=>⟨b4.1.keep h,b4.2⟩) bV.nil)) (trivial) ?_ ?_
   ·refine⟨jC,λb l a c5 J=>?_,jI,jR λb l a=>(ae a k.o).cell 3,λb l a c5 J=>?_,jC,jC,jC,jC,trivial⟩
    ·refine jc 68 (#[.slice A rs.length cap]) l aj ((Uh A cap rs l (L.o.keep a) f1).mono ?_);rintro e d7 ⟨f9,rfl,g0,h⟩;exact⟨_,rfl,b.setN 19 f9,rfl,jD,h,⟨g0,jG,trivial⟩,trivial⟩
    ·have g1:=jE J.1;refine jc 69 (#[qP (b.n 19),.slice r n.kids.length s,qN,qI 0]) l aj ((Ob _ _ _ _ a9 b0 f n.kids [] 0 r none s 0 l g1 (d6.o.keep a) f3 f4 zS (by have:=f7.o;simp only[gZ];omega) f5.o f6.o aa).mono ?_);rintro e d7 g2;obtain⟨d8,d9,rfl,b5,h⟩:=g2.res;exact⟨_,rfl,(((b.setV 23 d8).setV 24 d9).setN 22 l.heap.size).setN 23 d7.heap.size,rfl,jD,h,⟨jH,⟨b5,a.size⟩,trivial⟩,trivial⟩
   ·refine λb l a c5 J=>?_
    dsimp only[ji] at J;change wpOps _ _ _ [8] _ _;obtain⟨-,⟨b5,e0⟩,-⟩:=J;replace i:=jt i a;replace d:=kp a d;have b6:=zh b5;have X:=ah (w.heap.size+1<b.n 22) (ll f8.o e0);clear b5 e0 a c5 k L d6;generalize b.n 19=h3 at*;generalize b.v 23=d8 at*;generalize b.v 24=d9 at*;generalize b.n 22=g3 at*;generalize b.n 23=h4 at*;clear b;generalize l=Y at*;have p:=d.o.cell;have q:=d.o.frozen;cases Z:dE rs f n.kids [] 0 with
    |bad e1 a3=>
     have L:=b6.o;rw[Z] at L;obtain⟨rfl,c6,rfl,e2⟩:=L;have e3:=zh e2;have b7:=ah (kW rs f n= .bad e1 a3) (by rw[V.o,Z]);have a5:=zh (xP Y (w.heap.size+1) (qI 0) qE qE qN qE);have M:=zh (Da (g:=w.heap.size+1) i.o i.o.size aa (qI 0) qE qE qN qE);have j:=zh (sK d.o (qI 0) qE qE qN qE);refine oL (o:=_) rfl rfl (w':=(((((Y).setCell ⟨w.heap.size+1,0,none⟩ (qI 0)).setCell ⟨w.heap.size+1,1,none⟩ qE).setCell ⟨w.heap.size+1,2,none⟩ qE).setCell ⟨w.heap.size+1,3,none⟩ qN).setCell ⟨w.heap.size+1,4,none⟩ qE) (ek p q) ?_;refine jo ?_;clear e2 b6 Z p q;generalize (((((Y).setCell ⟨w.heap.size+1,0,none⟩ (qI 0)).setCell ⟨w.heap.size+1,1,none⟩ qE).setCell ⟨w.heap.size+1,2,none⟩ qE).setCell ⟨w.heap.size+1,3,none⟩ qN).setCell ⟨w.heap.size+1,4,none⟩ qE=e4 at*;obtain⟨c7,e5,e6,g4,g5,e7,g6,e8⟩:=e3.o.grown a5.o (λh=>av X.o);have g7:=zh e7;have e9:=zh e6;have g8:=ah (∀a6,c7=some a6->0<a3.length->a6.block≠w.heap.size+1) (λa6 b3 d5 c8=>aV (e8 a6 b3 d5) X.o);have g9:=ah (c6≠w.heap.size+1) (av X.o);clear e3 a5 e6 e7 e8 g6;go_upto_region 5 with(fail)
     have h5:=e9.o.cell 0;have h6:=e9.o.cell 1;have p:=j.o.cell;have q:=j.o.frozen;have h0:c6≠w.heap.size+1:=g9.o;have h7:w.heap.size+1≠c6:=λe=>h0 e.symm
     go_region;go_wp2_with fail;obtain⟨b2,B,C,D,N⟩:=gQ j.o M.o aa (qI 0) qE qE qN qE;rw[B];obtain⟨E,F,G,H,I⟩:=jF C;exact aB (v:=.tuple #[.agg qT,.slice c7 a3.length e5,qI e1]) (by simp[results,results45,go_sem,E,F,G,H,I]) rfl (show zR _ _ _ _ by rw[b7.o];exact⟨⟨c7,e5,rfl,(g7.o.grown N.o g8.o).keep (fC (aL _ _)),g4,g5⟩,fC D.o⟩)
    |ok t=>
     have L:=b6.o;rw[Z] at L;obtain⟨h8,rfl,rfl,c9⟩:=L;obtain⟨O,P,Q,R,S,T,U,rfl⟩:=c9.ext;have f0:=zh c9;have b7:=ah (kW rs f n=if nV t=true then .ok t else .bad 6 [0]) (by rw[V.o,Z]);have a5:=zh (xP Y (w.heap.size+1) (qI O) (af P) (af Q) (.slice R S T) (af U));have M:=zh (Da (g:=w.heap.size+1) i.o i.o.size aa (qI O) (af P) (af Q) (.slice R S T) (af U));have j:=zh (sK d.o (qI O) (af P) (af Q) (.slice R S T) (af U));have b8:=zh (f0.o.grown (ok':=λa7=>g3<=a7) a5.o (λa7 _ h e=>aV (sj e) X.o) (λa7 _ h=>h.1));refine oL (o:=_) rfl rfl (w':=(((((Y).setCell ⟨w.heap.size+1,0,none⟩ (qI O)).setCell ⟨w.heap.size+1,1,none⟩ (af P)).setCell ⟨w.heap.size+1,2,none⟩ (af Q)).setCell ⟨w.heap.size+1,3,none⟩ (.slice R S T)).setCell ⟨w.heap.size+1,4,none⟩ (af U)) (ek p q) ?_;refine jo ?_;clear c9 b6 f0 a5 Z p q;generalize (((((Y).setCell ⟨w.heap.size+1,0,none⟩ (qI O)).setCell ⟨w.heap.size+1,1,none⟩ (af P)).setCell ⟨w.heap.size+1,2,none⟩ (af Q)).setCell ⟨w.heap.size+1,3,none⟩ (.slice R S T)).setCell ⟨w.heap.size+1,4,none⟩ (af U)=e4 at*;have p:=j.o.cell;have q:=j.o.frozen;go_wp2_with fail;refine(Sp.Ed t _ e4 b8.o.mat).mono ?_;rintro e a8 ⟨rfl,h⟩;replace M:=jt M h;replace j:=kp h j;replace b8:=zh (b8.o.keep h);clear h p q;have p:=j.o.cell;have q:=j.o.frozen;cases m:nV t with
     |false=>
      have d0:=ah (kW rs f n= .bad 6 [0]) (by rw[b7.o,ai (by rw[m];simp)]);clear m;go_upto_region 7 with(fail)
      have d1:=aN a8 (.cells #[qI 0] 3);have h1:=zh (Od a8);have h2:=ah (w.heap.size+1<a8.heap.size) j.o.lt;replace M:=jt M d1;replace j:=kp d1 j;clear d1 p q;have p:=j.o.cell;have q:=j.o.frozen;go_wp2_with (fail)
      clear p q;generalize a8.alloc (.cells #[qI 0] 3)=h9 at*;obtain⟨b2,B,C,D,N⟩:=gQ j.o M.o aa (qI 0) qE qE qN qE;rw[B];obtain⟨E,F,G,H,I⟩:=jF C;exact aB (v:=.tuple #[.agg qT,ay (ag a8.heap.size (0)) 1 1,qI 6]) (by simp[results,results45,go_sem,E,F,G,H,I]) rfl (show zR _ _ _ _ by rw[d0.o];exact⟨⟨_,1,rfl,h1.o.grown N.o (λa6 b3 _ c8=>by have:=h2.o;rw[<-sj b3] at c8;dsimp only at c8;omega),aS,aa⟩,D.o⟩)
     |true=>
      have d0:=ah (kW rs f n= .ok t) (by rw[b7.o,ak m]);clear m;go_wp2_with fail;obtain⟨b2,B,C,D,N⟩:=gQ j.o M.o aa (qI O) (af P) (af Q) (.slice R S T) (af U);rw[B];obtain⟨E,F,G,H,I⟩:=jF C;exact aB (v:=.tuple #[.agg #[qI O,af P,af Q,.slice R S T,af U],qN,qI 0]) (by simp[results,results45,go_sem,E,F,G,H,I]) rfl (show zR _ _ _ _ by rw[d0.o];exact⟨⟨_,rfl,b8.o.grown N.o (λa7 _ h e=>aV (sj e) X.o) (λa7 _ h=>av X.o)⟩,D.o⟩)
end El
namespace Rn
open At Ch Sp Sy El
def aQ (l:List aG):aG:=.mk 1 ⟨#[]⟩ 0 l
def dh (s:ByteArray):aG:=.mk 2 s 0 []
inductive FK where
 |frac|root|sub|sup|both|accent|jux
 |inf (e:Nat)|pre (e:Nat)|pos (e:Nat)|bind (e:Nat)
deriving DecidableEq
def Bj:List (List UInt8×FK):=
 [(mM.data.toList,.frac),(jW.data.toList,.root),(dM.data.toList,.sub),(dV.data.toList,.sup),(jU.data.toList,.both),(jb.data.toList,.accent),(kE.data.toList,.jux),
  (gG.data.toList,.inf 0),(ic.data.toList,.pre 0),(iL.data.toList,.pos 0),
  (gG.data.toList++dM.data.toList,.inf 7),(ic.data.toList++dM.data.toList,.pre 7),(iL.data.toList++dM.data.toList,.pos 7),
  (gG.data.toList++dV.data.toList,.inf 8),(ic.data.toList++dV.data.toList,.pre 8),(iL.data.toList++dV.data.toList,.pos 8),
  (gG.data.toList++jU.data.toList,.inf 9),(ic.data.toList++jU.data.toList,.pre 9),(iL.data.toList++jU.data.toList,.pos 9),
  (mh.data.toList++dM.data.toList,.bind 7),(mh.data.toList++jU.data.toList,.bind 9)]
def iG (f:List UInt8):Option FK:=(Bj.find? λp=>decide (p.1=f)).map (·.2)
def sM (rs:List aD)(kind:Int)(nam:List UInt8):Option Nat:=rs.findIdx? λr=>decide (r.kind=kind)&&decide (r.nam.data.toList=nam)
def fF (e:Nat):Nat:=if e=0 then 0 else if e=9 then 2 else 1
def kL (rs:List aD)(kind:Int)(nam:ByteArray)(e:Nat)(rows:List (List aG))(n:Nat):Option (aG×List (List aG)):=
 match sM rs kind nam.data.toList with
 |none=>none
 |some i=>match rs[i]? with
  |none=>none
  |some u=>if rows.length=fF e+n then some (if e=0 then dh u.sym else .mk e ⟨#[]⟩ 0 (aQ [dh u.sym]::(rows.take (fF e)).map aQ),rows.drop (fF e)) else none
def mP (kind:Int)(text:ByteArray)(rows:List (List aG))(n:Nat):Option (List aG):=if rows.length=n then some [.mk kind text 0 (rows.map aQ)] else none
def sN:ByteArray:=⟨#[61]⟩
def wZ (v:ByteArray):aG->aG
 | .mk k t c (b::s::r)=>.mk k t c (b:: .mk s.kind s.text s.cols (dh v::dh sN::s.kids)::r)
 |n=>n
def bG (rs:List aD)(nam vr:ByteArray)(rows:List (List aG)):FK->Option (List aG)
 | .frac=>mP 5 ⟨#[]⟩ rows 2
 | .root=>match rows with
  |[a]=>some [.mk 6 ⟨#[]⟩ 0 [aQ [],aQ a]]
  |[a,b]=>some [.mk 6 ⟨#[]⟩ 0 [aQ a,aQ b]]
  |_=>none
 | .sub=>mP 7 ⟨#[]⟩ rows 2
 | .sup=>mP 8 ⟨#[]⟩ rows 2
 | .both=>mP 9 ⟨#[]⟩ rows 3
 | .accent=>mP 10 nam rows 1
 | .jux=>match rows with
  |[a,b]=>some (a++b)
  |_=>none
 | .inf e=>match kL rs 1 nam e rows 2 with
  |some (o,[a,b])=>some (a++[o]++b)
  |_=>none
 | .pre e=>match kL rs 2 nam e rows 1 with
  |some (o,[a])=>some (o::a)
  |_=>none
 | .pos e=>match kL rs 3 nam e rows 1 with
  |some (o,[a])=>some (a++[o])
  |_=>none
 | .bind e=>match kL rs 2 nam e rows 1 with
  |some (o,[a])=>some (wZ vr o::a)
  |_=>none
def pU (f:List UInt8)(rows:List (List aG)):Option (List aG):=
 if ik.data.toList<+:f then mP 11 ⟨(f.drop 5).toArray⟩ rows 1
 else if eX.data.toList<+:f then(match Lib.atoiAll (f.drop 6) with
  | .ok c=>some [.mk 12 ⟨#[]⟩ c (rows.map aQ)]
  |_=>none)
 else none
def vL (rs:List aD)(nam vr frm:ByteArray)(rows:Option (List (List aG))):Option (List aG):=rows.bind λrows=>match iG frm.data.toList with
 |some k=>bG rs nam vr rows k
 |none=>pU frm.data.toList rows
mutual
def jd (rs:List aD):aC->Option (List aG)
 | .mk k nam vr frm args=>if k=1 then some [.mk 3 nam 0 []] else if k=2 then some [dh nam] else if k=3 then some [.mk 4 nam 0 []] else vL rs nam vr frm (bI rs args)
def bI (rs:List aD):List aC->Option (List (List aG))
 |[]=>some []
 |m::ms=>(jd rs m).bind λl=>(bI rs ms).bind λls=>some (l::ls)
end
end Rn
end Go.Proofs.YtlefbenkhgbifaaGreatDoor
