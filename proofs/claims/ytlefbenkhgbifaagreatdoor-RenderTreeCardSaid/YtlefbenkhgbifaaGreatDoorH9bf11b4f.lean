/- own of the program's checker, where the text is right; node, Valid and ValidItems. -/
import Derived.Test.YtlefbenkhgbifaaGreatDoorHb6d4c53c
set_option linter.all false
set_option maxRecDepth 100000
set_option maxHeartbeats 4000000
namespace Go.Proofs.YtlefbenkhgbifaaGreatDoor.At
open Go.RowKit Tryz
def Ua {a:Nat}{c:Int}{n:Nat}(e:a≠1)(b:a≠12)(f:1<=a)(d:a<=12):lJ a c n=(decide (c=0)&&decide ((n:Int)=vI a)):=by
 match a,e,b,f,d with
 |2,_,_,_,_=>unfold lJ vI;simp
 |3,_,_,_,_=>unfold lJ vI;simp
 |4,_,_,_,_=>unfold lJ vI;simp
 |5,_,_,_,_=>unfold lJ vI;simp;congr 1;rw[fE];omega
 |6,_,_,_,_=>unfold lJ vI;simp;congr 1;rw[fE];omega
 |7,_,_,_,_=>unfold lJ vI;simp;congr 1;rw[fE];omega
 |8,_,_,_,_=>unfold lJ vI;simp;congr 1;rw[fE];omega
 |9,_,_,_,_=>unfold lJ vI;simp;congr 1;rw[fE];omega
 |10,_,_,_,_=>unfold lJ vI;simp;congr 1;rw[fE];omega
 |11,_,_,_,_=>unfold lJ vI;simp;congr 1;rw[fE];omega
 |k+12,_,b,_,d=>omega
def IX (d:Nat)(n:Int)(p:Addr)(c:Nat)(s:ByteArray)(cols:Int)(ks:List aG)(A:Option Addr)(cap:Nat)(w:World)(i:nE w p (.mk c s cols ks) A cap)(l:au w d 105 (fu n))(u:1<=c)(m:c<=12)(j:qD c s.data.toList=true)(h:c=1):Calls prog 106 #[qP d,az p] w λe w'=>e= .returned (.bool (kz c s.data.toList cols ks.length))/\Below w.heap.size w w':=by
 obtain⟨F,o,q,r⟩:=FP c u m s i.size;have v:=zh i;have x:=zh l;have y:=zh o;have z:=zh q;have B:=zh r;have C:=zh j;have f:=ah (kz c s.data.toList cols ks.length=lJ c cols ks.length) (by unfold kz;rw[j,aW]);clear i l o q r j;have E:((c:Int)==1)=true:=by rw[h];rfl
 rw[show lJ c cols ks.length=(decide (cols=0)&&decide (ks.length<=200)) by rw[h];rfl] at f;clear h;go_enter func106,ntmps106;go_upto_region 1 with(fail)
 ·skip
  refine ql [az p,az p,az p,qI (c:Int),.bool false,.bool false,az p,az p,az p,qI (c:Int),.bool false,.bool false,.bool false,qP d,az p,az p,az p,qI (c:Int),qP d,qP d,az (ag d (c*3)),aR d (c*3+2),.func (.func F) #[] #[],az p,az p,aR p.block (p.off+1),af s,.bool true,.bool false,.bool false] (qt 30 []) (λa=>Hy (nE a p (.mk (c:Int) s cols ks) A cap)/\Hy (au a d 105 (fu n))/\Hy (Below w.heap.size w a)) ⟨v.o.drew,x.o.drew,fC (aL _ _)⟩ ?_ ?_
  ·refine⟨jA,jB,jB,jQ λa b=>(show a.cell? p=some (qI (c:Int)) from b.1.o.kind),λa b=>?_,jA,jA,jB,jB,jQ λa b=>(show a.cell? p=some (qI (c:Int)) from b.1.o.kind),λa b=>?_,jA,jA,jA,jA,jB,jB,jQ λa b=>(show a.cell? p=some (qI (c:Int)) from b.1.o.kind),jB,jB,λa b=>?_,jB,jQ λa b=>(show a.cell? (ag d (c*3+2))=some (.func (.func F) #[] #[]) from(b.2.1.o.cell _).trans (y.o n)),jA,jB,jB,jQ λa b=>(show a.cell? (aF p 1)=some (af s) from b.1.o.text),λa b=>?_,jB,jA,trivial⟩
   ·skip
    exact jv (.bool false) a sI ⟨rfl,b⟩
   ·skip
    exact jv (.bool false) a sI ⟨rfl,b⟩
   ·have G:=m;exact jv (az (ag d (c*3))) a jw ⟨rfl,b⟩
   ·refine jc F (#[af s]) a (iy z.o) ((B.o a).mono ?_);rintro e H ⟨rfl,k⟩;exact⟨_,rfl,by rw[C.o],b.1.o.keep k,ae k b.2.1.o,b.2.2.o.trans (k.mono b.2.2.o.size)⟩
  ·intro a b;have t:=b.2.2;have g:=b.1;have I:=b.2.1;clear b;have J:a.cell? p=some (qI (c:Int)):=g.o.kind;have K:a.cell? (aF p 2)=some (qI cols):=g.o.cols;have L:a.cell? (aF p 3)=some (.slice A ks.length cap):=g.o.kids;have D:=g.o.len;have M:=g.o.capl;dsimp only[aG.kids] at D
   by_cases qc:cols=0
   ·subst qc;go_wp2;go_ret;exact⟨aU (by first|exact f.o.symm|(rw[f.o,fI];simp;try omega)),t.o⟩
   ·rw[aK qc,bL] at f;have N:(cols==0)=false:=bn qc;clear qc;go_wp2;go_ret;exact⟨aU (by first|exact f.o.symm|(rw[f.o,fI];simp;try omega)),t.o⟩
def Ub (f:Nat)(n:Int)(p:Addr)(c:Nat)(s:ByteArray)(cols:Int)(ks:List aG)(A:Option Addr)(cap:Nat)(w:World)(m:nE w p (.mk c s cols ks) A cap)(t:au w f 105 (fu n))(z:1<=c)(u:c<=12)(o:qD c s.data.toList=true)(h:c=12):Calls prog 106 #[qP f,az p] w λe w'=>e= .returned (.bool (kz c s.data.toList cols ks.length))/\Below w.heap.size w w':=by
 obtain⟨F,v,x,y⟩:=FP c z u s m.size;have i:=zh m;have j:=zh t;have B:=zh v;have C:=zh x;have D:=zh y;have E:=zh o;have g:=ah (kz c s.data.toList cols ks.length=lJ c cols ks.length) (by unfold kz;rw[o,aW]);clear m t v x y o;have P:((c:Int)==1)=false:=by rw[h];rfl
 have Q:((c:Int)==12)=true:=by rw[h];rfl
 rw[show lJ c cols ks.length=(decide (1<=cols/\cols<=16)&&(decide (1<=ks.length/\ks.length<=256)&&decide ((ks.length:Int)%cols=0))) by rw[h];rfl] at g;clear h;go_enter func106,ntmps106;go_upto_region 1 with(fail)
 ·skip
  refine ql [az p,az p,az p,qI (c:Int),.bool false,.bool false,az p,az p,az p,qI (c:Int),.bool false,.bool false,.bool false,qP f,az p,az p,az p,qI (c:Int),qP f,qP f,az (ag f (c*3)),aR f (c*3+2),.func (.func F) #[] #[],az p,az p,aR p.block (p.off+1),af s,.bool true,.bool false,.bool false] (qt 30 []) (λa=>Hy (nE a p (.mk (c:Int) s cols ks) A cap)/\Hy (au a f 105 (fu n))/\Hy (Below w.heap.size w a)) ⟨i.o.drew,j.o.drew,fC (aL _ _)⟩ ?_ ?_
  ·refine⟨jA,jB,jB,jQ λa b=>(show a.cell? p=some (qI (c:Int)) from b.1.o.kind),λa b=>?_,jA,jA,jB,jB,jQ λa b=>(show a.cell? p=some (qI (c:Int)) from b.1.o.kind),λa b=>?_,jA,jA,jA,jA,jB,jB,jQ λa b=>(show a.cell? p=some (qI (c:Int)) from b.1.o.kind),jB,jB,λa b=>?_,jB,jQ λa b=>(show a.cell? (ag f (c*3+2))=some (.func (.func F) #[] #[]) from(b.2.1.o.cell _).trans (B.o n)),jA,jB,jB,jQ λa b=>(show a.cell? (aF p 1)=some (af s) from b.1.o.text),λa b=>?_,jB,jA,trivial⟩
   ·skip
    exact jv (.bool false) a sI ⟨rfl,b⟩
   ·skip
    exact jv (.bool false) a sI ⟨rfl,b⟩
   ·have R:=u;exact jv (az (ag f (c*3))) a jw ⟨rfl,b⟩
   ·refine jc F (#[af s]) a (iy C.o) ((D.o a).mono ?_);rintro e S ⟨rfl,q⟩;exact⟨_,rfl,by rw[E.o],b.1.o.keep q,ae q b.2.1.o,b.2.2.o.trans (q.mono b.2.2.o.size)⟩
  ·intro a b;have d:=b.2.2;have k:=b.1;have G:=b.2.1;clear b;have H:a.cell? p=some (qI (c:Int)):=k.o.kind;have I:a.cell? (aF p 2)=some (qI cols):=k.o.cols;have J:a.cell? (aF p 3)=some (.slice A ks.length cap):=k.o.kids;have K:=k.o.len;have T:=k.o.capl;dsimp only[aG.kids] at K;go_upto_region 7 with(fail)
   clear H I J;have i:=k;have j:=G
   by_cases L:1<=cols
   ·by_cases M:cols<=16
    ·rw[aJ ⟨L,M⟩,aW] at g
     by_cases N:1<=ks.length
     ·by_cases O:ks.length<=256
      ·rw[aJ ⟨N,O⟩,aW,<-Int.tmod_eq_emod_of_nonneg aa] at g;cases l:((ks.length:Int).tmod cols==0)
       ·rw[aK (aZ.1 l)] at g;refine ql [az p,az p,aR p.block (p.off+2),qI cols,.bool true,.bool true,az p,az p,aR p.block (p.off+2),qI cols,.bool true,.bool true,.bool true,az p,az p,aR p.block (p.off+3),.slice A ks.length cap,qI (ks.length:Nat),.bool true,.bool true,.bool true,az p,az p,aR p.block (p.off+3),.slice A ks.length cap,qI (ks.length:Nat),.bool true,.bool true,.bool true,az p,az p,aR p.block (p.off+3),.slice A ks.length cap,qI (ks.length:Nat),az p,az p,aR p.block (p.off+2),qI cols,qI ((ks.length:Int).tmod cols),.bool false,.bool false,.bool false] (qt 42 []) (λa=>Hy (nE a p (.mk (c:Int) s cols ks) A cap)/\Hy (au a f 105 (fu n))/\Hy (Below w.heap.size w a)) ⟨i.o.drew,j.o.drew,fC d.o⟩ ?_ ?_
        ·refine⟨jA,jB,jB,jQ λa b=>(show a.cell? (aF p 2)=some (qI cols) from b.1.o.cols),λa b=>?_,jA,jA,jB,jB,jQ λa b=>(show a.cell? (aF p 2)=some (qI cols) from b.1.o.cols),λa b=>?_,jA,jA,jA,jB,jB,jQ λa b=>(show a.cell? (aF p 3)=some (.slice A ks.length cap) from b.1.o.kids),jB,λa b=>?_,jA,jA,jA,jB,jB,jQ λa b=>(show a.cell? (aF p 3)=some (.slice A ks.length cap) from b.1.o.kids),jB,λa b=>?_,jA,jA,jA,jB,jB,jQ λa b=>(show a.cell? (aF p 3)=some (.slice A ks.length cap) from b.1.o.kids),jB,jA,jB,jB,jQ λa b=>(show a.cell? (aF p 2)=some (qI cols) from b.1.o.cols),λa b=>?_,λa b=>?_,jA,jA,trivial⟩
         ·skip
          exact jv (.bool true) a jw ⟨rfl,b⟩
         ·skip
          exact jv (.bool true) a jw ⟨rfl,b⟩
         ·skip
          exact jv (.bool true) a jw ⟨rfl,b⟩
         ·skip
          exact jv (.bool true) a jw ⟨rfl,b⟩
         ·have r:cols≠0:=by omega
          exact jv (qI ((ks.length:Int).tmod cols)) a (nL r) ⟨rfl,b⟩
         ·skip
          exact jv (.bool false) a (bE l) ⟨rfl,b⟩
        ·intro a b;have d:=b.2.2;clear b;go_wp2;go_ret;exact⟨aU (by rw[g.o]),d.o⟩
       ·rw[aJ (aT.1 l)] at g;refine ql [az p,az p,aR p.block (p.off+2),qI cols,.bool true,.bool true,az p,az p,aR p.block (p.off+2),qI cols,.bool true,.bool true,.bool true,az p,az p,aR p.block (p.off+3),.slice A ks.length cap,qI (ks.length:Nat),.bool true,.bool true,.bool true,az p,az p,aR p.block (p.off+3),.slice A ks.length cap,qI (ks.length:Nat),.bool true,.bool true,.bool true,az p,az p,aR p.block (p.off+3),.slice A ks.length cap,qI (ks.length:Nat),az p,az p,aR p.block (p.off+2),qI cols,qI ((ks.length:Int).tmod cols),.bool true,.bool true,.bool true] (qt 42 []) (λa=>Hy (nE a p (.mk (c:Int) s cols ks) A cap)/\Hy (au a f 105 (fu n))/\Hy (Below w.heap.size w a)) ⟨i.o.drew,j.o.drew,fC d.o⟩ ?_ ?_
        ·refine⟨jA,jB,jB,jQ λa b=>(show a.cell? (aF p 2)=some (qI cols) from b.1.o.cols),λa b=>?_,jA,jA,jB,jB,jQ λa b=>(show a.cell? (aF p 2)=some (qI cols) from b.1.o.cols),λa b=>?_,jA,jA,jA,jB,jB,jQ λa b=>(show a.cell? (aF p 3)=some (.slice A ks.length cap) from b.1.o.kids),jB,λa b=>?_,jA,jA,jA,jB,jB,jQ λa b=>(show a.cell? (aF p 3)=some (.slice A ks.length cap) from b.1.o.kids),jB,λa b=>?_,jA,jA,jA,jB,jB,jQ λa b=>(show a.cell? (aF p 3)=some (.slice A ks.length cap) from b.1.o.kids),jB,jA,jB,jB,jQ λa b=>(show a.cell? (aF p 2)=some (qI cols) from b.1.o.cols),λa b=>?_,λa b=>?_,jA,jA,trivial⟩
         ·skip
          exact jv (.bool true) a jw ⟨rfl,b⟩
         ·skip
          exact jv (.bool true) a jw ⟨rfl,b⟩
         ·skip
          exact jv (.bool true) a jw ⟨rfl,b⟩
         ·skip
          exact jv (.bool true) a jw ⟨rfl,b⟩
         ·have r:cols≠0:=by omega
          exact jv (qI ((ks.length:Int).tmod cols)) a (nL r) ⟨rfl,b⟩
         ·skip
          exact jv (.bool true) a (bE l) ⟨rfl,b⟩
        ·intro a b;have d:=b.2.2;clear b;go_wp2;go_ret;exact⟨aU (by rw[g.o]),d.o⟩
      ·rw[aK (p:=1<=ks.length/\ks.length<=256) aa,bL] at g;refine ql [az p,az p,aR p.block (p.off+2),qI cols,.bool true,.bool true,az p,az p,aR p.block (p.off+2),qI cols,.bool true,.bool true,.bool true,az p,az p,aR p.block (p.off+3),.slice A ks.length cap,qI (ks.length:Nat),.bool true,.bool true,.bool true,az p,az p,aR p.block (p.off+3),.slice A ks.length cap,qI (ks.length:Nat),.bool false,.bool false,.bool false,undef,undef,undef,undef,undef,undef,undef,undef,undef,undef,undef,.bool false,.bool false] (qt 29 (qf 11 (qt 2 []))) (λa=>Hy (nE a p (.mk (c:Int) s cols ks) A cap)/\Hy (au a f 105 (fu n))/\Hy (Below w.heap.size w a)) ⟨i.o.drew,j.o.drew,fC d.o⟩ ?_ ?_
       ·refine⟨jA,jB,jB,jQ λa b=>(show a.cell? (aF p 2)=some (qI cols) from b.1.o.cols),λa b=>?_,jA,jA,jB,jB,jQ λa b=>(show a.cell? (aF p 2)=some (qI cols) from b.1.o.cols),λa b=>?_,jA,jA,jA,jB,jB,jQ λa b=>(show a.cell? (aF p 3)=some (.slice A ks.length cap) from b.1.o.kids),jB,λa b=>?_,jA,jA,jA,jB,jB,jQ λa b=>(show a.cell? (aF p 3)=some (.slice A ks.length cap) from b.1.o.kids),jB,λa b=>?_,jA,jA,rfl,rfl,rfl,rfl,rfl,rfl,rfl,rfl,rfl,rfl,rfl,jA,jA,trivial⟩
        ·skip
         exact jv (.bool true) a jw ⟨rfl,b⟩
        ·skip
         exact jv (.bool true) a jw ⟨rfl,b⟩
        ·skip
         exact jv (.bool true) a jw ⟨rfl,b⟩
        ·skip
         exact jv (.bool false) a jw ⟨rfl,b⟩
       ·intro a b;have d:=b.2.2;clear b;go_wp2;go_ret;exact⟨aU (by rw[g.o]),d.o⟩
     ·rw[aK (p:=1<=ks.length/\ks.length<=256) aa,bL] at g;refine ql [az p,az p,aR p.block (p.off+2),qI cols,.bool true,.bool true,az p,az p,aR p.block (p.off+2),qI cols,.bool true,.bool true,.bool true,az p,az p,aR p.block (p.off+3),.slice A ks.length cap,qI (ks.length:Nat),.bool false,.bool false,.bool false,undef,undef,undef,undef,undef,undef,.bool false,.bool false,undef,undef,undef,undef,undef,undef,undef,undef,undef,undef,undef,.bool false,.bool false] (qt 21 (qf 6 (qt 2 (qf 11 (qt 2 []))))) (λa=>Hy (nE a p (.mk (c:Int) s cols ks) A cap)/\Hy (au a f 105 (fu n))/\Hy (Below w.heap.size w a)) ⟨i.o.drew,j.o.drew,fC d.o⟩ ?_ ?_
      ·refine⟨jA,jB,jB,jQ λa b=>(show a.cell? (aF p 2)=some (qI cols) from b.1.o.cols),λa b=>?_,jA,jA,jB,jB,jQ λa b=>(show a.cell? (aF p 2)=some (qI cols) from b.1.o.cols),λa b=>?_,jA,jA,jA,jB,jB,jQ λa b=>(show a.cell? (aF p 3)=some (.slice A ks.length cap) from b.1.o.kids),jB,λa b=>?_,jA,jA,rfl,rfl,rfl,rfl,rfl,rfl,jA,jA,rfl,rfl,rfl,rfl,rfl,rfl,rfl,rfl,rfl,rfl,rfl,jA,jA,trivial⟩
       ·skip
        exact jv (.bool true) a jw ⟨rfl,b⟩
       ·skip
        exact jv (.bool true) a jw ⟨rfl,b⟩
       ·skip
        exact jv (.bool false) a jw ⟨rfl,b⟩
      ·intro a b;have d:=b.2.2;clear b;go_wp2;go_ret;exact⟨aU (by rw[g.o]),d.o⟩
    ·rw[aK (p:=1<=cols/\cols<=16) aa,bL] at g;refine ql [az p,az p,aR p.block (p.off+2),qI cols,.bool true,.bool true,az p,az p,aR p.block (p.off+2),qI cols,.bool false,.bool false,.bool false,undef,undef,undef,undef,undef,undef,.bool false,.bool false,undef,undef,undef,undef,undef,undef,.bool false,.bool false,undef,undef,undef,undef,undef,undef,undef,undef,undef,undef,undef,.bool false,.bool false] (qt 13 (qf 6 (qt 2 (qf 6 (qt 2 (qf 11 (qt 2 []))))))) (λa=>Hy (nE a p (.mk (c:Int) s cols ks) A cap)/\Hy (au a f 105 (fu n))/\Hy (Below w.heap.size w a)) ⟨i.o.drew,j.o.drew,fC d.o⟩ ?_ ?_
     ·refine⟨jA,jB,jB,jQ λa b=>(show a.cell? (aF p 2)=some (qI cols) from b.1.o.cols),λa b=>?_,jA,jA,jB,jB,jQ λa b=>(show a.cell? (aF p 2)=some (qI cols) from b.1.o.cols),λa b=>?_,jA,jA,rfl,rfl,rfl,rfl,rfl,rfl,jA,jA,rfl,rfl,rfl,rfl,rfl,rfl,jA,jA,rfl,rfl,rfl,rfl,rfl,rfl,rfl,rfl,rfl,rfl,rfl,jA,jA,trivial⟩
      ·skip
       exact jv (.bool true) a jw ⟨rfl,b⟩
      ·skip
       exact jv (.bool false) a jw ⟨rfl,b⟩
     ·intro a b;have d:=b.2.2;clear b;go_wp2;go_ret;exact⟨aU (by rw[g.o]),d.o⟩
   ·rw[aK (p:=1<=cols/\cols<=16) aa,bL] at g;refine ql [az p,az p,aR p.block (p.off+2),qI cols,.bool false,.bool false,undef,undef,undef,undef,undef,.bool false,.bool false,undef,undef,undef,undef,undef,undef,.bool false,.bool false,undef,undef,undef,undef,undef,undef,.bool false,.bool false,undef,undef,undef,undef,undef,undef,undef,undef,undef,undef,undef,.bool false,.bool false] (qt 6 (qf 5 (qt 2 (qf 6 (qt 2 (qf 6 (qt 2 (qf 11 (qt 2 []))))))))) (λa=>Hy (nE a p (.mk (c:Int) s cols ks) A cap)/\Hy (au a f 105 (fu n))/\Hy (Below w.heap.size w a)) ⟨i.o.drew,j.o.drew,fC d.o⟩ ?_ ?_
    ·refine⟨jA,jB,jB,jQ λa b=>(show a.cell? (aF p 2)=some (qI cols) from b.1.o.cols),λa b=>?_,jA,rfl,rfl,rfl,rfl,rfl,jA,jA,rfl,rfl,rfl,rfl,rfl,rfl,jA,jA,rfl,rfl,rfl,rfl,rfl,rfl,jA,jA,rfl,rfl,rfl,rfl,rfl,rfl,rfl,rfl,rfl,rfl,rfl,jA,jA,trivial⟩
     ·skip
      exact jv (.bool false) a jw ⟨rfl,b⟩
    ·intro a b;have d:=b.2.2;clear b;go_wp2;go_ret;exact⟨aU (by rw[g.o]),d.o⟩
def Uc (d:Nat)(n:Int)(p:Addr)(c:Nat)(s:ByteArray)(cols:Int)(ks:List aG)(A:Option Addr)(cap:Nat)(w:World)(m:nE w p (.mk c s cols ks) A cap)(r:au w d 105 (fu n))(t:1<=c)(h:c<=12)(o:qD c s.data.toList=true)(u:c≠1)(v:c≠12):Calls prog 106 #[qP d,az p] w λe w'=>e= .returned (.bool (kz c s.data.toList cols ks.length))/\Below w.heap.size w w':=by
 obtain⟨F,x,y,z⟩:=FP c t h s m.size;have j:=zh m;have k:=zh r;have D:=zh x;have E:=zh y;have G:=zh z;have H:=zh o;have g:=ah (kz c s.data.toList cols ks.length=lJ c cols ks.length) (by unfold kz;rw[o,aW]);clear m r x y z o;have N:((c:Int)==1)=false:=wF
 have O:((c:Int)==12)=false:=wF
 have B:=zh (TU c h);rw[Ua u v t h] at g;clear u v;go_enter func106,ntmps106;go_upto_region 1 with(fail)
 ·skip
  refine ql [az p,az p,az p,qI (c:Int),.bool false,.bool false,az p,az p,az p,qI (c:Int),.bool false,.bool false,.bool false,qP d,az p,az p,az p,qI (c:Int),qP d,qP d,az (ag d (c*3)),aR d (c*3+2),.func (.func F) #[] #[],az p,az p,aR p.block (p.off+1),af s,.bool true,.bool false,.bool false] (qt 30 []) (λa=>Hy (nE a p (.mk (c:Int) s cols ks) A cap)/\Hy (au a d 105 (fu n))/\Hy (Below w.heap.size w a)) ⟨j.o.drew,k.o.drew,fC (aL _ _)⟩ ?_ ?_
  ·refine⟨jA,jB,jB,jQ λa b=>(show a.cell? p=some (qI (c:Int)) from b.1.o.kind),λa b=>?_,jA,jA,jB,jB,jQ λa b=>(show a.cell? p=some (qI (c:Int)) from b.1.o.kind),λa b=>?_,jA,jA,jA,jA,jB,jB,jQ λa b=>(show a.cell? p=some (qI (c:Int)) from b.1.o.kind),jB,jB,λa b=>?_,jB,jQ λa b=>(show a.cell? (ag d (c*3+2))=some (.func (.func F) #[] #[]) from(b.2.1.o.cell _).trans (D.o n)),jA,jB,jB,jQ λa b=>(show a.cell? (aF p 1)=some (af s) from b.1.o.text),λa b=>?_,jB,jA,trivial⟩
   ·skip
    exact jv (.bool false) a sI ⟨rfl,b⟩
   ·skip
    exact jv (.bool false) a sI ⟨rfl,b⟩
   ·have C:=h;exact jv (az (ag d (c*3))) a jw ⟨rfl,b⟩
   ·refine jc F (#[af s]) a (iy E.o) ((G.o a).mono ?_);rintro e P ⟨rfl,q⟩;exact⟨_,rfl,by rw[H.o],b.1.o.keep q,ae q b.2.1.o,b.2.2.o.trans (q.mono b.2.2.o.size)⟩
  ·intro a b;have f:=b.2.2;have i:=b.1;have I:=b.2.1;clear b;have J:a.cell? p=some (qI (c:Int)):=i.o.kind;have K:a.cell? (aF p 2)=some (qI cols):=i.o.cols;have L:a.cell? (aF p 3)=some (.slice A ks.length cap):=i.o.kids;have M:=i.o.len;have Q:=i.o.capl;dsimp only[aG.kids] at M;go_upto_region 8 with(fail)
   clear J K L;have j:=i;have k:=I;cases qc:(cols==0)
   ·rw[aK (aZ.1 qc),bL] at g;refine ql [az p,az p,aR p.block (p.off+2),qI cols,.bool false,.bool false,undef,undef,undef,undef,undef,undef,undef,undef,undef,undef,undef,undef,undef,undef,undef,undef,.bool false,.bool false] (qt 6 (qf 16 (qt 2 []))) (λa=>Hy (nE a p (.mk (c:Int) s cols ks) A cap)/\Hy (au a d 105 (fu n))/\Hy (Below w.heap.size w a)) ⟨j.o.drew,k.o.drew,fC f.o⟩ ?_ ?_
    ·refine⟨jA,jB,jB,jQ λa b=>(show a.cell? (aF p 2)=some (qI cols) from b.1.o.cols),λa b=>?_,jA,rfl,rfl,rfl,rfl,rfl,rfl,rfl,rfl,rfl,rfl,rfl,rfl,rfl,rfl,rfl,rfl,jA,jA,trivial⟩
     ·skip
      exact jv (.bool false) a (bE qc) ⟨rfl,b⟩
    ·intro a b;have f:=b.2.2;clear b;go_wp2;go_ret;exact⟨aU (by rw[g.o]),f.o⟩
   ·rw[aJ (aT.1 qc),aW] at g;cases l:((ks.length:Int)==(vI c))
    ·rw[aK (aZ.1 l)] at g;refine ql [az p,az p,aR p.block (p.off+2),qI cols,.bool true,.bool true,az p,az p,aR p.block (p.off+3),.slice A ks.length cap,qI (ks.length:Nat),qP d,az p,az p,az p,qI (c:Int),qP d,qP d,az (ag d (c*3)),aR d (c*3+1),qI (vI c),.bool false,.bool false,.bool false] (qt 24 []) (λa=>Hy (nE a p (.mk (c:Int) s cols ks) A cap)/\Hy (au a d 105 (fu n))/\Hy (Below w.heap.size w a)) ⟨j.o.drew,k.o.drew,fC f.o⟩ ?_ ?_
     ·refine⟨jA,jB,jB,jQ λa b=>(show a.cell? (aF p 2)=some (qI cols) from b.1.o.cols),λa b=>?_,jA,jA,jB,jB,jQ λa b=>(show a.cell? (aF p 3)=some (.slice A ks.length cap) from b.1.o.kids),jB,jA,jA,jB,jB,jQ λa b=>(show a.cell? p=some (qI (c:Int)) from b.1.o.kind),jB,jB,λa b=>?_,jB,jQ λa b=>(show a.cell? (ag d (c*3+1))=some (qI (vI c)) from(b.2.1.o.cell _).trans (B.o n)),λa b=>?_,jA,jA,trivial⟩
      ·skip
       exact jv (.bool true) a (bE qc) ⟨rfl,b⟩
      ·have C:=h;exact jv (az (ag d (c*3))) a jw ⟨rfl,b⟩
      ·skip
       exact jv (.bool false) a (bE l) ⟨rfl,b⟩
     ·intro a b;have f:=b.2.2;clear b;go_wp2;go_ret;exact⟨aU (by rw[g.o]),f.o⟩
    ·rw[aJ (aT.1 l)] at g;refine ql [az p,az p,aR p.block (p.off+2),qI cols,.bool true,.bool true,az p,az p,aR p.block (p.off+3),.slice A ks.length cap,qI (ks.length:Nat),qP d,az p,az p,az p,qI (c:Int),qP d,qP d,az (ag d (c*3)),aR d (c*3+1),qI (vI c),.bool true,.bool true,.bool true] (qt 24 []) (λa=>Hy (nE a p (.mk (c:Int) s cols ks) A cap)/\Hy (au a d 105 (fu n))/\Hy (Below w.heap.size w a)) ⟨j.o.drew,k.o.drew,fC f.o⟩ ?_ ?_
     ·refine⟨jA,jB,jB,jQ λa b=>(show a.cell? (aF p 2)=some (qI cols) from b.1.o.cols),λa b=>?_,jA,jA,jB,jB,jQ λa b=>(show a.cell? (aF p 3)=some (.slice A ks.length cap) from b.1.o.kids),jB,jA,jA,jB,jB,jQ λa b=>(show a.cell? p=some (qI (c:Int)) from b.1.o.kind),jB,jB,λa b=>?_,jB,jQ λa b=>(show a.cell? (ag d (c*3+1))=some (qI (vI c)) from(b.2.1.o.cell _).trans (B.o n)),λa b=>?_,jA,jA,trivial⟩
      ·skip
       exact jv (.bool true) a (bE qc) ⟨rfl,b⟩
      ·have C:=h;exact jv (az (ag d (c*3))) a jw ⟨rfl,b⟩
      ·skip
       exact jv (.bool true) a (bE l) ⟨rfl,b⟩
     ·intro a b;have f:=b.2.2;clear b;go_wp2;go_ret;exact⟨aU (by rw[g.o]),f.o⟩
def Bz (b:Nat)(n:Int)(p:Addr)(k:Int)(s:ByteArray)(cols:Int)(ks:List aG)(A:Option Addr)(cap:Nat)(w:World)(c:nE w p (.mk k s cols ks) A cap)(d:au w b 105 (fu n)):Calls prog 106 #[qP b,az p] w λe w'=>e= .returned (.bool (kz k s.data.toList cols ks.length))/\Below w.heap.size w w':=by
 by_cases i:k<1\/12<k
 ·exact TY b n p k s cols ks A cap w c d i
 ·obtain⟨a,rfl⟩:∃a:Nat,k=a:=⟨k.toNat,aa⟩
  cases f:qD a s.data.toList
  ·exact TZ b n p a s cols ks A cap w c d aa aa f
  ·by_cases g:a=1
   ·exact IX b n p a s cols ks A cap w c d aa aa f g
   ·by_cases h:a=12
    ·exact Ub b n p a s cols ks A cap w c d aa aa f h
    ·exact Uc b n p a s cols ks A cap w c d aa aa f g h
end Go.Proofs.YtlefbenkhgbifaaGreatDoor.At
