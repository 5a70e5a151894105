/- The reference's Tree: place, prefixes. -/
import Derived.Test.YtlefbenkhgbifaaGreatDoorH9648907d
set_option linter.all false
set_option maxRecDepth 100000
set_option maxHeartbeats 4000000
namespace Go.Proofs.YtlefbenkhgbifaaGreatDoor.El
open At Ch Sp Sy Go.RowKit Tryz
def Zu (ok:Nat->Prop)(A:Option Addr)(cap:Nat)(rs:List aD)(x:Rd)(c:Array Value)(fin:Int)(r:Nat)(u:aD)(w:World)(B:fG w A rs)(C:dS ok w x c)(s:x.rule=(r:Int))(t:rs[r]?=some u)(W:rs.length<=9223372036854775807)
  (D:u.kind=1->∃a b ks,x.kids=a::b::ks/\1<=b.at_/\b.at_<=1000000) (X:1<=fin) (Y:fin<=1000000):
  Calls prog 171 #[.slice A rs.length cap,.agg c,qI fin] w λe w'=>e= .returned (qI (eY rs x fin))/\Below w.heap.size w w':=by
 obtain⟨k,y,rfl,Z,a0,E⟩:=C.form;obtain⟨J,K,rfl,L,F,M,N,O,P,Q⟩:=B.at_ t;have a1:r<rs.length:=(bP.1 t).1;have G:dF rs x.rule=u.kind:=by unfold dF;rw[s,fU,t]
 have l:=aN w (.cells (dw x.rule x.at_ k x.kids.length y) 139);have i:=zh l;have m:=zh (au.new w 139 (dw x.rule x.at_ k x.kids.length y));have z:=l.cell (p:=K.add (r*6)) (by rw[gX];exact L);rw[F] at z;have H:=zh z;have I:=zh (E.keep l);have R:=zh D;have n:=zh G;clear B C E J F M N O P Q z D G l;rw[s] at m i H I;go_enter func171,ntmps171;rw[s];go_upto_region 1 with(fail)
 generalize w.alloc (.cells (dw (r:Int) x.at_ k x.kids.length y) 139)=S at*;have a2:=m.o.cell 0;have a3:=H.o;have a4:=m.o.cell 1;have a5:=m.o.cell 2
 by_cases d:u.kind=1
 ·obtain⟨a6,j,a7,o,a8,a9⟩:=R.o d;obtain⟨q,rfl,b0⟩:∃q:Addr,k=some q/\S.cell? (ag q.block (q.off+3+1))=some (qI j.at_):=Jf I.o (by rw[o];rfl);have g:=zh (show eY rs x fin=j.at_ -1 by
   unfold eY xL;rw[n.o,ak d,o])
  have b1:(u.kind==1)=true:=aT.2 d;have T:wrap64 (j.at_ -1)=j.at_ -1:=ug
  have b2:(1:Int)<(x.kids.length:Int):=by rw[o,aY,aY];omega
  clear d o;go_wp2;exact aB (v:=qI (j.at_ -1)) (by simp[results,results171,go_sem]) rfl ⟨by rw[g.o],i.o⟩
 have b3:(u.kind==1)=false:=bn d
 by_cases f:u.kind=2
 ·have g:=ah (eY rs x fin=x.at_) (by unfold eY;rw[n.o,ai d,ak f]);have U:(u.kind==2)=true:=aT.2 f;clear d f;go_wp2;exact aB (v:=qI (x.at_)) (by simp[results,results171,go_sem]) rfl ⟨by rw[g.o],i.o⟩
 have U:(u.kind==2)=false:=bn f
 by_cases h:u.kind=3
 ·have g:=ah (eY rs x fin=fin -1) (by unfold eY;rw[n.o,ai d,ai f,ak h]);have V:(u.kind==3)=true:=aT.2 h;have T:wrap64 (fin -1)=fin -1:=by unfold wrap64;omega
  clear d f h;go_wp2;exact aB (v:=qI (fin -1)) (by simp[results,results171,go_sem]) rfl ⟨by rw[g.o],i.o⟩
 have V:(u.kind==3)=false:=bn h;have g:=ah (eY rs x fin= -1) (by unfold eY;rw[n.o,ai d,ai f,ai h]);clear d f h;go_wp2;exact aB (v:=qI (-1)) (by simp[results,results171,go_sem]) rfl ⟨by rw[g.o],i.o⟩
end Go.Proofs.YtlefbenkhgbifaaGreatDoor.El
