/- newWriter: the map of the functions for all forms that are fixed. -/
import Derived.Test.YtlefbenkhgbifaaGreatDoorHf12384db
set_option linter.all false
set_option maxRecDepth 100000
set_option maxHeartbeats 8000000
namespace Go.Proofs
open YtlefbenkhgbifaaGreatDoor
open Go.Shelf Tryz
def Tryz.zRw:Go.Shelf.Ren:=⟨fun|103=>66|210=>91|206=>124|n=>n,fun|9=>9|4=>4|24=>86|3=>3|n=>n,fun|n=>n⟩
def Tryz.yF9:Go.Proofs.Lays.n103 prog Tryz.zRw:={
 mixed:=aj
 f103:=func66.trans (congrArg some aj)
 f206:=func124.trans (congrArg some aj)
 f210:=func91.trans (congrArg some aj)
 t3:=underlying3
 a3:=tJ
 z3:=tK
 v3:=tL
 t4:=underlying4
 a4:=Tryz.isAgg4
 z4:=vg
 v4:=tT
 t9:=underlying9
 a9:=tN
 z9:=tO
 v9:=tQ
 t24:=underlying86
 a24:=Tryz.isAgg86
 z24:=Tryz.sizeOf86
 v24:=Tryz.zeroValue86}
open Go.RowKit in
def Tryz.strings_CutPrefix (s p:ByteArray)(w:World):
  Calls prog 66 #[af s,af p] w λe w'=>e= .returned (.tuple #[af ⟨(Lib.trimPrefix s.data.toList p.data.toList).toArray⟩,.bool (Lib.hasPrefix s.data.toList p.data.toList)])/\w'=w:=Any.strings_CutPrefix Tryz.yF9 s p w
def Tryz.zQ8:Go.Shelf.Ren:=⟨fun|172=>67|244=>92|245=>93|247=>125|279=>126|280=>127|281=>128|282=>129|287=>155|316=>156|171=>158|205=>157|321=>175|322=>176|243=>177|246=>191|283=>194|284=>195|285=>196|286=>197|129=>199|317=>198|318=>200|319=>201|320=>202|337=>203|338=>204|n=>n,fun|9=>9|3=>3|75=>89|76=>90|4=>4|5=>5|167=>161|37=>162|0=>0|85=>163|2=>2|168=>165|53=>194|175=>195|46=>197|210=>200|127=>221|145=>224|143=>222|21=>21|171=>241|173=>244|212=>247|51=>234|20=>20|213=>248|232=>252|233=>253|80=>254|n=>n,fun|15=>0|16=>1|17=>3|18=>4|19=>5|n=>n⟩
def Tryz.zPf:Go.Proofs.LaysC.n172 prog Tryz.zQ8:={
 mixed:=aj
 f129:=func199.trans (congrArg some aj)
 f171:=func158.trans (congrArg some aj)
 f172:=func67.trans (congrArg some aj)
 f205:=func157.trans (congrArg some aj)
 f243:=func177.trans (congrArg some aj)
 f244:=func92.trans (congrArg some aj)
 f245:=func93.trans (congrArg some aj)
 f246:=func191.trans (congrArg some aj)
 f247:=func125.trans (congrArg some aj)
 f279:=func126.trans (congrArg some aj)
 f280:=func127.trans (congrArg some aj)
 f281:=func128.trans (congrArg some aj)
 f282:=func129.trans (congrArg some aj)
 f283:=func194.trans (congrArg some aj)
 f284:=func195.trans (congrArg some aj)
 f285:=func196.trans (congrArg some aj)
 f286:=func197.trans (congrArg some aj)
 f287:=func155.trans (congrArg some aj)
 f316:=func156.trans (congrArg some aj)
 f317:=func198.trans (congrArg some aj)
 f318:=func200.trans (congrArg some aj)
 f319:=func201.trans (congrArg some aj)
 f320:=func202.trans (congrArg some aj)
 f321:=func175.trans (congrArg some aj)
 f322:=func176.trans (congrArg some aj)
 f337:=func203.trans (congrArg some aj)
 f338:=func204.trans (congrArg some aj)
 t0:=underlying0
 a0:=Tryz.isAgg0
 z0:=Tryz.sizeOf0
 v0:=Tryz.zeroValue0
 t2:=underlying2
 a2:=Tryz.isAgg2
 z2:=Tryz.sizeOf2
 v2:=Tryz.zeroValue2
 t3:=underlying3
 a3:=tJ
 z3:=tK
 v3:=tL
 t4:=underlying4
 a4:=Tryz.isAgg4
 z4:=vg
 v4:=tT
 t5:=underlying5
 a5:=Tryz.isAgg5
 z5:=uZ
 v5:=ve
 t9:=underlying9
 a9:=tN
 z9:=tO
 v9:=tQ
 t20:=underlying20
 a20:=Tryz.isAgg20
 z20:=Tryz.sizeOf20
 v20:=Tryz.zeroValue20
 t21:=underlying21
 a21:=Tryz.isAgg21
 z21:=Tryz.sizeOf21
 v21:=Tryz.zeroValue21
 t37:=underlying162
 a37:=Tryz.isAgg162
 z37:=Tryz.sizeOf162
 v37:=Tryz.zeroValue162
 t46:=underlying197
 a46:=Tryz.isAgg197
 z46:=Tryz.sizeOf197
 v46:=xB
 t51:=underlying234
 a51:=Tryz.isAgg234
 z51:=Tryz.sizeOf234
 v51:=xC
 t53:=underlying194
 a53:=Tryz.isAgg194
 z53:=Tryz.sizeOf194
 v53:=Tryz.zeroValue194
 t75:=underlying89
 a75:=Tryz.isAgg89
 z75:=Tryz.sizeOf89
 v75:=Tryz.zeroValue89
 t76:=underlying90
 a76:=Tryz.isAgg90
 z76:=Tryz.sizeOf90
 v76:=Tryz.zeroValue90
 t85:=underlying163
 a85:=Tryz.isAgg163
 z85:=Tryz.sizeOf163
 v85:=Tryz.zeroValue163
 t127:=underlying221
 a127:=Tryz.isAgg221
 z127:=Tryz.sizeOf221
 v127:=Tryz.zeroValue221
 t143:=underlying222
 a143:=Tryz.isAgg222
 z143:=Tryz.sizeOf222
 v143:=Tryz.zeroValue222
 t145:=underlying224
 a145:=Tryz.isAgg224
 z145:=Tryz.sizeOf224
 v145:=Tryz.zeroValue224
 t167:=underlying161
 a167:=Tryz.isAgg161
 z167:=Tryz.sizeOf161
 v167:=Tryz.zeroValue161
 t168:=underlying165
 a168:=Tryz.isAgg165
 z168:=Tryz.sizeOf165
 v168:=Tryz.zeroValue165
 t171:=underlying241
 a171:=Tryz.isAgg241
 z171:=Tryz.sizeOf241
 v171:=Tryz.zeroValue241
 t173:=underlying244
 a173:=Tryz.isAgg244
 z173:=Tryz.sizeOf244
 v173:=Tryz.zeroValue244
 t175:=underlying195
 a175:=Tryz.isAgg195
 z175:=Tryz.sizeOf195
 v175:=Tryz.zeroValue195
 t210:=underlying200
 a210:=Tryz.isAgg200
 z210:=Tryz.sizeOf200
 v210:=Tryz.zeroValue200
 t212:=underlying247
 a212:=Tryz.isAgg247
 z212:=Tryz.sizeOf247
 v212:=Tryz.zeroValue247
 t213:=underlying248
 a213:=Tryz.isAgg248
 z213:=Tryz.sizeOf248
 t232:=underlying252
 a232:=Tryz.isAgg252
 z232:=Tryz.sizeOf252
 v232:=Tryz.zeroValue252
 t233:=underlying253
 a233:=Tryz.isAgg253
 z233:=Tryz.sizeOf253
 v233:=Tryz.zeroValue253
 g15:=aj
 g16:=aj
 g17:=aj
 g18:=aj
 g19:=aj
 t80:=underlying254
 a80:=Tryz.isAgg254
 z80:=Tryz.sizeOf254
 v80:=Tryz.zeroValue254
 i0:=aj
 i2:=aj
 i3:=aj
 i4:=aj
 i5:=aj
 i9:=aj
 i20:=aj
 i21:=aj
 i37:=aj
 i46:=aj
 i51:=aj
 i53:=aj
 i75:=aj
 i76:=aj
 i80:=aj
 i85:=aj
 i127:=aj
 i143:=aj
 i145:=aj
 i167:=aj
 i168:=aj
 i171:=aj
 i173:=aj
 i175:=aj
 i210:=aj
 i212:=aj
 i232:=aj
 i233:=aj
 m15:=aj
 m16:=aj
 m17:=aj
 m18:=aj
 m19:=aj
 c0:=aj
 c2:=aj
 c3:=aj
 c4:=aj
 c5:=aj
 c9:=aj
 c20:=aj
 c21:=aj
 c37:=aj
 c46:=aj
 c51:=aj
 c53:=aj
 c75:=aj
 c76:=aj
 c80:=aj
 c85:=aj
 c127:=aj
 c143:=aj
 c145:=aj
 c167:=aj
 c168:=aj
 c171:=aj
 c173:=aj
 c175:=aj
 c210:=aj
 c212:=aj
 c213:=aj
 c232:=aj
 c233:=aj}
open Go.RowKit in
def Tryz.strconv_Atoi_ok (s:ByteArray)(a:s.size<=9223372036854775806)(v:Int)(h:Lib.atoiAll s.data.toList= .ok v)(w:World):
  Calls prog 67 #[af s] w λe w'=>e= .returned (.tuple #[.int .i64 v,.nilIface])/\(w'=w\/∃t,w'=Lib.bytesWorld w 5 t):=Any.strconv_Atoi_ok Tryz.zPf s a v h w
open Go.RowKit in
def Tryz.strconv_Atoi_range (s:ByteArray)(b:s.size<=281474976710656)(h:Lib.atoiAll s.data.toList= .range)(a:Value)(w:World)(c:w.cell? ⟨1,0,none⟩=some a)(d:a= .nilIface\/∃f g,a= .iface f g):
  Calls prog 67 #[af s] w λe w'=>∃N,e= .returned (.tuple #[.int .i64 (Lib.atoiSat s.data.toList),.iface 165 (aR N (0))])/\w.heap.size<=N/\w'.heap[N]?=some (.cells #[af ⟨#[65,116,111,105]⟩,af s,a] 200 (0,0))/\Below w.heap.size w w':=Any.strconv_Atoi_range Tryz.zPf s b h a w c d
end Go.Proofs
namespace Go.Proofs.YtlefbenkhgbifaaGreatDoor.Rn
open At Ch Sp Sy El Go.RowKit Tryz
variable{rs:List aD}{ops:Array Oper}{rest:List Oper}{o:Oper}{a:Act}{Q:Exit->Act->World->Prop}{w0 x:World}{A:Option Addr}{n cap k l g:Nat}
def XW (w:World)(t:ByteArray):Below w.heap.size w (Lib.bytesWorld w 5 t):=by
 unfold Lib.bytesWorld;exact Lib.below_freeze ((fC (aL _ w)).alloc (aH _) _) (p:=ag w.heap.size _) (aH _) 1
def Cs (s:List UInt8)(e:Ending):Prop:=match Lib.atoiAll s with
 | .ok v=>e= .returned (.tuple #[qI v,.nilIface])
 |_=>∃n t p,e= .returned (.tuple #[qI n,.iface t p])
def XX (s:ByteArray)(w:World)(j:s.size<=281474976710656)(f:mU w 0)(g:mU w 1):Calls prog 67 #[af s] w λe w'=>Cs s.data.toList e/\Below w.heap.size w w':=by
 unfold Cs;cases h:Lib.atoiAll s.data.toList with
 |ok v=>
  refine(Tryz.strconv_Atoi_ok s aa v h w).mono ?_;rintro e w' ⟨rfl,i⟩;refine⟨rfl,?_⟩;rcases i with rfl|⟨t,rfl⟩
  ·exact aL _ _
  ·exact XW w t
 |range=>
  obtain⟨_,a,b,c⟩:=g;refine(Tryz.strconv_Atoi_range s aa h a w b c).mono ?_;rintro e w' ⟨N,rfl,_,_,d⟩;exact⟨⟨_,_,_,rfl⟩,d⟩
 |_=>
  obtain⟨_,a,b,c⟩:=f;refine(Any.strconv_Atoi_syntax Tryz.zPf s aa h a w b c).mono ?_;rintro e w' ⟨N,rfl,_,_,d⟩;exact⟨⟨_,_,_,rfl⟩,d⟩
def XY (s p:List UInt8):Lib.hasPrefix s p=decide (p<+:s):=by
 unfold Lib.hasPrefix;rw[fI,rq];exact List.isPrefixOf_iff_prefix
def PW (s p:ByteArray)(w:World):Calls prog 66 #[af s,af p] w λe w'=>(∃(t:ByteArray) (b:Bool),e= .returned (.tuple #[af t,.bool b])/\b=decide (p.data.toList<+:s.data.toList)/\(b=true->s.data.toList.drop p.data.toList.length=t.data.toList)/\t.size<=s.size)/\w'=w:=by
 refine(Tryz.strings_CutPrefix s p w).mono ?_;rintro e w' ⟨rfl,rfl⟩;refine⟨⟨_,_,rfl,XY _ _,λh=>?_,?_⟩,rfl⟩
 ·unfold Lib.trimPrefix;rw[ak h]
 ·unfold Lib.trimPrefix;show(List.toArray _).size<=s.data.size;rw[List.size_toArray,<-qh]
  split
  ·rw[lg];omega
  ·exact aH _
def XZ (rs:List aD)(m:aC):jd rs m=if m.kind=1 then some [.mk 3 m.nam 0 []] else if m.kind=2 then some [dh m.nam] else if m.kind=3 then some [.mk 4 m.nam 0 []] else vL rs m.nam m.vr m.form (bI rs m.args):=by
 cases m;rw[jd];rfl
def Ya {nam vr a:ByteArray}{k:FK}(h:iG a.data.toList=some k)(o:Option (List (List aG))):vL rs nam vr a o=o.bind λR=>bG rs nam vr R k:=by
 unfold vL;rw[h]
def Yb {nam vr a:ByteArray}(h:iG a.data.toList=none)(o:Option (List (List aG))):vL rs nam vr a o=o.bind λR=>pU a.data.toList R:=by
 unfold vL;rw[h]
def Yc (W:jV)(A:Option Addr)(cap:Nat)(rs:List aD)(f:Nat)(b8:si W A cap rs f)(b9:f<=10000)(c0:rs.length<=1000000)(m:aC)(c:Array Value)(w:World)(c1:fT m<=f)(d1:pX w W A cap rs)(c2:gK w m c):
  Calls prog 44 #[qP W.gw,.agg c] w (jk (jd rs m) w):=by
 have o:=zh (XZ rs m);obtain⟨c3,c4,rfl,e2,g4,e3,g5,g6,b0⟩:=c2.form;have b1:=aN w (.cells (aA m.kind m.nam m.vr c3 m.args.length c4 m.form) 25);have a2:=zh (au.new w 25 (aA m.kind m.nam m.vr c3 m.args.length c4 m.form));have b2:=zh (d1.keep b1);have d2:=zh (c2.keep b1);have N:=zh b1;have a3:=zh c1;have c5:=zh e2;have e4:=ah (m.form.size<=300) (by have h:=OW c1 aa;cases m;rw[Cr] at h;simp only[aM] at h;exact bD h.1.2);clear d1 c2 b0 b1 c1;go_enter func44,ntmps44;go_upto_region 1 with(fail)
 generalize w.alloc (.cells (aA m.kind m.nam m.vr c3 m.args.length c4 m.form) 25)=J at*;have e5:=a2.o.cell 0;have e6:=a2.o.cell 1
 by_cases d:m.kind=1
 ·have y:(m.kind==1)=true:=aT.2 d;have K:=ah (jd rs m=some [.mk 3 m.nam 0 []]) (by rw[o.o,ak d]);have O:=aN J (.cells #[qI 3,af m.nam,qI 0,qN] 31);have L:=zh (au.new J 31 #[qI 3,af m.nam,qI 0,qN]);have z:=jt N O;clear d O;go_wp2_with fail
  go_ret2
  rw[K.o];exact⟨⟨_,1,rfl,aH _,aa,xu (ks:=[]) L.o c5.o (aH _) aa (λd3 x h=>by simp at h) N.o.size⟩,z.o⟩
 have y:(m.kind==1)=false:=bn d
 by_cases p:m.kind=2
 ·have B:(m.kind==2)=true:=aT.2 p;have K:=ah (jd rs m=some [dh m.nam]) (by rw[o.o,ai d,ak p]);have O:=aN J (.cells #[qI 2,af m.nam,qI 0,qN] 31);have L:=zh (au.new J 31 #[qI 2,af m.nam,qI 0,qN]);have z:=jt N O;clear d p O;go_wp2_with fail
  go_ret2
  rw[K.o];exact⟨⟨_,1,rfl,aH _,aa,xu (ks:=[]) L.o c5.o (aH _) aa (λd3 x h=>by simp at h) N.o.size⟩,z.o⟩
 have B:(m.kind==2)=false:=bn p
 by_cases u:m.kind=3
 ·have C:(m.kind==3)=true:=aT.2 u;have K:=ah (jd rs m=some [.mk 4 m.nam 0 []]) (by rw[o.o,ai d,ai p,ak u]);have O:=aN J (.cells #[qI 4,af m.nam,qI 0,qN] 31);have L:=zh (au.new J 31 #[qI 4,af m.nam,qI 0,qN]);have z:=jt N O;clear d p u O;go_wp2_with fail
  go_ret2
  rw[K.o];exact⟨⟨_,1,rfl,aH _,aa,xu (ks:=[]) L.o c5.o (aH _) aa (λd3 x h=>by simp at h) N.o.size⟩,z.o⟩
 have C:(m.kind==3)=false:=bn u;have K:=ah (jd rs m=vL rs m.nam m.vr m.form (bI rs m.args)) (by rw[o.o,ai d,ai p,ai u]);clear d p u o;go_upto_region 8 with(fail)
 clear e5 e6 y B C;refine Be aj aj ?_;have e7:=λe:jX J=>(ae e.bel b2.o.box).cell 1
 have e8:=λe:jX J=>(ae e.bel a2.o).cell 4
 have e9:=λe:jX J=>WE (b2.o.map.keep e.bel) (s:=m.form) e3
 repeat (go_big_quiet_step (fail))
 refine wpQuiet_nil ?_;intro b3 f0;obtain⟨⟨g7,a⟩,d4⟩:=f0;dsimp only at d4;subst d4;have z:=jt N a;have Y:=kp a a2;have P:=zh (b2.o.keep a);have Z:=zh (d2.o.keep a);clear e7 e8 e9 a N a2 b2 d2;cases D:iG m.form.data.toList with
 |some k=>
  have o:=ah (jd rs m=(bI rs m.args).bind λR=>bG rs m.nam m.vr R k) (by rw[K.o,Ya D]);rcases XV W A cap rs f b8 D with⟨a4,g,Q,d5,a5⟩|⟨a4,g,h,Q,d5,a5⟩|⟨a4,g,Q,d5,a5⟩
  ·have E:zt W m.form.data.toList= .func (.func a4) #[] #[qP g]:=by unfold zt;rw[D];exact Q
   rw[E,show(some k).isSome=true from rfl];clear D Q E;obtain⟨G,y,B,C,H⟩:=qc Y;go_wp2_with fail;refine(a5 m _ b3 a3.o b9 c0 P.o Z.o).mono ?_;rintro r a6 j;clear G y B C H;obtain⟨d,a⟩:=j.up z.o;have q:=zh a;cases i:((bI rs m.args).bind λR=>bG rs m.nam m.vr R k) with
   |none=>
    rw[i] at d;obtain rfl:r= .returned (.tuple #[qN,.bool false]):=d;have t:=zh i;clear i j a;go_wp2_with fail
    go_ret2
    rw[o.o,t.o];exact⟨rfl,q.o⟩
   |some l=>
    rw[i] at d;obtain⟨S,T,rfl,p,u,F⟩:=d;have I:=zh F;have t:=zh i;clear i F j a;go_wp2_with fail
    go_ret2
    rw[o.o,t.o];exact⟨⟨S,T,rfl,p,u,I.o⟩,q.o⟩
  ·have E:zt W m.form.data.toList= .func (.func a4) #[] #[qP g,qP h]:=by unfold zt;rw[D];exact Q
   rw[E,show(some k).isSome=true from rfl];clear D Q E;obtain⟨G,y,B,C,H⟩:=qc Y;go_wp2_with fail;refine(a5 m _ b3 a3.o b9 c0 P.o Z.o).mono ?_;rintro r a6 j;clear G y B C H;obtain⟨d,a⟩:=j.up z.o;have q:=zh a;cases i:((bI rs m.args).bind λR=>bG rs m.nam m.vr R k) with
   |none=>
    rw[i] at d;obtain rfl:r= .returned (.tuple #[qN,.bool false]):=d;have t:=zh i;clear i j a;go_wp2_with fail
    go_ret2
    rw[o.o,t.o];exact⟨rfl,q.o⟩
   |some l=>
    rw[i] at d;obtain⟨S,T,rfl,p,u,F⟩:=d;have I:=zh F;have t:=zh i;clear i F j a;go_wp2_with fail
    go_ret2
    rw[o.o,t.o];exact⟨⟨S,T,rfl,p,u,I.o⟩,q.o⟩
  ·have E:zt W m.form.data.toList= .func (.func a4) #[qP g] #[]:=by unfold zt;rw[D];exact Q
   rw[E,show(some k).isSome=true from rfl];clear D Q E;obtain⟨G,y,B,C,H⟩:=qc Y;go_wp2_with fail;refine(a5 m _ b3 a3.o b9 c0 P.o Z.o).mono ?_;rintro r a6 j;clear G y B C H;obtain⟨d,a⟩:=j.up z.o;have q:=zh a;cases i:((bI rs m.args).bind λR=>bG rs m.nam m.vr R k) with
   |none=>
    rw[i] at d;obtain rfl:r= .returned (.tuple #[qN,.bool false]):=d;have t:=zh i;clear i j a;go_wp2_with fail
    go_ret2
    rw[o.o,t.o];exact⟨rfl,q.o⟩
   |some l=>
    rw[i] at d;obtain⟨S,T,rfl,p,u,F⟩:=d;have I:=zh F;have t:=zh i;clear i F j a;go_wp2_with fail
    go_ret2
    rw[o.o,t.o];exact⟨⟨S,T,rfl,p,u,I.o⟩,q.o⟩
 |none=>
  have o:=ah (jd rs m=(bI rs m.args).bind λR=>pU m.form.data.toList R) (by rw[K.o,Yb D]);have E:zt W m.form.data.toList= .nilFunc:=by unfold zt;rw[D]
  rw[E,show(none:Option FK).isSome=false from rfl];clear D E K;obtain⟨G,y,B,C,H⟩:=qc Y;go_wp2_with fail;refine(PW m.form ⟨#[102,101,110,99,101]⟩ b3).mono ?_;rintro r a6 ⟨⟨a0,b,rfl,M,U,V⟩,rfl⟩;have b4:=zh V;cases b with
  |true=>
   have X:=zh (show jd rs m=(bI rs m.args).bind λR=>mP 11 a0 R 1 by
    rw[o.o]
    congr 1
    funext R
    unfold pU;rw[ak (show ik.data.toList<+:m.form.data.toList from bD M.symm),show m.form.data.toList.drop 5=a0.data.toList from U rfl])
   clear M U V;go_wp2_with fail;refine(AJ W A cap rs f b8 11 a0 1 m _ a6 a3.o aa P.o Z.o).mono ?_;rintro r d6 j;have j:=j.itm (av b4.o);clear G y B C H;obtain⟨d,a⟩:=j.up z.o;have q:=zh a;cases i:((bI rs m.args).bind λR=>mP 11 a0 R 1) with
   |none=>
    rw[i] at d;obtain rfl:r= .returned (.tuple #[qN,.bool false]):=d;have t:=zh i;clear i j a;go_wp2_with fail
    go_ret2
    rw[X.o,t.o];exact⟨rfl,q.o⟩
   |some l=>
    rw[i] at d;obtain⟨S,T,rfl,p,u,F⟩:=d;have I:=zh F;have t:=zh i;clear i F j a;go_wp2_with fail
    go_ret2
    rw[X.o,t.o];exact⟨⟨S,T,rfl,p,u,I.o⟩,q.o⟩
  |false=>
   have c6:=ah (¬ik.data.toList<+:m.form.data.toList) (kY M.symm);clear M U V b4;go_wp2_with fail;refine(PW m.form ⟨#[109,97,116,114,105,120]⟩ a6).mono ?_;rintro r d6 ⟨⟨a7,b,rfl,M,U,V⟩,rfl⟩;have b4:=zh V;cases b with
   |false=>
    have X:=zh (show jd rs m=none by
     rw[o.o];cases bI rs m.args with
     |none=>rfl
     |some R=>
      show pU m.form.data.toList R=none;unfold pU;rw[ai c6.o,ai (show ¬eX.data.toList<+:m.form.data.toList from kY M.symm)])
    clear M U V;go_wp2_with fail
    go_ret2
    rw[X.o];exact⟨rfl,z.o⟩
   |true=>
    have X:=zh (show jd rs m=(bI rs m.args).bind λR=>(match Lib.atoiAll a7.data.toList with
     | .ok c=>some [.mk 12 ⟨#[]⟩ c (R.map aQ)]
     |_=>none) by
     rw[o.o]
     congr 1
     funext R
     unfold pU;rw[ai c6.o,ak (show eX.data.toList<+:m.form.data.toList from bD M.symm),show m.form.data.toList.drop 6=a7.data.toList from U rfl];cases Lib.atoiAll a7.data.toList<;>rfl)
    clear M U V o c6;go_wp2_with fail;refine(XX a7 d6 (aV b4.o e4.o) P.o.syn P.o.rng).mono ?_;rintro r f1 ⟨a8,a⟩;have q:=jt z a;have f2:=kp a Y;have f3:=zh (P.o.keep a);have f4:=zh (Z.o.keep a);clear a z Y P Z G y B C H;obtain⟨G,y,B,C,H⟩:=qc f2;unfold Cs at a8;cases a1:Lib.atoiAll a7.data.toList with
    |ok v=>
     rw[a1] at a8;obtain rfl:r= .returned (.tuple #[qI v,.nilIface]):=a8;have b5:=ah (jd rs m=(bI rs m.args).bind λR=>some [.mk 12 ⟨#[]⟩ v (R.map aQ)]) (by rw[X.o,a1]);clear a1;go_wp2_with fail;refine(AJ W A cap rs f b8 12 ⟨#[]⟩ m.args.length m _ f1 a3.o aa f3.o f4.o).mono ?_;rintro r b6 ⟨j,a⟩;have c7:=jt q a;have d7:=zh q.o.size;clear a G y B C H;rcases j with⟨R,g,f5,f6,a9,d8,rfl,b0,f7,f8,d9,e0⟩|⟨c8,rfl⟩
     ·have c9:=ah (jd rs m=some [.mk 12 ⟨#[]⟩ v (R.map aQ)]) (by rw[b5.o,a9];rfl);have L:=zh b0;have f9:=zh d9;have e1:=ah (w.heap.size<=g) (ax d7.o e0);have I:=zh d8;have g8:=L.o.cell 2;have g9:=L.o.frozen 2;have d0:b6.grownBy (b6.setCell (ag g (2)) (qI v)) (some g):=kJ b6 (ag g (2)) _;have g0:=ah (au (b6.setCell (ag g (2)) (qI v)) g 31 #[qI 12,qE,qI v,.slice f5 m.args.length f6]) (L.o.set_ 2 (qI v));have g1:=zh ((f9.o.off d0 λb a e=>a.2 (sj e)).any (ok':=λb=>w.heap.size<=b) λb _ a=>ax d7.o a.1);have g2:=zh (c7.o.grown d0 c7.o.size λr e=>by have b7:g=r:=sj e;have:=e1.o;omega);clear a9 d8 b0 d9 e0 d0;go_wp2_with fail
      go_ret2
      rw[c9.o];exact⟨⟨_,1,rfl,aH _,aa,xu (ks:=R.map aQ) (by rw[dI,I.o];exact g0.o) aI (by rw[dI,I.o];exact f7) f8 g1.o e1.o⟩,g2.o⟩
     ·have c9:=zh (show jd rs m=none by
       rw[b5.o];cases a9:bI rs m.args with
       |none=>rfl
       |some R=>
        rw[a9] at c8;have b7:mP 12 ⟨#[]⟩ R m.args.length=none:=c8;unfold mP at b7;rw[ak (Gx rs _ R a9)] at b7;cases b7)
      clear c8;go_wp2_with fail
      go_ret2
      rw[c9.o];exact⟨rfl,c7.o⟩
    |_=>
     rw[a1] at a8;obtain⟨h0,h1,h2,rfl⟩:∃n a0 g3,r= .returned (.tuple #[qI n,.iface a0 g3]):=a8;have b5:=zh (show jd rs m=none by
      rw[X.o,a1];cases bI rs m.args<;>rfl)
     clear a1;go_wp2_with fail
     go_ret2
     rw[b5.o];exact⟨rfl,q.o⟩
def Ct (w:World)(d:o.guard=none)(m x v:Operand)(e:o.op=Op.insert 56 m x v)(b:Nat)(L:List (List UInt8×Value))(f:a.eval m= .map (some b))(g:mg w b L)(s:ByteArray)(u:Value)(h:a.eval x=af s)(i:a.eval v=u)(z:s.size<=1000)(j:yu u=true)(k:s.data.toList∉L.map (·.1))(A:L.length<=1000)
  (l:∀w',mg w' b (L++[(s.data.toList,u)])->w.grownBy w' (some b)->wpList prog ops Q rest (a.put o.dst undef) w'):wpList prog ops Q (o::rest) a w:=by
 obtain⟨n,D,p,q,c,r⟩:=g;refine MH w d m x v 56 e 9 61 uI underlying56 Bo b n D f q gy _ u (.string s.data.toList) h i (JV s aa) (AB u) [] (by unfold Bo;rw[ak j]) λw' t y=>l w' ⟨n+1,_,by rw[aO];simpa using p,t,c.put _ _,r.put c _ _ k⟩ y
def Ha (w:World)(d:o.guard=none)(m x v:Operand)(e:o.op=Op.mapUpdate 56 m x v)(b:Nat)(L:List (List UInt8×Value))(f:a.eval m= .map (some b))(g:mg w b L)(s:ByteArray)(u:Value)(h:a.eval x=af s)(i:a.eval v=u)(z:s.size<=1000)(j:yu u=true)(k:s.data.toList∉L.map (·.1))(A:L.length<=1000)
  (l:∀w',mg w' b (L++[(s.data.toList,u)])->w.grownBy w' (some b)->wpList prog ops Q rest (a.put o.dst undef) w'):wpList prog ops Q (o::rest) a w:=by
 obtain⟨n,D,p,q,c,r⟩:=g;refine wpList_mapUpdate_own w d m x v 56 e 9 61 uI underlying56 Bo b n D f q gy _ u (.string s.data.toList) h i (JV s aa) (AB u) [] (by unfold Bo;rw[ak j]) λw' t y=>l w' ⟨n+1,_,by rw[aO];simpa using p,t,c.put _ _,r.put c _ _ k⟩ y
structure vO (w0:World)(A:Option Addr)(n cap:Nat)(W:jV)(L:List (List UInt8×Value))(k l:Nat)(x:World):Prop where
 bel:Below w0.heap.size w0 x
 lo:w0.heap.size<=W.gw/\w0.heap.size<=W.gb/\w0.heap.size<=W.bm
 box:au x W.gw 58 #[.slice A n cap,.map (some W.bm)]
 var:au x W.gb 44 #[qP W.gw]
 ends:∀j,j<k->au x (W.ge j) 9 #[af (eO j)]
 bnds:∀j,j<l->au x (W.gf j) 9 #[af (mR j)]
 map:mg x W.bm L
def vO.keep {w0 x c:World}{A:Option Addr}{n cap:Nat}{W:jV}{L:List (List UInt8×Value)}{k l:Nat}(h:vO w0 A n cap W L k l x)(a:Below x.heap.size x c):vO w0 A n cap W L k l c:=
 ⟨h.bel.trans (a.mono h.bel.size),h.lo,jL a h.box,jL a h.var,λj b=>jL a (h.ends j b),λj b=>jL a (h.bnds j b),h.map.keep a⟩
def vO.upd {a:World}{W:jV}{L c:List (List UInt8×Value)}(h:vO w0 A n cap W L k l x)(i:mg a W.bm c)(d:x.grownBy a (some W.bm)):vO w0 A n cap W c k l a:=by
 have stay:∀{g t cs},au x g t cs->au a g t cs:=λf=>f.grown d λe=>by
  obtain rfl:=sj e;exact h.map.zIr f
 exact⟨h.bel.grown d h.bel.size λr e=>aV (sj e) h.lo.2.2,h.lo,stay h.box,stay h.var,λj b=>stay (h.ends j b),λj b=>stay (h.bnds j b),i⟩
def vO.box1 {W:jV}{L:List (List UInt8×Value)}(h:vO w0 A n cap W L k l x):vO w0 A n cap {W with ge:=λj=>if j=k then x.heap.size else W.ge j} L (k+1) l (x.alloc (.cells #[af (eO k)] 9)):=by
 have a:=h.keep (aN x (.cells #[af (eO k)] 9));refine⟨a.bel,a.lo,a.box,a.var,λj b=>?_,a.bnds,a.map⟩;show au _ (if j=k then x.heap.size else W.ge j) _ _
 by_cases e:j=k
 ·subst e;rw[ak rfl];exact au.new x 9 _
 ·rw[ai e];exact a.ends j aa
def vO.box2 {W:jV}{L:List (List UInt8×Value)}(h:vO w0 A n cap W L k l x):vO w0 A n cap {W with gf:=λj=>if j=l then x.heap.size else W.gf j} L k (l+1) (x.alloc (.cells #[af (mR l)] 9)):=by
 have a:=h.keep (aN x (.cells #[af (mR l)] 9));refine⟨a.bel,a.lo,a.box,a.var,a.ends,λj b=>?_,a.map⟩;show au _ (if j=l then x.heap.size else W.gf j) _ _
 by_cases e:j=l
 ·subst e;rw[ak rfl];exact au.new x 9 _
 ·rw[ai e];exact a.bnds j aa
def LL (W:jV)(k l:Nat):List (List UInt8×Value):=Cq W++qM W.gb W.ge k++pW W.gb W.gf l
def KL (k l:Nat):List (List UInt8):=[mM.data.toList,jW.data.toList,dM.data.toList,dV.data.toList,jU.data.toList,jb.data.toList,kE.data.toList]++((List.range k).flatMap λj=>[(gG++eO j).data.toList,(ic++eO j).data.toList,(iL++eO j).data.toList])++((List.range l).flatMap λj=>[(mh++mR j).data.toList])
def EO (W:jV)(k l:Nat):(LL W k l).map (·.1)=KL k l:=by
 unfold LL KL qM pW;rw[dX,dX,List.map_flatMap,List.map_flatMap];rfl
def Yd:∀k,k<4->(gG++eO k).data.toList∉KL k 0/\(ic++eO k).data.toList∉KL k 0++[(gG++eO k).data.toList]/\(iL++eO k).data.toList∉KL k 0++[(gG++eO k).data.toList,(ic++eO k).data.toList]:=dW
def Ye:∀k,k<2->(mh++mR k).data.toList∉KL 4 k:=dW
def Yf (W:jV)(k:Nat):LL W (k+1) 0=LL W k 0++zo W.gb W.ge k:=by
 unfold LL;rw[Wy,show pW W.gb W.gf 0=[] from rfl,bX,bX,cu]
def Yg (W:jV)(k l:Nat):LL W k (l+1)=LL W k l++zq W.gb W.gf l:=by
 unfold LL;rw[Wz,cu,cu,cu]
def Hd (W:jV)(k l:Nat)(b:k<=4)(c:l<=2):(LL W k l).length<=100:=by
 have h:(LL W k l).length=(KL k l).length:=by rw[<-EO W,dI]
 rw[h];have a:∀k,k<5->∀l,l<3->(KL k l).length<=100:=dW
 exact a k aa l aa
def Yh (h:au x g 9 #[qE,af ⟨#[115,117,98]⟩,af ⟨#[115,117,112]⟩,af ⟨#[98,111,116,104]⟩])(a:k<4):x.cell? (ag g k)=some (af (eO k)):=by
 rw[h.cell]
 match k,a with
 |0,_|1,_|2,_|3,_=>rfl
def Yi (h:au x g 9 #[af ⟨#[115,117,98]⟩,af ⟨#[98,111,116,104]⟩])(a:k<2):x.cell? (ag g k)=some (af (mR k)):=by
 rw[h.cell]
 match k,a with
 |0,_|1,_=>rfl
def Dx (k:Nat):(eO k).size<=100/\(mR k).size<=100:=by
 refine⟨?_,?_⟩
 ·match k with
  |0|1|2|k+3=>exact bD rfl
 ·match k with
  |0|k+1=>exact bD rfl
def Yj (A:Option Addr)(cap:Nat)(rs:List aD)(w:World)(b5:fG w A rs)(b6:mU w 0)(b7:mU w 1):
  Calls prog 16 #[.slice A rs.length cap] w λe w'=>(∃W,e= .returned (qP W.gw)/\pX w' W A cap rs)/\Below w.heap.size w w':=by
 have e2:=zh b5;have e3:=zh b6;have e4:=zh b7;have R:=aN w (.cells #[.slice A rs.length cap,.map none] 58);have s1:(w.alloc (.cells #[.slice A rs.length cap,.map none] 58)).heap.size=w.heap.size+1:=aS
 have S:=aN (w.alloc (.cells #[.slice A rs.length cap,.map none] 58)) (.cells #[qP w.heap.size] 44);have T:=zh (R.trans (S.mono R.size));have b8:=zh (ae S (au.new w 58 #[.slice A rs.length cap,.map none]));have J:=zh (au.new (w.alloc (.cells #[.slice A rs.length cap,.map none] 58)) 44 #[qP w.heap.size]);rw[s1] at J;have m:=ah (((w.alloc (.cells #[.slice A rs.length cap,.map none] 58)).alloc (.cells #[qP w.heap.size] 44)).heap.size=w.heap.size+2) (by simp);clear b5 b6 b7 R S s1;go_enter func16,ntmps16;go_upto_region 2 with(fail)
 generalize (w.alloc (.cells #[.slice A rs.length cap,.map none] 58)).alloc (.cells #[qP w.heap.size] 44)=d at*;have f:=J.o.cell 0;have e5:= @run_makeMap prog;have b9:=mg.made d;have K:=aN d (.map #[] 0);have U:=jt T K;have c0:=kp K b8;have c1:=kp K J;have y:=zh T.o.size;clear K T b8 J;go_wp2_with (refine Ct _ rfl _ _ _ rfl d.heap.size [] rfl b9 mM (pV 28 (w.heap.size+1)) rfl rfl aI rfl (by show mM.data.toList∉([]:List (List UInt8));decide+kernel) aS ?_)
 intro f6 c2 b;have c3:=zh (c0.o.grown b λe=>by have c:w.heap.size=d.heap.size:=sj e;have:=m.o;omega);have V:=zh (c1.o.grown b λe=>by have c:w.heap.size+1=d.heap.size:=sj e;have:=m.o;omega);have X:=zh (U.o.grown b U.o.size λr e=>by have c:d.heap.size=r:=sj e;have:=y.o;omega);clear b c0 c1 U;clear b9 e5 f;have f:=V.o.cell 0;go_wp2_with (refine Ct _ rfl _ _ _ rfl d.heap.size [(mM.data.toList,pV 28 (w.heap.size+1))] rfl c2 jW (zT 30 w.heap.size) rfl rfl aI rfl (by show jW.data.toList∉[mM.data.toList];decide+kernel) aS ?_)
 intro f7 c4 b;have c5:=zh (c3.o.grown b λe=>by have c:w.heap.size=d.heap.size:=sj e;have:=m.o;omega);have Y:=zh (V.o.grown b λe=>by have c:w.heap.size+1=d.heap.size:=sj e;have:=m.o;omega);have Z:=zh (X.o.grown b X.o.size λr e=>by have c:d.heap.size=r:=sj e;have:=y.o;omega);clear b c3 V X;clear c2 f;have f:=Y.o.cell 0;go_wp2_with (refine Ct _ rfl _ _ _ rfl d.heap.size [(mM.data.toList,pV 28 (w.heap.size+1)),(jW.data.toList,zT 30 w.heap.size)] rfl c4 dM (pV 31 (w.heap.size+1)) rfl rfl aI rfl (by show dM.data.toList∉[mM.data.toList,jW.data.toList];decide+kernel) aS ?_)
 intro f8 c6 b;have c7:=zh (c5.o.grown b λe=>by have c:w.heap.size=d.heap.size:=sj e;have:=m.o;omega);have a0:=zh (Y.o.grown b λe=>by have c:w.heap.size+1=d.heap.size:=sj e;have:=m.o;omega);have a1:=zh (Z.o.grown b Z.o.size λr e=>by have c:d.heap.size=r:=sj e;have:=y.o;omega);clear b c5 Y Z;clear c4 f;have f:=a0.o.cell 0;go_wp2_with (refine Ct _ rfl _ _ _ rfl d.heap.size [(mM.data.toList,pV 28 (w.heap.size+1)),(jW.data.toList,zT 30 w.heap.size),(dM.data.toList,pV 31 (w.heap.size+1))] rfl c6 dV (pV 32 (w.heap.size+1)) rfl rfl aI rfl (by show dV.data.toList∉[mM.data.toList,jW.data.toList,dM.data.toList];decide+kernel) aS ?_)
 intro f9 c8 b;have c9:=zh (c7.o.grown b λe=>by have c:w.heap.size=d.heap.size:=sj e;have:=m.o;omega);have a2:=zh (a0.o.grown b λe=>by have c:w.heap.size+1=d.heap.size:=sj e;have:=m.o;omega);have a3:=zh (a1.o.grown b a1.o.size λr e=>by have c:d.heap.size=r:=sj e;have:=y.o;omega);clear b c7 a0 a1;clear c6 f;have f:=a2.o.cell 0;go_wp2_with (refine Ct _ rfl _ _ _ rfl d.heap.size [(mM.data.toList,pV 28 (w.heap.size+1)),(jW.data.toList,zT 30 w.heap.size),(dM.data.toList,pV 31 (w.heap.size+1)),(dV.data.toList,pV 32 (w.heap.size+1))] rfl c8 jU (pV 33 (w.heap.size+1)) rfl rfl aI rfl (by show jU.data.toList∉[mM.data.toList,jW.data.toList,dM.data.toList,dV.data.toList];decide+kernel) aS ?_)
 intro g0 d0 b;have d1:=zh (c9.o.grown b λe=>by have c:w.heap.size=d.heap.size:=sj e;have:=m.o;omega);have a4:=zh (a2.o.grown b λe=>by have c:w.heap.size+1=d.heap.size:=sj e;have:=m.o;omega);have a5:=zh (a3.o.grown b a3.o.size λr e=>by have c:d.heap.size=r:=sj e;have:=y.o;omega);clear b c9 a2 a3;clear c8 f;have f:=a4.o.cell 0;go_wp2_with (refine Ct _ rfl _ _ _ rfl d.heap.size [(mM.data.toList,pV 28 (w.heap.size+1)),(jW.data.toList,zT 30 w.heap.size),(dM.data.toList,pV 31 (w.heap.size+1)),(dV.data.toList,pV 32 (w.heap.size+1)),(jU.data.toList,pV 33 (w.heap.size+1))] rfl d0 jb (pV 34 (w.heap.size+1)) rfl rfl aI rfl (by show jb.data.toList∉[mM.data.toList,jW.data.toList,dM.data.toList,dV.data.toList,jU.data.toList];decide+kernel) aS ?_)
 intro g1 d2 b;have d3:=zh (d1.o.grown b λe=>by have c:w.heap.size=d.heap.size:=sj e;have:=m.o;omega);have a6:=zh (a4.o.grown b λe=>by have c:w.heap.size+1=d.heap.size:=sj e;have:=m.o;omega);have a7:=zh (a5.o.grown b a5.o.size λr e=>by have c:d.heap.size=r:=sj e;have:=y.o;omega);clear b d1 a4 a5;clear d0 f;have f:=a6.o.cell 0;go_wp2_with (refine Ct _ rfl _ _ _ rfl d.heap.size [(mM.data.toList,pV 28 (w.heap.size+1)),(jW.data.toList,zT 30 w.heap.size),(dM.data.toList,pV 31 (w.heap.size+1)),(dV.data.toList,pV 32 (w.heap.size+1)),(jU.data.toList,pV 33 (w.heap.size+1)),(jb.data.toList,pV 34 (w.heap.size+1))] rfl d2 kE (zT 35 w.heap.size) rfl rfl aI rfl (by show kE.data.toList∉[mM.data.toList,jW.data.toList,dM.data.toList,dV.data.toList,jU.data.toList,jb.data.toList];decide+kernel) aS ?_)
 intro F d4 b;have L:=zh (d3.o.grown b λe=>by have c:w.heap.size=d.heap.size:=sj e;have:=m.o;omega);have a8:=zh (a6.o.grown b λe=>by have c:w.heap.size+1=d.heap.size:=sj e;have:=m.o;omega);have a9:=zh (a7.o.grown b a7.o.size λr e=>by have c:d.heap.size=r:=sj e;have:=y.o;omega);clear b d3 a6 a7;clear d2 f;have f:=a8.o.cell 0;have e6:=L.o.cell 1;have e7:=L.o.frozen 1;go_upto_region 3 with(fail)
 have b:F.grownBy (F.setCell (ag w.heap.size (1)) (.map (some d.heap.size))) (some w.heap.size):=kJ F (ag w.heap.size (1)) _;obtain⟨q,M⟩:∃W:jV,W=⟨w.heap.size,d.heap.size,w.heap.size+1,λ_=>0,λ_=>0⟩:=⟨_,rfl⟩
 have d5:Hy (vO w A rs.length cap q (LL q 0 0) 0 0 (F.setCell (ag w.heap.size (1)) (.map (some d.heap.size)))):=by
  subst M;exact zh ⟨a9.o.grown b a9.o.size λr e=>by have c:w.heap.size=r:=sj e;omega,⟨aH _,dJ _,y.o⟩,L.o.set_ 1 _,a8.o.grown b (λe=>by have c:w.heap.size+1=w.heap.size:=sj e;omega),(λj e8=>aa),(λj e8=>aa),d4.kept b (λe=>by have c:d.heap.size=w.heap.size:=sj e;have:=m.o;omega)⟩
 have e9:=ah (q.gw=w.heap.size) (by rw[M]);have f0:=ah (q.gb=w.heap.size+1) (by rw[M]);clear b e6 e7 L a8 a9 d4 f m M;generalize F.setCell (ag w.heap.size (1)) (.map (some d.heap.size))=N at*;rw[<-f0.o,<-e9.o];have d6:=aN N (.cells #[qE,af ⟨#[115,117,98]⟩,af ⟨#[115,117,112]⟩,af ⟨#[98,111,116,104]⟩] 9);have g:=zh (d5.o.keep d6);have s:=zh (au.new N 9 #[qE,af ⟨#[115,117,98]⟩,af ⟨#[115,117,112]⟩,af ⟨#[98,111,116,104]⟩]);clear d6 d5;go_wp2_with fail;generalize N.alloc (.cells #[qE,af ⟨#[115,117,98]⟩,af ⟨#[115,117,112]⟩,af ⟨#[98,111,116,104]⟩] 9)=g2 at*;generalize N.heap.size=gs at*
 go_loopw [27] (λi wr=>∃(k:Nat) (W:jV),k<=4/\i=qI k/\Hy (W.gw=q.gw/\W.gb=q.gb)/\Hy (vO w A rs.length cap W (LL W k 0) k 0 wr)/\Hy (au wr gs 9 #[qE,af ⟨#[115,117,98]⟩,af ⟨#[115,117,112]⟩,af ⟨#[98,111,116,104]⟩])) (λi _=>4 -(intOf i).toNat)
 case atStart=>exact⟨0,q,aa,rfl,zh ⟨rfl,rfl⟩,g,s⟩
 case round=>
  clear g s;obtain⟨k,l,f1,rfl,x,g,s⟩:=hrel
  by_cases G:k<4
  ·have b0:=Yh s.o G;have f2:(k:Int)<4:=by omega
   have n:=zh (g.o.box1);have z:=zh (ae (aN wr (.cells #[af (eO k)] 9)) s.o);obtain⟨a,t⟩:∃a:jV,a={l with ge:=λj=>if j=k then wr.heap.size else l.ge j}:=⟨_,rfl⟩
   rw[<-t,show LL l k 0=LL a k 0 by rw[t];unfold LL;rw[show qM l.gb l.ge k=qM l.gb (λj=>if j=k then wr.heap.size else l.ge j) k from(WA _ _ _ _).symm];rfl] at n;have u:=ah (a.gw=q.gw/\a.gb=q.gb) (by rw[t];exact x.o);have b1:=ah (a.ge k=wr.heap.size) (by rw[t];exact ak rfl);clear g s t x;go_upto_region 6 with(fail)
   rw[<-u.o.1,<-u.o.2,<-b1.o];clear b0;generalize wr.alloc (.cells #[af (eO k)] 9)=H at*;have C:=Yd k G;have b2:=(Dx k).1;have g3:¬(9223372036854775807<5+(eO k).size):=aa
   have g4:¬(9223372036854775807<6+(eO k).size):=aa
   have g5:¬(9223372036854775807<7+(eO k).size):=aa
   have f:=n.o.var.cell 0;have D:=n.o.box.cell 1;have E:=(n.o.ends k aa).cell 0
   go_still_tail 7,aj
   change wpList _ _ _ _ _ H.drew;have h:=zh (n.o.keep (fC (aL _ _)));have o:=zh (ae (fC (aL _ _)) z.o);clear n z f D E;generalize H.drew=b3 at*;refine Ha _ rfl _ _ _ rfl a.bm (LL a k 0) rfl h.o.map (gG++eO k) (wB 36 a.gb (a.ge k)) rfl rfl (by rw[uB];have:=Dx k;have c:gG.size<=100:=aI;omega) rfl (by rw[EO];exact C.1) (ax (Hd a k 0 aa aa) aa) ?_;intro O v p;have B:=zh (h.o.upd v p);have P:=zh (o.o.grown p λe=>by have c:gs=a.bm:=sj e;exact h.o.map.zIr (c▸o.o));clear h o v p;go_upto_region 7 with(fail)
   have f:=B.o.var.cell 0;have D:=B.o.box.cell 1;have E:=(B.o.ends k aa).cell 0
   go_still_tail 7,aj
   change wpList _ _ _ _ _ O.drew;have h:=zh (B.o.keep (fC (aL _ _)));have o:=zh (ae (fC (aL _ _)) P.o);clear B P f D E;generalize O.drew=b3 at*;refine Ha _ rfl _ _ _ rfl a.bm (LL a k 0++[((gG++eO k).data.toList,wB 36 a.gb (a.ge k))]) rfl h.o.map (ic++eO k) (wB 38 a.gb (a.ge k)) rfl rfl (by rw[uB];have:=Dx k;have c:ic.size<=100:=aI;omega) rfl (by rw[dX,EO];exact C.2.1) (by rw[aO];have:=Hd a k 0 aa aa;simp only[aY,gZ];omega) ?_;intro d7 v p;have I:=zh (h.o.upd v p);have d8:=zh (o.o.grown p λe=>by have c:gs=a.bm:=sj e;exact h.o.map.zIr (c▸o.o));clear h o v p;go_upto_region 8 with(fail)
   have f:=I.o.var.cell 0;have D:=I.o.box.cell 1;have E:=(I.o.ends k aa).cell 0
   go_still_tail 7,aj
   change wpList _ _ _ _ _ d7.drew;have h:=zh (I.o.keep (fC (aL _ _)));have o:=zh (ae (fC (aL _ _)) d8.o);clear I d8 f D E;generalize d7.drew=b3 at*;refine Ha _ rfl _ _ _ rfl a.bm (LL a k 0++[((gG++eO k).data.toList,wB 36 a.gb (a.ge k))]++[((ic++eO k).data.toList,wB 38 a.gb (a.ge k))]) rfl h.o.map (iL++eO k) (wB 40 a.gb (a.ge k)) rfl rfl (by rw[uB];have:=Dx k;have c:iL.size<=100:=aI;omega) rfl (by rw[dX,dX,EO,cu];exact C.2.2) (by rw[aO,aO];have:=Hd a k 0 aa aa;simp only[aY,gZ];omega) ?_;intro f3 v p;have d9:=zh (h.o.upd v p);have f4:=zh (o.o.grown p λe=>by have c:gs=a.bm:=sj e;exact h.o.map.zIr (c▸o.o));clear h o v p;have b4:=ah (vO w A rs.length cap a (LL a (k+1) 0) (k+1) 0 f3) (by rw[Yf];have c:=d9.o;rw[cu,cu] at c;exact c);clear d9 C b2;go_wp2_with fail;rw[u.o.1,u.o.2];go_roundw
   case rel=>exact⟨k+1,a,aa,bi,u,b4,f4⟩
   case measure=>simp[intOf];omega
  ·obtain rfl:k=4:=by omega
   clear s;have e0:=aN wr (.cells #[af ⟨#[115,117,98]⟩,af ⟨#[98,111,116,104]⟩] 9);have n:=zh (g.o.keep e0);have z:=zh (au.new wr 9 #[af ⟨#[115,117,98]⟩,af ⟨#[98,111,116,104]⟩]);clear e0 g;obtain⟨Q,f5⟩:∃Q,Q=wr:=⟨_,rfl⟩
   subst f5;rw[show(((4:Nat):Int))=(4:Int) from rfl];go_wp2_with fail;generalize Q.alloc (.cells #[af ⟨#[115,117,98]⟩,af ⟨#[98,111,116,104]⟩] 9)=wc at*;generalize Q.heap.size=e1 at*
   go_loopw [55] (λi wr=>∃(k:Nat) (W:jV),k<=2/\i=qI k/\Hy (W.gw=q.gw/\W.gb=q.gb)/\Hy (vO w A rs.length cap W (LL W 4 k) 4 k wr)/\Hy (au wr e1 9 #[af ⟨#[115,117,98]⟩,af ⟨#[98,111,116,104]⟩])) (λi _=>2 -(intOf i).toNat)
   case atStart=>exact⟨0,l,aa,rfl,x,n,z⟩
   case round=>
    clear n z x;obtain⟨k,l,f1,rfl,x,g,s⟩:=hrel
    by_cases G:k<2
    ·have b0:=Yi s.o G;have f2:(k:Int)<2:=by omega
     have n:=zh (g.o.box2);have z:=zh (ae (aN wr (.cells #[af (mR k)] 9)) s.o);obtain⟨a,t⟩:∃a:jV,a={l with gf:=λj=>if j=k then wr.heap.size else l.gf j}:=⟨_,rfl⟩
     rw[<-t,show LL l 4 k=LL a 4 k by rw[t];unfold LL;rw[show pW l.gb l.gf k=pW l.gb (λj=>if j=k then wr.heap.size else l.gf j) k from(WB _ _ _ _).symm];rfl] at n;have u:=ah (a.gw=q.gw/\a.gb=q.gb) (by rw[t];exact x.o);have b1:=ah (a.gf k=wr.heap.size) (by rw[t];exact ak rfl);clear g s t x;go_upto_region 13 with(fail)
     rw[<-u.o.1,<-u.o.2,<-b1.o];clear b0;generalize wr.alloc (.cells #[af (mR k)] 9)=H at*;have C:=Ye k G;have b2:=(Dx k).2;have g6:¬(9223372036854775807<4+(mR k).size):=aa
     have f:=n.o.var.cell 0;have D:=n.o.box.cell 1;have E:=(n.o.bnds k aa).cell 0
     go_still_tail 7,aj
     change wpList _ _ _ _ _ H.drew;have h:=zh (n.o.keep (fC (aL _ _)));have o:=zh (ae (fC (aL _ _)) z.o);clear n z f D E;generalize H.drew=b3 at*;refine Ha _ rfl _ _ _ rfl a.bm (LL a 4 k) rfl h.o.map (mh++mR k) (wB 42 a.gb (a.gf k)) rfl rfl (by rw[uB];have:=Dx k;have c:mh.size<=100:=aI;omega) rfl (by rw[EO];exact C) (ax (Hd a 4 k aa aa) aa) ?_;intro O v p;have B:=zh (h.o.upd v p);have P:=zh (o.o.grown p λe=>by have c:e1=a.bm:=sj e;exact h.o.map.zIr (c▸o.o));clear h o v p;have b4:=ah (vO w A rs.length cap a (LL a 4 (k+1)) 4 (k+1) O) (by rw[Yg];exact B.o);clear B C b2;go_wp2_with fail;rw[u.o.1,u.o.2];go_roundw
     case rel=>exact⟨k+1,a,aa,bi,u,b4,P⟩
     case measure=>simp[intOf];omega
    ·obtain rfl:k=2:=by omega
     have f:=g.o.var.cell 0;rw[x.o.1,x.o.2] at f;go_wp2;go_ret;exact⟨⟨l,(by rw[x.o.1];rfl),e2.o.keep g.o.bel,g.o.box,g.o.var,g.o.ends,g.o.bnds,g.o.map,e3.o.keep g.o.bel,e4.o.keep g.o.bel⟩,g.o.bel⟩
end Go.Proofs.YtlefbenkhgbifaaGreatDoor.Rn
