/- The reference's end of a part of a reading. -/
import Derived.Test.YtapgncbegadbnaaGreatDoorHcdb57c6b
set_option maxRecDepth 100000
set_option maxHeartbeats 80000000
namespace Go.Proofs.YtapgncbegadbnaaGreatDoor.Ch
open Go.RowKit
theorem yC2 (x:Rd):1<=zB4 x:=by obtain⟨r,a,ks⟩:=x;rw[zB4];omega
theorem zZ2 (x:Rd):zB4 x=zIy x.kids+1:=by obtain⟨r,a,ks⟩:=x;rw[zB4];rfl
section
variable {rs : List Rul} {ts : List ByteArray} {r a : Int} {ks : List Rd} {n i : Nat} {u : Rul} {y z : Rd}
theorem zMa (h:a<0\/(ts.length:Int)<=a\/r< -1\/(rs.length:Int)<=r):endR rs ts (.mk r a ks)= -1:=by rw[endR,if_pos h]
theorem zYc (h:¬(a<0\/(ts.length:Int)<=a\/(-1:Int)< -1\/(rs.length:Int)<=-1)):endR rs ts (.mk (-1) a ks)=if tokI ts a zCb=true/\ks.isEmpty=true then a+1 else -1:=by rw[endR,if_neg h,if_pos rfl]
theorem zHp (h:¬(a<0\/(ts.length:Int)<=a\/(n:Int)< -1\/(rs.length:Int)<=n))(hu:rs[n]?=some u):endR rs ts (.mk n a ks)=match ks with
 |[]=> -1
 |[y]=>if endR rs ts y<0 then -1 else zGh rs ts u a y (endR rs ts y)
 |[y,z]=>if endR rs ts y<0 then -1 else if endR rs ts z<0 then -1 else zFv rs ts u a y z (endR rs ts y) (endR rs ts z)
 |_=> -1:=by rw[endR,if_neg h,if_neg (by omega),Int.toNat_natCast,hu];rfl
theorem zZ0 (h:¬(a<0\/(ts.length:Int)<=a\/(n:Int)< -1\/(rs.length:Int)<=n))(hu:rs[n]?=some u)(hk:2<ks.length):endR rs ts (.mk n a ks)= -1:=by
 rw[zHp h hu]
 match ks,hk with
 |_::_::_::_,_=>rfl
theorem yBu (h:¬(a<0\/(ts.length:Int)<=a\/(n:Int)< -1\/(rs.length:Int)<=n))(hu:rs[n]?=some u)(hy:ks[i]?=some y)(hn:endR rs ts y<0):endR rs ts (.mk n a ks)= -1:=by
 rw[zHp h hu]
 match ks,i,hy with
 |[y'],0,hy=>
  obtain rfl:y'=y:=by simpa using hy
  dsimp only;rw[if_pos hn]
 |[y',z'],0,hy=>
  obtain rfl:y'=y:=by simpa using hy
  dsimp only;rw[if_pos hn]
 |[y',z'],1,hy=>
  obtain rfl:z'=y:=by simpa using hy
  dsimp only;rw[if_pos hn,ite_self]
 |_::_::_::_,_,_=>rfl
 |[y'],i+1,hy=>simp at hy
 |[y',z'],i+2,hy=>simp at hy
 |[],i,hy=>simp at hy
theorem Addr.add_zero' (p:Addr):p.add 0=p:=by unfold Addr.add;simp
theorem zUc (h:0<=endR rs ts y):∃e:Nat,endR rs ts y=e/\e<=ts.length/\y.at_<e/\y.rule<(rs.length:Int):=by
 obtain⟨i,j,h1,h2,h3,h4⟩:=zLh (zB4 y) y (Nat.le_refl _) h;exact⟨j,h2,h3,by have:=zD9 h4;omega,(zFa h4).2⟩
end
theorem yA4 (A T:Option Addr)(cap cT:Nat)(rs:List Rul)(ts:List ByteArray)(hr:rs.length<=1000000)(ht:ts.length<=1000000):∀(z:Nat) (ok:Nat->Prop) (x:Rd) (c:Array Value) (w:World),zB4 x<=z->zAc w A rs->zBp w T ts->RdAt ok w x c->Calls Tryz.prog 32 #[.slice A rs.length cap,.slice T ts.length cT,.agg c] w fun e w'=>e= .returned (qI (endR rs ts x))/\Below w.heap.size w w':=by
 obtain⟨i0,hi,hz0,hz1,hz2⟩:=info_parts zFc;intro z
 induction z with
 |zero=>intro ok x c w h;have:=yC2 x;omega
 |succ z ih=>
  intro ok x c w hz hR hT hX;have IH:=zh ih;clear ih;obtain⟨A',cap',rfl,hl,hc,hk⟩:=hX.form;obtain⟨r,a,ks⟩:=x;replace hl:ks.length<=cap':=hl;have HZ:=zh (show zIy ks<=z by rw[zZ2] at hz;exact Nat.le_of_succ_le_succ hz);have hba:=zA0 w (.cells (rdC r a A' ks.length cap') 42);have HK:=zh ((show zAp ok w A' ks from hk).any (ok':=fun b=>b<w.heap.size) fun b h1 _=>h1);have HR0:=zh hR;have HT0:=zh hT;have HB:=zh hba;have K1:=zh (Blk.new w 42 (rdC r a A' ks.length cap'));show Calls _ _ #[.slice A rs.length cap,.slice T ts.length cT,.agg (rdC r a A' ks.length cap')] w _;have hkl:ks.length<=9223372036854775807:=by omega
  clear hX hk hba hz hR hT
  by_cases g1:a<0
  ·as_aux_lemma=>
    have HE:=zh (zMa (rs:=rs) (ts:=ts) (r:=r) (ks:=ks) (.inl g1));have c1:=K1.out.cell 1;go_enter Tryz.func32,Tryz.ntmps32;go_wp2;go_ret;exact⟨zAj HE.out.symm,HB.out⟩
  by_cases g2:(ts.length:Int)<=a
  ·as_aux_lemma=>
    have HE:=zh (zMa (rs:=rs) (ts:=ts) (r:=r) (ks:=ks) (.inr (.inl g2)));have c1:=K1.out.cell 1;go_enter Tryz.func32,Tryz.ntmps32;go_wp2;go_ret;exact⟨zAj HE.out.symm,HB.out⟩
  by_cases g3:r< -1
  ·as_aux_lemma=>
    have HE:=zh (zMa (rs:=rs) (ts:=ts) (a:=a) (ks:=ks) (.inr (.inr (.inl g3))));have c1:=K1.out.cell 1;have c0:=K1.out.cell 0;go_enter Tryz.func32,Tryz.ntmps32;go_wp2;go_ret;exact⟨zAj HE.out.symm,HB.out⟩
  by_cases g4:(rs.length:Int)<=r
  ·as_aux_lemma=>
    have HE:=zh (zMa (rs:=rs) (ts:=ts) (a:=a) (ks:=ks) (.inr (.inr (.inr g4))));have c1:=K1.out.cell 1;have c0:=K1.out.cell 0;go_enter Tryz.func32,Tryz.ntmps32;go_wp2;go_ret;exact⟨zAj HE.out.symm,HB.out⟩
  obtain⟨a0,rfl⟩:∃a0:Nat,a=a0:=⟨a.toNat,by omega⟩
  have ha0:a0<ts.length:=by omega
  obtain⟨s,hs⟩:∃s,ts[a0]?=some s:=⟨_,gE ha0⟩
  have HTK:=zh (fun q:List UInt8=>show tokI ts (a0:Int) q=(s.toList==q) by rw[zCn];unfold tokB;rw[hs]);have HS:=zh hs;obtain⟨_,ad,rfl,_,_⟩:=HT0.out a0 s hs;clear hs
  by_cases q:r= -1
  ·as_aux_lemma=>
    subst q;have HE:=zh (zYc (rs:=rs) (ts:=ts) (a:=(a0:Int)) (ks:=ks) (by omega));obtain⟨hf,ad',e9,hadl,d0⟩:=(HT0.out.keep HB.out) a0 s HS.out;obtain rfl:=sj e9;have c1:=K1.out.cell 1;have c0:=K1.out.cell 0;have c2:=K1.out.cell 2;have j1:(0:Int)<=(a0:Int):=by omega
    have j2:(a0:Int)<(ts.length:Int):=by omega
    clear hf hadl e9;rw[HTK.out] at HE;cases hb:(s.toList==zCb)
    ·rw[hb] at HE;have hb2:(s.toList==[35])=false:=hb;have HE:=zh (HE.out.trans (if_neg (by simp)));clear hb;go_enter Tryz.func32,Tryz.ntmps32;go_wp2;go_ret;exact⟨zAj HE.out.symm,HB.out⟩
    ·rw[hb] at HE;have hb2:(s.toList==[35])=true:=hb;clear hb
     by_cases h0:ks=[]
     ·as_aux_lemma=>
       have HE2:=zh (HE.out.trans (if_pos ⟨rfl,by rw[h0];rfl⟩));have h1:((ks.length:Int)==0)=true:=by rw[h0];rfl
       clear HE HTK h0;go_enter Tryz.func32,Tryz.ntmps32;go_wp2;go_ret;exact⟨zAj HE2.out.symm,HB.out⟩
     ·as_aux_lemma=>
       have HE2:=zh (HE.out.trans (if_neg (by rintro⟨_,h⟩;exact h0 (List.isEmpty_iff.1 h))));have h1:((ks.length:Int)==0)=false:=by rw[beq_eq_false_iff_ne];have:=List.length_pos_iff.2 h0;omega
       clear HE HTK h0;go_enter Tryz.func32,Tryz.ntmps32;go_wp2;go_ret;exact⟨zAj HE2.out.symm,HB.out⟩
  obtain⟨n,rfl⟩:∃n:Nat,r=n:=⟨r.toNat,by omega⟩
  obtain⟨u,hu⟩:∃u,rs[n]?=some u:=⟨_,gE (by omega)⟩
  have HNB:=zh (show ¬((a0:Int)<0\/(ts.length:Int)<=a0\/(n:Int)< -1\/(rs.length:Int)<=n) by omega);have HU:=zh hu;obtain⟨_,ad2,rfl,hadl9,d0,d1,d2,d3,d4,d5⟩:=(HR0.out.keep HB.out).at_ hu;have c1:=K1.out.cell 1;have c0:=K1.out.cell 0;have j1:(0:Int)<=(a0:Int):=by omega
  have j2:(a0:Int)<(ts.length:Int):=by omega
  have j3:(n:Int)<(rs.length:Int):=by omega
  have j4:¬(n:Int)< -1:=by omega
  have j5:((n:Int)== -1)=false:=by rw[beq_eq_false_iff_ne];omega
  clear hadl9 hu q g1 g2 g3 g4;go_enter Tryz.func32,Tryz.ntmps32;go_upto_region 8 with(fail)
  have hba:=zA0 (w.alloc (.cells (rdC n a0 A' ks.length cap') 42)) (.cells u.c 53);have KU:Hid (Blk ((w.alloc (.cells (rdC n a0 A' ks.length cap') 42)).alloc (.cells u.c 53)) (w.heap.size+1) 53 u.c):=by
   have:=Blk.new (w.alloc (.cells (rdC n a0 A' ks.length cap') 42)) 53 u.c;rw[World.size_alloc] at this;exact this
  have K1:=kp hba K1;have HB:=jt HB hba;clear hba d0 d1 d2 d3 d4 d5 c0 c1;generalize (w.alloc (.cells #[qI n,qI a0,.slice A' ks.length cap'] 42)).alloc (.cells #[qI u.kind,.string u.sym,.string u.nam,qI u.prec,qI u.left,qI u.right] 53)=w1 at*;go_wp2_with fail
  go_loopw [8,9] (fun v t wr=>∃i:Nat,i<=ks.length/\i<=2/\t=qI i/\Hid (∀j y,j<i->ks[j]?=some y->0<=endR rs ts y)/\Hid (OwnI wr (w.heap.size+2) v ((ks.take i).map (endR rs ts)))/\Hid (Blk wr w.heap.size 42 (rdC n a0 A' ks.length cap'))/\Hid (Blk wr (w.heap.size+1) 53 u.c)/\Hid (Below w.heap.size w wr)) (fun _ t _=>ks.length -(intOf t).toNat)
  case atStart=>exact⟨0,by omega,by omega,rfl,zh (fun j y h _=>absurd h (by omega)),zh (OwnI.nil _ _),K1,KU,HB⟩
  case round=>
   as_aux_lemma=>
    clear K1 KU HB;obtain⟨i,hik,hi2,rfl,HNr,HOr,K1r,KUr,HBr⟩:=hrel;have c2:=K1r.out.cell 2
    by_cases hlt:i<ks.length
    ·as_aux_lemma=>
      by_cases h2:2<=i
      ·as_aux_lemma=>
        have HE:=zh (zZ0 (ks:=ks) HNB.out HU.out (by omega));have h2':(2:Int)<=(i:Int):=by omega
        go_wp2;go_ret;exact⟨zAj HE.out.symm,HBr.out⟩
      ·obtain⟨y,hy⟩:∃y,ks[i]?=some y:=⟨_,gE hlt⟩
       obtain⟨ad,A9,cap9,rfl,hadl,hcy,_,_,_,d0,d1,d2⟩:=(HK.out.keep HBr.out).at_ hy;have HY:=zh hcy;have HYK:=zh hy;have HSZ:=zh (show zB4 y<=z by have h1:=HZ.out;have:=zC6 hy;omega);have h2':¬(2:Int)<=(i:Int):=by omega
       have j6:(0:Int)<=(i:Int):=by omega
       have j7:(i:Int)<(ks.length:Int):=by omega
       clear hcy hy;go_wp2_with fail;refine(IH.out _ y _ _ HSZ.out (HR0.out.keep HBr.out) (HT0.out.keep HBr.out) HY.out).mono ?_;rintro e w2 ⟨rfl,hb⟩;have K1r:=kp hb K1r;have KUr:=kp hb KUr;have HOr:=zh (HOr.out.keep hb);have HBr:=jt HBr hb;clear hb d0 d1 d2 c2
       by_cases hn:endR rs ts y<0
       ·as_aux_lemma=>
         have HE:=zh (yBu HNB.out HU.out HYK.out hn);go_wp2;go_ret;exact⟨zAj HE.out.symm,HBr.out⟩
       ·have HNr:=zh (show ∀j y',j<i+1->ks[j]?=some y'->0<=endR rs ts y' from fun j y' hj hy'=>by
         rcases Nat.lt_or_ge j i with h|h
         ·exact HNr.out j y' h hy'
         ·obtain rfl:j=i:=by omega
          rw[HYK.out] at hy';obtain rfl:=sj hy';omega)
        have HTS:=zh (show(ks.take (i+1)).map (endR rs ts)=(ks.take i).map (endR rs ts)++[endR rs ts y] by rw[List.take_add_one,HYK.out,List.map_append];rfl);have HLN:=zh (show((ks.take i).map (endR rs ts)).length=i by rw[List.length_map,List.length_take];omega);generalize endR rs ts y=k at*;generalize (ks.take i).map (endR rs ts)=ys at*;have HSZ2:=zh (show w.heap.size+2<=w2.heap.size from KUr.out.lt);have hba:=zA0 w2 (.cells #[qI k] 3);have hbs:w.heap.size+2<=(w2.alloc (.cells #[qI k] 3)).heap.size:=Nat.le_trans HSZ2.out hba.size;have HOr:=zh (HOr.out.keep hba);have K1r:=kp hba K1r;have KUr:=kp hba KUr;have HBr:=jt HBr hba;clear hba;go_wp2_with (at_builtin;refine zA9 _ rfl (.tmp 77) (.tmp 79) 30 rfl (w.heap.size+2) 3 i0 (qI 0) 1 8 Tryz.underlying30 hi hz0 hz1 hz2 rfl (by decide) _ _ _ rfl HOr.out (w2.heap.size+1) (some ⟨w2.heap.size,0,none⟩) 1 1 [qI k] rfl (by have:=zEw (Blk.new w2 3 #[qI k]);rw[World.size_alloc] at this;exact this) (by intro u hu;simp at hu;subst hu;rfl) (by unfold maxLen;rw[HLN.out];omega) (by rw[HLN.out];omega) hbs ?_);intro v' w' g2 g3 g4;have hlo:∀b,u8.ownBlock=some b->w.heap.size+2<=b:=fun b hb=>(World.ownsRow.lt HOr.out b hb).1
        have K1r:=zh (K1r.out.grown g3 (fun e=>by have:=hlo _ e.symm;omega));have KUr:=zh (KUr.out.grown g3 (fun e=>by have:=hlo _ e.symm;omega));have HBr:=zh (HBr.out.grown g3 HBr.out.size (fun b hb=>by have:=hlo b hb;omega));have HOr:Hid (OwnI w' (w.heap.size+2) v' (ys++[k])):=by
         refine zh (show World.ownsRow _ _ _ _ _ _ _ from ?_);rw[List.length_append,List.map_append];exact g2
        rw[<-HTS.out] at HOr;clear g2 g3 g4 hlo hbs;go_wp2;go_roundw
        case rel=>exact⟨i+1,by omega,by omega,by go_num,HNr,HOr,K1r,KUr,HBr⟩
        case measure=>simp[intOf];omega
    ·obtain rfl:i=ks.length:=by omega
     rw[List.take_of_length_le (Nat.le_refl _)] at HOr;clear IH hik hlt;obtain⟨I,cI,rfl,hI⟩:=zQx HOr.out (List.length_map ..);have HI:=zh hI;clear hI HOr
     by_cases hz:ks.length=0
     ·as_aux_lemma=>
       have hks:ks=[]:=List.length_eq_zero_iff.1 hz;have HE:=zh (show endR rs ts (.mk n a0 ks)= -1 by rw[zHp HNB.out HU.out,hks]);have l1:((ks.length:Int)==1)=false:=by rw[hz];rfl
       have l2:((ks.length:Int)==2)=false:=by rw[hz];rfl
       have c2:=K1r.out.cell 2;clear hz hi2 hks;go_upto_region 18 with(fail)
       go_quiet (fail)
       have hbw:=zh (below_drewN (Below.refl wr.heap.size wr) nq);have K1r:=zh (keep hbw.out K1r.out);have KUr:=zh (keep hbw.out KUr.out);have HBr:=zh (HBr.out.trans (hbw.out.mono HBr.out.size));have HI:=zh (HI.out.keep hbw.out);clear hbw;generalize wr.drewN nq=w2 at*;go_upto_region 19 with(fail)
       go_cut [89] (fun b wd=>b= .bool false/\Hid (Below w2.heap.size w2 wd))
       case first=>
        as_aux_lemma=>
         have k0:=KUr.out.cell 0;cases b2:(u.kind==2)
         ·go_quiet (fail)
          go_wp2;go_meet
          case rel=>exact⟨rfl,zh (below_drewN (Below.refl _ _) _)⟩
         ·go_quiet (fail)
          go_wp2;go_meet
          case rel=>exact⟨rfl,zh (below_drewN (Below.refl _ _) _)⟩
       case rest=>
        as_aux_lemma=>
         obtain⟨rfl,hbw⟩:=hcut;have K1r:=zh (keep hbw.out K1r.out);have KUr:=zh (keep hbw.out KUr.out);have HBr:=zh (HBr.out.trans (hbw.out.mono HBr.out.size));have HI:=zh (HI.out.keep hbw.out);clear hbw;go_upto_region 21 with(fail)
         go_cut [131] (fun b wd=>b= .bool false/\Hid (Below wc.heap.size wc wd))
         case first=>
          as_aux_lemma=>
           have k0:=KUr.out.cell 0;cases b2:(u.kind==3)
           ·go_quiet (fail)
            go_wp2;go_meet
            case rel=>exact⟨rfl,zh (below_drewN (Below.refl _ _) _)⟩
           ·go_quiet (fail)
            go_wp2;go_meet
            case rel=>exact⟨rfl,zh (below_drewN (Below.refl _ _) _)⟩
         case rest=>
          as_aux_lemma=>
           obtain⟨rfl,hbw⟩:=hcut;have K1r:=zh (keep hbw.out K1r.out);have KUr:=zh (keep hbw.out KUr.out);have HBr:=zh (HBr.out.trans (hbw.out.mono HBr.out.size));have HI:=zh (HI.out.keep hbw.out);clear hbw;go_upto_region 23 with(fail)
           go_quiet (fail)
           have hbw:=zh (below_drewN (Below.refl wc.heap.size wc) nq);have K1r:=zh (keep hbw.out K1r.out);have KUr:=zh (keep hbw.out KUr.out);have HBr:=zh (HBr.out.trans (hbw.out.mono HBr.out.size));have HI:=zh (HI.out.keep hbw.out);clear hbw;go_wp2;go_ret;exact⟨zAj HE.out.symm,HBr.out⟩
     by_cases hz1:ks.length=1
     ·as_aux_lemma=>
       obtain⟨y,hy⟩:∃y,ks[0]?=some y:=⟨_,gE (by omega)⟩
       have hks:ks=[y]:=by
        match ks,hz1,hy with
        |[y'],_,hy=>simpa using hy
       have HYK:=zh hy;obtain⟨e0,he0,hle0,hlt0,hyr⟩:=zUc (HNr.out 0 y (by omega) hy);have HYR:=zh hyr;have HN0:=zh (show(ks.map (endR rs ts))[0]?=some (e0:Int) by rw[List.getElem?_map,hy,<-he0];rfl);have HE:=zh (show endR rs ts (.mk n a0 ks)=zGh rs ts u a0 y e0 by rw[zHp HNB.out HU.out,hks];dsimp only;rw[he0,if_neg (by omega)]);obtain⟨g,rfl,_⟩:=HI.out.num HN0.out;obtain⟨kd,_,_,rfl,_⟩:=HK.out.at_ hy;have l1:((ks.length:Int)==1)=true:=by rw[hz1];rfl
       have l2:((ks.length:Int)==2)=false:=by rw[hz1];rfl
       have l0:(0:Int)<(ks.length:Int):=by omega
       have HNE:=zh (show ks≠[] from fun h=>by rw[h] at l0;simp at l0);have c2:=K1r.out.cell 2;clear hz hz1 hi2 hks hy he0 hyr;go_upto_region 18 with(fail)
       go_quiet (fail)
       have hbq:=below_drewN (Below.refl wr.heap.size wr) nq;have K1r:=kp hbq K1r;have KUr:=kp hbq KUr;have HBr:=jt HBr hbq;have HI:=zh (HI.out.keep hbq);clear hbq c2;generalize wr.drewN nq=w2 at*;go_upto_region 19 with(fail)
       go_cut [89] (fun b wd=>∃q:Bool,b= .bool q/\Hid (q=decide (u.kind=2/\tokI ts (a0:Int) u.sym.toList=true/\y.at_=(a0:Int)+1/\u.right<=zBn rs y.rule))/\Hid (Below w2.heap.size w2 wd))
       case first=>
        as_aux_lemma=>
         obtain⟨c0,c1,c2⟩:=qa K1r;have k0:=KUr.out.cell 0;have k1:=KUr.out.cell 1;obtain⟨_,ad9,e9,hd9,d9⟩:=(HT0.out.keep HBr.out) a0 s HS.out;obtain rfl:=sj e9;clear e9 hd9;obtain⟨kd9,AY,capY,e8,hk9,hYc,_,_,_,Y0,Y1,Y2⟩:=(HK.out.keep HBr.out).at_ HYK.out;obtain rfl:=sj e8;obtain⟨g9,e7,n0⟩:=HI.out.num HN0.out;obtain rfl:g=g9:=by simpa using e7
         simp only[Nat.zero_mul,Addr.add_zero'] at Y0 Y1 Y2;have Hkd:=zh hk9;have HYC:=zh hYc;clear e8 e7 hk9 hYc
         by_cases p1:u.kind=2
         ·have b2:(u.kind==2)=true:=beq_iff_eq.2 p1;cases t1:(s.toList==u.sym.toList)
          ·go_quiet (fail)
           go_wp2;go_meet
           case rel=>exact⟨false,rfl,zh (decide_eq_false (fun h=>by rw[HTK.out,t1] at h;exact absurd h.2.1 (by simp))).symm,zh (below_drewN (Below.refl _ _) _)⟩
          ·by_cases p3:y.at_=(a0:Int)+1
           ·have t2:(y.at_==(a0:Int)+1)=true:=beq_iff_eq.2 p3;have P3:=zh p3;clear p3;refine zBj (by kernel_rfl) (by kernel_rfl) ?_;have EC1:=fun e:Ext w2=>(keep e.bel K1r.out).cell 1
            have EC2:=fun e:Ext w2=>(keep e.bel K1r.out).cell 2
            have EU0:=fun e:Ext w2=>(keep e.bel KUr.out).cell 0
            have EU1:=fun e:Ext w2=>(keep e.bel KUr.out).cell 1
            have EU4:=fun e:Ext w2=>(keep e.bel KUr.out).cell 4
            have EU5:=fun e:Ext w2=>(keep e.bel KUr.out).cell 5
            have EY0:=fun e:Ext w2=>e.cell (p:=kd) Hkd.out Y0
            have EY1:=fun e:Ext w2=>e.cell (p:=⟨kd.block,kd.off+1,none⟩) Hkd.out Y1
            have EY2:=fun e:Ext w2=>e.cell (p:=⟨kd.block,kd.off+2,none⟩) Hkd.out Y2
            have EN0:=fun e:Ext w2=>show e.val.cell? ⟨g,0,none⟩=some (qI (e0:Int)) from by obtain⟨g9,e7,nq⟩:=(HI.out.keep e.bel).num HN0.out;obtain rfl:g=g9:=(by simpa using e7);exact nq
            have ETa0:=fun e:Ext w2=>show e.val.cell? (ad.add a0)=some (.string s) from by obtain⟨_,ad9,e9,_,dq⟩:=((HT0.out.keep HBr.out).keep e.bel) a0 s HS.out;obtain rfl:=sj e9;exact dq
            have HCY:=zh (fun e:Ext w2=>Calls.ext (zE5 _ (some ad2) cap rs y _ e.val ((HR0.out.keep HBr.out).keep e.bel) (HYC.out.keep e.bel) HYR.out))
            repeat (go_big_quiet_step (fail))
            go_big_quiet_step ((rename_i e;exact HCY.out e))
            repeat (go_big_quiet_step (fail))
            refine wpQuiet_nil ?_;intro wq hwq;obtain⟨⟨w9,hb⟩,e9⟩:=hwq;dsimp only at e9;subst e9;go_wp2;go_meet
            case rel=>exact⟨_,rfl,zh (decide_eq_decide.2 ⟨fun h=>⟨p1,by rw[HTK.out,t1],P3.out,h⟩,fun h=>h.2.2.2⟩),zh hb⟩
           ·have t2:(y.at_==(a0:Int)+1)=false:=bn p3
            go_quiet (fail)
            go_wp2;go_meet
            case rel=>exact⟨false,rfl,zh (decide_eq_false (fun h=>p3 h.2.2.1)).symm,zh (below_drewN (Below.refl _ _) _)⟩
         ·have b2:(u.kind==2)=false:=bn p1
          go_quiet (fail)
          go_wp2;go_meet
          case rel=>exact⟨false,rfl,zh (decide_eq_false (fun h=>p1 h.1)).symm,zh (below_drewN (Below.refl _ _) _)⟩
       case rest=>
        as_aux_lemma=>
         obtain⟨q,rfl,HQ,hbw⟩:=hcut;have K1r:=zh (keep hbw.out K1r.out);have KUr:=zh (keep hbw.out KUr.out);have HBr:=zh (HBr.out.trans (hbw.out.mono HBr.out.size));have HI:=zh (HI.out.keep hbw.out);clear hbw;have HP:=HQ;cases q
         ·go_upto_region 21 with(fail)
          go_cut [131] (fun b wd=>∃q:Bool,b= .bool q/\Hid (q=decide (u.kind=3/\y.at_=(a0:Int)/\(e0:Int)<(ts.length:Int)/\tokI ts (e0:Int) u.sym.toList=true/\u.left<=zBn rs y.rule))/\Hid (Below wc.heap.size wc wd))
          case first=>
           as_aux_lemma=>
            obtain⟨c0,c1,c2⟩:=qa K1r;have k0:=KUr.out.cell 0;have k1:=KUr.out.cell 1;obtain⟨_,ad9,e9,hd9,d9⟩:=(HT0.out.keep HBr.out) a0 s HS.out;obtain rfl:=sj e9;clear e9 hd9;obtain⟨kd9,AY,capY,e8,hk9,hYc,_,_,_,Y0,Y1,Y2⟩:=(HK.out.keep HBr.out).at_ HYK.out;obtain rfl:=sj e8;obtain⟨g9,e7,n0⟩:=HI.out.num HN0.out;obtain rfl:g=g9:=by simpa using e7
            simp only[Nat.zero_mul,Addr.add_zero'] at Y0 Y1 Y2;have Hkd:=zh hk9;have HYC:=zh hYc;clear e8 e7 hk9 hYc
            by_cases p1:u.kind=3
            ·have b2:(u.kind==3)=true:=beq_iff_eq.2 p1
             by_cases p3:y.at_=(a0:Int)
             ·have t2:(y.at_==(a0:Int))=true:=beq_iff_eq.2 p3;have P3:=zh p3;clear p3
              by_cases p4:e0<ts.length
              ·obtain⟨s2,hs2⟩:∃s2,ts[e0]?=some s2:=⟨_,gE (by omega)⟩
               have HTE:=zh (fun q:List UInt8=>show tokI ts (e0:Int) q=(s2.toList==q) by rw[zCn];unfold tokB;rw[hs2]);have HS2:=zh hs2;clear hs2;obtain⟨_,ad8,e9,hd8,d8⟩:=(HT0.out.keep HBr.out) e0 s2 HS2.out;obtain rfl:=sj e9;clear e9 hd8;have i1:(0:Int)<=(e0:Int):=by omega
               have i2:(e0:Int)<(ts.length:Int):=by omega
               cases t1:(s2.toList==u.sym.toList)
               ·go_quiet (fail)
                go_wp2;go_meet
                case rel=>exact⟨false,rfl,zh (decide_eq_false (fun h=>by rw[HTE.out,t1] at h;exact absurd h.2.2.2.1 (by simp))).symm,zh (below_drewN (Below.refl _ _) _)⟩
               ·refine zBj (by kernel_rfl) (by kernel_rfl) ?_;have EC1:=fun e:Ext wc=>(keep e.bel K1r.out).cell 1
                have EC2:=fun e:Ext wc=>(keep e.bel K1r.out).cell 2
                have EU0:=fun e:Ext wc=>(keep e.bel KUr.out).cell 0
                have EU1:=fun e:Ext wc=>(keep e.bel KUr.out).cell 1
                have EU4:=fun e:Ext wc=>(keep e.bel KUr.out).cell 4
                have EU5:=fun e:Ext wc=>(keep e.bel KUr.out).cell 5
                have EY0:=fun e:Ext wc=>e.cell (p:=kd) Hkd.out Y0
                have EY1:=fun e:Ext wc=>e.cell (p:=⟨kd.block,kd.off+1,none⟩) Hkd.out Y1
                have EY2:=fun e:Ext wc=>e.cell (p:=⟨kd.block,kd.off+2,none⟩) Hkd.out Y2
                have EN0:=fun e:Ext wc=>show e.val.cell? ⟨g,0,none⟩=some (qI (e0:Int)) from by obtain⟨g9,e7,nq⟩:=(HI.out.keep e.bel).num HN0.out;obtain rfl:g=g9:=(by simpa using e7);exact nq
                have ETe0:=fun e:Ext wc=>show e.val.cell? (ad.add e0)=some (.string s2) from by obtain⟨_,ad9,e9,_,dq⟩:=((HT0.out.keep HBr.out).keep e.bel) e0 s2 HS2.out;obtain rfl:=sj e9;exact dq
                have HCY:=zh (fun e:Ext wc=>Calls.ext (zE5 _ (some ad2) cap rs y _ e.val ((HR0.out.keep HBr.out).keep e.bel) (HYC.out.keep e.bel) HYR.out))
                repeat (go_big_quiet_step (fail))
                go_big_quiet_step ((rename_i e;exact HCY.out e))
                repeat (go_big_quiet_step (fail))
                refine wpQuiet_nil ?_;intro wq hwq;obtain⟨⟨w9,hb⟩,e9⟩:=hwq;dsimp only at e9;subst e9;go_wp2;go_meet
                case rel=>exact⟨_,rfl,zh (decide_eq_decide.2 ⟨fun h=>⟨p1,P3.out,by omega,by rw[HTE.out,t1],h⟩,fun h=>h.2.2.2.2⟩),zh hb⟩
              ·have i2:¬(e0:Int)<(ts.length:Int):=by omega
               go_quiet (fail)
               go_wp2;go_meet
               case rel=>exact⟨false,rfl,zh (decide_eq_false (fun h=>by have:=h.2.2.1;omega)).symm,zh (below_drewN (Below.refl _ _) _)⟩
             ·have t2:(y.at_==(a0:Int))=false:=bn p3
              go_quiet (fail)
              go_wp2;go_meet
              case rel=>exact⟨false,rfl,zh (decide_eq_false (fun h=>p3 h.2.1)).symm,zh (below_drewN (Below.refl _ _) _)⟩
            ·have b2:(u.kind==3)=false:=bn p1
             go_quiet (fail)
             go_wp2;go_meet
             case rel=>exact⟨false,rfl,zh (decide_eq_false (fun h=>p1 h.1)).symm,zh (below_drewN (Below.refl _ _) _)⟩
          case rest=>
           as_aux_lemma=>
            obtain⟨q,rfl,HQ,hbw⟩:=hcut;have K1r:=zh (keep hbw.out K1r.out);have KUr:=zh (keep hbw.out KUr.out);have HBr:=zh (HBr.out.trans (hbw.out.mono HBr.out.size));have HI:=zh (HI.out.keep hbw.out);clear hbw;cases q
            ·as_aux_lemma=>
              have HE2:=zh (HE.out.trans (by unfold zGh;rw[if_neg (of_decide_eq_false HP.out.symm),if_neg (of_decide_eq_false HQ.out.symm)]):endR rs ts (.mk n a0 ks)= -1);go_upto_region 23 with(fail)
              go_quiet (fail)
              have hbw:=zh (below_drewN (Below.refl wc.heap.size wc) nq);have K1r:=zh (keep hbw.out K1r.out);have KUr:=zh (keep hbw.out KUr.out);have HBr:=zh (HBr.out.trans (hbw.out.mono HBr.out.size));have HI:=zh (HI.out.keep hbw.out);clear hbw;go_wp2;go_ret;exact⟨zAj HE2.out.symm,HBr.out⟩
            ·obtain⟨g9,e7,n0⟩:=HI.out.num HN0.out;obtain rfl:g=g9:=by simpa using e7
             clear e7;have HE2:=zh (HE.out.trans (by unfold zGh;rw[if_neg (of_decide_eq_false HP.out.symm),if_pos (of_decide_eq_true HQ.out.symm)]):endR rs ts (.mk n a0 ks)=(e0:Int)+1);go_wp2;go_ret;exact⟨zAj HE2.out.symm,HBr.out⟩
         ·obtain⟨g9,e7,n0⟩:=HI.out.num HN0.out;obtain rfl:g=g9:=by simpa using e7
          clear e7;have HE2:=zh (HE.out.trans (by unfold zGh;rw[if_pos (of_decide_eq_true HP.out.symm)]):endR rs ts (.mk n a0 ks)=(e0:Int));go_wp2;go_ret;exact⟨zAj HE2.out.symm,HBr.out⟩
     have hz2:ks.length=2:=by omega
     obtain⟨y,hy⟩:∃y,ks[0]?=some y:=⟨_,gE (by omega)⟩
     obtain⟨z',hz'⟩:∃z',ks[1]?=some z':=⟨_,gE (by omega)⟩
     have hks:ks=[y,z']:=by
      match ks,hz2,hy,hz' with
      |[y1,z1],_,hy,hz'=>simp at hy hz';rw[hy,hz']
     have HYK:=zh hy;have HZK:=zh hz';obtain⟨e0,he0,hle0,hlt0,hyr⟩:=zUc (HNr.out 0 y (by omega) hy);obtain⟨e1,he1,hle1,hlt1,hzr⟩:=zUc (HNr.out 1 z' (by omega) hz');have HYR:=zh hyr;have HZR:=zh hzr;have HN0:=zh (show(ks.map (endR rs ts))[0]?=some (e0:Int) by rw[List.getElem?_map,hy,<-he0];rfl);have HN1:=zh (show(ks.map (endR rs ts))[1]?=some (e1:Int) by rw[List.getElem?_map,hz',<-he1];rfl);have HE:=zh (show endR rs ts (.mk n a0 ks)=zFv rs ts u a0 y z' e0 e1 by rw[zHp HNB.out HU.out,hks];dsimp only;rw[he0,he1,if_neg (by omega),if_neg (by omega)]);obtain⟨g,rfl,_⟩:=HI.out.num HN0.out;obtain⟨kd,_,_,rfl,_⟩:=HK.out.at_ hy;have l1:((ks.length:Int)==1)=false:=by rw[hz2];rfl
     have l2:((ks.length:Int)==2)=true:=by rw[hz2];rfl
     have l0:(0:Int)<(ks.length:Int):=by omega
     have l9:(1:Int)<(ks.length:Int):=by omega
     have HNE:=zh (show ks≠[] from fun h=>by rw[h] at l0;simp at l0);have HN2:=zh (show 1<ks.length by omega);have c2:=K1r.out.cell 2;clear hz hz1 hz2 hi2 hks hy hz' he0 he1 hyr hzr;go_upto_region 18 with(fail)
     go_quiet (fail)
     have hbw:=zh (below_drewN (Below.refl wr.heap.size wr) nq);have K1r:=zh (keep hbw.out K1r.out);have KUr:=zh (keep hbw.out KUr.out);have HBr:=zh (HBr.out.trans (hbw.out.mono HBr.out.size));have HI:=zh (HI.out.keep hbw.out);clear hbw;generalize wr.drewN nq=w2 at*;go_upto_region 19 with(fail)
     go_cut [89] (fun b wd=>b= .bool false/\Hid (Below w2.heap.size w2 wd))
     case first=>
      as_aux_lemma=>
       have k0:=KUr.out.cell 0;cases b2:(u.kind==2)
       ·go_quiet (fail)
        go_wp2;go_meet
        case rel=>exact⟨rfl,zh (below_drewN (Below.refl _ _) _)⟩
       ·go_quiet (fail)
        go_wp2;go_meet
        case rel=>exact⟨rfl,zh (below_drewN (Below.refl _ _) _)⟩
     case rest=>
      as_aux_lemma=>
       obtain⟨rfl,hbw⟩:=hcut;have K1r:=zh (keep hbw.out K1r.out);have KUr:=zh (keep hbw.out KUr.out);have HBr:=zh (HBr.out.trans (hbw.out.mono HBr.out.size));have HI:=zh (HI.out.keep hbw.out);clear hbw;go_upto_region 21 with(fail)
       go_cut [131] (fun b wd=>b= .bool false/\Hid (Below wc.heap.size wc wd))
       case first=>
        as_aux_lemma=>
         have k0:=KUr.out.cell 0;cases b2:(u.kind==3)
         ·go_quiet (fail)
          go_wp2;go_meet
          case rel=>exact⟨rfl,zh (below_drewN (Below.refl _ _) _)⟩
         ·go_quiet (fail)
          go_wp2;go_meet
          case rel=>exact⟨rfl,zh (below_drewN (Below.refl _ _) _)⟩
       case rest=>
        as_aux_lemma=>
         obtain⟨rfl,hbw⟩:=hcut;have K1r:=zh (keep hbw.out K1r.out);have KUr:=zh (keep hbw.out KUr.out);have HBr:=zh (HBr.out.trans (hbw.out.mono HBr.out.size));have HI:=zh (HI.out.keep hbw.out);clear hbw;go_upto_region 23 with(fail)
         go_cut [182] (fun b wd=>∃q:Bool,b= .bool q/\Hid (q=decide (y.at_≠(a0:Int)\/zBn rs y.rule<u.left\/zBn rs z'.rule<u.right))/\Hid (Below wc.heap.size wc wd))
         case first=>
          as_aux_lemma=>
           obtain⟨c0,c1,c2⟩:=qa K1r;have k0:=KUr.out.cell 0;have k1:=KUr.out.cell 1;obtain⟨kd9,AY,capY,e8,hk9,hYc,_,_,_,Y0,Y1,Y2⟩:=(HK.out.keep HBr.out).at_ HYK.out;obtain rfl:=sj e8;obtain⟨kd8,AZ,capZ,e5,hk8,hZc,_,_,_,Z0,Z1,Z2⟩:=(HK.out.keep HBr.out).at_ HZK.out;obtain rfl:=sj e5;obtain⟨g9,e7,n0⟩:=HI.out.num HN0.out;obtain rfl:g=g9:=by simpa using e7
           obtain⟨g8,e6,n1⟩:=HI.out.num HN1.out;obtain rfl:g=g8:=by simpa using e6
           simp only[Nat.zero_mul,Nat.one_mul,Addr.add_zero'] at Y0 Y1 Y2 Z0 Z1 Z2;replace Z1:wc.cell? ⟨kd.block,kd.off+3+1,none⟩=some (qI z'.at_):=Z1;have Hkd:=zh hk9;have HYC:=zh hYc;have HZC:=zh hZc;clear e8 e7 e6 e5 hk9 hk8 hYc hZc
           by_cases p3:y.at_=(a0:Int)
           ·have t2:(y.at_==(a0:Int))=true:=beq_iff_eq.2 p3;have t3:(y.at_ !=(a0:Int))=false:=by unfold bne;rw[t2];rfl
            have P3:=zh p3;clear p3
            by_cases p4:zBn rs y.rule<u.left
            ·have s1:decide (zBn rs y.rule<u.left)=true:=decide_eq_true p4;refine zBj (by kernel_rfl) (by kernel_rfl) ?_;have EC1:=fun e:Ext wc=>(keep e.bel K1r.out).cell 1
             have EC2:=fun e:Ext wc=>(keep e.bel K1r.out).cell 2
             have EU0:=fun e:Ext wc=>(keep e.bel KUr.out).cell 0
             have EU4:=fun e:Ext wc=>(keep e.bel KUr.out).cell 4
             have EU5:=fun e:Ext wc=>(keep e.bel KUr.out).cell 5
             have EY0:=fun e:Ext wc=>e.cell (p:=kd) Hkd.out Y0
             have EY1:=fun e:Ext wc=>e.cell (p:=⟨kd.block,kd.off+1,none⟩) Hkd.out Y1
             have EY2:=fun e:Ext wc=>e.cell (p:=⟨kd.block,kd.off+2,none⟩) Hkd.out Y2
             have EZ0:=fun e:Ext wc=>e.cell (p:=⟨kd.block,kd.off+3,none⟩) Hkd.out Z0
             have EZ1:=fun e:Ext wc=>e.cell (p:=⟨kd.block,kd.off+3+1,none⟩) Hkd.out Z1
             have EZ2:=fun e:Ext wc=>e.cell (p:=⟨kd.block,kd.off+3+2,none⟩) Hkd.out Z2
             have HCY:=zh (fun e:Ext wc=>Calls.ext (zE5 _ (some ad2) cap rs y _ e.val ((HR0.out.keep HBr.out).keep e.bel) (HYC.out.keep e.bel) HYR.out));have HCZ:=zh (fun e:Ext wc=>Calls.ext (zE5 _ (some ad2) cap rs z' _ e.val ((HR0.out.keep HBr.out).keep e.bel) (HZC.out.keep e.bel) HZR.out))
             repeat (go_big_quiet_step (fail))
             go_big_quiet_step ((rename_i e;exact HCY.out e))
             repeat (go_big_quiet_step (fail))
             refine wpQuiet_nil ?_;intro wq hwq;obtain⟨⟨w9,hb⟩,e9⟩:=hwq;dsimp only at e9;subst e9;go_wp2;go_meet
             case rel=>exact⟨true,rfl,zh (decide_eq_true (.inr (.inl p4))).symm,zh hb⟩
            ·have s1:decide (zBn rs y.rule<u.left)=false:=decide_eq_false p4;refine zBj (by kernel_rfl) (by kernel_rfl) ?_;have EC1:=fun e:Ext wc=>(keep e.bel K1r.out).cell 1
             have EC2:=fun e:Ext wc=>(keep e.bel K1r.out).cell 2
             have EU0:=fun e:Ext wc=>(keep e.bel KUr.out).cell 0
             have EU4:=fun e:Ext wc=>(keep e.bel KUr.out).cell 4
             have EU5:=fun e:Ext wc=>(keep e.bel KUr.out).cell 5
             have EY0:=fun e:Ext wc=>e.cell (p:=kd) Hkd.out Y0
             have EY1:=fun e:Ext wc=>e.cell (p:=⟨kd.block,kd.off+1,none⟩) Hkd.out Y1
             have EY2:=fun e:Ext wc=>e.cell (p:=⟨kd.block,kd.off+2,none⟩) Hkd.out Y2
             have EZ0:=fun e:Ext wc=>e.cell (p:=⟨kd.block,kd.off+3,none⟩) Hkd.out Z0
             have EZ1:=fun e:Ext wc=>e.cell (p:=⟨kd.block,kd.off+3+1,none⟩) Hkd.out Z1
             have EZ2:=fun e:Ext wc=>e.cell (p:=⟨kd.block,kd.off+3+2,none⟩) Hkd.out Z2
             have HCY:=zh (fun e:Ext wc=>Calls.ext (zE5 _ (some ad2) cap rs y _ e.val ((HR0.out.keep HBr.out).keep e.bel) (HYC.out.keep e.bel) HYR.out));have HCZ:=zh (fun e:Ext wc=>Calls.ext (zE5 _ (some ad2) cap rs z' _ e.val ((HR0.out.keep HBr.out).keep e.bel) (HZC.out.keep e.bel) HZR.out))
             repeat (go_big_quiet_step (fail))
             go_big_quiet_step ((rename_i e;exact HCY.out e))
             repeat (go_big_quiet_step (fail))
             go_big_quiet_step ((rename_i e;exact HCZ.out e))
             repeat (go_big_quiet_step (fail))
             refine wpQuiet_nil ?_;intro wq hwq;obtain⟨⟨w9,hb⟩,e9⟩:=hwq;dsimp only at e9;subst e9;go_wp2;go_meet
             case rel=>exact⟨_,rfl,zh (decide_eq_decide.2 ⟨fun h=>.inr (.inr h),fun h=>by rcases h with h|h|h;exact absurd P3.out h;omega;exact h⟩),zh hb⟩
           ·have t2:(y.at_==(a0:Int))=false:=bn p3;have t3:(y.at_ !=(a0:Int))=true:=by unfold bne;rw[t2];rfl
            go_quiet (fail)
            go_wp2;go_meet
            case rel=>exact⟨true,rfl,zh (decide_eq_true (.inl p3)).symm,zh (below_drewN (Below.refl _ _) _)⟩
         case rest=>
          as_aux_lemma=>
           obtain⟨q,rfl,HQ,hbw⟩:=hcut;have K1r:=zh (keep hbw.out K1r.out);have KUr:=zh (keep hbw.out KUr.out);have HBr:=zh (HBr.out.trans (hbw.out.mono HBr.out.size));have HI:=zh (HI.out.keep hbw.out);clear hbw;cases q
           case true=>
            have HE2:=zh (HE.out.trans (by unfold zFv;rw[if_pos (of_decide_eq_true HQ.out.symm)]):endR rs ts (.mk n a0 ks)= -1);go_wp2;go_ret;exact⟨zAj HE2.out.symm,HBr.out⟩
           have HS2:=HQ;go_upto_region 25 with(fail)
           go_cut [217] (fun b wd=>∃q:Bool,b= .bool q/\Hid (q=decide (u.kind=1/\z'.at_=(e0:Int)+1/\tokI ts (e0:Int) u.sym.toList=true))/\Hid (Below wc.heap.size wc wd))
           case first=>
            as_aux_lemma=>
             obtain⟨c0,c1,c2⟩:=qa K1r;have k0:=KUr.out.cell 0;have k1:=KUr.out.cell 1;obtain⟨kd9,AY,capY,e8,hk9,hYc,_,_,_,Y0,Y1,Y2⟩:=(HK.out.keep HBr.out).at_ HYK.out;obtain rfl:=sj e8;obtain⟨kd8,AZ,capZ,e5,hk8,hZc,_,_,_,Z0,Z1,Z2⟩:=(HK.out.keep HBr.out).at_ HZK.out;obtain rfl:=sj e5;obtain⟨g9,e7,n0⟩:=HI.out.num HN0.out;obtain rfl:g=g9:=by simpa using e7
             obtain⟨g8,e6,n1⟩:=HI.out.num HN1.out;obtain rfl:g=g8:=by simpa using e6
             simp only[Nat.zero_mul,Nat.one_mul,Addr.add_zero'] at Y0 Y1 Y2 Z0 Z1 Z2;replace Z1:wc.cell? ⟨kd.block,kd.off+3+1,none⟩=some (qI z'.at_):=Z1;have Hkd:=zh hk9;have HYC:=zh hYc;have HZC:=zh hZc;clear e8 e7 e6 e5 hk9 hk8 hYc hZc
             by_cases p1:u.kind=1
             ·have b2:(u.kind==1)=true:=beq_iff_eq.2 p1
              by_cases p3:z'.at_=(e0:Int)+1
              ·have t2:(z'.at_==(e0:Int)+1)=true:=beq_iff_eq.2 p3;obtain⟨s2,hs2⟩:∃s2,ts[e0]?=some s2:=⟨_,gE (by omega)⟩
               have HTE:=zh (fun q:List UInt8=>show tokI ts (e0:Int) q=(s2.toList==q) by rw[zCn];unfold tokB;rw[hs2]);have HS2':=zh hs2;clear hs2;obtain⟨_,ad8,e9,hd8,d8⟩:=(HT0.out.keep HBr.out) e0 s2 HS2'.out;obtain rfl:=sj e9;clear e9 hd8;have i1:(0:Int)<=(e0:Int):=by omega
               have i2:(e0:Int)<(ts.length:Int):=by omega
               cases t1:(s2.toList==u.sym.toList)
               ·go_quiet (fail)
                go_wp2;go_meet
                case rel=>exact⟨false,rfl,zh (decide_eq_false (fun h=>by rw[HTE.out,t1] at h;exact absurd h.2.2 (by simp))).symm,zh (below_drewN (Below.refl _ _) _)⟩
               ·go_quiet (fail)
                go_wp2;go_meet
                case rel=>exact⟨true,rfl,zh (decide_eq_true ⟨p1,p3,by rw[HTE.out,t1]⟩).symm,zh (below_drewN (Below.refl _ _) _)⟩
              ·have t2:(z'.at_==(e0:Int)+1)=false:=bn p3
               go_quiet (fail)
               go_wp2;go_meet
               case rel=>exact⟨false,rfl,zh (decide_eq_false (fun h=>p3 h.2.1)).symm,zh (below_drewN (Below.refl _ _) _)⟩
             ·have b2:(u.kind==1)=false:=bn p1
              go_quiet (fail)
              go_wp2;go_meet
              case rel=>exact⟨false,rfl,zh (decide_eq_false (fun h=>p1 h.1)).symm,zh (below_drewN (Below.refl _ _) _)⟩
           case rest=>
            as_aux_lemma=>
             obtain⟨q,rfl,HQ,hbw⟩:=hcut;have K1r:=zh (keep hbw.out K1r.out);have KUr:=zh (keep hbw.out KUr.out);have HBr:=zh (HBr.out.trans (hbw.out.mono HBr.out.size));have HI:=zh (HI.out.keep hbw.out);clear hbw;cases q
             case true=>
              obtain⟨g8,e6,n1⟩:=HI.out.num HN1.out;obtain rfl:g=g8:=by simpa using e6
              clear e6;have HE2:=zh (HE.out.trans (by unfold zFv;rw[if_neg (of_decide_eq_false HS2.out.symm),if_pos (of_decide_eq_true HQ.out.symm)]):endR rs ts (.mk n a0 ks)=(e1:Int));go_wp2;go_ret;exact⟨zAj HE2.out.symm,HBr.out⟩
             have HR2:=HQ;go_upto_region 27 with(fail)
             go_cut [247] (fun b wd=>∃q:Bool,b= .bool q/\Hid (q=decide (u.kind=4/\z'.at_=(e0:Int)))/\Hid (Below wc.heap.size wc wd))
             case first=>
              as_aux_lemma=>
               obtain⟨c0,c1,c2⟩:=qa K1r;have k0:=KUr.out.cell 0;have k1:=KUr.out.cell 1;obtain⟨kd9,AY,capY,e8,hk9,hYc,_,_,_,Y0,Y1,Y2⟩:=(HK.out.keep HBr.out).at_ HYK.out;obtain rfl:=sj e8;obtain⟨kd8,AZ,capZ,e5,hk8,hZc,_,_,_,Z0,Z1,Z2⟩:=(HK.out.keep HBr.out).at_ HZK.out;obtain rfl:=sj e5;obtain⟨g9,e7,n0⟩:=HI.out.num HN0.out;obtain rfl:g=g9:=by simpa using e7
               obtain⟨g8,e6,n1⟩:=HI.out.num HN1.out;obtain rfl:g=g8:=by simpa using e6
               simp only[Nat.zero_mul,Nat.one_mul,Addr.add_zero'] at Y0 Y1 Y2 Z0 Z1 Z2;replace Z1:wc.cell? ⟨kd.block,kd.off+3+1,none⟩=some (qI z'.at_):=Z1;have Hkd:=zh hk9;have HYC:=zh hYc;have HZC:=zh hZc;clear e8 e7 e6 e5 hk9 hk8 hYc hZc
               by_cases p1:u.kind=4
               ·have b2:(u.kind==4)=true:=beq_iff_eq.2 p1
                by_cases p3:z'.at_=(e0:Int)
                ·have t2:(z'.at_==(e0:Int))=true:=beq_iff_eq.2 p3
                 go_quiet (fail)
                 go_wp2;go_meet
                 case rel=>exact⟨true,rfl,zh (decide_eq_true ⟨p1,p3⟩).symm,zh (below_drewN (Below.refl _ _) _)⟩
                ·have t2:(z'.at_==(e0:Int))=false:=bn p3
                 go_quiet (fail)
                 go_wp2;go_meet
                 case rel=>exact⟨false,rfl,zh (decide_eq_false (fun h=>p3 h.2)).symm,zh (below_drewN (Below.refl _ _) _)⟩
               ·have b2:(u.kind==4)=false:=bn p1
                go_quiet (fail)
                go_wp2;go_meet
                case rel=>exact⟨false,rfl,zh (decide_eq_false (fun h=>p1 h.1)).symm,zh (below_drewN (Below.refl _ _) _)⟩
             case rest=>
              as_aux_lemma=>
               obtain⟨q,rfl,HQ,hbw⟩:=hcut;have K1r:=zh (keep hbw.out K1r.out);have KUr:=zh (keep hbw.out KUr.out);have HBr:=zh (HBr.out.trans (hbw.out.mono HBr.out.size));have HI:=zh (HI.out.keep hbw.out);clear hbw;cases q
               case true=>
                obtain⟨g8,e6,n1⟩:=HI.out.num HN1.out;obtain rfl:g=g8:=by simpa using e6
                clear e6;have HE2:=zh (HE.out.trans (by unfold zFv;rw[if_neg (of_decide_eq_false HS2.out.symm),if_neg (of_decide_eq_false HR2.out.symm),if_pos (of_decide_eq_true HQ.out.symm)]):endR rs ts (.mk n a0 ks)=(e1:Int));go_wp2;go_ret;exact⟨zAj HE2.out.symm,HBr.out⟩
               have HE2:=zh (HE.out.trans (by unfold zFv;rw[if_neg (of_decide_eq_false HS2.out.symm),if_neg (of_decide_eq_false HR2.out.symm),if_neg (of_decide_eq_false HQ.out.symm)]):endR rs ts (.mk n a0 ks)= -1);go_wp2;go_ret;exact⟨zAj HE2.out.symm,HBr.out⟩
end Go.Proofs.YtapgncbegadbnaaGreatDoor.Ch
