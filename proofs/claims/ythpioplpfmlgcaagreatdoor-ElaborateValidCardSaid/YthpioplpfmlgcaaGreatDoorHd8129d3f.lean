/- Terms: Count and Valid of the program; Equal of the reference · Tree of the program · The reference's symbol and tokens · Tokens of the program and of the reference · The law's small functions: short, same, row, plus -/
import Derived.Test.YthpioplpfmlgcaaGreatDoorHf08b71b9
import Derived.Test.YthpioplpfmlgcaaGreatDoorH91468eaf
import Derived.Test.YthpioplpfmlgcaaGreatDoorHba315fb3
import Derived.BigQuiet
import Derived.Deep.DeepCutAuto
import Derived.Deep.CutBlock
import Derived.Test.YthpioplpfmlgcaaGreatDoorH80b80928
import Derived.Test.YthpioplpfmlgcaaGreatDoorH5f6aca22
import Derived.Test.YthpioplpfmlgcaaGreatDoorH9f6b92c3
import Derived.Test.YthpioplpfmlgcaaGreatDoorH45a8d395
namespace Go.Proofs.YthpioplpfmlgcaaGreatDoor.Sp
open Go.Proofs.YthpioplpfmlgcaaGreatDoor.At
open Go.RowKit
theorem chkML_app : ∀ (a b : List Trm) (n : Nat), chkML (a ++ b) n = if (chkML a n).1 = true then chkML b (chkML a n).2 else chkML a n
  | [], b, n => by rw [List.nil_append, show chkML [] n = (true, n) by rw [chkML], if_pos rfl]
  | x :: r, b, n => by
    rw [List.cons_append, chkML, chkML]
    cases h : (chkM x n).1
    · simp
    · rw [if_pos rfl, if_pos rfl, chkML_app r b]
theorem chkML_snoc {ks : List Trm} {j n nj : Nat} {y : Trm} (hy : ks[j]? = some y) (h : chkML (ks.take j) n = (true, nj)) : chkML (ks.take (j + 1)) n = chkM y nj := by
  rw [List.take_add_one, hy, Option.toList, chkML_app, h, if_pos rfl, chkML]
  cases hc : (chkM y nj).1
  · rw [if_neg (by simp)]; rw [← hc]
  · rw [if_pos rfl, chkML]; rw [← hc]
theorem chkML_stop {ks : List Trm} {j n : Nat} (h : (chkML (ks.take j) n).1 = false) : chkML ks n = chkML (ks.take j) n := by
  conv => lhs; rw [← List.take_append_drop j ks]
  rw [chkML_app, h, if_neg (by simp)]
theorem chkM_le (t : Trm) (n : Nat) (h : (chkM t n).1 = true) : (chkM t n).2 ≤ 1000 := by
  obtain ⟨a, b⟩ := chkM_iff t n
  rw [b h]
  exact (a.1 h).2
set_option maxRecDepth 100000 in
set_option maxHeartbeats 1600000 in
theorem valid_any : ∀ (m : Nat) (t : Trm) (p : Addr) (A : Option Addr) (cap gc n : Nat) (w0 w : World), cntM t ≤ m → PtM w0 p t A cap → Below w0.heap.size w0 w → Blk w gc 3 #[.int .i64 (n : Int)] → w0.heap.size ≤ gc → n ≤ 1000 → Calls Tryz.prog 107 #[.pointer (some p), .pointer (some ⟨gc, 0, none⟩)] w fun e w' => e = .returned (.bool (chkM t n).1) ∧ Blk w' gc 3 #[.int .i64 ((chkM t n).2 : Int)] ∧ Below w0.heap.size w0 w' := by
  intro m
  induction m with
  | zero => intro t p A cap gc n w0 w h; have := cnt_pos t; omega
  | succ m ih =>
    intro t p A cap gc n w0 w hm hP hB hC hgc hn
    have IH := Lib.hid ih
    clear ih
    obtain ⟨k, a, v, f, ts⟩ := t
    have HP := Lib.hid hP
    have HZ := Lib.hid (show cntL ts ≤ m by rw [cntM] at hm; omega)
    have HQ0 := Lib.hid (show chkM (.mk k a v f ts) n = if 1000 < n + 1 ∨ ownM k a.data.toList v.data.toList f.data.toList ts.length = false then (false, n + 1) else chkML ts (n + 1) by rw [chkM])
    have f0 := hC.frozen 0
    have f1 := hC.cell 0
    have HC1 := Lib.hid (show Blk (w.setCell ⟨gc, 0, none⟩ (.int .i64 ((n : Int) + 1))) gc 3 #[.int .i64 ((n + 1 : Nat) : Int)] from hC.set_ 0 (.int .i64 ((n : Int) + 1)))
    have HB1 := Lib.hid (hB.setCell (p := ⟨gc, 0, none⟩) hgc (.int .i64 ((n : Int) + 1)))
    have HGC := Lib.hid hgc
    clear hP hB hC hm hgc
    have f2 := HC1.out.cell 0

    go_enter Tryz.func107, Tryz.ntmps107
    by_cases h1 : 1000 < n + 1
    · have HQ := Lib.hid (show chkM (.mk k a v f ts) n = (false, n + 1) by rw [HQ0.out, if_pos (.inl h1)])
      go_wp2_with fail
      go_ret
      exact ⟨ret_bool (by rw [HQ.out]), by rw [HQ.out]; exact HC1.out, HB1.out⟩
    go_wp2_with fail
    generalize w.setCell ⟨gc, 0, none⟩ (.int .i64 ((n : Int) + 1)) = w1 at *
    clear f0 f1 f2
    refine (own_any _ p A cap w1 (HP.out.keep HB1.out)).mono ?_
    rintro e w2 ⟨rfl, hb⟩
    dsimp only [Trm.kind, Trm.nam, Trm.vr, Trm.form, Trm.args]
    have HC := Lib.hid (keep hb HC1.out)
    have HB := Lib.hid (HB1.out.trans (hb.mono HB1.out.size))
    clear hb HC1 HB1
    cases ho : ownM k a.data.toList v.data.toList f.data.toList ts.length
    · have HQ := Lib.hid (show chkM (.mk k a v f ts) n = (false, n + 1) by rw [HQ0.out, if_pos (.inr ho)])
      clear ho
      go_wp2_with fail
      go_ret
      exact ⟨ret_bool (by rw [HQ.out]), by rw [HQ.out]; exact HC.out, HB.out⟩
    rw [if_neg (by rintro (h | h); exact h1 h; rw [ho] at h; cases h)] at HQ0
    clear ho
    obtain ⟨-, -, -, -, c3, -, -, -, -, hl, hc, -⟩ := HP.out.keep HB.out
    dsimp only [Trm.kind, Trm.nam, Trm.vr, Trm.form, Trm.args] at c3 hl
    go_wp2_with fail
    clear c3
    go_loopw [25] (fun i wr => ∃ (j nj : Nat), j ≤ ts.length ∧ i = .int .i64 j ∧ nj ≤ 1000 ∧ Hid (chkML (ts.take j) (n + 1) = (true, nj)) ∧ Hid (Blk wr gc 3 #[.int .i64 (nj : Int)]) ∧ Hid (Below w0.heap.size w0 wr)) (fun i _ => ts.length - (intOf i).toNat)
    case atStart => exact ⟨0, n + 1, by omega, rfl, by omega, (by rw [List.take_zero]; show chkML [] (n + 1) = _; rw [chkML]), HC, HB⟩
    case round =>
      clear HC HB
      obtain ⟨j, nj, hj, rfl, hnj, HJ, HC, HB⟩ := hrel
      by_cases hlt : j < ts.length
      · obtain ⟨y, hy⟩ : ∃ y, ts[j]? = some y := ⟨_, List.getElem?_eq_getElem hlt⟩
        obtain ⟨-, -, -, -, c3, -, -, -, -, -, -, hka⟩ := HP.out.keep HB.out
        dsimp only [Trm.kind, Trm.nam, Trm.vr, Trm.form, Trm.args] at c3 hka
        obtain ⟨ad, A', cap', rfl, hadl, hp⟩ := hka.at_ hy
        have HY : Hid (PtM w0 (ad.add (j * 5)) y A' cap') := by
          obtain ⟨-, -, -, -, -, -, -, -, -, -, -, hk0⟩ := HP.out
          dsimp only [Trm.args] at hk0
          obtain ⟨ad', A'', cap'', e1, hadl', hp'⟩ := hk0.at_ hy
          obtain rfl := Option.some.inj e1
          have e3 := hp'.keep HB.out
          obtain ⟨-, -, -, -, q, -⟩ := e3
          obtain ⟨-, -, -, -, q', -⟩ := hp
          rw [q] at q'
          injection q' with q'
          injection q' with q1 _ q2
          subst q1; subst q2
          exact hp'
        have HS := Lib.hid (show cntM y ≤ m by have := cnt_arg hy; have := HZ.out; omega)
        have HSN := Lib.hid (chkML_snoc hy HJ.out)
        have HST := Lib.hid (fun h => chkML_stop (ks := ts) (j := j + 1) (n := n + 1) h)
        have HLE := Lib.hid (chkM_le y nj)
        clear hy hka hp
        go_wp2_with fail
        refine (IH.out y _ A' cap' gc nj w0 wr HS.out HY.out HB.out HC.out HGC.out hnj).mono ?_
        rintro e w4 ⟨rfl, hC4, hB4⟩
        have HC := Lib.hid hC4
        have HB := Lib.hid hB4
        clear hC4 hB4 c3
        cases hr : (chkM y nj).1
        · have HQ := Lib.hid (show chkM (.mk k a v f ts) n = (false, (chkM y nj).2) by rw [HQ0.out, HST.out (by rw [HSN.out, hr]), HSN.out, ← hr])
          clear hr
          go_wp2_with fail
          go_ret
          exact ⟨ret_bool (by rw [HQ.out]), by rw [HQ.out]; exact HC.out, HB.out⟩
        · have HJ2 := Lib.hid (show chkML (ts.take (j + 1)) (n + 1) = (true, (chkM y nj).2) by rw [HSN.out, ← hr])
          have hle := HLE.out hr
          clear hr
          generalize (chkM y nj).2 = n2 at *
          go_wp2_with fail
          go_roundw
          case rel => exact ⟨j + 1, n2, by omega, by go_num, hle, HJ2, HC, HB⟩
          case measure => simp [intOf]; omega
      · obtain rfl : j = ts.length := by omega
        rw [List.take_length] at HJ
        have HQ := Lib.hid (show chkM (.mk k a v f ts) n = (true, nj) by rw [HQ0.out, HJ.out])
        go_wp2_with fail
        go_ret
        exact ⟨ret_bool (by rw [HQ.out]), by rw [HQ.out]; exact HC.out, HB.out⟩
def cntI (t : Trm) : Int := if validM t = true then (cntM t : Int) else 0
set_option maxRecDepth 100000 in
set_option maxHeartbeats 800000 in
theorem count_any (t : Trm) (c : Array Value) (w : World) (hM : MAt w t c) : Calls Tryz.prog 69 #[.agg c] w fun e w' => e = .returned (.int .i64 (cntI t)) ∧ Below w.heap.size w w' := by
  obtain ⟨A, cap, rfl, ha, hv, hf, hl, hc, hk⟩ := hM.form
  have HB := Lib.hid (bel_alloc w (.cells (trmC t.kind t.nam t.vr A t.args.length cap t.form) 31))
  have K1 := Lib.hid (Blk.new w 31 (trmC t.kind t.nam t.vr A t.args.length cap t.form))
  have HP := Lib.hid (PtM.box K1.out ha hv hf hl hc (hk.keep HB.out))
  have HVC := Lib.hid (validM_chk t)
  have HCC := Lib.hid (@chk_count t)
  clear hM hk
  dsimp only [trmC] at HB K1 HP
  go_enter Tryz.func69, Tryz.ntmps69
  go_wp2_with fail
  have HG := Lib.hid (show (w.alloc (.cells (trmC t.kind t.nam t.vr A t.args.length cap t.form) 31)).heap.size = w.heap.size + 1 by simp)
  dsimp only [trmC] at HG
  generalize w.alloc (.cells #[.int .i64 t.kind, .string t.nam, .string t.vr, .slice A t.args.length cap, .string t.form] 31) = w1 at *
  have KC := Lib.hid (show Blk (w1.alloc (.cells #[.int .i64 0] 3)) (w.heap.size + 1) 3 #[.int .i64 ((0 : Nat) : Int)] by rw [← HG.out]; exact Blk.new w1 3 #[.int .i64 0])
  have H1 := Lib.hid (bel_alloc w1 (.cells #[.int .i64 0] 3))
  have HGE := Lib.hid (show w1.heap.size ≤ w.heap.size + 1 by rw [HG.out]; exact Nat.le_refl _)
  generalize w1.alloc (.cells #[.int .i64 0] 3) = w2 at *
  refine (valid_any (cntM t) t _ A cap (w.heap.size + 1) 0 w1 w2 (Nat.le_refl _) HP.out H1.out KC.out HGE.out (by omega)).mono ?_
  rintro e w4 ⟨rfl, hC4, hB4⟩
  have HB := Lib.hid (HB.out.trans (hB4.mono HB.out.size))
  have c0 := hC4.cell 0
  clear hB4 hC4
  rw [HVC.out]
  cases hval : validM t
  · have HE := Lib.hid (show cntI t = 0 by unfold cntI; rw [if_neg (by rw [hval]; simp)])
    clear hval
    go_wp2_with fail
    go_ret
    exact ⟨ret_int HE.out.symm, HB.out⟩
  · rw [HCC.out hval] at c0
    have HE := Lib.hid (show cntI t = cntM t by unfold cntI; rw [if_pos hval])
    clear hval
    go_wp2_with fail
    go_ret
    exact ⟨ret_int HE.out.symm, HB.out⟩
set_option maxRecDepth 100000 in
set_option maxHeartbeats 800000 in
theorem tvalid_any (t : Trm) (c : Array Value) (w : World) (hM : MAt w t c) : Calls Tryz.prog 38 #[.agg c] w fun e w' => e = .returned (.bool (validM t)) ∧ Below w.heap.size w w' := by
  obtain ⟨A, cap, rfl, ha, hv, hf, hl, hc, hk⟩ := hM.form
  have HM := Lib.hid (hM.keep (bel_alloc w (.cells (trmC t.kind t.nam t.vr A t.args.length cap t.form) 31)))
  have HB := Lib.hid (bel_alloc w (.cells (trmC t.kind t.nam t.vr A t.args.length cap t.form) 31))
  have K1 := Lib.hid (Blk.new w 31 (trmC t.kind t.nam t.vr A t.args.length cap t.form))
  have hpos := cnt_pos t
  have HI := Lib.hid (show cntI t = if validM t = true then (cntM t : Int) else 0 from rfl)
  clear hM hk
  dsimp only [trmC] at HM HB K1
  go_enter Tryz.func38, Tryz.ntmps38
  go_wp2_with fail
  refine (count_any t _ _ HM.out).mono ?_
  rintro e w2 ⟨rfl, hb⟩
  have HB := Lib.hid (HB.out.trans (hb.mono HB.out.size))
  clear hb
  cases hval : validM t
  · have HVV := Lib.hid hval
    rw [hval, if_neg (by simp)] at HI
    rw [HI.out]
    clear hval
    go_wp2_with fail
    go_ret
    exact ⟨ret_bool (by rw [HVV.out]), HB.out⟩
  · have HVV := Lib.hid hval
    rw [hval, if_pos rfl] at HI
    rw [HI.out]
    clear hval HI
    generalize cntM t = u at *
    go_wp2_with fail
    go_ret
    exact ⟨ret_bool (by rw [HVV.out]; first | rfl | (simp; omega)), HB.out⟩
end Go.Proofs.YthpioplpfmlgcaaGreatDoor.Sp
namespace Go.Proofs.YthpioplpfmlgcaaGreatDoor.El
open Go.Proofs.YthpioplpfmlgcaaGreatDoor.At
open Go.Proofs.YthpioplpfmlgcaaGreatDoor.Ch
open Go.Proofs.YthpioplpfmlgcaaGreatDoor.Sp
open Go.Proofs.YthpioplpfmlgcaaGreatDoor.Sy
open Go.RowKit
theorem list_all (g : Nat) (A : Option Addr) (cap : Nat) (rs : List Rul) (hrc : rs.length ≤ cap) (hcc : cap ≤ 9223372036854775807) : ∀ f, ListC g A cap rs f
  | 0 => fun _ _ _ _ _ _ _ _ _ _ _ _ _ _ h => absurd h (by omega)
  | f + 1 => list_step g A cap rs hrc hcc f (list_all g A cap rs hrc hcc f)
/-- the meaning of a tree; f: more than its nodes -/
def treeF (rs : List Rul) (f : Nat) (n : Tre) : Mea Trm := if (validB rs && validT n) = true then (match listM rs f n.kids [] 0 with
  | .ok t => if validM t = true then .ok t else .bad 6 [0]
  | .bad e p => .bad e p) else .bad 1 []
/-- behind Tree, of both sides -/
def TreeP (m : Mea Trm) (w : World) (e : Ending) (w' : World) : Prop := (match m with
  | .ok t => ∃ c, e = .returned (.tuple #[.agg c, .slice none 0 0, .int .i64 0]) ∧ TmAt (fun b => w.heap.size ≤ b) w' t c
  | .bad er p => ∃ A cp, e = .returned (.tuple #[.agg zerC, .slice A p.length cp, .int .i64 er]) ∧ PathAt w' A p ∧ p.length ≤ cp ∧ cp ≤ 9223372036854775807) ∧ Below w.heap.size w w'
theorem valid_parts {n : Tre} (h : validT n = true) : n.kind = 1 ∧ formT n = true ∧ countT n ≤ 1000 ∧ formL 1 n.kids = true := by
  unfold validT at h
  simp only [Bool.and_eq_true, decide_eq_true_eq] at h
  refine ⟨h.1, h.2.1, h.2.2.1, ?_⟩
  have h2 := h.2.1
  obtain ⟨k, t, c, ks⟩ := n
  have hk : k = 1 := h.1
  subst hk
  rw [formT, Bool.and_eq_true] at h2
  exact h2.2
theorem kids_count (n : Tre) : countL n.kids + 1 = countT n := by
  obtain ⟨k, t, c, ks⟩ := n
  rw [countT]; rfl
theorem path_nil {w : World} : PathAt w none [] := ⟨rfl, fun h => absurd h (by simp)⟩
theorem PathAt.grown {w w' : World} {A : Option Addr} {p : List Int} {q : Nat} (h : PathAt w A p) (hg : w.grownBy w' (some q)) (ho : ∀ ad, A = some ad → 0 < p.length → ad.block ≠ q) : PathAt w' A p := by
  obtain ⟨r1, r2⟩ := h
  refine ⟨r1, fun hn => ?_⟩
  obtain ⟨ad, r3, r4, r5⟩ := r2 hn
  refine ⟨ad, r3, Nat.lt_of_lt_of_le r4 hg.size, fun j u hj => ?_⟩
  rw [← r5 j u hj]
  refine World.cell?_of_block (hg.block _ (by rw [block_of_add]; exact r4) fun e => ?_)
  have e9 := Option.some.inj e
  rw [block_of_add] at e9
  exact ho ad r3 hn e9
theorem path_zero (w : World) : PathAt (w.alloc (.cells #[.int .i64 0] 3)) (some ⟨w.heap.size, 0, none⟩) [0] := by
  have hk := Blk.new w 3 #[.int .i64 0]
  refine ⟨rfl, fun _ => ⟨_, rfl, hk.lt, fun j u hj => ?_⟩⟩
  cases j with
  | zero =>
    simp only [ints, List.map_cons, List.map_nil, List.getElem?_cons_zero, Option.some.injEq] at hj
    rw [← hj]
    exact hk.cell 0
  | succ j => simp [ints] at hj
set_option maxRecDepth 100000 in
set_option maxHeartbeats 8000000 in
theorem tree_any (A : Option Addr) (cap : Nat) (rs : List Rul) (f : Nat) (n : Tre) (c : Array Value) (w : World) (hR : RulsAt w A rs) (hrc : rs.length ≤ cap) (hcc : cap ≤ 9223372036854775807) (hr : rs.length ≤ 1000000) (hN : NodAt w n c) (hf : countL n.kids < f) :
    Calls Tryz.prog 13 #[.slice A rs.length cap, .agg c] w (TreeP (treeF rs f n) w) := by
  obtain ⟨A2, cap2, rfl, hsz, hl2, hc2, hk⟩ := hN.form
  have B1 := bel_alloc w (.cells #[.int .i64 n.kind, .string n.text, .int .i64 n.cols, .slice A2 n.kids.length cap2] 25)
  have s1 : (w.alloc (.cells #[.int .i64 n.kind, .string n.text, .int .i64 n.cols, .slice A2 n.kids.length cap2] 25)).heap.size = w.heap.size + 1 := by simp
  have B2 := bel_alloc (w.alloc (.cells #[.int .i64 n.kind, .string n.text, .int .i64 n.cols, .slice A2 n.kids.length cap2] 25)) (.cells zerC 31)
  have HB := Lib.hid (B1.trans (B2.mono B1.size))
  have K0 := Lib.hid (keep B2 (Blk.new w 25 #[.int .i64 n.kind, .string n.text, .int .i64 n.cols, .slice A2 n.kids.length cap2]))
  have K1 := Lib.hid (Blk.new (w.alloc (.cells #[.int .i64 n.kind, .string n.text, .int .i64 n.cols, .slice A2 n.kids.length cap2] 25)) 31 zerC)
  rw [s1] at K1
  have HR1 := Lib.hid (hR.keep HB.out)
  have HN1 := Lib.hid (hN.keep HB.out)
  have HK1 := Lib.hid (hk.keep HB.out)
  have HF := Lib.hid hf
  clear hR hN hk hf hsz B1 B2 s1
  go_enter Tryz.func13, Tryz.ntmps13
  go_upto_region 1 with (fail)
  generalize (w.alloc (.cells #[.int .i64 n.kind, .string n.text, .int .i64 n.cols, .slice A2 n.kids.length cap2] 25)).alloc (.cells zerC 31) = w1 at *
  cases hv : validB rs with
  | false =>
    have HV := Lib.hid hv
    have HO := Lib.hid (show treeF rs f n = .bad 1 [] by unfold treeF; rw [hv]; rfl)
    clear hv
    have n0 := K0.out.cell 0
    have n1 := K0.out.cell 1
    have n2 := K0.out.cell 2
    have n3 := K0.out.cell 3
    go_wp2_with fail
    refine (valid_any A cap rs w1 HR1.out hrc hcc).mono ?_
    rintro e wa ⟨rfl, hB⟩
    rw [HV.out]
    clear n0 n1 n2 n3
    generalize wa = wq at *
    replace HB := Lib.hid (HB.out.trans (hB.mono HB.out.size))
    replace K1 := Lib.hid (keep hB K1.out)
    clear hB
    generalize wq = w2 at *
    have k1c := fun i => K1.out.cell i
    have k1f := fun i => K1.out.frozen i
    go_wp2_with fail
    have KR := Lib.hid (set5 (g := w.heap.size + 1) K1.out (.int .i64 0) (.string ⟨#[]⟩) (.string ⟨#[]⟩) (.slice none 0 0) (.string ⟨#[]⟩))
    have HB5 := Lib.hid (below5 (g := w.heap.size + 1) HB.out HB.out.size (by omega) (.int .i64 0) (.string ⟨#[]⟩) (.string ⟨#[]⟩) (.slice none 0 0) (.string ⟨#[]⟩))
    have HG5 := Lib.hid (grown5 w2 (w.heap.size + 1) (.int .i64 0) (.string ⟨#[]⟩) (.string ⟨#[]⟩) (.slice none 0 0) (.string ⟨#[]⟩))
    generalize (((((w2).setCell ⟨w.heap.size + 1, 0, none⟩ (.int .i64 0)).setCell ⟨w.heap.size + 1, 1, none⟩ (.string ⟨#[]⟩)).setCell ⟨w.heap.size + 1, 2, none⟩ (.string ⟨#[]⟩)).setCell ⟨w.heap.size + 1, 3, none⟩ (.slice none 0 0)).setCell ⟨w.heap.size + 1, 4, none⟩ (.string ⟨#[]⟩) = w9 at *
    have r0 := KR.out.cell 0
    have r1 := KR.out.cell 1
    have r2 := KR.out.cell 2
    have r3 := KR.out.cell 3
    have r4 := KR.out.cell 4
    exact bodyPost_ret (v := .tuple #[.agg #[.int .i64 0, .string ⟨#[]⟩, .string ⟨#[]⟩, .slice none 0 0, .string ⟨#[]⟩], .slice none 0 0, .int .i64 1]) (by simp [results, Tryz.results13, go_sem, r0, r1, r2, r3, r4]) rfl (show TreeP _ _ _ _ by rw [HO.out]; exact ⟨⟨none, 0, rfl, path_nil, Nat.le_refl _, by omega⟩, HB5.out⟩)
  | true =>
    have HV := Lib.hid hv
    cases ht : validT n with
    | false =>
      have HT := Lib.hid ht
      have HO := Lib.hid (show treeF rs f n = .bad 1 [] by unfold treeF; rw [hv, ht]; rfl)
      clear hv ht
      have n0 := K0.out.cell 0
      have n1 := K0.out.cell 1
      have n2 := K0.out.cell 2
      have n3 := K0.out.cell 3
      go_wp2_with fail
      refine (valid_any A cap rs w1 HR1.out hrc hcc).mono ?_
      rintro e wa ⟨rfl, hB⟩
      rw [HV.out]
      clear n0 n1 n2 n3
      have n0 := (keep hB K0.out).cell 0
      have n1 := (keep hB K0.out).cell 1
      have n2 := (keep hB K0.out).cell 2
      have n3 := (keep hB K0.out).cell 3
      go_wp2_with fail
      refine (nvalid_any n _ wa (HN1.out.keep hB)).mono ?_
      rintro e wq ⟨rfl, hC⟩
      rw [HT.out]
      replace hB := hB.trans (hC.mono hB.size)
      clear hC n0 n1 n2 n3
      replace HB := Lib.hid (HB.out.trans (hB.mono HB.out.size))
      replace K1 := Lib.hid (keep hB K1.out)
      clear hB
      generalize wq = w2 at *
      have k1c := fun i => K1.out.cell i
      have k1f := fun i => K1.out.frozen i
      go_wp2_with fail
      have KR := Lib.hid (set5 (g := w.heap.size + 1) K1.out (.int .i64 0) (.string ⟨#[]⟩) (.string ⟨#[]⟩) (.slice none 0 0) (.string ⟨#[]⟩))
      have HB5 := Lib.hid (below5 (g := w.heap.size + 1) HB.out HB.out.size (by omega) (.int .i64 0) (.string ⟨#[]⟩) (.string ⟨#[]⟩) (.slice none 0 0) (.string ⟨#[]⟩))
      have HG5 := Lib.hid (grown5 w2 (w.heap.size + 1) (.int .i64 0) (.string ⟨#[]⟩) (.string ⟨#[]⟩) (.slice none 0 0) (.string ⟨#[]⟩))
      generalize (((((w2).setCell ⟨w.heap.size + 1, 0, none⟩ (.int .i64 0)).setCell ⟨w.heap.size + 1, 1, none⟩ (.string ⟨#[]⟩)).setCell ⟨w.heap.size + 1, 2, none⟩ (.string ⟨#[]⟩)).setCell ⟨w.heap.size + 1, 3, none⟩ (.slice none 0 0)).setCell ⟨w.heap.size + 1, 4, none⟩ (.string ⟨#[]⟩) = w9 at *
      have r0 := KR.out.cell 0
      have r1 := KR.out.cell 1
      have r2 := KR.out.cell 2
      have r3 := KR.out.cell 3
      have r4 := KR.out.cell 4
      exact bodyPost_ret (v := .tuple #[.agg #[.int .i64 0, .string ⟨#[]⟩, .string ⟨#[]⟩, .slice none 0 0, .string ⟨#[]⟩], .slice none 0 0, .int .i64 1]) (by simp [results, Tryz.results13, go_sem, r0, r1, r2, r3, r4]) rfl (show TreeP _ _ _ _ by rw [HO.out]; exact ⟨⟨none, 0, rfl, path_nil, Nat.le_refl _, by omega⟩, HB5.out⟩)
    | true =>
      have HT := Lib.hid ht
      have HO := Lib.hid (show treeF rs f n = match listM rs f n.kids [] 0 with
        | .ok t => if validM t = true then .ok t else .bad 6 [0]
        | .bad e p => .bad e p by unfold treeF; rw [hv, ht]; rfl)
      have HFL := Lib.hid (valid_parts ht).2.2.2
      have HCT := Lib.hid (show countL n.kids < 1000 from by have h1 := (valid_parts ht).2.2.1; have h2 := kids_count n; omega)
      clear hv ht
      have n0 := K0.out.cell 0
      have n1 := K0.out.cell 1
      have n2 := K0.out.cell 2
      have n3 := K0.out.cell 3
      go_wp2_with fail
      refine (valid_any A cap rs w1 HR1.out hrc hcc).mono ?_
      rintro e wa ⟨rfl, hB⟩
      rw [HV.out]
      clear n0 n1 n2 n3
      have n0 := (keep hB K0.out).cell 0
      have n1 := (keep hB K0.out).cell 1
      have n2 := (keep hB K0.out).cell 2
      have n3 := (keep hB K0.out).cell 3
      go_wp2_with fail
      refine (nvalid_any n _ wa (HN1.out.keep hB)).mono ?_
      rintro e wq ⟨rfl, hC⟩
      rw [HT.out]
      replace hB := hB.trans (hC.mono hB.size)
      clear hC n0 n1 n2 n3
      have HR2 := Lib.hid (HR1.out.keep hB)
      have HK2 := Lib.hid (HK1.out.keep hB)
      replace K0 := Lib.hid (keep hB K0.out)
      replace HB := Lib.hid (HB.out.trans (hB.mono HB.out.size))
      replace K1 := Lib.hid (keep hB K1.out)
      clear hB HR1 HN1 HK1
      generalize wq = w2 at *
      have HZ := Lib.hid (show w.heap.size + 1 < w2.heap.size from K1.out.lt)
      go_upto_region 3 with (fail)
      refine region_mono (X := Gh) (w0 := _) (by kernel_rfl) [2, 1, 2, 1, 1, 2, 2, 2, 3, 2] [false, false, false, false, false, false, false, false, false, false] _ (fun gx => [.slice A rs.length cap, .pointer (some ⟨gx.n 19, 0, none⟩), .pointer (some ⟨w.heap.size, 3, none⟩), .slice A2 n.kids.length cap2, .tuple #[gx.v 23, gx.v 24], .tuple #[gx.v 23, gx.v 24], gx.v 23, gx.v 24, undef, gx.v 24]) [(1, fun gx wx => RdrAt wx (gx.n 19) A cap rs), (4, fun gx wx => LRes (gx.n 22) (gx.n 23) (listM rs f n.kids [] 0) wx (gx.v 23) (gx.v 24) ∧ w2.heap.size ≤ gx.n 22)] (fun _ _ => True) Gh.zero (by kernel_rfl) (fun gx => by simp [fin, finOn, dstAt, List.range, List.range.loop, Act.put]; rfl) (fun _ => by kernel_rfl) (MonoAll.cons (fun gx wx w2 h hb => h.keep hb) (MonoAll.cons (fun gx wx w2 h hb => ⟨h.1.keep hb, h.2⟩) MonoAll.nil)) (trivial) ?_ (by kernel_rfl) ?_
      · refine ⟨fun gx wq => ?_, fun gx wq hB hJ hf => ?_, fun gx wq => ?_, fun gx wq hB hJ hf => ?_, fun gx wq hB hJ hf => ?_, fun gx wq => ?_, fun gx wq => ?_, fun gx wq => ?_, fun gx wq => ?_, trivial⟩
        · exact Gives.pure (v := .slice A rs.length cap) (by kernel_rfl) rfl
        · refine Gives.call (f := 36) (args := #[.slice A rs.length cap]) (w' := wq) (by kernel_rfl) ((newReader_any A cap rs wq (HR2.out.keep hB) hr).mono ?_)
          rintro e wz ⟨gr, rfl, hrd, hb⟩
          exact ⟨_, rfl, gx.setN 19 gr, rfl, (KeepsV.of_same ⟨.inr (.inr rfl), .inl rfl, .inr (.inr rfl), .inr (.inr rfl), (by first | exact .inr (.inr rfl) | exact .inr (.inl (by kernel_rfl))), (by first | exact .inr (.inr rfl) | exact .inr (.inl (by kernel_rfl))), (by first | exact .inr (.inr rfl) | exact .inr (.inl (by kernel_rfl))), (by first | exact .inr (.inr rfl) | exact .inr (.inl (by kernel_rfl))), .inr (.inr rfl), (by first | exact .inr (.inr rfl) | exact .inr (.inl (by kernel_rfl))), trivial⟩), hb, ⟨hrd, .inl (by kernel_rfl), trivial⟩, trivial⟩
        · exact Gives.pure (v := .pointer (some ⟨w.heap.size, 3, none⟩)) (by simp [go_sem, evAct]) rfl
        · have n3 := (keep hB K0.out).cell 3
          exact Gives.still (v := .slice A2 n.kids.length cap2) hJ (by kernel_rfl) (by simp [go_sem, evAct, n3]) rfl
        · have f19 := hf.1 (by kernel_rfl)
          refine Gives.call (f := 37) (args := #[.pointer (some ⟨gx.n 19, 0, none⟩), .slice A2 n.kids.length cap2, .slice none 0 0, .int .i64 0]) (w' := wq) (by kernel_rfl) ((list_all _ _ _ _ hrc hcc f n.kids [] 0 A2 none cap2 0 wq f19 (HK2.out.keep hB) hl2 hc2 path_nil (by have := HCT.out; simp only [List.length_nil]; omega) HF.out HFL.out (by omega)).mono ?_)
          rintro e wz hm
          obtain ⟨c9, f9, rfl, hres, hb⟩ := hm.res
          exact ⟨_, rfl, (((gx.setV 23 c9).setV 24 f9).setN 22 wq.heap.size).setN 23 wz.heap.size, rfl, (KeepsV.of_same ⟨.inr (.inr rfl), (by first | exact .inr (.inr rfl) | exact .inr (.inl (by kernel_rfl))), .inr (.inr rfl), .inr (.inr rfl), .inl rfl, (by first | exact .inr (.inr rfl) | exact .inr (.inl (by kernel_rfl))), (by first | exact .inr (.inr rfl) | exact .inr (.inl (by kernel_rfl))), (by first | exact .inr (.inr rfl) | exact .inr (.inl (by kernel_rfl))), .inr (.inr rfl), (by first | exact .inr (.inr rfl) | exact .inr (.inl (by kernel_rfl))), trivial⟩), hb, ⟨.inr fun h => h, ⟨hres, hB.size⟩, trivial⟩, trivial⟩
        · exact Gives.pure (v := .tuple #[gx.v 23, gx.v 24]) (by kernel_rfl) rfl
        · exact Gives.pure (v := gx.v 23) (by kernel_rfl) rfl
        · exact Gives.pure (v := gx.v 24) (by kernel_rfl) rfl
        · exact Gives.pure (v := gx.v 24) (by kernel_rfl) rfl
      · refine fun gx wq hB hJ hf => ?_
        dsimp only [FactsAll] at hf
        change wpOps _ _ _ [8] _ _
        obtain ⟨-, ⟨hres, hlo⟩, -⟩ := hf
        replace HB := Lib.hid (HB.out.trans (hB.mono HB.out.size))
        replace K1 := Lib.hid (keep hB K1.out)
        have HRES := Lib.hid hres
        have HLO := Lib.hid (show w.heap.size + 1 < gx.n 22 from Nat.lt_of_lt_of_le HZ.out hlo)
        clear hres hlo hB hJ K0 HR2 HK2
        generalize gx.n 19 = n19 at *
        generalize gx.v 23 = c9 at *
        generalize gx.v 24 = f9 at *
        generalize gx.n 22 = lo at *
        generalize gx.n 23 = hi2 at *
        clear gx
        generalize wq = w3 at *
        have k1c := fun i => K1.out.cell i
        have k1f := fun i => K1.out.frozen i
        cases hM : listM rs f n.kids [] 0 with
        | bad er p =>
          have HR2 := HRES.out
          rw [hM] at HR2
          obtain ⟨rfl, gf, rfl, hff⟩ := HR2
          have HFF := Lib.hid hff
          have HO2 := Lib.hid (show treeF rs f n = .bad er p by rw [HO.out, hM])
          have HG9 := Lib.hid (grown5 w3 (w.heap.size + 1) (.int .i64 0) (.string ⟨#[]⟩) (.string ⟨#[]⟩) (.slice none 0 0) (.string ⟨#[]⟩))
          have HB9 := Lib.hid (below5 (g := w.heap.size + 1) HB.out HB.out.size (by omega) (.int .i64 0) (.string ⟨#[]⟩) (.string ⟨#[]⟩) (.slice none 0 0) (.string ⟨#[]⟩))
          have K9 := Lib.hid (set5 K1.out (.int .i64 0) (.string ⟨#[]⟩) (.string ⟨#[]⟩) (.slice none 0 0) (.string ⟨#[]⟩))
          refine wpOps_skip (o := _) rfl rfl (w' := (((((w3).setCell ⟨w.heap.size + 1, 0, none⟩ (.int .i64 0)).setCell ⟨w.heap.size + 1, 1, none⟩ (.string ⟨#[]⟩)).setCell ⟨w.heap.size + 1, 2, none⟩ (.string ⟨#[]⟩)).setCell ⟨w.heap.size + 1, 3, none⟩ (.slice none 0 0)).setCell ⟨w.heap.size + 1, 4, none⟩ (.string ⟨#[]⟩)) (by simp [go_sem, k1c, k1f]) ?_
          refine wpOps_done ?_
          clear hff HRES hM k1c k1f
          generalize (((((w3).setCell ⟨w.heap.size + 1, 0, none⟩ (.int .i64 0)).setCell ⟨w.heap.size + 1, 1, none⟩ (.string ⟨#[]⟩)).setCell ⟨w.heap.size + 1, 2, none⟩ (.string ⟨#[]⟩)).setCell ⟨w.heap.size + 1, 3, none⟩ (.slice none 0 0)).setCell ⟨w.heap.size + 1, 4, none⟩ (.string ⟨#[]⟩) = w4 at *
          obtain ⟨Ap, cp, hkf, hpc, hpm, hpa, hga, hpb⟩ := HFF.out.grown HG9.out (fun hb => by have := HLO.out; omega)
          have HPA := Lib.hid hpa
          have HKF := Lib.hid hkf
          have HPB := Lib.hid (show ∀ ad, Ap = some ad → 0 < p.length → ad.block ≠ w.heap.size + 1 from fun ad h1 h2 h3 => by have := hpb ad h1 h2; have := HLO.out; omega)
          have HGN := Lib.hid (show gf ≠ w.heap.size + 1 by have := HLO.out; omega)
          clear HFF HG9 hkf hpa hpb hga
          go_upto_region 5 with (fail)
          have f0 := HKF.out.cell 0
          have f1 := HKF.out.cell 1
          have k1c := fun i => K9.out.cell i
          have k1f := fun i => K9.out.frozen i
          have hgf : gf ≠ w.heap.size + 1 := HGN.out
          have hgf2 : w.heap.size + 1 ≠ gf := fun e => hgf e.symm
          go_region
          go_wp2_with fail
          have KR := Lib.hid (set5 (g := w.heap.size + 1) K9.out (.int .i64 0) (.string ⟨#[]⟩) (.string ⟨#[]⟩) (.slice none 0 0) (.string ⟨#[]⟩))
          have HB5 := Lib.hid (below5 (g := w.heap.size + 1) HB9.out HB9.out.size (by omega) (.int .i64 0) (.string ⟨#[]⟩) (.string ⟨#[]⟩) (.slice none 0 0) (.string ⟨#[]⟩))
          have HG5 := Lib.hid (grown5 w4 (w.heap.size + 1) (.int .i64 0) (.string ⟨#[]⟩) (.string ⟨#[]⟩) (.slice none 0 0) (.string ⟨#[]⟩))
          generalize (((((w4).setCell ⟨w.heap.size + 1, 0, none⟩ (.int .i64 0)).setCell ⟨w.heap.size + 1, 1, none⟩ (.string ⟨#[]⟩)).setCell ⟨w.heap.size + 1, 2, none⟩ (.string ⟨#[]⟩)).setCell ⟨w.heap.size + 1, 3, none⟩ (.slice none 0 0)).setCell ⟨w.heap.size + 1, 4, none⟩ (.string ⟨#[]⟩) = w9 at *
          have r0 := KR.out.cell 0
          have r1 := KR.out.cell 1
          have r2 := KR.out.cell 2
          have r3 := KR.out.cell 3
          have r4 := KR.out.cell 4
          exact bodyPost_ret (v := .tuple #[.agg #[.int .i64 0, .string ⟨#[]⟩, .string ⟨#[]⟩, .slice none 0 0, .string ⟨#[]⟩], .slice Ap p.length cp, .int .i64 er]) (by simp [results, Tryz.results13, go_sem, r0, r1, r2, r3, r4]) rfl (show TreeP _ _ _ _ by rw [HO2.out]; exact ⟨⟨Ap, cp, rfl, (HPA.out.grown HG5.out HPB.out).keep (below_drew (Below.refl _ _)), hpc, hpm⟩, below_drew HB5.out⟩)
        | ok t =>
          have HR2 := HRES.out
          rw [hM] at HR2
          obtain ⟨cc, rfl, rfl, htt⟩ := HR2
          obtain ⟨tk, ta, tv, tA, tn, tcp, tf, rfl⟩ := htt.ext
          have HTT := Lib.hid htt
          have HO2 := Lib.hid (show treeF rs f n = if validM t = true then .ok t else .bad 6 [0] by rw [HO.out, hM])
          have HG9 := Lib.hid (grown5 w3 (w.heap.size + 1) (.int .i64 tk) (.string ta) (.string tv) (.slice tA tn tcp) (.string tf))
          have HB9 := Lib.hid (below5 (g := w.heap.size + 1) HB.out HB.out.size (by omega) (.int .i64 tk) (.string ta) (.string tv) (.slice tA tn tcp) (.string tf))
          have K9 := Lib.hid (set5 K1.out (.int .i64 tk) (.string ta) (.string tv) (.slice tA tn tcp) (.string tf))
          have HT9 := Lib.hid (HTT.out.grown (ok' := fun b => lo ≤ b) HG9.out (fun b _ hb e => by have := Option.some.inj e; have := HLO.out; omega) (fun b _ hb => hb.1))
          refine wpOps_skip (o := _) rfl rfl (w' := (((((w3).setCell ⟨w.heap.size + 1, 0, none⟩ (.int .i64 tk)).setCell ⟨w.heap.size + 1, 1, none⟩ (.string ta)).setCell ⟨w.heap.size + 1, 2, none⟩ (.string tv)).setCell ⟨w.heap.size + 1, 3, none⟩ (.slice tA tn tcp)).setCell ⟨w.heap.size + 1, 4, none⟩ (.string tf)) (by simp [go_sem, k1c, k1f]) ?_
          refine wpOps_done ?_
          clear htt HRES HTT HG9 hM k1c k1f
          generalize (((((w3).setCell ⟨w.heap.size + 1, 0, none⟩ (.int .i64 tk)).setCell ⟨w.heap.size + 1, 1, none⟩ (.string ta)).setCell ⟨w.heap.size + 1, 2, none⟩ (.string tv)).setCell ⟨w.heap.size + 1, 3, none⟩ (.slice tA tn tcp)).setCell ⟨w.heap.size + 1, 4, none⟩ (.string tf) = w4 at *
          have k1c := fun i => K9.out.cell i
          have k1f := fun i => K9.out.frozen i
          go_wp2_with fail
          refine (Sp.tvalid_any t _ w4 HT9.out.mat).mono ?_
          rintro e w5 ⟨rfl, hb⟩
          replace HB9 := Lib.hid (HB9.out.trans (hb.mono HB9.out.size))
          replace K9 := Lib.hid (keep hb K9.out)
          replace HT9 := Lib.hid (HT9.out.keep hb)
          clear hb k1c k1f
          have k1c := fun i => K9.out.cell i
          have k1f := fun i => K9.out.frozen i
          cases hv : validM t with
          | false =>
            have HO3 := Lib.hid (show treeF rs f n = .bad 6 [0] by rw [HO2.out, if_neg (by rw [hv]; simp)])
            clear hv
            go_upto_region 7 with (fail)
            have hba := bel_alloc w5 (.cells #[.int .i64 0] 3)
            have HPZ := Lib.hid (path_zero w5)
            have HZ5 := Lib.hid (show w.heap.size + 1 < w5.heap.size from K9.out.lt)
            replace HB9 := Lib.hid (HB9.out.trans (hba.mono HB9.out.size))
            replace K9 := Lib.hid (keep hba K9.out)
            clear hba k1c k1f
            have k1c := fun i => K9.out.cell i
            have k1f := fun i => K9.out.frozen i
            go_wp2_with (fail)
            clear k1c k1f
            generalize w5.alloc (.cells #[.int .i64 0] 3) = w6 at *
            have KR := Lib.hid (set5 (g := w.heap.size + 1) K9.out (.int .i64 0) (.string ⟨#[]⟩) (.string ⟨#[]⟩) (.slice none 0 0) (.string ⟨#[]⟩))
            have HB5 := Lib.hid (below5 (g := w.heap.size + 1) HB9.out HB9.out.size (by omega) (.int .i64 0) (.string ⟨#[]⟩) (.string ⟨#[]⟩) (.slice none 0 0) (.string ⟨#[]⟩))
            have HG5 := Lib.hid (grown5 w6 (w.heap.size + 1) (.int .i64 0) (.string ⟨#[]⟩) (.string ⟨#[]⟩) (.slice none 0 0) (.string ⟨#[]⟩))
            generalize (((((w6).setCell ⟨w.heap.size + 1, 0, none⟩ (.int .i64 0)).setCell ⟨w.heap.size + 1, 1, none⟩ (.string ⟨#[]⟩)).setCell ⟨w.heap.size + 1, 2, none⟩ (.string ⟨#[]⟩)).setCell ⟨w.heap.size + 1, 3, none⟩ (.slice none 0 0)).setCell ⟨w.heap.size + 1, 4, none⟩ (.string ⟨#[]⟩) = w9 at *
            have r0 := KR.out.cell 0
            have r1 := KR.out.cell 1
            have r2 := KR.out.cell 2
            have r3 := KR.out.cell 3
            have r4 := KR.out.cell 4
            exact bodyPost_ret (v := .tuple #[.agg #[.int .i64 0, .string ⟨#[]⟩, .string ⟨#[]⟩, .slice none 0 0, .string ⟨#[]⟩], .slice (some ⟨w5.heap.size, 0, none⟩) 1 1, .int .i64 6]) (by simp [results, Tryz.results13, go_sem, r0, r1, r2, r3, r4]) rfl (show TreeP _ _ _ _ by rw [HO3.out]; exact ⟨⟨_, 1, rfl, HPZ.out.grown HG5.out (fun ad h1 _ h3 => by have := HZ5.out; rw [← Option.some.inj h1] at h3; dsimp only at h3; omega), by simp, by omega⟩, HB5.out⟩)
          | true =>
            have HO3 := Lib.hid (show treeF rs f n = .ok t by rw [HO2.out, if_pos hv])
            clear hv
            go_wp2_with fail
            have KR := Lib.hid (set5 (g := w.heap.size + 1) K9.out (.int .i64 tk) (.string ta) (.string tv) (.slice tA tn tcp) (.string tf))
            have HB5 := Lib.hid (below5 (g := w.heap.size + 1) HB9.out HB9.out.size (by omega) (.int .i64 tk) (.string ta) (.string tv) (.slice tA tn tcp) (.string tf))
            have HG5 := Lib.hid (grown5 w5 (w.heap.size + 1) (.int .i64 tk) (.string ta) (.string tv) (.slice tA tn tcp) (.string tf))
            generalize (((((w5).setCell ⟨w.heap.size + 1, 0, none⟩ (.int .i64 tk)).setCell ⟨w.heap.size + 1, 1, none⟩ (.string ta)).setCell ⟨w.heap.size + 1, 2, none⟩ (.string tv)).setCell ⟨w.heap.size + 1, 3, none⟩ (.slice tA tn tcp)).setCell ⟨w.heap.size + 1, 4, none⟩ (.string tf) = w9 at *
            have r0 := KR.out.cell 0
            have r1 := KR.out.cell 1
            have r2 := KR.out.cell 2
            have r3 := KR.out.cell 3
            have r4 := KR.out.cell 4
            exact bodyPost_ret (v := .tuple #[.agg #[.int .i64 tk, .string ta, .string tv, .slice tA tn tcp, .string tf], .slice none 0 0, .int .i64 0]) (by simp [results, Tryz.results13, go_sem, r0, r1, r2, r3, r4]) rfl (show TreeP _ _ _ _ by rw [HO3.out]; exact ⟨⟨_, rfl, HT9.out.grown HG5.out (fun b _ hb e => by have := Option.some.inj e; have := HLO.out; omega) (fun b _ hb => by have := HLO.out; omega)⟩, HB5.out⟩)
end Go.Proofs.YthpioplpfmlgcaaGreatDoor.El
namespace Go.Proofs.YthpioplpfmlgcaaGreatDoor.El
open Go.Proofs.YthpioplpfmlgcaaGreatDoor.At
open Go.Proofs.YthpioplpfmlgcaaGreatDoor.Ch
open Go.Proofs.YthpioplpfmlgcaaGreatDoor.Sp
open Go.Proofs.YthpioplpfmlgcaaGreatDoor.Sy
open Go.RowKit
end Go.Proofs.YthpioplpfmlgcaaGreatDoor.El
namespace Go.Proofs.YthpioplpfmlgcaaGreatDoor.El
open Go.Proofs.YthpioplpfmlgcaaGreatDoor.At
open Go.Proofs.YthpioplpfmlgcaaGreatDoor.Ch
open Go.Proofs.YthpioplpfmlgcaaGreatDoor.Sp
open Go.Proofs.YthpioplpfmlgcaaGreatDoor.Sy
open Go.RowKit
def rowT (l : List Tre) : Tre := .mk 1 ⟨#[]⟩ 0 l
end Go.Proofs.YthpioplpfmlgcaaGreatDoor.El
namespace Go.Proofs.YthpioplpfmlgcaaGreatDoor.El
open Go.Proofs.YthpioplpfmlgcaaGreatDoor.At
open Go.Proofs.YthpioplpfmlgcaaGreatDoor.Ch
open Go.Proofs.YthpioplpfmlgcaaGreatDoor.Sp
open Go.Proofs.YthpioplpfmlgcaaGreatDoor.Sy
open Go.RowKit
def briefR (r : Rul) : Bool := decide (r.sym.size ≤ 50) && decide (r.nam.size ≤ 50)
/-- at most 40 rules with short strings -/
def short40 (rs : List Rul) : Bool := rs.all briefR && decide (rs.length ≤ 40)
theorem short40_rule {rs : List Rul} {k : Nat} {x : Rul} (hx : rs[k]? = some x) (h : briefR x = false) : short40 rs = false := by
  unfold short40
  rw [show rs.all briefR = false from List.all_eq_false.2 ⟨x, List.mem_of_getElem? hx, by rw [h]; simp⟩]
  rfl
theorem short40_all {rs : List Rul} (h1 : ∀ (j : Nat) x, rs[j]? = some x → j < rs.length → briefR x = true) : short40 rs = decide (rs.length ≤ 40) := by
  unfold short40
  rw [show rs.all briefR = true from List.all_eq_true.2 fun x hx => by
    obtain ⟨j, hj⟩ := List.mem_iff_getElem?.1 hx
    exact h1 j x hj (List.getElem?_eq_some_iff.1 hj).1, Bool.true_and]
theorem short40_of {rs : List Rul} (h : short40 rs = true) : rs.length ≤ 40 := by
  unfold short40 at h
  rw [Bool.and_eq_true] at h
  exact of_decide_eq_true h.2
set_option maxRecDepth 100000 in
set_option maxHeartbeats 1600000 in
theorem short40_any (A : Option Addr) (cap : Nat) (rs : List Rul) (w : World) (hR : RulsAt w A rs) (hn : rs.length ≤ 9223372036854775807) : Calls Tryz.prog 11 #[.slice A rs.length cap] w fun e w' => e = .returned (.bool (short40 rs)) ∧ w = w' := by
  have HR := Lib.hid hR
  have HA := Lib.hid (@short40_all rs)
  clear hR
  go_enter Tryz.func11, Tryz.ntmps11
  go_wp2_with fail
  go_loop [3] (fun i => ∃ k : Nat, k ≤ rs.length ∧ i = .int .i64 k ∧ Hid (∀ (j : Nat) x, rs[j]? = some x → j < k → briefR x = true)) (fun i => rs.length - (intOf i).toNat)
  case atStart => exact ⟨0, by omega, rfl, (fun j _ _ h => by omega)⟩
  case round =>
    obtain ⟨k, hk, rfl, HJ⟩ := hrel
    by_cases hlt : k < rs.length
    · obtain ⟨x, hx⟩ : ∃ x, rs[k]? = some x := ⟨_, List.getElem?_eq_getElem hlt⟩
      obtain ⟨hf, ad, rfl, hadl, c0, c1, c2, c3, c4, c5⟩ := HR.out.at_ hx
      have HX := Lib.hid hx
      clear hx hf
      by_cases h1 : 50 < x.sym.size
      · have HQ := Lib.hid (short40_rule HX.out (show briefR x = false by unfold briefR; rw [decide_eq_false (by omega)]; rfl))
        go_wp2_with fail
        go_ret
        exact ⟨ret_bool HQ.out.symm, rfl⟩
      · by_cases h2 : 50 < x.nam.size
        · have HQ := Lib.hid (short40_rule HX.out (show briefR x = false by unfold briefR; rw [decide_eq_false (p := x.nam.size ≤ 50) (by omega), Bool.and_false]))
          go_wp2_with fail
          go_ret
          exact ⟨ret_bool HQ.out.symm, rfl⟩
        · have HQ : Hid (briefR x = true) := by
            show briefR x = true
            unfold briefR; rw [decide_eq_true (by omega), decide_eq_true (by omega)]; rfl
          go_wp2_with fail
          go_round
          case rel => exact ⟨k + 1, by omega, by go_num, (fun j y hj h => by
            rcases Nat.lt_or_ge j k with h' | h'
            · exact HJ.out j y hj h'
            · obtain rfl : j = k := by omega
              rw [HX.out] at hj
              obtain rfl := Option.some.inj hj
              exact HQ.out)⟩
          case measure => simp [intOf]; omega
    · obtain rfl : k = rs.length := by omega
      have HA := Lib.hid (HA.out HJ.out)
      go_wp2_with fail
      go_ret
      exact ⟨ret_bool (by rw [HA.out]; exact decide_eq_decide.2 (by omega)), rfl⟩
theorem PathAt.at_ {w : World} {A : Option Addr} {p : List Int} (h : PathAt w A p) {k : Nat} {x : Int} (hk : p[k]? = some x) : ∃ ad, A = some ad ∧ ad.block < w.heap.size ∧ w.cell? (ad.add k) = some (.int .i64 x) := by
  have hkl := (List.getElem?_eq_some_iff.1 hk).1
  obtain ⟨_, h2⟩ := h
  obtain ⟨ad, h3, h4, h5⟩ := h2 (by omega)
  refine ⟨ad, h3, h4, ?_⟩
  have := h5 k (.int .i64 x) (by rw [ints, List.getElem?_map, hk]; rfl)
  exact this
set_option maxRecDepth 100000 in
set_option maxHeartbeats 1600000 in
theorem row_any (A : Option Addr) (n cap : Nat) (w : World) : Calls Tryz.prog 21 #[.slice A n cap] w fun e w' => e = .returned (.agg #[.int .i64 1, .string ⟨#[]⟩, .int .i64 0, .slice A n cap]) ∧ Below w.heap.size w w' := by
  have HB := Lib.hid (bel_alloc w (.cells #[.int .i64 0, .string ⟨#[]⟩, .int .i64 0, .slice none 0 0] 25))
  have K1 := Lib.hid (Blk.new w 25 #[.int .i64 0, .string ⟨#[]⟩, .int .i64 0, .slice none 0 0])
  go_enter Tryz.func21, Tryz.ntmps21
  go_upto_region 1 with (fail)
  generalize w.alloc (.cells #[.int .i64 0, .string ⟨#[]⟩, .int .i64 0, .slice none 0 0] 25) = w1 at *
  have k0 := fun i => K1.out.cell i
  have f0 := fun i => K1.out.frozen i
  go_wp2_with fail
  have KR := Lib.hid (set4 K1.out (.int .i64 1) (.string ⟨#[]⟩) (.int .i64 0) (.slice A n cap))
  have HG := grown4 w1 w.heap.size (.int .i64 1) (.string ⟨#[]⟩) (.int .i64 0) (.slice A n cap)
  have HB4 := Lib.hid (HB.out.grown HG HB.out.size fun r e => by have := Option.some.inj e; omega)
  clear HG
  generalize (((w1.setCell ⟨w.heap.size, 0, none⟩ (.int .i64 1)).setCell ⟨w.heap.size, 1, none⟩ (.string ⟨#[]⟩)).setCell ⟨w.heap.size, 2, none⟩ (.int .i64 0)).setCell ⟨w.heap.size, 3, none⟩ (.slice A n cap) = w2 at *
  have r0 := KR.out.cell 0
  have r1 := KR.out.cell 1
  have r2 := KR.out.cell 2
  have r3 := KR.out.cell 3
  exact bodyPost_ret (v := .agg #[.int .i64 1, .string ⟨#[]⟩, .int .i64 0, .slice A n cap]) (by simp [results, Tryz.results21, go_sem, r0, r1, r2, r3]) rfl ⟨rfl, HB4.out⟩
/-- the one rule of plus -/
def plusR : Rul := ⟨1, ⟨#[43]⟩, ⟨#[112, 108, 117, 115]⟩, 40, 40, 41⟩
abbrev plusC : Array Value := #[.int .i64 1, .string ⟨#[43]⟩, .string ⟨#[112, 108, 117, 115]⟩, .int .i64 40, .int .i64 40, .int .i64 41]
set_option maxRecDepth 100000 in
set_option maxHeartbeats 1600000 in
theorem plus_any (w : World) : Calls Tryz.prog 32 #[] w fun e w' => e = .returned (.slice (some ⟨w.heap.size, 0, none⟩) 1 1) ∧ w' = w.alloc (.cells plusC 50) := by
  go_enter Tryz.func32, Tryz.ntmps32
  go_wp2_with fail
  exact bodyPost_ret (v := .slice (some ⟨w.heap.size, 0, none⟩) 1 1) (by simp [results, Tryz.results32, go_sem]) rfl ⟨rfl, rfl⟩
end Go.Proofs.YthpioplpfmlgcaaGreatDoor.El
