/- Terms: Count and Valid of the program; Equal of the reference. -/
import Derived.Test.YtpokelkneblafaaGreatDoorVT
namespace Go.Proofs.YtpokelkneblafaaGreatDoor
open Go.RowKit
theorem chkML_app : ∀ (a b : List Trm) (n : Nat), chkML (a ++ b) n = if (chkML a n).1 = true then chkML b (chkML a n).2 else chkML a n
  | [], b, n => by rw [List.nil_append, show chkML [] n = (true, n) by rw [chkML], if_pos rfl]
  | x :: r, b, n => by
    rw [List.cons_append, chkML, chkML]
    cases h : (chkM x n).1
    · simp
    · rw [if_pos rfl, if_pos rfl, chkML_app r b]
theorem chkML_snoc {ks : List Trm} {j n nj : Nat} {y : Trm} (hy : ks[j]? = some y) (h : chkML (ks.take j) n = (true, nj)) : chkML (ks.take (j + 1)) n = chkM y nj := by
  rw [List.take_add_one, hy, Option.toList, chkML_app, h, if_pos rfl, chkML]
  cases hc : (chkM y nj).1
  · rw [if_neg (by simp)]; rw [← hc]
  · rw [if_pos rfl, chkML]; rw [← hc]
theorem chkML_stop {ks : List Trm} {j n : Nat} (h : (chkML (ks.take j) n).1 = false) : chkML ks n = chkML (ks.take j) n := by
  conv => lhs; rw [← List.take_append_drop j ks]
  rw [chkML_app, h, if_neg (by simp)]
theorem chkM_le (t : Trm) (n : Nat) (h : (chkM t n).1 = true) : (chkM t n).2 ≤ 1000 := by
  obtain ⟨a, b⟩ := chkM_iff t n
  rw [b h]
  exact (a.1 h).2
set_option maxRecDepth 100000 in
set_option maxHeartbeats 1600000 in
theorem valid_any : ∀ (m : Nat) (t : Trm) (p : Addr) (A : Option Addr) (cap gc n : Nat) (w0 w : World), cntM t ≤ m → PtM w0 p t A cap → Below w0.heap.size w0 w → Blk w gc 3 #[.int .i64 (n : Int)] → w0.heap.size ≤ gc → n ≤ 1000 → Calls Tryz.prog 61 #[.pointer (some p), .pointer (some ⟨gc, 0, none⟩)] w fun e w' => e = .returned (.bool (chkM t n).1) ∧ Blk w' gc 3 #[.int .i64 ((chkM t n).2 : Int)] ∧ Below w0.heap.size w0 w' := by
  intro m
  induction m with
  | zero => intro t p A cap gc n w0 w h; have := cnt_pos t; omega
  | succ m ih =>
    intro t p A cap gc n w0 w hm hP hB hC hgc hn
    have IH := Lib.hid ih
    clear ih
    obtain ⟨k, a, v, f, ts⟩ := t
    have HP := Lib.hid hP
    have HZ := Lib.hid (show cntL ts ≤ m by rw [cntM] at hm; omega)
    have HQ0 := Lib.hid (show chkM (.mk k a v f ts) n = if 1000 < n + 1 ∨ ownM k a.data.toList v.data.toList f.data.toList ts.length = false then (false, n + 1) else chkML ts (n + 1) by rw [chkM])
    have f0 := hC.frozen 0
    have f1 := hC.cell 0
    have HC1 := Lib.hid (show Blk (w.setCell ⟨gc, 0, none⟩ (.int .i64 ((n : Int) + 1))) gc 3 #[.int .i64 ((n + 1 : Nat) : Int)] from hC.set_ 0 (.int .i64 ((n : Int) + 1)))
    have HB1 := Lib.hid (hB.setCell (p := ⟨gc, 0, none⟩) hgc (.int .i64 ((n : Int) + 1)))
    have HGC := Lib.hid hgc
    clear hP hB hC hm hgc
    have f2 := HC1.out.cell 0

    go_enter Tryz.func61, Tryz.ntmps61
    by_cases h1 : 1000 < n + 1
    · have HQ := Lib.hid (show chkM (.mk k a v f ts) n = (false, n + 1) by rw [HQ0.out, if_pos (.inl h1)])
      go_wp2_with fail
      go_ret
      exact ⟨ret_bool (by rw [HQ.out]), by rw [HQ.out]; exact HC1.out, HB1.out⟩
    go_wp2_with fail
    generalize w.setCell ⟨gc, 0, none⟩ (.int .i64 ((n : Int) + 1)) = w1 at *
    clear f0 f1 f2
    refine (own_any _ p A cap w1 (HP.out.keep HB1.out)).mono ?_
    rintro e w2 ⟨rfl, hb⟩
    dsimp only [Trm.kind, Trm.nam, Trm.vr, Trm.form, Trm.args]
    have HC := Lib.hid (keep hb HC1.out)
    have HB := Lib.hid (HB1.out.trans (hb.mono HB1.out.size))
    clear hb HC1 HB1
    cases ho : ownM k a.data.toList v.data.toList f.data.toList ts.length
    · have HQ := Lib.hid (show chkM (.mk k a v f ts) n = (false, n + 1) by rw [HQ0.out, if_pos (.inr ho)])
      clear ho
      go_wp2_with fail
      go_ret
      exact ⟨ret_bool (by rw [HQ.out]), by rw [HQ.out]; exact HC.out, HB.out⟩
    rw [if_neg (by rintro (h | h); exact h1 h; rw [ho] at h; cases h)] at HQ0
    clear ho
    obtain ⟨-, -, -, -, c3, -, -, -, -, hl, hc, -⟩ := HP.out.keep HB.out
    dsimp only [Trm.kind, Trm.nam, Trm.vr, Trm.form, Trm.args] at c3 hl
    go_wp2_with fail
    clear c3
    go_loopw [25] (fun i wr => ∃ (j nj : Nat), j ≤ ts.length ∧ i = .int .i64 j ∧ nj ≤ 1000 ∧ Hid (chkML (ts.take j) (n + 1) = (true, nj)) ∧ Hid (Blk wr gc 3 #[.int .i64 (nj : Int)]) ∧ Hid (Below w0.heap.size w0 wr)) (fun i _ => ts.length - (intOf i).toNat)
    case atStart => exact ⟨0, n + 1, by omega, rfl, by omega, (by rw [List.take_zero]; show chkML [] (n + 1) = _; rw [chkML]), HC, HB⟩
    case round =>
      clear HC HB
      obtain ⟨j, nj, hj, rfl, hnj, HJ, HC, HB⟩ := hrel
      by_cases hlt : j < ts.length
      · obtain ⟨y, hy⟩ : ∃ y, ts[j]? = some y := ⟨_, List.getElem?_eq_getElem hlt⟩
        obtain ⟨-, -, -, -, c3, -, -, -, -, -, -, hka⟩ := HP.out.keep HB.out
        dsimp only [Trm.kind, Trm.nam, Trm.vr, Trm.form, Trm.args] at c3 hka
        obtain ⟨ad, A', cap', rfl, hadl, hp⟩ := hka.at_ hy
        have HY : Hid (PtM w0 (ad.add (j * 5)) y A' cap') := by
          obtain ⟨-, -, -, -, -, -, -, -, -, -, -, hk0⟩ := HP.out
          dsimp only [Trm.args] at hk0
          obtain ⟨ad', A'', cap'', e1, hadl', hp'⟩ := hk0.at_ hy
          obtain rfl := Option.some.inj e1
          have e3 := hp'.keep HB.out
          obtain ⟨-, -, -, -, q, -⟩ := e3
          obtain ⟨-, -, -, -, q', -⟩ := hp
          rw [q] at q'
          injection q' with q'
          injection q' with q1 _ q2
          subst q1; subst q2
          exact hp'
        have HS := Lib.hid (show cntM y ≤ m by have := cnt_arg hy; have := HZ.out; omega)
        have HSN := Lib.hid (chkML_snoc hy HJ.out)
        have HST := Lib.hid (fun h => chkML_stop (ks := ts) (j := j + 1) (n := n + 1) h)
        have HLE := Lib.hid (chkM_le y nj)
        clear hy hka hp
        go_wp2_with fail
        refine (IH.out y _ A' cap' gc nj w0 wr HS.out HY.out HB.out HC.out HGC.out hnj).mono ?_
        rintro e w4 ⟨rfl, hC4, hB4⟩
        have HC := Lib.hid hC4
        have HB := Lib.hid hB4
        clear hC4 hB4 c3
        cases hr : (chkM y nj).1
        · have HQ := Lib.hid (show chkM (.mk k a v f ts) n = (false, (chkM y nj).2) by rw [HQ0.out, HST.out (by rw [HSN.out, hr]), HSN.out, ← hr])
          clear hr
          go_wp2_with fail
          go_ret
          exact ⟨ret_bool (by rw [HQ.out]), by rw [HQ.out]; exact HC.out, HB.out⟩
        · have HJ2 := Lib.hid (show chkML (ts.take (j + 1)) (n + 1) = (true, (chkM y nj).2) by rw [HSN.out, ← hr])
          have hle := HLE.out hr
          clear hr
          generalize (chkM y nj).2 = n2 at *
          go_wp2_with fail
          go_roundw
          case rel => exact ⟨j + 1, n2, by omega, by go_num, hle, HJ2, HC, HB⟩
          case measure => simp [intOf]; omega
      · obtain rfl : j = ts.length := by omega
        rw [List.take_length] at HJ
        have HQ := Lib.hid (show chkM (.mk k a v f ts) n = (true, nj) by rw [HQ0.out, HJ.out])
        go_wp2_with fail
        go_ret
        exact ⟨ret_bool (by rw [HQ.out]), by rw [HQ.out]; exact HC.out, HB.out⟩
def cntI (t : Trm) : Int := if validM t = true then (cntM t : Int) else 0
set_option maxRecDepth 100000 in
set_option maxHeartbeats 800000 in
theorem count_any (t : Trm) (c : Array Value) (w : World) (hM : MAt w t c) : Calls Tryz.prog 42 #[.agg c] w fun e w' => e = .returned (.int .i64 (cntI t)) ∧ Below w.heap.size w w' := by
  obtain ⟨A, cap, rfl, ha, hv, hf, hl, hc, hk⟩ := hM.form
  have HB := Lib.hid (bel_alloc w (.cells (trmC t.kind t.nam t.vr A t.args.length cap t.form) 25))
  have K1 := Lib.hid (Blk.new w 25 (trmC t.kind t.nam t.vr A t.args.length cap t.form))
  have HP := Lib.hid (PtM.box K1.out ha hv hf hl hc (hk.keep HB.out))
  have HVC := Lib.hid (validM_chk t)
  have HCC := Lib.hid (@chk_count t)
  clear hM hk
  dsimp only [trmC] at HB K1 HP
  go_enter Tryz.func42, Tryz.ntmps42
  go_wp2_with fail
  have HG := Lib.hid (show (w.alloc (.cells (trmC t.kind t.nam t.vr A t.args.length cap t.form) 25)).heap.size = w.heap.size + 1 by simp)
  dsimp only [trmC] at HG
  generalize w.alloc (.cells #[.int .i64 t.kind, .string t.nam, .string t.vr, .slice A t.args.length cap, .string t.form] 25) = w1 at *
  have KC := Lib.hid (show Blk (w1.alloc (.cells #[.int .i64 0] 3)) (w.heap.size + 1) 3 #[.int .i64 ((0 : Nat) : Int)] by rw [← HG.out]; exact Blk.new w1 3 #[.int .i64 0])
  have H1 := Lib.hid (bel_alloc w1 (.cells #[.int .i64 0] 3))
  have HGE := Lib.hid (show w1.heap.size ≤ w.heap.size + 1 by rw [HG.out]; exact Nat.le_refl _)
  generalize w1.alloc (.cells #[.int .i64 0] 3) = w2 at *
  refine (valid_any (cntM t) t _ A cap (w.heap.size + 1) 0 w1 w2 (Nat.le_refl _) HP.out H1.out KC.out HGE.out (by omega)).mono ?_
  rintro e w4 ⟨rfl, hC4, hB4⟩
  have HB := Lib.hid (HB.out.trans (hB4.mono HB.out.size))
  have c0 := hC4.cell 0
  clear hB4 hC4
  rw [HVC.out]
  cases hval : validM t
  · have HE := Lib.hid (show cntI t = 0 by unfold cntI; rw [if_neg (by rw [hval]; simp)])
    clear hval
    go_wp2_with fail
    go_ret
    exact ⟨ret_int HE.out.symm, HB.out⟩
  · rw [HCC.out hval] at c0
    have HE := Lib.hid (show cntI t = cntM t by unfold cntI; rw [if_pos hval])
    clear hval
    go_wp2_with fail
    go_ret
    exact ⟨ret_int HE.out.symm, HB.out⟩
set_option maxRecDepth 100000 in
set_option maxHeartbeats 800000 in
theorem tvalid_any (t : Trm) (c : Array Value) (w : World) (hM : MAt w t c) : Calls Tryz.prog 19 #[.agg c] w fun e w' => e = .returned (.bool (validM t)) ∧ Below w.heap.size w w' := by
  obtain ⟨A, cap, rfl, ha, hv, hf, hl, hc, hk⟩ := hM.form
  have HM := Lib.hid (hM.keep (bel_alloc w (.cells (trmC t.kind t.nam t.vr A t.args.length cap t.form) 25)))
  have HB := Lib.hid (bel_alloc w (.cells (trmC t.kind t.nam t.vr A t.args.length cap t.form) 25))
  have K1 := Lib.hid (Blk.new w 25 (trmC t.kind t.nam t.vr A t.args.length cap t.form))
  have hpos := cnt_pos t
  have HI := Lib.hid (show cntI t = if validM t = true then (cntM t : Int) else 0 from rfl)
  clear hM hk
  dsimp only [trmC] at HM HB K1
  go_enter Tryz.func19, Tryz.ntmps19
  go_wp2_with fail
  refine (count_any t _ _ HM.out).mono ?_
  rintro e w2 ⟨rfl, hb⟩
  have HB := Lib.hid (HB.out.trans (hb.mono HB.out.size))
  clear hb
  cases hval : validM t
  · have HVV := Lib.hid hval
    rw [hval, if_neg (by simp)] at HI
    rw [HI.out]
    clear hval
    go_wp2_with fail
    go_ret
    exact ⟨ret_bool (by rw [HVV.out]), HB.out⟩
  · have HVV := Lib.hid hval
    rw [hval, if_pos rfl] at HI
    rw [HI.out]
    clear hval HI
    generalize cntM t = u at *
    go_wp2_with fail
    go_ret
    exact ⟨ret_bool (by rw [HVV.out]; first | rfl | (simp; omega)), HB.out⟩
end Go.Proofs.YtpokelkneblafaaGreatDoor
