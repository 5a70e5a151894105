/- Terms: the law's few, size and Valid of the reference, Count and Valid of the program. -/
import Derived.Test.YtpokelkneblafaaGreatDoorPR
namespace Go.Proofs.YtpokelkneblafaaGreatDoor
open Go.RowKit
/-- what 'left' returns -/
def LeftP (t : Trm) (m : Int) (w : World) (e : Ending) (w' : World) : Prop := ∃ r : Int, e = .returned (.int .i64 r) ∧ -1 ≤ r ∧ r ≤ 1000000 ∧ (0 ≤ r → (cntM t : Int) + r ≤ m) ∧ Below w.heap.size w w'
set_option maxRecDepth 100000 in
set_option maxHeartbeats 1600000 in
theorem left_any : ∀ (z : Nat) (t : Trm) (c : Array Value) (m : Int) (w : World), cntM t ≤ z → MAt w t c → 0 ≤ m → m ≤ 1000000 → Calls Tryz.prog 25 #[.agg c, .int .i64 m] w (LeftP t m w) := by
  intro z
  induction z with
  | zero => intro t c m w h; have := cnt_pos t; omega
  | succ z ih =>
    intro t c m w hz hM h0 hm
    have IH := Lib.hid ih
    clear ih
    obtain ⟨A, cap, rfl, ha, hv, hf, hl, hc, hk⟩ := hM.form
    obtain ⟨k, a, v, f, ts⟩ := t
    dsimp only [Trm.kind, Trm.nam, Trm.vr, Trm.form, Trm.args] at ha hv hf hl hk ⊢
    have HZ := Lib.hid (show cntL ts ≤ z by rw [cntM] at hz; omega)
    have HK := Lib.hid (hk.keep (bel_alloc w (.cells (trmC k a v A ts.length cap f) 25)))
    have HB := Lib.hid (bel_alloc w (.cells (trmC k a v A ts.length cap f) 25))
    have K1 := Lib.hid (Blk.new w 25 (trmC k a v A ts.length cap f))
    have HL : ts.length ≤ 9223372036854775807 := by omega
    have HT := Lib.hid (show cntM (.mk k a v f ts) = cntL ts + 1 by rw [cntM])
    clear hz hM hk
    dsimp only [trmC] at HK HB K1
    by_cases g1 : 300 < (a.size : Int)
    · have c1 := K1.out.cell 1
      go_enter Tryz.func25, Tryz.ntmps25
      go_wp2_with fail
      go_ret
      exact ⟨-1, rfl, by omega, by omega, fun h => absurd h (by omega), HB.out⟩
    by_cases g2 : 300 < (v.size : Int)
    · have c1 := K1.out.cell 1
      have c2 := K1.out.cell 2
      go_enter Tryz.func25, Tryz.ntmps25
      go_wp2_with fail
      go_ret
      exact ⟨-1, rfl, by omega, by omega, fun h => absurd h (by omega), HB.out⟩
    by_cases g3 : 300 < (f.size : Int)
    · have c1 := K1.out.cell 1
      have c2 := K1.out.cell 2
      have c4 := K1.out.cell 4
      go_enter Tryz.func25, Tryz.ntmps25
      go_wp2_with fail
      go_ret
      exact ⟨-1, rfl, by omega, by omega, fun h => absurd h (by omega), HB.out⟩
    have c1 := K1.out.cell 1
    have c2 := K1.out.cell 2
    have c4 := K1.out.cell 4
    go_enter Tryz.func25, Tryz.ntmps25
    go_wp2_with fail
    clear c1 c2 c4
    go_loopw [1, 5] (fun v0 i wr => ∃ (j : Nat) (x : Int), j ≤ ts.length ∧ i = .int .i64 j ∧ v0 = .int .i64 x ∧ -1 ≤ x ∧ x ≤ 1000000 ∧ Hid (0 ≤ x → ((cntL (ts.take j) + 1 : Nat) : Int) + x ≤ m) ∧ Hid (Blk wr w.heap.size 25 (trmC k a v A ts.length cap f)) ∧ Hid (ArgsAt wr A ts) ∧ Hid (Below w.heap.size w wr)) (fun _ i _ => ts.length - (intOf i).toNat)
    case atStart => exact ⟨0, m - 1, by omega, rfl, rfl, by omega, by omega, (fun _ => by rw [List.take_zero, cntL]; omega), K1, HK, HB⟩
    case round =>
      clear K1 HK HB
      obtain ⟨j, x, hj, rfl, rfl, hx1, hx2, HX, K1, HK, HB⟩ := hrel
      have c3 := K1.out.cell 3
      dsimp only [trmC] at c3
      by_cases hlt : j < ts.length
      · by_cases hpos : 0 ≤ x
        · obtain ⟨y, hy⟩ : ∃ y, ts[j]? = some y := ⟨_, List.getElem?_eq_getElem hlt⟩
          obtain ⟨ad, A', cap', rfl, hadl, hp⟩ := HK.out.at_ hy
          have HY := Lib.hid hp.whole
          obtain ⟨-, d0, d1, d2, d3, d4, -⟩ := hp
          have HS := Lib.hid (show cntM y ≤ z by have := cnt_arg hy; have := HZ.out; omega)
          have HSN := Lib.hid (cntL_snoc hy)
          clear hy
          go_wp2_with fail
          refine (IH.out y _ _ _ HS.out HY.out hpos hx2).mono ?_
          rintro e w2 ⟨r, rfl, hr1, hr2, hr3, hb⟩
          replace HK := Lib.hid (HK.out.keep hb)
          replace K1 := Lib.hid (keep hb K1.out)
          replace HB := Lib.hid (HB.out.trans (hb.mono HB.out.size))
          have HR := Lib.hid (show 0 ≤ r → ((cntL (ts.take (j + 1)) + 1 : Nat) : Int) + r ≤ m from fun h => by
            have h1 := hr3 h
            have h2 := HX.out hpos
            rw [HSN.out]
            omega)
          clear hb HY d0 d1 d2 d3 d4 c3 hr3
          go_wp2_with fail
          go_roundw
          case rel => exact ⟨j + 1, r, by omega, by go_num, rfl, hr1, hr2, HR, K1, HK, HB⟩
          case measure => simp [intOf]; omega
        · go_wp2_with fail
          go_ret
          exact ⟨x, rfl, hx1, hx2, fun h => absurd h (by omega), HB.out⟩
      · obtain rfl : j = ts.length := by omega
        rw [List.take_length] at HX
        go_wp2_with fail
        go_ret
        exact ⟨x, rfl, hx1, hx2, fun h => by rw [HT.out]; exact HX.out h, HB.out⟩
/-- what 'few' returns -/
def FewP (t : Trm) (w : World) (e : Ending) (w' : World) : Prop := ∃ b : Bool, e = .returned (.bool b) ∧ (b = true → cntM t ≤ 200) ∧ Below w.heap.size w w'
set_option maxRecDepth 100000 in
set_option maxHeartbeats 800000 in
theorem few_any (t : Trm) (c : Array Value) (w : World) (hM : MAt w t c) : Calls Tryz.prog 10 #[.agg c] w (FewP t w) := by
  obtain ⟨A, cap, rfl, ha, hv, hf, hl, hc, hk⟩ := hM.form
  have HM := Lib.hid (hM.keep (bel_alloc w (.cells (trmC t.kind t.nam t.vr A t.args.length cap t.form) 25)))
  have HB := Lib.hid (bel_alloc w (.cells (trmC t.kind t.nam t.vr A t.args.length cap t.form) 25))
  have K1 := Lib.hid (Blk.new w 25 (trmC t.kind t.nam t.vr A t.args.length cap t.form))
  clear hM hk
  dsimp only [trmC] at HM HB K1
  go_enter Tryz.func10, Tryz.ntmps10
  go_wp2_with fail
  refine (left_any (cntM t) t _ 200 _ (Nat.le_refl _) HM.out (by omega) (by omega)).mono ?_
  rintro e w2 ⟨r, rfl, hr1, hr2, hr3, hb⟩
  replace HB := Lib.hid (HB.out.trans (hb.mono HB.out.size))
  have HR := Lib.hid (show decide (0 ≤ r) = true → cntM t ≤ 200 from fun h => by
    have h0 := of_decide_eq_true h
    have := hr3 h0
    omega)
  clear hb hr3
  go_wp2_with fail
  go_ret
  exact ⟨_, rfl, HR.out, HB.out⟩
set_option maxRecDepth 100000 in
set_option maxHeartbeats 1600000 in
theorem rsize_any : ∀ (z : Nat) (t : Trm) (c : Array Value) (w : World), cntM t ≤ z → z ≤ 1000000 → MAt w t c → Calls Tryz.prog 26 #[.agg c] w fun e w' => e = .returned (.int .i64 (sizM t)) ∧ Below w.heap.size w w' := by
  intro z
  induction z with
  | zero => intro t c w h; have := cnt_pos t; omega
  | succ z ih =>
    intro t c w hz hz2 hM
    have IH := Lib.hid (fun t c w h hN => ih t c w h (by omega) hN)
    clear ih
    obtain ⟨A, cap, rfl, ha, hv, hf, hl, hc, hk⟩ := hM.form
    have HM := Lib.hid (hM.keep (bel_alloc w (.cells (trmC t.kind t.nam t.vr A t.args.length cap t.form) 25)))
    obtain ⟨k, a, v, f, ts⟩ := t
    dsimp only [Trm.kind, Trm.nam, Trm.vr, Trm.form, Trm.args] at ha hv hf hl hk HM ⊢
    have HK := Lib.hid (hk.keep (bel_alloc w (.cells (trmC k a v A ts.length cap f) 25)))
    have HB := Lib.hid (bel_alloc w (.cells (trmC k a v A ts.length cap f) 25))
    have K1 := Lib.hid (Blk.new w 25 (trmC k a v A ts.length cap f))
    have HT : cntM (.mk k a v f ts) = cntL ts + 1 := by rw [cntM]
    have HFM := Lib.hid (show formM (.mk k a v f ts) = (ownM k a.data.toList v.data.toList f.data.toList ts.length && formML ts) by rw [formM])
    have hlc := len_cntL ts
    have HZ := Lib.hid (show cntL ts ≤ z by omega)
    have HL : ts.length ≤ 1000000 := by omega
    have HQ := Lib.hid (show sizM (.mk k a v f ts) = if formM (.mk k a v f ts) = true ∧ cntL ts + 1 ≤ 1000 then ((cntL ts + 1 : Nat) : Int) else -1 by unfold sizM; rw [HT])
    have HLC := Lib.hid hlc
    clear hz hM hk HT hlc
    dsimp only [trmC] at HK HB K1 HM
    go_enter Tryz.func26, Tryz.ntmps26
    go_wp2_with fail
    refine (proper_any _ _ _ HM.out).mono ?_
    rintro e w1 ⟨rfl, hb⟩
    dsimp only [Trm.kind, Trm.nam, Trm.vr, Trm.form, Trm.args]
    replace HK := Lib.hid (HK.out.keep hb)
    replace K1 := Lib.hid (keep hb K1.out)
    replace HB := Lib.hid (HB.out.trans (hb.mono HB.out.size))
    clear hb HM
    have c3 := K1.out.cell 3
    cases ho : ownM k a.data.toList v.data.toList f.data.toList ts.length
    · have HQ2 := Lib.hid (show sizM (.mk k a v f ts) = -1 by rw [HQ.out, if_neg (fun h => by rw [HFM.out, ho] at h; simp at h)])
      clear ho
      go_wp2_with fail
      go_ret
      exact ⟨ret_int HQ2.out.symm, HB.out⟩
    rw [ho, Bool.true_and] at HFM
    clear ho
    by_cases hbig : 1000 < (ts.length : Int)
    · have HQ2 := Lib.hid (show sizM (.mk k a v f ts) = -1 by rw [HQ.out, if_neg (fun h => by have := HLC.out; omega)])
      go_wp2_with fail
      go_ret
      exact ⟨ret_int HQ2.out.symm, HB.out⟩
    rw [HFM.out] at HQ
    go_wp2_with fail
    clear c3
    go_loopw [3, 4] (fun v0 i wr => ∃ (j x : Nat), j ≤ ts.length ∧ i = .int .i64 j ∧ v0 = .int .i64 x ∧ x ≤ 1000 ∧ Hid (x = cntL (ts.take j) + 1) ∧ Hid (formML (ts.take j) = true) ∧ Hid (Blk wr w.heap.size 25 (trmC k a v A ts.length cap f)) ∧ Hid (ArgsAt wr A ts) ∧ Hid (Below w.heap.size w wr)) (fun _ i _ => ts.length - (intOf i).toNat)
    case atStart => exact ⟨0, 1, by omega, rfl, rfl, by omega, rfl, rfl, K1, HK, HB⟩
    case round =>
      clear K1 HK HB
      obtain ⟨j, x, hj, rfl, rfl, hx, HX, HFJ, K1, HK, HB⟩ := hrel
      have c3 := K1.out.cell 3
      dsimp only [trmC] at c3
      by_cases hlt : j < ts.length
      · obtain ⟨y, hy⟩ : ∃ y, ts[j]? = some y := ⟨_, List.getElem?_eq_getElem hlt⟩
        obtain ⟨ad, A', cap', rfl, hadl, hp⟩ := HK.out.at_ hy
        have HY := Lib.hid hp.whole
        obtain ⟨-, d0, d1, d2, d3, d4, -⟩ := hp
        have HS := Lib.hid (show cntM y ≤ z by have := cnt_arg hy; have := HZ.out; omega)
        have HSN := Lib.hid (cntL_snoc hy)
        have HFS := Lib.hid (formML_snoc hy)
        have HLE := Lib.hid (cntL_take ts (j + 1))
        have HFF := Lib.hid (fun h => formML_false (ks := ts) (k := j + 1) h)
        have HYP := Lib.hid (cnt_pos y)
        clear hy
        go_wp2_with fail
        refine (IH.out y _ _ HS.out HY.out).mono ?_
        rintro e w2 ⟨rfl, hb⟩
        replace HK := Lib.hid (HK.out.keep hb)
        replace K1 := Lib.hid (keep hb K1.out)
        replace HB := Lib.hid (HB.out.trans (hb.mono HB.out.size))
        clear hb HY d0 d1 d2 d3 d4 c3
        by_cases hgood : formM y = true ∧ cntM y ≤ 1000
        · rw [show sizM y = (cntM y : Int) by unfold sizM; rw [if_pos hgood]]
          obtain ⟨g1, g2⟩ := hgood
          rw [HFJ.out, g1] at HFS
          have hyp := HYP.out
          by_cases hover : 1000 < x + cntM y
          · have HQ2 := Lib.hid (show sizM (.mk k a v f ts) = -1 by rw [HQ.out, if_neg (fun h => by have h1 := HSN.out; have h2 := HX.out; have h3 := HLE.out; omega)])
            clear g1 HSN HX
            generalize cntM y = u at *
            go_wp2_with fail
            go_ret
            exact ⟨ret_int HQ2.out.symm, HB.out⟩
          · have HS2 := Lib.hid (show x + cntM y = cntL (ts.take (j + 1)) + 1 by rw [HSN.out, HX.out]; omega)
            clear g1 HSN HX HS
            generalize cntM y = u at *
            go_wp2_with fail
            go_roundw
            case rel => exact ⟨j + 1, x + u, by omega, by go_num, by go_num, by omega, HS2, HFS, K1, HK, HB⟩
            case measure => simp [intOf]; omega
        · rw [show sizM y = -1 by unfold sizM; rw [if_neg hgood]]
          have HQ2 := Lib.hid (show sizM (.mk k a v f ts) = -1 by
            rw [HQ.out, if_neg]
            rintro ⟨h1, h2⟩
            apply hgood
            refine ⟨?_, ?_⟩
            · cases hfy : formM y
              · have h3 := HFF.out (by rw [HFS.out, hfy, Bool.and_false])
                rw [h3] at h1; cases h1
              · rfl
            · have h3 := HSN.out; have h4 := HLE.out; omega)
          clear hgood
          go_wp2_with fail
          go_ret
          exact ⟨ret_int HQ2.out.symm, HB.out⟩
      · obtain rfl : j = ts.length := by omega
        rw [List.take_length] at HX HFJ
        have HQ2 := Lib.hid (show sizM (.mk k a v f ts) = (x : Int) by rw [HQ.out, if_pos ⟨HFJ.out, by have := HX.out; omega⟩, HX.out])
        go_wp2_with fail
        go_ret
        exact ⟨ret_int HQ2.out.symm, HB.out⟩
set_option maxRecDepth 100000 in
set_option maxHeartbeats 800000 in
theorem rvalid_any (t : Trm) (c : Array Value) (w : World) (hn : cntM t ≤ 1000000) (hM : MAt w t c) : Calls Tryz.prog 11 #[.agg c] w fun e w' => e = .returned (.bool (validM t)) ∧ Below w.heap.size w w' := by
  obtain ⟨A, cap, rfl, ha, hv, hf, hl, hc, hk⟩ := hM.form
  have HM := Lib.hid (hM.keep (bel_alloc w (.cells (trmC t.kind t.nam t.vr A t.args.length cap t.form) 25)))
  have HB := Lib.hid (bel_alloc w (.cells (trmC t.kind t.nam t.vr A t.args.length cap t.form) 25))
  have K1 := Lib.hid (Blk.new w 25 (trmC t.kind t.nam t.vr A t.args.length cap t.form))
  have HQ := Lib.hid (siz_valid t)
  have HN := Lib.hid hn
  clear hM hk hn
  dsimp only [trmC] at HM HB K1
  go_enter Tryz.func11, Tryz.ntmps11
  go_wp2_with fail
  refine (rsize_any (cntM t) t _ _ (Nat.le_refl _) HN.out HM.out).mono ?_
  rintro e w2 ⟨rfl, hb⟩
  replace HB := Lib.hid (HB.out.trans (hb.mono HB.out.size))
  clear hb
  generalize sizM t = sz at *
  go_wp2_with fail
  go_ret
  exact ⟨ret_bool HQ.out, HB.out⟩
end Go.Proofs.YtpokelkneblafaaGreatDoor
