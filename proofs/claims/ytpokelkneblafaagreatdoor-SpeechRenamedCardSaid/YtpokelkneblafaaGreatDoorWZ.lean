/- The words "capital" and "name" in a spoken text, counted by the law; the number of words by the program; Alpha. -/
import Derived.Test.YtpokelkneblafaaGreatDoorWQ
import Derived.Test.YtpokelkneblafaaGreatDoorAK
import Derived.Deep.DeepCutAuto
import Derived.Test.YtpokelkneblafaaGreatDoorTX
namespace Go.Proofs.YtpokelkneblafaaGreatDoor
open Go.RowKit
theorem exL_snoc {ks : List Trm} {k : Nat} {x : Trm} (h : ks[k]? = some x) : exL (ks.take (k + 1)) = exL (ks.take k) + exM x := by
  rw [List.take_add_one, h, Option.toList]
  generalize ks.take k = l
  induction l with
  | nil => simp [exL]
  | cons a r ih => rw [List.cons_append, exL, exL, ih]; omega
theorem oneX_le (l : Nm) : oneX l ≤ 1 := by
  unfold oneX
  split <;> omega
theorem le_less {x : UInt8} (h : Op.bytesLess [x] [90] = true) : x.toNat ≤ 90 := by
  have : ∀ n : Nat, n < 256 → Op.bytesLess [UInt8.ofNat n] [90] = true → (UInt8.ofNat n).toNat ≤ 90 := by decide +kernel
  have := this x.toNat x.toNat_lt
  rw [UInt8.ofNat_toNat] at this
  exact this h
theorem le_not {x : UInt8} (h : Op.bytesLess [x] [90] = false) (h2 : (x == 90) = false) : ¬ x.toNat ≤ 90 := by
  have : ∀ n : Nat, n < 256 → Op.bytesLess [UInt8.ofNat n] [90] = false → (UInt8.ofNat n == 90) = false → ¬ (UInt8.ofNat n).toNat ≤ 90 := by decide +kernel
  have := this x.toNat x.toNat_lt
  rw [UInt8.ofNat_toNat] at this
  exact this h h2
mutual
theorem exM_le : ∀ t : Trm, exM t ≤ 2 * cntM t
  | .mk k a v f ts => by
    have h := exL_le ts
    have h1 := oneX_le a.data.toList
    have h2 := oneX_le v.data.toList
    rw [exM, cntM]
    split <;> split <;> omega
theorem exL_le : ∀ ts : List Trm, exL ts ≤ 2 * cntL ts
  | [] => Nat.le_refl _
  | t :: ts => by
    have h1 := exM_le t
    have h2 := exL_le ts
    rw [exL, cntL]
    omega
end
set_option maxRecDepth 100000 in
set_option maxHeartbeats 4000000 in
theorem extra_any : ∀ (z : Nat) (t : Trm) (c : Array Value) (w : World), cntM t ≤ z → z ≤ 1000 → formM t = true → MAt w t c → Calls Tryz.prog 15 #[.agg c] w fun e w' => e = .returned (.int .i64 (exM t)) ∧ Below w.heap.size w w' := by
  intro z
  induction z with
  | zero => intro t c w h; have := cnt_pos t; omega
  | succ z ih =>
    intro t c w hz hz2 hm hM
    have IH := Lib.hid (fun t c w h hf hN => ih t c w h (by omega) hf hN)
    clear ih
    obtain ⟨A, cap, rfl, ha, hv, hf, hl, hc, hk⟩ := hM.form
    obtain ⟨k, a, v, f, ts⟩ := t
    dsimp only [Trm.kind, Trm.nam, Trm.vr, Trm.form, Trm.args] at ha hv hf hl hk ⊢
    have HM := Lib.hid hm
    have HK := Lib.hid (hk.keep (bel_alloc w (.cells (trmC k a v A ts.length cap f) 25)))
    have HB := Lib.hid (bel_alloc w (.cells (trmC k a v A ts.length cap f) 25))
    have K1 := Lib.hid (Blk.new w 25 (trmC k a v A ts.length cap f))
    have HZ0 := Lib.hid (show cntL ts ≤ z ∧ z ≤ 1000 by rw [cntM] at hz; omega)
    have HL : ts.length ≤ 1000 := by have := len_cntL ts; have := HZ0.out; omega
    clear hz hM hk hm hv hf hl hc
    dsimp only [trmC] at HK HB K1
    have HID2 := Lib.hid (fun (h : k = 2) => (var_form (h ▸ HM.out)).2.2.2)
    have HID5 := Lib.hid (show k = 5 → idB v.data.toList = true from fun h => by
      have hm := HM.out
      subst h
      rw [formM, Bool.and_eq_true] at hm
      have ho := hm.1
      unfold ownM at ho
      rw [if_neg (by decide), if_neg (by decide), if_neg (by decide), if_neg (by decide), if_pos rfl] at ho
      simp only [Bool.and_eq_true] at ho
      exact ho.2.2.1)
    obtain ⟨e1, he1⟩ : ∃ e : Nat, e = if k = 2 then oneX a.data.toList else 0 := ⟨_, rfl⟩
    obtain ⟨e2, he2⟩ : ∃ e : Nat, e = if k = 5 then oneX v.data.toList else 0 := ⟨_, rfl⟩
    have HT := Lib.hid (show exM (.mk k a v f ts) = e1 + e2 + exL ts by rw [exM, he1, he2])
    have HE1 := Lib.hid he1
    have HE2 := Lib.hid he2
    have HEB := Lib.hid (show e1 ≤ 1 ∧ e2 ≤ 1 by
      have h1 := oneX_le a.data.toList
      have h2 := oneX_le v.data.toList
      rw [he1, he2]
      split <;> split <;> omega)
    clear he1 he2
    have HNa := Lib.hid (show a.data.toList.length = a.size by simp)
    have HNv := Lib.hid (show v.data.toList.length = v.size by simp)
    go_enter Tryz.func15, Tryz.ntmps15
    go_upto_region 2 with (fail)
    generalize w.alloc (.cells (trmC k a v A ts.length cap f) 25) = w1 at *
    have c0 := K1.out.cell 0
    have c1 := K1.out.cell 1
    go_cut [18] (fun b wc => b = .bool (decide (e1 = 1)) ∧ wc = w1)
    case first =>
      by_cases h2 : k = 2
      · by_cases h1 : (1 : Int) < ((a).size : Int)
        · have HV := Lib.hid (show e1 = 1 by rw [HE1.out, if_pos h2]; unfold oneX; rw [if_pos (.inl (by have := HNa.out; omega))])
          have hk : (k == 2) = true := beq_iff_eq.2 h2
          clear h2
          go_wp2_with fail
          go_meet
          exact ⟨by rw [HV.out]; rfl, rfl⟩
        · obtain ⟨x, hx⟩ := sym_one (s := a) (by have h := HID2.out h2; have := (id_named h).2.1; have e2 := HNa.out; omega)
          have HX := Lib.hid (show e1 = if x.toNat ≤ 90 then 1 else 0 by
            rw [HE1.out, if_pos h2, hx]
            unfold oneX
            by_cases h90 : x.toNat ≤ 90
            · rw [if_pos h90, if_pos (.inr h90)]
            · rw [if_neg h90, if_neg (fun h => h.elim (fun h => by simp at h) h90)])
          subst hx
          have hk : (k == 2) = true := beq_iff_eq.2 h2
          clear h2
          cases q1 : Op.bytesLess [x] [90]
          · cases q2 : (x == 90)
            · have HV := Lib.hid (show e1 = 0 by rw [HX.out, if_neg (le_not q1 q2)])
              go_wp2_with fail
              go_meet
              exact ⟨by rw [HV.out]; rfl, rfl⟩
            · have HV := Lib.hid (show e1 = 1 by rw [HX.out, if_pos (by rw [beq_iff_eq] at q2; subst q2; decide)])
              go_wp2_with fail
              go_meet
              exact ⟨by rw [HV.out]; rfl, rfl⟩
          · have HV := Lib.hid (show e1 = 1 by rw [HX.out, if_pos (le_less q1)])
            go_wp2_with fail
            go_meet
            exact ⟨by rw [HV.out]; rfl, rfl⟩
      · have HV := Lib.hid (show e1 = 0 by rw [HE1.out, if_neg h2])
        have hk : (k == 2) = false := beq_eq_false_iff_ne.2 h2
        clear h2
        go_wp2_with fail
        go_meet
        exact ⟨by rw [HV.out]; rfl, rfl⟩
    case rest =>
      obtain ⟨rfl, rfl⟩ := hcut
      clear c0 c1
      go_upto_if 18 with (fail)
      go_cut [3] (fun n wd => n = .int .i64 (e1 : Int) ∧ wd = wc)
      case first =>
        have h01 : e1 = 0 ∨ e1 = 1 := by have := HEB.out; omega
        rcases h01 with h0 | h0
        · rw [show decide (e1 = 1) = false by rw [h0]; rfl]
          replace h0 := Lib.hid h0
          go_wp2_with fail
          go_meet
          exact ⟨by rw [h0.out]; rfl, rfl⟩
        · rw [show decide (e1 = 1) = true by rw [h0]; rfl]
          replace h0 := Lib.hid h0
          go_wp2_with fail
          go_meet
          exact ⟨by rw [h0.out]; rfl, rfl⟩
      case rest =>
        obtain ⟨rfl, rfl⟩ := hcut
        have c0 := K1.out.cell 0
        have c2 := K1.out.cell 2
        go_upto_region 4 with (fail)
        go_cut [34] (fun b we => b = .bool (decide (e2 = 1)) ∧ we = wc)
        case first =>
          by_cases h2 : k = 5
          · by_cases h1 : (1 : Int) < ((v).size : Int)
            · have HV := Lib.hid (show e2 = 1 by rw [HE2.out, if_pos h2]; unfold oneX; rw [if_pos (.inl (by have := HNv.out; omega))])
              have hk : (k == 5) = true := beq_iff_eq.2 h2
              clear h2
              go_wp2_with fail
              go_meet
              exact ⟨by rw [HV.out]; rfl, rfl⟩
            · obtain ⟨x, hx⟩ := sym_one (s := v) (by have h := HID5.out h2; have := (id_named h).2.1; have e2 := HNv.out; omega)
              have HX := Lib.hid (show e2 = if x.toNat ≤ 90 then 1 else 0 by
                rw [HE2.out, if_pos h2, hx]
                unfold oneX
                by_cases h90 : x.toNat ≤ 90
                · rw [if_pos h90, if_pos (.inr h90)]
                · rw [if_neg h90, if_neg (fun h => h.elim (fun h => by simp at h) h90)])
              subst hx
              have hk : (k == 5) = true := beq_iff_eq.2 h2
              clear h2
              cases q1 : Op.bytesLess [x] [90]
              · cases q2 : (x == 90)
                · have HV := Lib.hid (show e2 = 0 by rw [HX.out, if_neg (le_not q1 q2)])
                  go_wp2_with fail
                  go_meet
                  exact ⟨by rw [HV.out]; rfl, rfl⟩
                · have HV := Lib.hid (show e2 = 1 by rw [HX.out, if_pos (by rw [beq_iff_eq] at q2; subst q2; decide)])
                  go_wp2_with fail
                  go_meet
                  exact ⟨by rw [HV.out]; rfl, rfl⟩
              · have HV := Lib.hid (show e2 = 1 by rw [HX.out, if_pos (le_less q1)])
                go_wp2_with fail
                go_meet
                exact ⟨by rw [HV.out]; rfl, rfl⟩
          · have HV := Lib.hid (show e2 = 0 by rw [HE2.out, if_neg h2])
            have hk : (k == 5) = false := beq_eq_false_iff_ne.2 h2
            clear h2
            go_wp2_with fail
            go_meet
            exact ⟨by rw [HV.out]; rfl, rfl⟩
        case rest =>
          obtain ⟨rfl, rfl⟩ := hcut
          clear c0 c2
          have hb1 := HEB.out.1
          have hb2 := HEB.out.2
          go_upto_if 34 with (fail)
          go_cut [3] (fun n wf => n = .int .i64 ((e1 : Int) + (e2 : Int)) ∧ wf = wc)
          case first =>
            have h01 : e2 = 0 ∨ e2 = 1 := by have := HEB.out; omega
            rcases h01 with h0 | h0
            · rw [show decide (e2 = 1) = false by rw [h0]; rfl]
              replace h0 := Lib.hid h0
              go_wp2_with fail
              go_meet
              exact ⟨by rw [h0.out]; simp, rfl⟩
            · rw [show decide (e2 = 1) = true by rw [h0]; rfl]
              replace h0 := Lib.hid h0
              go_wp2_with fail
              go_meet
              exact ⟨by rw [h0.out]; rfl, rfl⟩
          case rest =>
            obtain ⟨rfl, rfl⟩ := hcut
            have HEX := Lib.hid (exL_le ts)
            go_wp2_with fail
            go_loopw [3, 4] (fun n i wr => ∃ (j : Nat), j ≤ ts.length ∧ i = .int .i64 j ∧ n = .int .i64 ((e1 : Int) + (e2 : Int) + (exL (ts.take j) : Int)) ∧ Hid (Blk wr w.heap.size 25 (trmC k a v A ts.length cap f)) ∧ Hid (ArgsAt wr A ts) ∧ Hid (Below w.heap.size w wr)) (fun _ i _ => ts.length - (intOf i).toNat)
            case atStart => exact ⟨0, by omega, rfl, by simp [exL], K1, HK, HB⟩
            case round =>
              clear K1 HK HB
              obtain ⟨j, hj, rfl, rfl, K1, HK, HB⟩ := hrel
              have c3 := K1.out.cell 3
              dsimp only [trmC] at c3
              by_cases hlt : j < ts.length
              · obtain ⟨y, hy⟩ : ∃ y, ts[j]? = some y := ⟨_, List.getElem?_eq_getElem hlt⟩
                obtain ⟨ad, A', cap', rfl, hadl, hp⟩ := HK.out.at_ hy
                have HY := Lib.hid hp.whole
                obtain ⟨-, d0, d1, d2, d3, d4, -⟩ := hp
                have HFY := Lib.hid (formML_at (by have := HM.out; rw [formM, Bool.and_eq_true] at this; exact this.2) hy)
                have HSY := Lib.hid (show cntM y ≤ z by have := cnt_arg hy; have := HZ0.out; omega)
                have hsn := exL_snoc hy
                have hbn : exL (ts.take (j + 1)) ≤ 2000 := by
                  have h1 := exL_le (ts.take (j + 1))
                  have h2 := cntL_take ts (j + 1)
                  have := HZ0.out
                  omega
                have HSN := Lib.hid (show ((e1 : Int) + (e2 : Int) + (exL (ts.take j) : Int)) + (exM y : Int) = (e1 : Int) + (e2 : Int) + (exL (ts.take (j + 1)) : Int) by rw [hsn]; omega)
                have hwr : IntKind.i64.wrap (((e1 : Int) + (e2 : Int) + (exL (ts.take j) : Int)) + (exM y : Int)) = ((e1 : Int) + (e2 : Int) + (exL (ts.take j) : Int)) + (exM y : Int) := IntWalk.i64_in _ (by have := HEB.out; omega)
                clear hy hsn hbn
                go_wp2_with fail
                refine (IH.out y _ _ HSY.out HFY.out HY.out).mono ?_
                rintro e w2 ⟨rfl, hb⟩
                replace HK := Lib.hid (HK.out.keep hb)
                replace K1 := Lib.hid (keep hb K1.out)
                replace HB := Lib.hid (HB.out.trans (hb.mono HB.out.size))
                clear hb HY d0 d1 d2 d3 d4 c3
                go_wp2_with fail
                go_roundw
                case rel => exact ⟨j + 1, by omega, by go_num, by rw [HSN.out], K1, HK, HB⟩
                case measure => simp [intOf]; omega
              · obtain rfl : j = ts.length := by omega
                rw [List.take_length]
                go_wp2_with fail
                go_ret
                exact ⟨ret_int (by rw [HT.out]; omega), HB.out⟩
open Go.RowKit
set_option maxRecDepth 100000 in
set_option maxHeartbeats 1600000 in
theorem words_any (B0 : Nat) (t : Trm) (c : Array Value) (w : World) (hG : Glb B0 w) (hB0 : B0 ≤ w.heap.size) (hval : validM t = true) (hM : MAt w t c) : Calls Tryz.prog 14 #[.agg c] w fun e w' => e = .returned (.int .i64 ((prtM t).length : Int)) ∧ Below w.heap.size w w' := by
  obtain ⟨A, cap, rfl, ha, hv, hf, hl, hc, hk⟩ := hM.form
  have HM := Lib.hid (hM.keep (bel_alloc w (.cells (trmC t.kind t.nam t.vr A t.args.length cap t.form) 25)))
  have HB := Lib.hid (bel_alloc w (.cells (trmC t.kind t.nam t.vr A t.args.length cap t.form) 25))
  have K1 := Lib.hid (Blk.new w 25 (trmC t.kind t.nam t.vr A t.args.length cap t.form))
  have HP := Lib.hid (PtM.box K1.out ha hv hf hl hc (hk.keep HB.out))
  have HG := Lib.hid (hG.keep hB0 HB.out)
  have HB0 := Lib.hid hB0
  have HV := Lib.hid hval
  clear hM hk hG hB0 hval
  dsimp only [trmC] at HM HB K1 HP HG
  go_enter Tryz.func14, Tryz.ntmps14
  go_wp2_with fail
  generalize w.alloc (.cells #[.int .i64 t.kind, .string t.nam, .string t.vr, .slice A t.args.length cap, .string t.form] 25) = w1 at *
  refine (tvalid_any t _ w1 HM.out).mono ?_
  rintro e w2 ⟨rfl, hb⟩
  rw [HV.out]
  have HP2 := Lib.hid (HP.out.keep hb)
  have HB2 := Lib.hid (HB.out.trans (hb.mono HB.out.size))
  have HG2 := Lib.hid (HG.out.keep (Nat.le_trans HB0.out HB.out.size) hb)
  clear hb HM HB K1 HP HG
  have HSZ := Lib.hid (sz_valid HV.out)
  have HBB := Lib.hid (bel_alloc w2 (.cells #[.int .i64 0] 3))
  have HT4 : Hid (Wds.TxtAt w2.heap.size w2.heap.size w2.heap.size [] (w2.alloc (.cells #[.int .i64 0] 3))) := Lib.hid ⟨Nat.le_refl _, by simp, Nat.le_refl _, Blk.new _ _ _⟩
  have HG4 := Lib.hid (HG2.out.keep (Nat.le_trans HB0.out HB2.out.size) HBB.out)
  have HB02 := Lib.hid (Nat.le_trans HB0.out HB2.out.size)
  clear HG2
  go_wp2_with fail
  generalize w2.alloc (.cells #[.int .i64 0] 3) = w4 at *
  refine (Wds.parts_any B0 w2.heap.size w2.heap.size w2.heap.size w2 HB02.out (Nat.le_refl _) (cntM t) t [] ⟨w.heap.size, 0, none⟩ A cap w4 (Nat.le_refl _) HG4.out HT4.out HBB.out HP2.out (by have := HSZ.out; show 0 + _ ≤ _; omega)).mono ?_
  rintro e w5 ⟨rfl, hT, hb, -⟩
  rw [List.nil_append] at hT
  have c0 := hT.flag.cell 0
  have HB5 := Lib.hid (HB2.out.trans ((HBB.out.trans hb).mono HB2.out.size))
  clear hT hb
  go_wp2_with fail
  go_ret
  exact ⟨rfl, HB5.out⟩
set_option maxRecDepth 100000 in
set_option maxHeartbeats 1600000 in
theorem alpha_any (t t' : Trm) (c c' : Array Value) (w : World) (hv : validM t = true) (hv' : validM t' = true) (hA : Alk Eq t t') (hM : MAt w t c) (hM' : MAt w t' c') : Calls Tryz.prog 13 #[.agg c, .agg c'] w fun e w' => e = .returned (.bool true) ∧ Below w.heap.size w w' := by
  obtain ⟨A, cap, rfl, -⟩ := hM.form
  obtain ⟨A', cap', rfl, -⟩ := hM'.form
  have hcn : ∀ {u : Trm}, validM u = true → cntM u ≤ 1000 := fun h => by
    unfold validM at h
    rw [Bool.and_eq_true, decide_eq_true_eq] at h
    exact h.2
  have HC1 := Lib.hid (hcn hv)
  have HC2 := Lib.hid (hcn hv')
  have HV := Lib.hid hv
  have HV' := Lib.hid hv'
  have HA := Lib.hid (show Alk (stkR ([] : List Nm).reverse ([] : List Nm).reverse) t t' from Alk.mono t t' (fun _ _ _ e => stk_nil e) hA)
  have B1 := bel_alloc w (.cells (trmC t.kind t.nam t.vr A t.args.length cap t.form) 25)
  have B2 := bel_alloc (w.alloc (.cells (trmC t.kind t.nam t.vr A t.args.length cap t.form) 25)) (.cells (trmC t'.kind t'.nam t'.vr A' t'.args.length cap' t'.form) 25)
  have s1 : (w.alloc (.cells (trmC t.kind t.nam t.vr A t.args.length cap t.form) 25)).heap.size = w.heap.size + 1 := by simp
  have hb0 := B1.trans (B2.mono B1.size)
  have HB := Lib.hid hb0
  have K0 := Lib.hid (keep B2 (Blk.new w 25 (trmC t.kind t.nam t.vr A t.args.length cap t.form)))
  have K1 := Lib.hid (Blk.new (w.alloc (.cells (trmC t.kind t.nam t.vr A t.args.length cap t.form) 25)) 25 (trmC t'.kind t'.nam t'.vr A' t'.args.length cap' t'.form))
  rw [s1] at K1
  have HM := Lib.hid (hM.keep hb0)
  have HM' := Lib.hid (hM'.keep hb0)
  clear hM hM' hA hv hv' hcn B1 B2 s1 hb0
  go_enter Tryz.func13, Tryz.ntmps13
  go_upto_region 1 with (fail)
  generalize (w.alloc (.cells (trmC t.kind t.nam t.vr A t.args.length cap t.form) 25)).alloc (.cells (trmC t'.kind t'.nam t'.vr A' t'.args.length cap' t'.form) 25) = w1 at *
  have k0 := fun i => K0.out.cell i
  go_wp2_with fail
  refine (rvalid_any t _ w1 (by have := HC1.out; omega) HM.out).mono ?_
  rintro e w2 ⟨rfl, hb⟩
  rw [HV.out]
  replace K0 := Lib.hid (keep hb K0.out)
  replace K1 := Lib.hid (keep hb K1.out)
  replace HM := Lib.hid (HM.out.keep hb)
  replace HM' := Lib.hid (HM'.out.keep hb)
  replace HB := Lib.hid (HB.out.trans (hb.mono HB.out.size))
  clear hb k0
  have k1 := fun i => K1.out.cell i
  go_wp2_with fail
  refine (rvalid_any t' _ w2 (by have := HC2.out; omega) HM'.out).mono ?_
  rintro e w3 ⟨rfl, hb⟩
  rw [HV'.out]
  replace K0 := Lib.hid (keep hb K0.out)
  replace K1 := Lib.hid (keep hb K1.out)
  replace HM := Lib.hid (HM.out.keep hb)
  replace HM' := Lib.hid (HM'.out.keep hb)
  replace HB := Lib.hid (HB.out.trans (hb.mono HB.out.size))
  clear hb k1
  have k0 := fun i => K0.out.cell i
  have k1 := fun i => K1.out.cell i
  go_wp2_with fail
  refine (alike_any 1000 t t' _ _ none none 0 0 [] [] w3 HC1.out HA.out (by simp) (by simp) HM.out HM'.out (NmsAt.nil _ _) (NmsAt.nil _ _)).mono ?_
  rintro e w4 ⟨rfl, hb⟩
  replace HB := Lib.hid (HB.out.trans (hb.mono HB.out.size))
  clear hb k0 k1
  go_wp2_with fail
  go_ret
  exact ⟨rfl, HB.out⟩
end Go.Proofs.YtpokelkneblafaaGreatDoor
