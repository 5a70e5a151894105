/- Text of the program; the example of the document. -/
import Derived.Test.YtpokelkneblafaaGreatDoorPC
import Derived.Lib.ItoaLen
namespace Go.Proofs.YtpokelkneblafaaGreatDoor
open Go.RowKit
theorem dig_len {n : Nat} (h : n ≤ 1000000000000) : (Lib.decDigits n).length ≤ 21 := by
  have := Lib.itoa_length_le (n : Int) (by omega) (by omega)
  unfold Lib.itoa at this
  rw [if_neg (by omega)] at this
  simpa using this
mutual
theorem sz_t : ∀ t : Trm, formM t = true → szP (prtM t) + 4 ≤ 250 * cntM t
  | .mk k a v f ts, h => by
    rw [formM, Bool.and_eq_true] at h
    obtain ⟨ho, hts⟩ := h
    have hL := sz_l ts true hts
    have e3 : a.data.toList.length = a.size := by simp
    rw [prtM, cntM]
    unfold ownM at ho
    by_cases h1 : k = 1
    · rw [if_pos h1] at ho ⊢
      rw [szP_one]
      have : a.data.toList.length ≤ 20 := by
        rw [Bool.and_eq_true] at ho
        have h2 := ho.2
        unfold numP at h2
        rw [Bool.and_eq_true, decide_eq_true_eq] at h2
        exact h2.1
      omega
    rw [if_neg h1] at ho ⊢
    by_cases h2 : k = 2
    · rw [if_pos h2]
      have := spoken_sz a.data.toList
      omega
    rw [if_neg h2] at ho ⊢
    by_cases h3 : k = 3
    · rw [if_pos h3] at ho ⊢
      rw [szP_mk3]
      simp only [Bool.and_eq_true, decide_eq_true_eq] at ho
      have h4 := ho.2.2
      have := dig_len (n := a.size) (by omega)
      omega
    rw [if_neg h3] at ho ⊢
    have hn : a.data.toList.length ≤ 16 ∧ f.data.toList.length ≤ 16 := by
      by_cases h4 : k = 4
      · rw [if_pos h4] at ho
        simp only [Bool.and_eq_true, decide_eq_true_eq] at ho
        exact ⟨(named_all ho.2.1).2.2, ho.1.2⟩
      · rw [if_neg h4] at ho
        by_cases h5 : k = 5
        · rw [if_pos h5] at ho
          simp only [Bool.and_eq_true, decide_eq_true_eq] at ho
          exact ⟨(named_all ho.2.1).2.2, ho.1.2⟩
        · rw [if_neg h5] at ho; cases ho
    have hO : szP (if k = 5 then wOver :: spokenL v.data.toList else []) ≤ 35 := by
      split
      · rw [szP_cons]
        have := spoken_sz v.data.toList
        have e1 : wOver.length = 4 := rfl
        omega
      · simp [szP]
    have hF : szP (if f.data.toList.isEmpty then [] else [wAs, f.data.toList]) ≤ 20 := by
      split
      · simp [szP]
      · rw [szP_cons, szP_one]
        have e1 : wAs.length = 2 := rfl
        omega
    rw [szP_app, szP_app, szP_app, szP_app, szP_cons, szP_one, szP_one]
    have e1 : wThe.length = 3 := rfl
    have e2 : wEnd.length = 3 := rfl
    omega
theorem sz_l : ∀ (ts : List Trm) (b : Bool), formML ts = true → szP (prtL b ts) ≤ 250 * cntL ts
  | [], b, _ => by rw [prtL]; simp [szP]
  | t :: ts, b, h => by
    rw [formML, Bool.and_eq_true] at h
    have h1 := sz_t t h.1
    have h2 := sz_l ts false h.2
    rw [prtL, cntL, szP_cons, szP_app]
    have : (if b = true then wOf else wAnd).length ≤ 3 := by cases b <;> decide
    omega
end
theorem sz_valid {t : Trm} (h : validM t = true) : szP (prtM t) ≤ 1000000 := by
  unfold validM at h
  rw [Bool.and_eq_true, decide_eq_true_eq] at h
  have := sz_t t h.1
  omega
def textV (t : Trm) : Value := if validM t = true then .tuple #[.string (bys (textM t)), .int .i64 0] else .tuple #[.string ⟨#[]⟩, .int .i64 1]
theorem bld_lt {w : World} : w.heap.size < (w.alloc (.cells #[.pointer none, .slice none 0 0] 50)).heap.size := by simp
set_option maxRecDepth 100000 in
set_option maxHeartbeats 1600000 in
theorem text_any (B0 : Nat) (t : Trm) (c : Array Value) (w : World) (hG : Glb B0 w) (hB0 : B0 ≤ w.heap.size) (hM : MAt w t c) : Calls Tryz.prog 9 #[.agg c] w fun e w' => e = .returned (textV t) ∧ Below w.heap.size w w' := by
  obtain ⟨A, cap, rfl, ha, hv, hf, hl, hc, hk⟩ := hM.form
  have HM := Lib.hid (hM.keep (bel_alloc w (.cells (trmC t.kind t.nam t.vr A t.args.length cap t.form) 25)))
  have HB := Lib.hid (bel_alloc w (.cells (trmC t.kind t.nam t.vr A t.args.length cap t.form) 25))
  have K1 := Lib.hid (Blk.new w 25 (trmC t.kind t.nam t.vr A t.args.length cap t.form))
  have HP := Lib.hid (PtM.box K1.out ha hv hf hl hc (hk.keep HB.out))
  have HG := Lib.hid (hG.keep hB0 HB.out)
  have HB0 := Lib.hid hB0
  clear hM hk hG hB0
  dsimp only [trmC] at HM HB K1 HP HG
  go_enter Tryz.func9, Tryz.ntmps9
  go_wp2_with fail
  generalize w.alloc (.cells #[.int .i64 t.kind, .string t.nam, .string t.vr, .slice A t.args.length cap, .string t.form] 25) = w1 at *
  refine (tvalid_any t _ w1 HM.out).mono ?_
  rintro e w2 ⟨rfl, hb⟩
  have HP2 := Lib.hid (HP.out.keep hb)
  have HB2 := Lib.hid (HB.out.trans (hb.mono HB.out.size))
  have HG2 := Lib.hid (HG.out.keep (Nat.le_trans HB0.out HB.out.size) hb)
  clear hb HM HB K1 HP HG
  cases hval : validM t
  · have HV := Lib.hid (show textV t = .tuple #[.string ⟨#[]⟩, .int .i64 1] by unfold textV; rw [if_neg (by rw [hval]; simp)])
    clear hval
    go_wp2_with fail
    exact bodyPost_ret (v := .tuple #[.string ⟨#[]⟩, .int .i64 1]) (by simp [results, Tryz.results9, go_sem]) rfl ⟨by rw [HV.out], HB2.out⟩
  · have HV := Lib.hid (show textV t = .tuple #[.string (bys (textM t)), .int .i64 0] by unfold textV; rw [if_pos hval])
    have HSZ := Lib.hid (sz_valid hval)
    clear hval
    have HI := Lib.hid (Lib.IsBuilderF.of (Lib.fresh_isBuilder 50 5 w2))
    have HW := Lib.hid (show (w2.alloc (.cells #[.pointer none, .slice none 0 0] 50)).heap.size = w2.heap.size + 1 by simp)
    have HBA := Lib.hid (bel_alloc w2 (.cells #[.pointer none, .slice none 0 0] 50))
    have HBB := Lib.hid (HBA.out.trans ((bel_alloc (w2.alloc (.cells #[.pointer none, .slice none 0 0] 50)) (.cells #[.bool false] 4)).mono HBA.out.size))
    have HT4 : Hid (TxtAt w2.heap.size w2.heap.size (w2.heap.size + 1) [] ((w2.alloc (.cells #[.pointer none, .slice none 0 0] 50)).alloc (.cells #[.bool false] 4))) := by
      refine ⟨by omega, Nat.le_refl _, by omega, ?_, iF_below HI.out (bel_alloc _ _)⟩
      rw [← HW.out]
      exact Blk.new _ _ _
    have HG4 := Lib.hid (HG2.out.keep (Nat.le_trans HB0.out HB2.out.size) HBB.out)
    have HB02 := Lib.hid (Nat.le_trans HB0.out HB2.out.size)
    clear HI HW HBA HG2
    go_wp2_with fail
    generalize (w2.alloc (.cells #[.pointer none, .slice none 0 0] 50)).alloc (.cells #[.bool false] 4) = w4 at *
    refine (parts_any B0 w2.heap.size w2.heap.size (w2.heap.size + 1) w2 HB02.out (Nat.le_refl _) (cntM t) t [] ⟨w.heap.size, 0, none⟩ A cap w4 (Nat.le_refl _) HG4.out HT4.out HBB.out HP2.out (by have := HSZ.out; show 0 + _ ≤ _; omega)).mono ?_
    rintro e w5 ⟨rfl, hT, hb, -⟩
    rw [List.nil_append] at hT
    have HS := Lib.hid (bstr_any w2.heap.size w2.heap.size (Lib.join (prtM t) [32]) w5 hT.bld (Nat.le_trans HBB.out.size hb.size))
    have HB5 := Lib.hid (HBB.out.trans hb)
    clear hT hb
    go_wp2_with fail
    refine HS.out.mono ?_
    rintro e w6 ⟨rfl, hb⟩
    have HB6 := Lib.hid (HB2.out.trans ((HB5.out.trans hb).mono HB2.out.size))
    clear hb
    go_wp2_with fail
    exact bodyPost_ret (v := .tuple #[.string (bys (textM t)), .int .i64 0]) (by simp [results, Tryz.results9, go_sem]; rfl) rfl ⟨by rw [HV.out], HB6.out⟩
def kmT : Trm := .mk 3 ⟨#[107, 109]⟩ ⟨#[]⟩ ⟨#[]⟩ []
theorem km_valid : validM kmT = true := by
  unfold validM kmT
  rw [formM, formML, cntM, cntL]
  decide
theorem km_text : bys (textM kmT) = ⟨#[116, 101, 120, 116, 32, 50, 32, 107, 109]⟩ := by
  have hd : Lib.decDigits 2 = [50] := Lib.decDigits_one (i := 2) (by decide)
  have h : prtM kmT = [wText, [50], [107, 109]] := by
    unfold kmT
    rw [prtM, if_neg (by decide), if_neg (by decide), if_pos rfl]
    rw [show (⟨#[107, 109]⟩ : ByteArray).size = 2 from rfl, hd]
  unfold textM
  rw [h]
  rfl
set_option maxRecDepth 100000 in
set_option maxHeartbeats 800000 in
theorem awake_any (B0 : Nat) (w : World) (hG : Glb B0 w) (hB0 : B0 ≤ w.heap.size) : Calls Tryz.prog 5 #[] w fun e w' => e = .returned (.bool true) ∧ Below w.heap.size w w' := by
  have HM := Lib.hid (show MAt w kmT #[.int .i64 3, .string ⟨#[107, 109]⟩, .string ⟨#[]⟩, .slice none 0 0, .string ⟨#[]⟩] from MAt.of (ts := []) (A := none) (cap := 0) (by decide) (by decide) (by decide) (Nat.le_refl _) (by omega) (fun i t hi => by simp at hi))
  have HT := Lib.hid (text_any B0 kmT _ w hG hB0 HM.out)
  rw [show textV kmT = .tuple #[.string ⟨#[116, 101, 120, 116, 32, 50, 32, 107, 109]⟩, .int .i64 0] by unfold textV; rw [if_pos km_valid, km_text]] at HT
  clear hG hB0
  go_enter Tryz.func5, Tryz.ntmps5
  go_wp2_with fail
  refine HT.out.mono ?_
  rintro e w2 ⟨rfl, hb⟩
  have HB := Lib.hid hb
  clear hb
  go_wp2_with fail
  go_ret
  exact ⟨rfl, HB.out⟩
end Go.Proofs.YtpokelkneblafaaGreatDoor
