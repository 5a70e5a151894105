/- GrammarParse returns true: the walk of the statement. -/
import Derived.Test.YtgkfmeagpmjcoaaDoorT1
import Derived.Test.YtgkfmeagpmjcoaaDoorW8
namespace Go.Proofs.YtgkfmeagpmjcoaaDoor
open Go.RowKit
theorem parse_len {s : List UInt8} {rs : List Rul} {n m : Int} (h : parseAll s = (rs, n, m)) : rs.length ≤ 64 := by
  by_cases h0 : m = 0
  · subst h0; exact valid_len (parse_inv h).1
  · unfold parseAll at h
    split at h
    · simp only [Prod.mk.injEq] at h; rw [← h.1]; simp
    · split at h
      · simp only [Prod.mk.injEq] at h; rw [← h.1]; simp
      · simp only [Prod.mk.injEq] at h; exact absurd h.2.2.symm h0
set_option maxRecDepth 100000 in
set_option maxHeartbeats 800000 in
theorem gparse_walk (s : ByteArray) (w : World) (hG : Glb w) : Calls Tryd.prog 7 #[.string s] w fun e w' => e = .returned (.bool true) ∧ Below w.heap.size w w' := by
  have HG := Lib.hid hG
  clear hG
  by_cases h4 : 4000 < s.size
  · go_enter Tryd.func7, Tryd.ntmps7
    go_wp2_with fail
    refine (awake_any w HG.out.tab).mono ?_
    rintro e w1 ⟨rfl, hb⟩
    have H1 := Lib.hid hb
    clear hb
    go_wp2_with fail
    go_ret
    exact ⟨rfl, H1.out⟩
  · go_enter Tryd.func7, Tryd.ntmps7
    go_wp2_with fail
    refine (awake_any w HG.out.tab).mono ?_
    rintro e w1 ⟨rfl, hb⟩
    have H1 := Lib.hid hb
    clear hb
    go_wp2_with fail
    refine (parse_any s w1 (HG.out.keep H1.out) (by omega)).mono ?_
    rintro e w2 ⟨v, rfl, hO, hb⟩
    have H2 := Lib.hid (H1.out.trans (hb.mono H1.out.size))
    have HO := Lib.hid hO
    clear hb hO
    generalize hpa : parseAll s.data.toList = pa at *
    have HPA := Lib.hid hpa
    clear hpa
    go_wp2_with fail
    refine (rparse_any s w2 (by omega)).mono ?_
    rintro e w3 ⟨v2, rfl, hO2, hb⟩
    have H3 := Lib.hid (H2.out.trans (hb.mono H2.out.size))
    have HO := Lib.hid (HO.out.keep hb)
    have HO2 := Lib.hid hO2
    clear hb hO2
    rw [HPA.out] at HO2 ⊢
    obtain ⟨rs, n, m⟩ := pa
    dsimp only at HO HO2 ⊢
    have hl := parse_len HPA.out
    obtain ⟨A, cap, rfl, hcl, hcap, hR⟩ := HO.out.form
    obtain ⟨A2, cap2, rfl, hcl2, hcap2, hR2⟩ := HO2.out.form
    have HR := Lib.hid hR
    have HR2 := Lib.hid hR2
    clear hR hR2
    go_wp2_with fail
    refine (same_any A A2 cap cap2 rs w3 HR.out HR2.out (by omega)).mono ?_
    rintro e w4 ⟨rfl, k4, rfl⟩
    have H4 := Lib.hid (below_drewN H3.out k4)
    have HR := Lib.hid (show RulsAt (w3.drewN k4) A rs from HR.out)
    generalize w3.drewN k4 = w4 at *
    by_cases hm : m = 0
    · subst hm
      have HINV := Lib.hid (parse_inv HPA.out)
      go_wp2_with fail
      refine (text_any A cap rs w4 (HG.out.keep H4.out).tab HR.out hcl hcap).mono ?_
      rintro e w5 ⟨rfl, hb⟩
      have H5 := Lib.hid (H4.out.trans (hb.mono H4.out.size))
      clear hb
      rw [show (⟨(textV rs).toArray⟩ : ByteArray) = s by unfold textV; rw [if_pos HINV.out.1, HINV.out.2]]
      go_wp2_with fail
      go_ret
      exact ⟨rfl, H5.out⟩
    · have hm1 : (m == 0) = false := by rw [beq_eq_false_iff_ne]; exact hm
      have hm2 : (m != 0) = true := by simp [hm]
      clear hm
      go_wp2_with fail
      go_ret
      exact ⟨rfl, H4.out⟩
end Go.Proofs.YtgkfmeagpmjcoaaDoor
