/- GrammarText returns true: the walk of the statement. -/
import Derived.Test.YtgkfmeagpmjcoaaDoorT1
import Derived.Test.YtgkfmeagpmjcoaaDoorW6
namespace Go.Proofs.YtgkfmeagpmjcoaaDoor
open Go.RowKit
theorem textV_len (rs : List Rul) : (textV rs).length ≤ 7680 := by
  unfold textV
  split
  · rename_i h
    have := text_bound h rs.length
    rwa [List.take_length] at this
  · simp
set_option maxRecDepth 100000 in
set_option maxHeartbeats 800000 in
theorem text_walk (A : Option Addr) (cap : Nat) (rs : List Rul) (w : World) (hG : Glb w) (hR : RulsAt w A rs) (hc : rs.length ≤ cap) (hcap : cap ≤ 9223372036854775807) : Calls Tryd.prog 6 #[.slice A rs.length cap] w fun e w' => e = .returned (.bool true) ∧ Below w.heap.size w w' := by
  have HG := Lib.hid hG
  have HR := Lib.hid hR
  clear hG hR
  go_enter Tryd.func6, Tryd.ntmps6
  go_wp2_with fail
  refine (awake_any w HG.out.tab).mono ?_
  rintro e w1 ⟨rfl, hb⟩
  have H1 := Lib.hid hb
  clear hb
  go_wp2_with fail
  refine (short_any A cap rs w1 (HR.out.keep H1.out) (by omega)).mono ?_
  rintro e w1' ⟨rfl, rfl⟩
  cases hs : shortB rs
  · clear hs
    go_wp2_with fail
    go_ret
    exact ⟨rfl, H1.out⟩
  · have hl := short_len hs
    clear hs
    go_wp2_with fail
    refine (text_any A cap rs w1 (HG.out.keep H1.out).tab (HR.out.keep H1.out) hc hcap).mono ?_
    rintro e w2 ⟨rfl, hb⟩
    rw [show (⟨(textV rs).toArray⟩ : ByteArray) = bys (textV rs) from rfl]
    have H2 := Lib.hid (H1.out.trans (hb.mono H1.out.size))
    clear hb
    go_wp2_with fail
    refine (parse_any (bys (textV rs)) w2 (HG.out.keep H2.out) (by rw [bys_size]; have := textV_len rs; omega)).mono ?_
    rintro e w3 ⟨v, rfl, hO, hb⟩
    have H3 := Lib.hid (H2.out.trans (hb.mono H2.out.size))
    have HO := Lib.hid hO
    clear hb hO
    rw [bys_data] at HO ⊢
    generalize hpa : parseAll (textV rs) = pa at *
    have HPA := Lib.hid hpa
    clear hpa
    go_wp2_with fail
    refine (rvalid_any A cap rs w3 (HR.out.keep H3.out) (by omega)).mono ?_
    rintro e w4 ⟨rfl, hb⟩
    have H4 := Lib.hid (H3.out.trans (hb.mono H3.out.size))
    have HO := Lib.hid (HO.out.keep hb)
    clear hb
    cases hv : validB rs
    · have HTV := Lib.hid (show textV rs = [] by unfold textV; rw [hv]; rfl)
      clear hv
      rw [HTV.out, show bys [] = ⟨#[]⟩ from rfl]
      go_wp2_with fail
      go_ret
      exact ⟨rfl, H4.out⟩
    · have HTV := Lib.hid (show textV rs = textOf rs by unfold textV; rw [hv]; rfl)
      obtain rfl : pa = (rs, 0, 0) := by rw [← HPA.out, HTV.out, parse_text hv]
      clear hv HPA
      obtain ⟨A2, cap2, rfl, hcl, hcap2, hR2⟩ := HO.out.form
      have HR2 := Lib.hid hR2
      clear hR2
      dsimp only at hcl HR2 HO ⊢
      go_wp2_with fail
      refine (rtext_any A cap rs w4 (HR.out.keep H4.out) (by omega)).mono ?_
      rintro e w5 ⟨rfl, hb⟩
      have H5 := Lib.hid (H4.out.trans (hb.mono H4.out.size))
      have HR3 := Lib.hid (HR2.out.keep hb)
      clear hb
      generalize bys (textV rs) = t
      go_wp2_with fail
      refine (same_any A A2 cap cap2 rs w5 (HR.out.keep H5.out) HR3.out (by omega)).mono ?_
      rintro e w6 ⟨rfl, n, rfl⟩
      go_wp2_with fail
      go_ret
      exact ⟨rfl, below_drewN H5.out n⟩
end Go.Proofs.YtgkfmeagpmjcoaaDoor
