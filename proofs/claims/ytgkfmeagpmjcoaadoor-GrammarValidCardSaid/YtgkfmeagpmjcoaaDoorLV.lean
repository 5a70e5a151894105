/- GrammarValid returns true: the walk of the statement. -/
import Derived.Test.YtgkfmeagpmjcoaaDoorT1
import Derived.Test.YtgkfmeagpmjcoaaDoorSY
namespace Go.Proofs.YtgkfmeagpmjcoaaDoor
open Go.RowKit
set_option maxRecDepth 100000 in
set_option maxHeartbeats 800000 in
theorem valid_walk (A : Option Addr) (cap : Nat) (rs : List Rul) (w : World) (ht : Tab w) (hR : RulsAt w A rs) (hc : rs.length ≤ cap) (hcap : cap ≤ 9223372036854775807) : Calls Tryd.prog 4 #[.slice A rs.length cap] w fun e w' => e = .returned (.bool true) ∧ Below w.heap.size w w' := by
  have HT := Lib.hid ht
  have HR := Lib.hid hR
  clear ht hR
  go_enter Tryd.func4, Tryd.ntmps4
  go_wp2_with fail
  refine (awake_any w HT.out).mono ?_
  rintro e w1 ⟨rfl, hb⟩
  have H1 := Lib.hid hb
  clear hb
  go_wp2_with fail
  refine (short_any A cap rs w1 (HR.out.keep H1.out) (by omega)).mono ?_
  rintro e w1' ⟨rfl, rfl⟩
  cases hs : shortB rs
  · clear hs
    go_wp2_with fail
    go_ret
    exact ⟨rfl, H1.out⟩
  · have hl := short_len hs
    clear hs
    go_wp2_with fail
    refine (symbols_any A cap rs w1 (HR.out.keep H1.out) (by omega)).mono ?_
    rintro e w2 ⟨v1, rfl, hO1, hb⟩
    have H2 := Lib.hid (H1.out.trans (hb.mono H1.out.size))
    have HO1 := Lib.hid hO1
    clear hb hO1
    go_wp2_with fail
    refine (rsymbols_any A cap rs w2 (HR.out.keep H2.out) (by omega)).mono ?_
    rintro e w3 ⟨v2, rfl, hO2, hb⟩
    have H3 := Lib.hid (H2.out.trans (hb.mono H2.out.size))
    have hlen := symOf_len rs rs.length
    rw [List.take_length] at hlen
    generalize symOf rs = ps at *
    obtain ⟨A1, cap1, rfl, hcl1, hcap1, hS1⟩ := (HO1.out.keep hb).form
    obtain ⟨A2, cap2, rfl, hcl2, hcap2, hS2⟩ := OwnStrs.form hO2
    have HS1 := Lib.hid hS1
    have HS2 := Lib.hid hS2
    clear hb hO2 hS1 hS2 HO1
    go_wp2_with fail
    go_loopw [5] (fun i wr => ∃ k : Nat, k ≤ ps.length ∧ i = .int .i64 k ∧ Hid (∃ n, wr = w3.drewN n)) (fun i _ => ps.length - (intOf i).toNat)
    case atStart => exact ⟨0, by omega, rfl, 0, rfl⟩
    case round =>
      obtain ⟨k, hk, rfl, H0⟩ := hrel
      by_cases hlt : k < ps.length
      · obtain ⟨p, hp⟩ : ∃ p, ps[k]? = some p := ⟨_, List.getElem?_eq_getElem hlt⟩
        obtain ⟨n, hn⟩ := H0.out
        have HN := Lib.hid hn
        obtain ⟨g1, rfl, hg1, c1⟩ := (show StrsO wr A1 ps by rw [hn]; exact HS1.out) k p hp
        obtain ⟨g2, rfl, hg2, c2⟩ := (show StrsO wr A2 ps by rw [hn]; exact HS2.out) k p hp
        clear hp hn H0
        generalize bys p = s at *
        go_upto_region 11 with (fail)
        go_quiet (fail)
        obtain ⟨n2, hn2⟩ : ∃ n2, wr.drewN nq = w3.drewN n2 := ⟨n + nq, by rw [HN.out]; exact drewN_drewN w3 n nq⟩
        have HN2 := Lib.hid hn2
        clear hn2
        go_wp2_with fail
        go_roundw
        case rel => exact ⟨k + 1, by omega, by go_num, Lib.hid ⟨n2, HN2.out⟩⟩
        case measure => simp [intOf]; omega
      · obtain ⟨n, hn⟩ := H0.out
        have H4 := Lib.hid (show Below w.heap.size w wr by rw [hn]; exact below_drewN H3.out n)
        clear hn H0
        go_wp2_with fail
        refine (valid_any A cap rs wr (HR.out.keep H4.out) hc hcap).mono ?_
        rintro e w5 ⟨rfl, hb⟩
        have H5 := Lib.hid (H4.out.trans (hb.mono H4.out.size))
        clear hb
        generalize hvb : validB rs = vb
        have HVB := Lib.hid hvb
        clear hvb
        go_wp2_with fail
        refine (rvalid_any A cap rs w5 (HR.out.keep H5.out) (by omega)).mono ?_
        rintro e w6 ⟨rfl, hb⟩
        have H6 := Lib.hid (H5.out.trans (hb.mono H5.out.size))
        clear hb
        rw [HVB.out]
        go_wp2_with fail
        go_ret
        exact ⟨ret_bool (by cases vb <;> rfl), H6.out⟩
end Go.Proofs.YtgkfmeagpmjcoaaDoor
