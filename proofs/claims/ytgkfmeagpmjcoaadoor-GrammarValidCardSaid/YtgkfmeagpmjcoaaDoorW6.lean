/- Text and Same of the reference. -/
import Derived.Test.YtgkfmeagpmjcoaaDoorW5
namespace Go.Proofs.YtgkfmeagpmjcoaaDoor
open Go.RowKit
theorem drewN_drewN (w : World) (a b : Nat) : (w.drewN a).drewN b = w.drewN (a + b) := by
  unfold World.drewN
  simp [Nat.add_assoc]
theorem bys_step {l m : List UInt8} : bys l ++ (bys m ++ ⟨#[10]⟩) = bys (l ++ (m ++ [10])) := by
  rw [← bys_app, ← bys_app]; rfl
theorem text_bound {rs : List Rul} (h : validB rs = true) (k : Nat) : (textOf (rs.take k)).length ≤ 7680 := by
  have h1 := textOf_len (rs.take k) (fun r hr => by
    obtain ⟨j, hj⟩ := List.mem_iff_getElem?.1 (List.mem_of_mem_take hr)
    exact valid_own h hj)
  have h2 := valid_len h
  have h3 : (rs.take k).length ≤ rs.length := by rw [List.length_take]; omega
  omega
set_option maxRecDepth 100000 in
set_option maxHeartbeats 1000000 in
theorem rtext_any (A : Option Addr) (cap : Nat) (rs : List Rul) (w : World) (hR : RulsAt w A rs) (hn : rs.length ≤ 1000000) : Calls Tryd.prog 21 #[.slice A rs.length cap] w fun e w' => e = .returned (.string (bys (textV rs))) ∧ Below w.heap.size w w' := by
  have HR := Lib.hid hR
  clear hR
  cases hv : validB rs
  · have HTV := Lib.hid (show textV rs = [] by unfold textV; rw [hv]; rfl)
    have HV := Lib.hid hv
    clear hv
    rw [HTV.out]
    go_enter Tryd.func21, Tryd.ntmps21
    go_wp2_with fail
    refine (rvalid_any A cap rs w HR.out hn).mono ?_
    rintro e w1 ⟨rfl, hb⟩
    rw [HV.out]
    have HB := Lib.hid hb
    clear hb
    go_wp2_with fail
    go_ret
    exact ⟨rfl, HB.out⟩
  · have HTV := Lib.hid (show textV rs = textOf rs by unfold textV; rw [hv]; rfl)
    have HV := Lib.hid hv
    clear hv
    rw [HTV.out]
    go_enter Tryd.func21, Tryd.ntmps21
    go_wp2_with fail
    refine (rvalid_any A cap rs w HR.out hn).mono ?_
    rintro e w1 ⟨rfl, hb⟩
    rw [HV.out]
    have HB := Lib.hid hb
    clear hb
    go_wp2_with fail
    go_loopw [3, 4] (fun s i wr => ∃ k : Nat, k ≤ rs.length ∧ i = .int .i64 k ∧ s = .string (bys (textOf (rs.take k))) ∧ Hid (Below w.heap.size w wr)) (fun _ i _ => rs.length - (intOf i).toNat)
    case atStart => exact ⟨0, by omega, rfl, rfl, HB⟩
    case round =>
      obtain ⟨k, hk, rfl, rfl, H0⟩ := hrel
      by_cases hlt : k < rs.length
      · obtain ⟨x, hx⟩ : ∃ x, rs[k]? = some x := ⟨_, List.getElem?_eq_getElem hlt⟩
        obtain ⟨hf, ad, rfl, hadl, c0, c1, c2, c3, c4, c5⟩ := (HR.out.keep H0.out).at_ hx
        have HO := Lib.hid (valid_own HV.out hx)
        have HS := Lib.hid (textOf_snoc hx)
        have hb1 : (bys (textOf (rs.take k))).size ≤ 7680 := by rw [bys_size]; exact text_bound HV.out k
        have hb2 : (bys (lineN x)).size ≤ 200 := by
          have := line_len (ownR_of HO.out)
          rw [lineR_N, List.length_append] at this
          rw [bys_size]
          simp at this
          omega
        clear hx hf
        go_wp2_with fail
        refine (rline_any x _ HO.out).mono ?_
        rintro e w2 ⟨rfl, hb⟩
        have NB := Lib.hid (H0.out.trans (hb.mono H0.out.size))
        clear hb c0 c1 c2 c3 c4 c5 H0
        go_wp2_with fail
        go_roundw
        case rel => exact ⟨k + 1, by omega, by go_num, by rw [bys_step, HS.out, lineR_N], NB⟩
        case measure => simp [intOf]; omega
      · obtain rfl : k = rs.length := by omega
        have HT := Lib.hid (show rs.take rs.length = rs from List.take_length)
        go_wp2_with fail
        go_ret
        exact ⟨ret_str (by rw [HT.out]), H0.out⟩
set_option maxRecDepth 100000 in
set_option maxHeartbeats 1000000 in
theorem same_any (A B : Option Addr) (cap cap2 : Nat) (rs : List Rul) (w : World) (hR : RulsAt w A rs) (hR2 : RulsAt w B rs) (hn : rs.length ≤ 1000000) : Calls Tryd.prog 22 #[.slice A rs.length cap, .slice B rs.length cap2] w fun e w' => e = .returned (.bool true) ∧ ∃ n, w' = w.drewN n := by
  have HR := Lib.hid hR
  have HR2 := Lib.hid hR2
  clear hR hR2
  go_enter Tryd.func22, Tryd.ntmps22
  go_wp2_with fail
  go_loopw [5] (fun i wr => ∃ k : Nat, k ≤ rs.length ∧ i = .int .i64 k ∧ Hid (∃ n, wr = w.drewN n)) (fun i _ => rs.length - (intOf i).toNat)
  case atStart => exact ⟨0, by omega, rfl, 0, rfl⟩
  case round =>
    obtain ⟨k, hk, rfl, H0⟩ := hrel
    by_cases hlt : k < rs.length
    · obtain ⟨x, hx⟩ : ∃ x, rs[k]? = some x := ⟨_, List.getElem?_eq_getElem hlt⟩
      obtain ⟨n, hn⟩ := H0.out
      have HN := Lib.hid hn
      obtain ⟨hf, ad, rfl, hadl, c0, c1, c2, c3, c4, c5⟩ := (show RulsAt wr A rs by rw [hn]; exact HR.out).at_ hx
      obtain ⟨hf, ad2, rfl, hadl2, d0, d1, d2, d3, d4, d5⟩ := (show RulsAt wr B rs by rw [hn]; exact HR2.out).at_ hx
      clear hx hn hf H0
      go_upto_region 6 with (fail)
      go_quiet (fail)
      obtain ⟨n2, hn2⟩ : ∃ n2, wr.drewN nq = w.drewN n2 := ⟨n + nq, by rw [HN.out]; exact drewN_drewN w n nq⟩
      have HN2 := Lib.hid hn2
      clear hn2
      go_wp2_with fail
      go_roundw
      case rel => exact ⟨k + 1, by omega, by go_num, Lib.hid ⟨n2, HN2.out⟩⟩
      case measure => simp [intOf]; omega
    · obtain rfl : k = rs.length := by omega
      go_wp2_with fail
      go_ret
      exact ⟨rfl, H0.out⟩
end Go.Proofs.YtgkfmeagpmjcoaaDoor
