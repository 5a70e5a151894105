/- GrammarBegins returns true: the walk of the statement. -/
import Derived.Test.YtgkfmeagpmjcoaaDoorT1
namespace Go.Proofs.YtgkfmeagpmjcoaaDoor
open Go.RowKit
theorem firsts_take (rs : List Rul) (k : Nat) : ∀ j, j ≤ k → firstsB (rs.take k) j = firstsB rs j
  | 0, _ => rfl
  | j + 1, h => by
    rw [firstsB, firstsB, firsts_take rs k j (by omega), List.getElem?_take, if_pos (by omega), List.take_take, Nat.min_eq_left (by omega)]
theorem firsts_mono {rs : List Rul} {j k : Nat} (h : firstsB rs k = true) (hj : j ≤ k) : firstsB rs j = true := by
  cases hf : firstsB rs j
  · rw [firsts_false hf hj] at h; cases h
  · rfl
theorem valid_take {rs : List Rul} (h : validB rs = true) (k : Nat) : validB (rs.take k) = true := by
  have hl := valid_len h
  unfold validB at h ⊢
  rw [Bool.and_eq_true] at h
  rw [List.length_take, decide_eq_true (by omega), Bool.true_and, firsts_take rs k _ (by omega)]
  exact firsts_mono h.2 (by omega)
theorem textOf_split (rs : List Rul) (k : Nat) : textOf rs = textOf (rs.take k) ++ textOf (rs.drop k) := by
  unfold textOf
  rw [← List.flatten_append, ← List.map_append, List.take_append_drop]
theorem text_begin (rs : List Rul) (k : Nat) : (textOf (rs.take k)).length ≤ (textOf rs).length ∧ (textOf rs).take (textOf (rs.take k)).length = textOf (rs.take k) := by
  rw [textOf_split rs k]
  simp
set_option maxRecDepth 100000 in
set_option maxHeartbeats 800000 in
theorem begins_walk (A : Option Addr) (cap : Nat) (rs : List Rul) (n : Int) (w : World) (ht : Tab w) (hR : RulsAt w A rs) (hc : rs.length ≤ cap) (hcap : cap ≤ 9223372036854775807) (hn0 : 0 ≤ n) (hn1 : n ≤ 255) : Calls Tryd.prog 3 #[.slice A rs.length cap, .int .u8 n] w fun e w' => e = .returned (.bool true) ∧ Below w.heap.size w w' := by
  have HT := Lib.hid ht
  have HR := Lib.hid hR
  clear ht hR
  go_enter Tryd.func3, Tryd.ntmps3
  go_wp2_with fail
  refine (awake_any w HT.out).mono ?_
  rintro e w1 ⟨rfl, hb⟩
  have H1 := Lib.hid hb
  clear hb
  go_wp2_with fail
  refine (short_any A cap rs w1 (HR.out.keep H1.out) (by omega)).mono ?_
  rintro e w1' ⟨rfl, rfl⟩
  cases hs : shortB rs
  · clear hs
    go_wp2_with fail
    go_ret
    exact ⟨rfl, H1.out⟩
  · have hl := short_len hs
    clear hs
    go_wp2_with fail
    refine (rvalid_any A cap rs w1 (HR.out.keep H1.out) (by omega)).mono ?_
    rintro e w2 ⟨rfl, hb⟩
    have H2 := Lib.hid (H1.out.trans (hb.mono H1.out.size))
    clear hb
    cases hv : validB rs
    · clear hv
      go_wp2_with fail
      go_ret
      exact ⟨rfl, H2.out⟩
    · have HV := Lib.hid hv
      clear hv
      obtain ⟨k, hk, hkl⟩ : ∃ k : Nat, n % ((rs.length : Int) + 1) = (k : Int) ∧ k ≤ rs.length := by
        have e0 := Int.emod_nonneg n (b := (rs.length : Int) + 1) (by omega)
        have e1 := Int.emod_lt_of_pos n (b := (rs.length : Int) + 1) (by omega)
        exact ⟨(n % ((rs.length : Int) + 1)).toNat, by omega, by omega⟩
      go_upto_region 6 with (fail)
      rw [hk]
      clear hk
      have HT1 := Lib.hid (show textV rs = textOf rs by unfold textV; rw [HV.out]; rfl)
      have HV2 := Lib.hid (valid_take HV.out k)
      have HT2 := Lib.hid (show textV (rs.take k) = textOf (rs.take k) by unfold textV; rw [HV2.out]; rfl)
      have HKL := Lib.hid (show (rs.take k).length = k by rw [List.length_take]; omega)
      have HBG := Lib.hid (text_begin rs k)
      refine region_list (by kernel_rfl) ⟨#[.slice A rs.length cap, .int .u8 n, undef, undef, .bool false, .int .i64 k, .string ⟨(textOf rs).toArray⟩, .string ⟨(textOf (rs.take k)).toArray⟩, .bool true, .bool false, .slice A rs.length cap, .bool true, .bool false, .bool false, .slice A rs.length cap, .bool true, .bool false, .bool false, .int .u8 n, .int .i64 n, .slice A rs.length cap, .int .i64 rs.length, .int .i64 (rs.length + 1), .int .i64 k, .slice A rs.length cap, .string ⟨(textOf rs).toArray⟩, .slice A rs.length cap, .int .i64 k, .slice A k cap, .string ⟨(textOf (rs.take k)).toArray⟩, undef, undef, undef, undef, undef, undef, undef, undef, undef, undef, undef, undef, undef, undef, undef, undef, undef, undef, undef], []⟩ [.slice A rs.length cap, .string ⟨(textOf rs).toArray⟩, .slice A rs.length cap, .int .i64 k, .slice A k cap, .string ⟨(textOf (rs.take k)).toArray⟩, .string ⟨(textOf rs).toArray⟩, .string ⟨(textOf (rs.take k)).toArray⟩] [true, true, true, true, true, true, true, true] (fun wq => Hid (Below w.heap.size w wq)) (by kernel_rfl) (by kernel_rfl) (by kernel_rfl) (below_drew H2.out) ?_ ?_
      · refine ⟨fun wq hI => ?_, fun wq hI => ?_, fun wq hI => ?_, fun wq hI => ?_, fun wq hI => ?_, fun wq hI => ?_, fun wq hI => ?_, fun wq hI => ?_, trivial⟩
        · exact Gives.value (v := .slice A rs.length cap) (w' := wq) (by kernel_rfl) ⟨rfl, hI⟩
        · refine Gives.call (f := 12) (args := #[.slice A rs.length cap]) (w' := wq) (by kernel_rfl) ((text_any A cap rs wq (HT.out.keep hI.out) (HR.out.keep hI.out) hc hcap).mono ?_)
          rintro e wa ⟨rfl, hb⟩
          exact ⟨_, rfl, by rw [HT1.out], hI.out.trans (hb.mono hI.out.size)⟩
        · exact Gives.value (v := .slice A rs.length cap) (w' := wq) (by kernel_rfl) ⟨rfl, hI⟩
        · exact Gives.value (v := .int .i64 k) (w' := wq) (by kernel_rfl) ⟨rfl, hI⟩
        · refine Gives.value (v := .slice A k cap) (w' := wq) ?_ ⟨rfl, hI⟩
          have h1 : k ≤ cap := by omega
          simp [execOp, Act.eval, go_sem, h1]
        · refine Gives.call (f := 12) (args := #[.slice A k cap]) (w' := wq) (by kernel_rfl) ?_
          have h := text_any A cap (rs.take k) wq (HT.out.keep hI.out) ((HR.out.keep hI.out).take k) (by rw [HKL.out]; omega) hcap
          rw [HKL.out] at h
          refine h.mono ?_
          rintro e wa ⟨rfl, hb⟩
          exact ⟨_, rfl, by rw [HT2.out], hI.out.trans (hb.mono hI.out.size)⟩
        · exact Gives.value (v := .string ⟨(textOf rs).toArray⟩) (w' := wq) (by kernel_rfl) ⟨rfl, hI⟩
        · exact Gives.value (v := .string ⟨(textOf (rs.take k)).toArray⟩) (w' := wq) (by kernel_rfl) ⟨rfl, hI⟩
      · intro wq hI
        go_wp2_with fail
        have h := valid_any A cap (rs.take k) wq ((HR.out.keep hI.out).take k) (by rw [HKL.out]; omega) hcap
        rw [HKL.out, HV2.out] at h
        refine h.mono ?_
        clear h
        rintro e w3 ⟨rfl, hb⟩
        have H3 := Lib.hid (hI.out.trans (hb.mono hI.out.size))
        clear hb
        generalize hX : textOf rs = X
        generalize hY : textOf (rs.take k) = Y
        rw [hX, hY] at HBG
        clear hX hY
        have hle : (⟨Y.toArray⟩ : ByteArray).size ≤ (⟨X.toArray⟩ : ByteArray).size := by simpa [ByteArray.size] using HBG.out.1
        go_wp2_with fail
        have HEQ : Hid (((⟨X.toArray⟩ : ByteArray).extract 0 Y.length).toList = (⟨Y.toArray⟩ : ByteArray).toList) := by
          show _ = _
          rw [ByteArray.toList_eq, ByteArray.toList_eq, ByteArray.data_extract, Array.toList_extract]
          simp [List.extract, HBG.out.2]
        go_ret
        exact ⟨ret_bool (by rw [HEQ.out]; simp), H3.out⟩
end Go.Proofs.YtgkfmeagpmjcoaaDoor
