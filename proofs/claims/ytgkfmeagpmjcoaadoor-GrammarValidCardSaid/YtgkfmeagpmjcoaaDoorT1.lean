/- awake and short: the example of the document holds; at most 80 rules with short strings. -/
import Derived.Test.YtgkfmeagpmjcoaaDoorT0
namespace Go.Proofs.YtgkfmeagpmjcoaaDoor
open Go.RowKit
def strsB (r : Rul) : Bool := decide (r.sym.size ≤ 100) && decide (r.nam.size ≤ 100)
def shortB (rs : List Rul) : Bool := rs.all strsB && decide (rs.length ≤ 80)
theorem short_no {rs : List Rul} {k : Nat} {x : Rul} (hx : rs[k]? = some x) (h : strsB x = false) : shortB rs = false := by
  unfold shortB
  rw [show rs.all strsB = false from List.all_eq_false.2 ⟨x, List.mem_of_getElem? hx, by rw [h]; simp⟩]
  rfl
theorem short_len {rs : List Rul} (h : shortB rs = true) : rs.length ≤ 80 := by
  unfold shortB at h
  simp at h
  exact h.2
set_option maxRecDepth 100000 in
set_option maxHeartbeats 800000 in
theorem short_any (A : Option Addr) (cap : Nat) (rs : List Rul) (w : World) (hR : RulsAt w A rs) (hn : rs.length ≤ 9223372036854775807) : Calls Tryd.prog 10 #[.slice A rs.length cap] w fun e w' => e = .returned (.bool (shortB rs)) ∧ w = w' := by
  have HR := Lib.hid hR
  clear hR
  go_enter Tryd.func10, Tryd.ntmps10
  go_wp2_with fail
  go_loop [3] (fun i => ∃ k : Nat, k ≤ rs.length ∧ i = .int .i64 k ∧ Hid (∀ (j : Nat) x, rs[j]? = some x → j < k → strsB x = true)) (fun i => rs.length - (intOf i).toNat)
  case atStart => exact ⟨0, by omega, rfl, (fun j _ _ h => by omega)⟩
  case round =>
    obtain ⟨k, hk, rfl, HJ⟩ := hrel
    by_cases hlt : k < rs.length
    · obtain ⟨x, hx⟩ : ∃ x, rs[k]? = some x := ⟨_, List.getElem?_eq_getElem hlt⟩
      obtain ⟨hf, ad, rfl, hadl, c0, c1, c2, c3, c4, c5⟩ := HR.out.at_ hx
      have HX := Lib.hid hx
      clear hx hf
      by_cases h1 : 100 < x.sym.size
      · have HQ := Lib.hid (short_no HX.out (show strsB x = false by unfold strsB; rw [decide_eq_false (by omega)]; rfl))
        go_wp2_with fail
        go_ret
        exact ⟨ret_bool HQ.out.symm, rfl⟩
      · by_cases h2 : 100 < x.nam.size
        · have HQ := Lib.hid (short_no HX.out (show strsB x = false by unfold strsB; rw [decide_eq_false (p := x.nam.size ≤ 100) (by omega), Bool.and_false]))
          go_wp2_with fail
          go_ret
          exact ⟨ret_bool HQ.out.symm, rfl⟩
        · have HQ : Hid (strsB x = true) := by
            show strsB x = true
            unfold strsB; rw [decide_eq_true (by omega), decide_eq_true (by omega)]; rfl
          go_wp2_with fail
          go_round
          case rel => exact ⟨k + 1, by omega, by go_num, (fun j y hj h => by
            rcases Nat.lt_or_ge j k with h' | h'
            · exact HJ.out j y hj h'
            · obtain rfl : j = k := by omega
              rw [HX.out] at hj
              obtain rfl := Option.some.inj hj
              exact HQ.out)⟩
          case measure => simp [intOf]; omega
    · obtain rfl : k = rs.length := by omega
      have HQ : Hid (shortB rs = decide (rs.length ≤ 80)) := by
        show shortB rs = _
        unfold shortB
        rw [show rs.all strsB = true from List.all_eq_true.2 fun x hx => by
          obtain ⟨j, hj⟩ := List.mem_iff_getElem?.1 hx
          exact HJ.out j x hj (List.getElem?_eq_some_iff.1 hj).1]
        simp
      go_wp2_with fail
      go_ret
      exact ⟨ret_bool (by rw [HQ.out]; exact decide_eq_decide.2 (by omega)), rfl⟩
abbrev plusR : Rul := ⟨1, ⟨#[43]⟩, ⟨#[112, 108, 117, 115]⟩, 40, 40, 41⟩
theorem plus_valid : validB [plusR] = true := by
  simp only [validB, firstsB, ownB, freshB, namedB, lettersB, symB, ByteArray.toList_eq, List.length_cons, List.length_nil, List.getElem?_cons_zero, List.take_zero, List.any_nil]
  decide
theorem plus_text : textV [plusR] = [105, 110, 102, 105, 120, 32, 43, 32, 112, 108, 117, 115, 32, 52, 48, 32, 52, 48, 32, 52, 49, 10] := by
  unfold textV
  rw [plus_valid]
  decide +kernel
theorem plus_fits : plusR.fits := ⟨by decide, by decide⟩
theorem plusAt (w : World) : RulsAt (w.alloc (.cells plusR.c 39)) (some ⟨w.heap.size, 0, none⟩) [plusR] := by
  intro k r hk
  match k, hk with
  | 0, hk =>
    simp at hk
    subst hk
    exact ⟨plus_fits, _, rfl, by simp, fun j v hj => by
      rw [show (⟨w.heap.size, 0, none⟩ : Addr).add (0 * 6 + j) = ⟨w.heap.size, j, none⟩ by unfold Addr.add; simp; omega]
      rw [Blk.cell (Blk.new w 39 plusR.c)]; exact hj⟩
set_option maxRecDepth 100000 in
set_option maxHeartbeats 800000 in
theorem awake_any (w : World) (ht : Tab w) : Calls Tryd.prog 9 #[] w fun e w' => e = .returned (.bool true) ∧ Below w.heap.size w w' := by
  have HT := Lib.hid ht
  clear ht
  go_enter Tryd.func9, Tryd.ntmps9
  go_wp2_with fail
  refine (valid_any (some ⟨w.heap.size, 0, none⟩) 1 [plusR] _ (plusAt w) (by simp) (by simp)).mono ?_
  rintro e w1 ⟨rfl, hb⟩
  rw [plus_valid]
  have HB := Lib.hid ((bel_alloc w _).trans (hb.mono (by simp)))
  have HP := Lib.hid ((plusAt w).keep hb)
  clear hb
  go_wp2_with fail
  refine (text_any (some ⟨w.heap.size, 0, none⟩) 1 [plusR] _ (HT.out.keep HB.out) HP.out (by simp) (by simp)).mono ?_
  rintro e w2 ⟨rfl, hb⟩
  rw [plus_text]
  have HB2 := Lib.hid (HB.out.trans (hb.mono HB.out.size))
  clear hb
  go_wp2_with fail
  go_ret
  exact ⟨rfl, HB2.out⟩
end Go.Proofs.YtgkfmeagpmjcoaaDoor
