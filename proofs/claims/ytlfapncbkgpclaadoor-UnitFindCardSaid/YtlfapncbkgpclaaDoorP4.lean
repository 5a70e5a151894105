/- exponent (reference): the number in -100 .. 100 whose numeral is the second word; 1 if there is none. -/
import Derived.Test.YtlfapncbkgpclaaDoorP3
import Derived.Deep.QuietTactic
import Derived.BigQuiet
import Derived.Deep.RegionWith
import Derived.Deep.RegionHeld3
import Derived.Deep.DeepCutAuto
namespace Go.Proofs.YtlfapncbkgpclaaDoor
open Go.RowKit
def StrsAt (w : World) (g : Nat) (ps : List (List UInt8)) : Prop := g < w.heap.size ∧ ∀ (j : Nat) (p : List UInt8), ps[j]? = some p → w.cell? ⟨g, j, none⟩ = some (.string (bys p))
theorem StrsAt.keep {w w' : World} {g : Nat} {ps : List (List UInt8)} (h : StrsAt w g ps) (hb : Below w.heap.size w w') : StrsAt w' g ps :=
  ⟨Nat.lt_of_lt_of_le h.1 hb.size, fun j p hj => (hb.cell (p := ⟨g, j, none⟩) h.1).trans (h.2 j p hj)⟩
theorem StrsAt.drew {w : World} {g : Nat} {ps : List (List UInt8)} (h : StrsAt w g ps) : StrsAt w.drew g ps := h
theorem exp_two (ps : List (List UInt8)) (h : 2 ≤ ps.length) : ∃ p, ps[1]? = some p ∧ expR ps = findN p 201 := by
  match ps, h with
  | _ :: e :: _, _ => exact ⟨e, rfl, rfl⟩
theorem exp_one (ps : List (List UInt8)) (h : ps.length < 2) : expR ps = 1 := by
  match ps, h with
  | [], _ => rfl
  | [_], _ => rfl
theorem bys_inj {a b : List UInt8} (h : bys a = bys b) : a = b := by rw [← bys_data a, h, bys_data]
theorem find_hit {p : List UInt8} {k : Nat} (hk : k < 201) (h : Lib.itoa ((k : Int) - 100) = p) : findN p (201 - k) = (k : Int) - 100 := by
  rw [show 201 - k = (200 - k) + 1 by omega, findN, if_pos (by rw [show (100 - ((200 - k : Nat) : Int)) = (k : Int) - 100 by omega]; exact h)]
  omega
theorem find_miss {p : List UInt8} {k : Nat} (hk : k < 201) (h : Lib.itoa ((k : Int) - 100) ≠ p) : findN p (201 - (k + 1)) = findN p (201 - k) := by
  rw [show 201 - k = (201 - (k + 1)) + 1 by omega, findN, if_neg (by rw [show (100 - ((201 - (k + 1) : Nat) : Int)) = (k : Int) - 100 by omega]; exact h)]
theorem bys_toList (a : List UInt8) : (bys a).toList = a := by rw [ByteArray.toList_eq, bys_data]
theorem below_drew {B : Nat} {a w : World} (h : Below B a w) : Below B a w.drew := ⟨h.os, h.tape, h.output, h.size, h.block⟩
set_option maxRecDepth 100000 in
set_option maxHeartbeats 800000 in
theorem exp_any (g cap : Nat) (ps : List (List UInt8)) (w : World) (hS : StrsAt w g ps) (hn : ps.length ≤ 1000001) : Calls Tryd.prog 62 #[.slice (some ⟨g, 0, none⟩) ps.length cap] w fun e w' => e = .returned (.int .i64 (expR ps)) ∧ Below w.heap.size w w' := by
  have HS := Lib.hid hS
  clear hS
  by_cases h2 : 2 ≤ ps.length
  · obtain ⟨p, hp, he⟩ := exp_two ps h2
    have HP := Lib.hid hp
    rw [he]
    clear hp he
    go_enter Tryd.func62, Tryd.ntmps62
    go_wp2_with fail
    go_loopw [3] (fun i wr => ∃ k : Nat, k ≤ 201 ∧ i = .int .i64 ((k : Int) - 100) ∧ Hid (findN p (201 - k) = findN p 201) ∧ Hid (StrsAt wr g ps) ∧ Hid (Below w.heap.size w wr)) (fun i _ => 201 - (intOf i + 100).toNat)
    case atStart => exact ⟨0, by omega, rfl, rfl, HS.out, Below.refl _ _⟩
    case round =>
      obtain ⟨k, hk, rfl, HF, K0, H0⟩ := hrel
      by_cases hlt : k < 201
      · have hx := K0.out.2 1 p HP.out
        by_cases hq : Lib.itoa ((k : Int) - 100) = p
        · have HQ := Lib.hid hq
          have HH := Lib.hid (find_hit hlt hq)
          clear hq
          go_upto_region 6 with (fail)
          go_cut [16] (fun b wc => b = .bool true ∧ Hid (StrsAt wc g ps) ∧ Hid (Below w.heap.size w wc))
          case first =>
            go_region_with (go_at_call 60; refine (numeral_any _ _ (by omega) (by omega)).mono ?_; rintro e w2 ⟨rfl, hb5⟩; have M0 := Lib.hid (K0.out.drew.keep hb5); have MB := Lib.hid ((below_drew H0.out).trans (hb5.mono H0.out.size)); clear hb5; have hx2 := M0.out.2 1 p HP.out)
            all_goals (go_wp2_with fail; go_meet; exact ⟨by rw [bys_toList, bys_toList]; simp [HQ.out], M0, MB⟩)
          case rest =>
            clear K0 H0 hx
            obtain ⟨rfl, K0, H0⟩ := hcut
            go_wp2_with fail
            go_ret
            exact ⟨by rw [← HF.out, HH.out]; rfl, H0.out⟩
        · have HQ := Lib.hid hq
          have HH := Lib.hid (find_miss hlt hq)
          clear hq
          go_upto_region 6 with (fail)
          go_cut [16] (fun b wc => b = .bool false ∧ Hid (StrsAt wc g ps) ∧ Hid (Below w.heap.size w wc))
          case first =>
            go_region_with (go_at_call 60; refine (numeral_any _ _ (by omega) (by omega)).mono ?_; rintro e w2 ⟨rfl, hb5⟩; have M0 := Lib.hid (K0.out.drew.keep hb5); have MB := Lib.hid ((below_drew H0.out).trans (hb5.mono H0.out.size)); clear hb5; have hx2 := M0.out.2 1 p HP.out)
            all_goals (go_wp2_with fail; go_meet; exact ⟨by rw [bys_toList, bys_toList]; simp [HQ.out], M0, MB⟩)
          case rest =>
            clear K0 H0 hx
            obtain ⟨rfl, K0, H0⟩ := hcut
            go_wp2_with fail
            go_roundw
            case rel => exact ⟨k + 1, by omega, by go_num, by rw [← HF.out, HH.out]; exact rfl, K0, H0⟩
            case measure => simp [intOf]; omega
      · obtain rfl : k = 201 := by omega
        go_wp2_with fail
        go_ret
        exact ⟨by rw [← HF.out]; rfl, H0.out⟩
  · rw [exp_one ps (by omega)]
    go_enter Tryd.func62, Tryd.ntmps62
    go_wp2_with fail
    go_ret
    exact ⟨rfl, Below.refl _ _⟩
end Go.Proofs.YtlfapncbkgpclaaDoor
