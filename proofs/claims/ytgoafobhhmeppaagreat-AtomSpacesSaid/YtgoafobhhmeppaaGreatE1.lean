/- Valid dictionaries: the program and the reference. -/
import Derived.Test.YtgoafobhhmeppaaGreatNC
import Derived.Test.YtgoafobhhmeppaaGreatM0
import Derived.Deep.QuietTactic
import Derived.BigQuiet
namespace Go.Proofs.YtgoafobhhmeppaaGreat
open Go.RowKit
def p33 (c : UInt8) : Bool := decide (33 ≤ c.toNat) && decide (c.toNat ≤ 126)
/-- an entry that could be one of a valid dictionary -/
def entB (x : Ent) : Bool := x.text.toList.all p33 && (decide (1 ≤ x.text.size) && (decide (x.text.size ≤ 16) && (decide (0 ≤ x.cls) && decide (x.cls ≤ 7))))
def txtE (x : Ent) : List UInt8 := x.text.data.toList
/-- whether the first entries are right -/
def dictTo (es : List Ent) : Nat → Bool
  | 0 => true
  | k + 1 => dictTo es k && (match es[k]? with
      | some x => entB x && !(((es.take k).map txtE).contains (txtE x))
      | none => true)
def dictB (es : List Ent) : Bool := decide (es.length ≤ 200) && dictTo es es.length
theorem dict_false {es : List Ent} {k j : Nat} (h : dictTo es k = false) (hj : k ≤ j) : dictTo es j = false := by
  induction j with
  | zero => obtain rfl : k = 0 := by omega
            exact h
  | succ j ih =>
    rcases Nat.lt_or_ge k (j + 1) with h1 | h1
    · rw [dictTo, ih (by omega), Bool.false_and]
    · obtain rfl : k = j + 1 := by omega
      exact h
theorem dict_succ {es : List Ent} {k : Nat} {x : Ent} (h : es[k]? = some x) : dictTo es (k + 1) = (dictTo es k && (entB x && !(((es.take k).map txtE).contains (txtE x)))) := by
  rw [dictTo, h]
set_option maxRecDepth 100000 in
set_option maxHeartbeats 800000 in
theorem entry_any (x : Ent) (w : World) (hs : x.text.size ≤ 9223372036854775807) : Calls Tryz.prog 35 #[x.v] w fun e w' => e = .returned (.bool (entB x)) ∧ Below w.heap.size w w' := by
  obtain ⟨s, cls, lim, stc⟩ := x
  have HQ := Lib.hid (show entB ⟨s, cls, lim, stc⟩ = (s.toList.all p33 && (decide (1 ≤ s.size) && (decide (s.size ≤ 16) && (decide (0 ≤ cls) && decide (cls ≤ 7))))) from rfl)
  dsimp only at hs
  go_enter Tryz.func35, Tryz.ntmps35
  go_wp2_with fail
  have K0 := Lib.hid (Blk.new w 78 (Ent.c ⟨s, cls, lim, stc⟩))
  have H0 := Lib.hid (bel_alloc w (.cells (Ent.c ⟨s, cls, lim, stc⟩) 78))
  dsimp only [Ent.c] at K0 H0
  generalize w.alloc (.cells #[.string s, .int .i64 cls, .bool lim, .bool stc] 78) = w1 at *
  have c0 := K0.out.cell 0
  have c1 := K0.out.cell 1
  go_loop [3] (fun i => ∃ k : Nat, k ≤ s.size ∧ i = .int .i64 k ∧ Hid (∀ (j : Nat) (hj : j < s.size), j < k → p33 s[j] = true)) (fun i => s.size - (intOf i).toNat)
  case atStart => exact ⟨0, by omega, rfl, fun j _ h => by omega⟩
  case round =>
    obtain ⟨k, hk, rfl, HJ⟩ := hrel
    by_cases hlt : k < s.size
    · by_cases h1 : (s[k].toNat : Int) < 33
      · have HF := Lib.hid (not_all_get (p := p33) hlt (by unfold p33; rw [decide_eq_false (by omega)]; rfl))
        rw [HF.out, Bool.false_and] at HQ
        go_wp2_with fail
        go_ret
        exact ⟨ret_bool HQ.out.symm, H0.out⟩
      · by_cases h2 : 126 < (s[k].toNat : Int)
        · have HF := Lib.hid (not_all_get (p := p33) hlt (by unfold p33; rw [decide_eq_false (p := s[k].toNat ≤ 126) (by omega), Bool.and_false]))
          rw [HF.out, Bool.false_and] at HQ
          go_wp2_with fail
          go_ret
          exact ⟨ret_bool HQ.out.symm, H0.out⟩
        · have HL := Lib.hid (show p33 s[k] = true by unfold p33; rw [decide_eq_true (by omega), decide_eq_true (by omega)]; rfl)
          go_wp2_with fail
          go_round
          case rel => exact ⟨k + 1, by omega, by go_num, fun j hj h => by
            rcases Nat.lt_or_ge j k with h' | h'
            · exact HJ.out j hj h'
            · obtain rfl : j = k := by omega
              exact HL.out⟩
          case measure => simp [intOf]; omega
    · have HF := Lib.hid (all_get (s := s) (p := p33) fun j hj => HJ.out j hj (by omega))
      rw [HF.out, Bool.true_and] at HQ
      by_cases h1 : 1 ≤ s.size
      · rw [decide_eq_true h1, Bool.true_and] at HQ
        by_cases h2 : s.size ≤ 16
        · rw [decide_eq_true h2, Bool.true_and] at HQ
          by_cases h3 : 0 ≤ cls
          · rw [decide_eq_true h3, Bool.true_and] at HQ
            go_wp2_with fail
            go_ret
            exact ⟨ret_bool HQ.out.symm, H0.out⟩
          · rw [decide_eq_false h3, Bool.false_and] at HQ
            go_wp2_with fail
            go_ret
            exact ⟨ret_bool HQ.out.symm, H0.out⟩
        · rw [decide_eq_false h2, Bool.false_and] at HQ
          go_wp2_with fail
          go_ret
          exact ⟨ret_bool HQ.out.symm, H0.out⟩
      · rw [decide_eq_false h1, Bool.false_and] at HQ
        go_wp2_with fail
        go_ret
        exact ⟨ret_bool HQ.out.symm, H0.out⟩
set_option maxRecDepth 100000 in
set_option maxHeartbeats 800000 in
theorem proper_any (x : Ent) (w : World) (hs : x.text.size ≤ 9223372036854775807) : Calls Tryz.prog 59 #[x.v] w fun e w' => e = .returned (.bool (entB x)) ∧ Below w.heap.size w w' := by
  obtain ⟨s, cls, lim, stc⟩ := x
  have HQ := Lib.hid (show entB ⟨s, cls, lim, stc⟩ = (s.toList.all p33 && (decide (1 ≤ s.size) && (decide (s.size ≤ 16) && (decide (0 ≤ cls) && decide (cls ≤ 7))))) from rfl)
  dsimp only at hs
  go_enter Tryz.func59, Tryz.ntmps59
  go_wp2_with fail
  have K0 := Lib.hid (Blk.new w 78 (Ent.c ⟨s, cls, lim, stc⟩))
  have H0 := Lib.hid (bel_alloc w (.cells (Ent.c ⟨s, cls, lim, stc⟩) 78))
  dsimp only [Ent.c] at K0 H0
  generalize w.alloc (.cells #[.string s, .int .i64 cls, .bool lim, .bool stc] 78) = w1 at *
  have c0 := K0.out.cell 0
  have c1 := K0.out.cell 1
  go_loop [3] (fun i => ∃ k : Nat, k ≤ s.size ∧ i = .int .i64 k ∧ Hid (∀ (j : Nat) (hj : j < s.size), j < k → p33 s[j] = true)) (fun i => s.size - (intOf i).toNat)
  case atStart => exact ⟨0, by omega, rfl, fun j _ h => by omega⟩
  case round =>
    obtain ⟨k, hk, rfl, HJ⟩ := hrel
    by_cases hlt : k < s.size
    · by_cases h1 : (s[k].toNat : Int) < 33
      · have HF := Lib.hid (not_all_get (p := p33) hlt (by unfold p33; rw [decide_eq_false (by omega)]; rfl))
        rw [HF.out, Bool.false_and] at HQ
        go_wp2_with fail
        go_ret
        exact ⟨ret_bool HQ.out.symm, H0.out⟩
      · by_cases h2 : 126 < (s[k].toNat : Int)
        · have HF := Lib.hid (not_all_get (p := p33) hlt (by unfold p33; rw [decide_eq_false (p := s[k].toNat ≤ 126) (by omega), Bool.and_false]))
          rw [HF.out, Bool.false_and] at HQ
          go_wp2_with fail
          go_ret
          exact ⟨ret_bool HQ.out.symm, H0.out⟩
        · have HL := Lib.hid (show p33 s[k] = true by unfold p33; rw [decide_eq_true (by omega), decide_eq_true (by omega)]; rfl)
          go_wp2_with fail
          go_round
          case rel => exact ⟨k + 1, by omega, by go_num, fun j hj h => by
            rcases Nat.lt_or_ge j k with h' | h'
            · exact HJ.out j hj h'
            · obtain rfl : j = k := by omega
              exact HL.out⟩
          case measure => simp [intOf]; omega
    · have HF := Lib.hid (all_get (s := s) (p := p33) fun j hj => HJ.out j hj (by omega))
      rw [HF.out, Bool.true_and] at HQ
      by_cases h1 : 1 ≤ s.size
      · rw [decide_eq_true h1, Bool.true_and] at HQ
        by_cases h2 : s.size ≤ 16
        · rw [decide_eq_true h2, Bool.true_and] at HQ
          by_cases h3 : 0 ≤ cls
          · rw [decide_eq_true h3, Bool.true_and] at HQ
            go_wp2_with fail
            go_ret
            exact ⟨ret_bool HQ.out.symm, H0.out⟩
          · rw [decide_eq_false h3, Bool.false_and] at HQ
            go_wp2_with fail
            go_ret
            exact ⟨ret_bool HQ.out.symm, H0.out⟩
        · rw [decide_eq_false h2, Bool.false_and] at HQ
          go_wp2_with fail
          go_ret
          exact ⟨ret_bool HQ.out.symm, H0.out⟩
      · rw [decide_eq_false h1, Bool.false_and] at HQ
        go_wp2_with fail
        go_ret
        exact ⟨ret_bool HQ.out.symm, H0.out⟩
end Go.Proofs.YtgoafobhhmeppaaGreat
