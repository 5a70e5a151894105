/- Whether tokens are valid, on both sides. -/
import Derived.Test.YtmhddlhlniajpaaEX
namespace Go.Proofs.Ytmhddlhlniajpaa
open Go.RowKit
def tokOK (s : ByteArray) : Bool := s.toList == opndL || symB s.toList
def toksB (ts : List ByteArray) : Bool := decide (ts.length ≤ 200) && ts.all tokOK
theorem toks_step {ts : List ByteArray} {k : Nat} {s : ByteArray} (hs : ts[k]? = some s) (h : ∀ (j : Nat) t, ts[j]? = some t → j < k → tokOK t = true) (hq : tokOK s = true) : ∀ (j : Nat) t, ts[j]? = some t → j < k + 1 → tokOK t = true := fun j t hj hlt => by
  rcases Nat.lt_or_ge j k with h' | h'
  · exact h j t hj h'
  · obtain rfl : j = k := by omega
    rw [hs] at hj
    obtain rfl := Option.some.inj hj
    exact hq
theorem toks_bad {ts : List ByteArray} {k : Nat} {s : ByteArray} (hs : ts[k]? = some s) (hq : tokOK s = false) : toksB ts = false := by
  unfold toksB
  have : ts.all tokOK = false := List.all_eq_false.2 ⟨s, List.mem_of_getElem? hs, by rw [hq]; simp⟩
  rw [this, Bool.and_false]
theorem toks_all {ts : List ByteArray} (h : ∀ (j : Nat) t, ts[j]? = some t → j < ts.length → tokOK t = true) : toksB ts = decide (ts.length ≤ 200) := by
  unfold toksB
  have : ts.all tokOK = true := List.all_eq_true.2 fun s hs => by
    obtain ⟨j, hj⟩ := List.mem_iff_getElem?.1 hs
    exact h j s hj (List.getElem?_eq_some_iff.1 hj).1
  rw [this, Bool.and_true]
theorem opnd_ok {s : ByteArray} (h : s.toList = opndL) : tokOK s = true := by unfold tokOK; rw [h]; rfl
theorem opnd_no {s : ByteArray} (h : ¬ s.toList = opndL) : tokOK s = symB s.toList := by
  unfold tokOK
  rw [show (s.toList == opndL) = false from beq_eq_false_iff_ne.2 h, Bool.false_or]
set_option maxRecDepth 100000 in
set_option maxHeartbeats 2000000 in
theorem tvalid_any (T : Option Addr) (cT : Nat) (ts : List ByteArray) (w : World) (hT : ToksAt w T ts) : Calls Try.prog 21 #[.slice T ts.length cT] w fun e w' => e = .returned (.bool (toksB ts)) ∧ Below w.heap.size w w' := by
  have HT := Lib.hid hT
  clear hT
  by_cases hl : 200 < ts.length
  · have HQ := Lib.hid (show toksB ts = false by unfold toksB; rw [decide_eq_false (by omega)]; rfl)
    go_enter Try.func21, Try.ntmps21
    go_wp2_with fail
    go_ret
    exact ⟨ret_bool HQ.out.symm, Below.refl _ _⟩
  · have HQ := Lib.hid (@toks_all ts)
    rw [decide_eq_true (show ts.length ≤ 200 by omega)] at HQ
    go_enter Try.func21, Try.ntmps21
    go_wp2_with fail
    go_loopw [10] (fun i wr => ∃ k : Nat, k ≤ ts.length ∧ i = .int .i64 k ∧ Hid (∀ (j : Nat) t, ts[j]? = some t → j < k → tokOK t = true) ∧ Hid (ToksAt wr T ts) ∧ Hid (Below w.heap.size w wr)) (fun i _ => ts.length - (intOf i).toNat)
    case atStart => exact ⟨0, by omega, rfl, (fun j _ _ h => by omega), HT, Below.refl _ _⟩
    case round =>
      clear HT
      obtain ⟨k, hk, rfl, HJ, HT, H0⟩ := hrel
      by_cases hlt : k < ts.length
      · obtain ⟨s, hs⟩ : ∃ s, ts[k]? = some s := ⟨_, List.getElem?_eq_getElem hlt⟩
        obtain ⟨hf, ad, rfl, hadl, c0⟩ := HT.out k s hs
        have HS := Lib.hid hs
        have HF := Lib.hid hf
        clear hs hf hadl
        by_cases hq : s.toList = opndL
        · have HO := Lib.hid (toks_step HS.out HJ.out (opnd_ok hq))
          have hq2 : (s.toList == opndL) = true := beq_iff_eq.2 hq
          unfold opndL at hq2 hq
          clear HJ
          go_wp2_with fail
          go_roundw
          case rel => exact ⟨k + 1, by omega, by go_num, HO, HT, H0⟩
          case measure => simp [intOf]; omega
        · have HNO := Lib.hid (opnd_no hq)
          have hq2 : (s.toList == opndL) = false := beq_eq_false_iff_ne.2 hq
          unfold opndL at hq2
          clear hq
          go_wp2_with fail
          refine (sym_any s _ HF.out).mono ?_
          rintro e w1 ⟨rfl, hb⟩
          have NT := Lib.hid (HT.out.keep hb)
          have NB := Lib.hid (H0.out.trans (hb.mono H0.out.size))
          clear HT H0 hb c0
          cases hy : symB s.toList
          · rw [hy] at HNO
            have HBAD := Lib.hid (toks_bad HS.out HNO.out)
            clear hy
            go_wp2_with fail
            go_ret
            exact ⟨ret_bool HBAD.out.symm, NB.out⟩
          · rw [hy] at HNO
            have HO := Lib.hid (toks_step HS.out HJ.out HNO.out)
            clear hy HJ
            go_wp2_with fail
            go_roundw
            case rel => exact ⟨k + 1, by omega, by go_num, HO, NT, NB⟩
            case measure => simp [intOf]; omega
      · obtain rfl : k = ts.length := by omega
        go_wp2_with fail
        go_ret
        exact ⟨ret_bool (HQ.out HJ.out).symm, H0.out⟩
theorem toks_def (ts : List ByteArray) : (∀ (j : Nat) t, ts[j]? = some t → j < ts.length → tokOK t = true) → decide (ts.length ≤ 200) = toksB ts := fun h => (toks_all h).symm
set_option maxRecDepth 100000 in
set_option maxHeartbeats 2000000 in
theorem rtvalid_any (T : Option Addr) (cT : Nat) (ts : List ByteArray) (w : World) (hT : ToksAt w T ts) (hn : ts.length ≤ 1000000) : Calls Try.prog 22 #[.slice T ts.length cT] w fun e w' => e = .returned (.bool (toksB ts)) ∧ Below w.heap.size w w' := by
  have HT := Lib.hid hT
  have HQ := Lib.hid (toks_def ts)
  clear hT
  go_enter Try.func22, Try.ntmps22
  go_wp2_with fail
  go_loopw [3] (fun i wr => ∃ k : Nat, k ≤ ts.length ∧ i = .int .i64 k ∧ Hid (∀ (j : Nat) t, ts[j]? = some t → j < k → tokOK t = true) ∧ Hid (ToksAt wr T ts) ∧ Hid (Below w.heap.size w wr)) (fun i _ => ts.length - (intOf i).toNat)
  case atStart => exact ⟨0, by omega, rfl, (fun j _ _ h => by omega), HT, Below.refl _ _⟩
  case round =>
    clear HT
    obtain ⟨k, hk, rfl, HJ, HT, H0⟩ := hrel
    by_cases hlt : k < ts.length
    · obtain ⟨s, hs⟩ : ∃ s, ts[k]? = some s := ⟨_, List.getElem?_eq_getElem hlt⟩
      obtain ⟨hf, ad, rfl, hadl, c0⟩ := HT.out k s hs
      have HS := Lib.hid hs
      have HF := Lib.hid hf
      clear hs hf hadl
      by_cases hq : s.toList = opndL
      · have HO := Lib.hid (toks_step HS.out HJ.out (opnd_ok hq))
        have hq2 : (s.toList == opndL) = true := beq_iff_eq.2 hq
        unfold opndL at hq2 hq
        clear HJ
        go_wp2_with fail
        go_roundw
        case rel => exact ⟨k + 1, by omega, by go_num, HO, HT, H0⟩
        case measure => simp [intOf]; omega
      · have HNO := Lib.hid (opnd_no hq)
        have hq2 : (s.toList == opndL) = false := beq_eq_false_iff_ne.2 hq
        unfold opndL at hq2
        clear hq
        go_wp2_with fail
        refine (rsym_any s _ HF.out).mono ?_
        rintro e w1 ⟨rfl, hb⟩
        have NT := Lib.hid (HT.out.keep hb)
        have NB := Lib.hid (H0.out.trans (hb.mono H0.out.size))
        clear HT H0 hb c0
        cases hy : symB s.toList
        · rw [hy] at HNO
          have HBAD := Lib.hid (toks_bad HS.out HNO.out)
          clear hy
          go_wp2_with fail
          go_ret
          exact ⟨ret_bool HBAD.out.symm, NB.out⟩
        · rw [hy] at HNO
          have HO := Lib.hid (toks_step HS.out HJ.out HNO.out)
          clear hy HJ
          go_wp2_with fail
          go_roundw
          case rel => exact ⟨k + 1, by omega, by go_num, HO, NT, NB⟩
          case measure => simp [intOf]; omega
    · obtain rfl : k = ts.length := by omega
      go_wp2_with fail
      go_ret
      exact ⟨ret_bool ((decide_eq_decide.2 (by omega)).trans (HQ.out HJ.out)), H0.out⟩
end Go.Proofs.Ytmhddlhlniajpaa
