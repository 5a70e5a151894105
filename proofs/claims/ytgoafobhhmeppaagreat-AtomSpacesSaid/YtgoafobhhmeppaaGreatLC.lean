/- Few; the walks of AtomClass and AtomClasses. -/
import Derived.Test.YtgoafobhhmeppaaGreatL5
namespace Go.Proofs.YtgoafobhhmeppaaGreat
open Go.RowKit
theorem few_any (t : Tre) (c : Array Value) (n : Nat) (w : World) (hN : NodAt w t c) (hn : n ≤ 100000) : Calls Tryz.prog 28 #[.agg c, .int .i64 (n : Nat)] w fun e w' => e = .returned (.bool (decide (countT t ≤ n))) ∧ Below w.heap.size w w' := by
  obtain ⟨k, s, cols, ks⟩ := t
  obtain ⟨A2, cap2, rfl, hs, hl, hc, hk⟩ := hN.form
  dsimp only [Tre.kind, Tre.text, Tre.cols, Tre.kids] at hs hl hc hk ⊢
  have HQ := Lib.hid (few_iff (.mk k s cols ks) n)
  have K0 := Lib.hid (Blk.new w 46 (nodC k s cols A2 ks.length cap2))
  have H0 := Lib.hid (bel_alloc w (.cells (nodC k s cols A2 ks.length cap2) 46))
  have HN := Lib.hid (hN.keep H0.out)
  clear hk hN
  dsimp only [nodC] at K0 H0 HN
  go_enter Tryz.func28, Tryz.ntmps28
  go_wp2_with fail
  generalize w.alloc (.cells #[.int .i64 k, .string s, .int .i64 cols, .slice A2 ks.length cap2] 46) = w1 at *
  refine (left_any (countT (.mk k s cols ks) + 1) _ _ n w1 (by omega) HN.out (by omega) (by omega)).mono ?_
  rintro e w2 ⟨rfl, hb⟩
  have HB := Lib.hid (H0.out.trans (hb.mono H0.out.size))
  clear hb
  generalize leftT (.mk k s cols ks) n = r at *
  by_cases hr : 0 ≤ r
  · have HR := Lib.hid (decide_eq_true (HQ.out.1 hr))
    go_wp2_with fail
    go_ret
    exact ⟨ret_bool HR.out.symm, HB.out⟩
  · have HR := Lib.hid (decide_eq_false (fun h => hr (HQ.out.2 h)))
    go_wp2_with fail
    go_ret
    exact ⟨ret_bool (by rw [HR.out, decide_eq_false (by omega)]), HB.out⟩
theorem rfew_any (A : Option Addr) (cap n : Nat) (ts : List Tre) (w : World) (hK : KidsAt w A ts) (hl : ts.length ≤ cap) (hc : cap ≤ 9223372036854775807) (hn : n ≤ 100000) : Calls Tryz.prog 14 #[.slice A ts.length cap, .int .i64 (n : Nat)] w fun e w' => e = .returned (.bool (decide (countL ts + 1 ≤ n))) ∧ Below w.heap.size w w' := by
  have HN := Lib.hid (NodAt.of (k := 1) (s := ⟨#[]⟩) (c := 0) (by decide) hl hc hK)
  clear hK
  go_enter Tryz.func14, Tryz.ntmps14
  go_wp2_with fail
  refine (torow_any A ts.length cap w).mono ?_
  rintro e w1 ⟨rfl, hb1⟩
  have HN := Lib.hid (HN.out.keep hb1)
  have H1 := Lib.hid hb1
  clear hb1
  go_wp2_with fail
  refine (few_any _ _ n _ HN.out hn).mono ?_
  rintro e w2 ⟨rfl, hb⟩
  have HB := Lib.hid (H1.out.trans (hb.mono H1.out.size))
  clear hb
  go_wp2_with fail
  go_ret
  exact ⟨rfl, HB.out⟩
theorem kids_le : ∀ ts : List Tre, ts.length ≤ countL ts
  | [] => by simp
  | .mk k s c ks :: r => by rw [countL, countT, List.length_cons]; have := kids_le r; omega
end Go.Proofs.YtgoafobhhmeppaaGreat
