/- Few of the reference: whether a tree has at most a number of nodes. -/
import Derived.Test.YtgoafobhhmeppaaGreatNC
namespace Go.Proofs.YtgoafobhhmeppaaGreat
open Go.RowKit
theorem leftL_neg (ts : List Tre) {n : Int} (h : n < 0) : leftL ts n = n := by
  cases ts with
  | nil => rw [leftL]
  | cons x r => rw [leftL, if_neg (by omega)]
theorem leftL_app : ∀ (a b : List Tre) (n : Int), leftL (a ++ b) n = leftL b (leftL a n)
  | [], b, n => by rw [List.nil_append, show leftL [] n = n by rw [leftL]]
  | x :: a, b, n => by
    rw [List.cons_append, leftL, leftL]
    split
    · exact leftL_app a b _
    · rw [leftL_neg b (by omega)]
theorem leftL_snoc {ks : List Tre} {k : Nat} {x : Tre} (h : ks[k]? = some x) (n : Int) (h0 : 0 ≤ leftL (ks.take k) n) : leftL (ks.take (k + 1)) n = leftT x (leftL (ks.take k) n) := by
  rw [List.take_add_one, h, Option.toList, leftL_app, leftL, if_pos h0, leftL]
theorem leftL_stop (ks : List Tre) (k : Nat) (n : Int) (h0 : leftL (ks.take k) n < 0) : leftL ks n = leftL (ks.take k) n := by
  conv => lhs; rw [← List.take_append_drop k ks]
  rw [leftL_app, leftL_neg _ h0]
mutual
theorem leftT_low : ∀ (t : Tre) (n : Int), 0 ≤ n → -1 ≤ leftT t n
  | .mk k s c ks, n, h => by rw [leftT]; exact leftL_low ks (n - 1) (by omega)
theorem leftL_low : ∀ (ts : List Tre) (n : Int), -1 ≤ n → -1 ≤ leftL ts n
  | [], n, h => by rw [leftL]; exact h
  | t :: ts, n, h => by
    rw [leftL]
    split
    · rename_i h0; exact leftL_low ts _ (leftT_low t n h0)
    · exact h
end
theorem few_iff (t : Tre) (n : Nat) : (0 ≤ leftT t n) ↔ countT t ≤ n := by
  constructor
  · intro h
    have := (leftT_le t n).2.1 h
    omega
  · have key : ∀ m, (∀ (t : Tre) (n : Int), countT t < m → (countT t : Int) ≤ n → leftT t n = n - countT t) := by
      intro m
      induction m with
      | zero => intro t n h; omega
      | succ m ih =>
        intro t n h hn
        obtain ⟨k, s, c, ks⟩ := t
        rw [leftT, countT] at *
        have go : ∀ (ts : List Tre) (n : Int), countL ts < m → (countL ts : Int) ≤ n → leftL ts n = n - countL ts := by
          intro ts
          induction ts with
          | nil => intro n _ _; rw [leftL, countL]; simp
          | cons x r ihr =>
            intro n h1 h2
            rw [countL] at h1 h2
            rw [leftL, countL, if_pos (by omega), ih x n (by omega) (by omega), ihr _ (by omega) (by omega)]
            omega
        rw [go ks (n - 1) (by omega) (by omega)]
        omega
    intro h
    rw [key (countT t + 1) t n (by omega) (by omega)]
    omega
set_option maxRecDepth 100000 in
set_option maxHeartbeats 800000 in
theorem left_any : ∀ (m : Nat) (t : Tre) (c : Array Value) (n : Int) (w : World), countT t < m → NodAt w t c → 0 ≤ n → n ≤ 1000000 → Calls Tryz.prog 54 #[.agg c, .int .i64 n] w fun e w' => e = .returned (.int .i64 (leftT t n)) ∧ Below w.heap.size w w' := by
  intro m
  induction m with
  | zero => intro t c n w h; omega
  | succ m ih =>
    intro t c n w hm hN hn0 hn1
    have IH := Lib.hid ih
    clear ih
    obtain ⟨k, s, cols, ks⟩ := t
    obtain ⟨A2, cap2, rfl, hs, hl, hc, hk⟩ := hN.form
    dsimp only [Tre.kind, Tre.text, Tre.cols, Tre.kids] at hs hl hc hk ⊢
    have HK := Lib.hid hk
    have HM := Lib.hid hm
    have HQ := Lib.hid (show leftT (.mk k s cols ks) n = leftL ks (n - 1) by rw [leftT])
    clear hk hN hm
    go_enter Tryz.func54, Tryz.ntmps54
    go_wp2_with fail
    have K0 := Lib.hid (Blk.new w 46 #[.int .i64 k, .string s, .int .i64 cols, .slice A2 ks.length cap2])
    have H0 := Lib.hid (bel_alloc w (.cells #[.int .i64 k, .string s, .int .i64 cols, .slice A2 ks.length cap2] 46))
    have HK := Lib.hid (HK.out.keep H0.out)
    generalize w.alloc (.cells #[.int .i64 k, .string s, .int .i64 cols, .slice A2 ks.length cap2] 46) = w1 at *
    go_loopw [1, 5] (fun v i wr => ∃ (j : Nat), j ≤ ks.length ∧ i = .int .i64 j ∧ v = .int .i64 (leftL (ks.take j) (n - 1)) ∧ Hid (Blk wr w.heap.size 46 #[.int .i64 k, .string s, .int .i64 cols, .slice A2 ks.length cap2]) ∧ Hid (KidsAt wr A2 ks) ∧ Hid (Below w.heap.size w wr)) (fun _ i _ => ks.length - (intOf i).toNat)
    case atStart => exact ⟨0, by omega, rfl, by rw [List.take_zero, leftL], K0, HK, H0⟩
    case round =>
      clear K0 HK H0
      obtain ⟨j, hj, rfl, rfl, K0, HK, H0⟩ := hrel
      have c0 := K0.out.cell 3
      have hlow := leftL_low (ks.take j) (n - 1) (by omega)
      have hup := (leftL_le (ks.take j) (n - 1)).1
      by_cases hlt : j < ks.length
      · by_cases hz : 0 ≤ leftL (ks.take j) (n - 1)
        · obtain ⟨x, hx⟩ : ∃ x, ks[j]? = some x := ⟨_, List.getElem?_eq_getElem hlt⟩
          obtain ⟨ad, A3, cap3, rfl, hadl, hs3, hl3, hc3, hk3, hN3, d0, d1, d2, d3⟩ := HK.out.at_ hx
          have HN3 := Lib.hid hN3
          have HS := Lib.hid (leftL_snoc hx (n - 1) hz)
          have HCU : Hid (countT x < m) := by
            have h1 := HM.out
            have h2 := count_kid hx
            show _ < _
            rw [countT] at h1
            omega
          clear hx hk3 hN3
          generalize leftL (ks.take j) (n - 1) = r at *
          go_wp2_with fail
          refine (IH.out x _ r wr HCU.out HN3.out hz (by omega)).mono ?_
          rintro e w2 ⟨rfl, hb⟩
          have K0 := Lib.hid (keep hb K0.out)
          have HK := Lib.hid (HK.out.keep hb)
          have H0 := Lib.hid (H0.out.trans (hb.mono H0.out.size))
          clear hb c0 d0 d1 d2 d3
          go_wp2_with fail
          go_roundw
          case rel => exact ⟨j + 1, by omega, by go_num, by rw [HS.out], K0, HK, H0⟩
          case measure => simp [intOf]; omega
        · have HS := Lib.hid (leftL_stop ks j (n - 1) (by omega))
          generalize leftL (ks.take j) (n - 1) = r at *
          go_wp2_with fail
          go_ret
          exact ⟨ret_int (by rw [HQ.out, HS.out]), H0.out⟩
      · obtain rfl : j = ks.length := by omega
        have HT := Lib.hid (show ks.take ks.length = ks from List.take_length)
        rw [HT.out] at *
        generalize leftL ks (n - 1) = r at *
        go_wp2_with fail
        go_ret
        exact ⟨ret_int (by rw [HQ.out]), H0.out⟩
end Go.Proofs.YtgoafobhhmeppaaGreat
