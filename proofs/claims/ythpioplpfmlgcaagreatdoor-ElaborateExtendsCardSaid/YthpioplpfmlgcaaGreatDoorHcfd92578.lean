/- awake of the law · Few; Small of the reference; has of the law · A list with one reading, as the reference computes it; positions; further plain laws of meanings · A further rule whose symbol does not occur changes nothing: plain · has of the law: whether a tree contains a symbol · The variables of a meaning are symbols of the tree: plain · A meaning is a well-formed term, with at most twice as many subterms as the tree has nodes: plain -/
import Derived.Test.YthpioplpfmlgcaaGreatDoorHfbed354a
import Derived.Test.YthpioplpfmlgcaaGreatDoorH826c579a
import Derived.BigQuiet
import Derived.Deep.DeepCutAuto
import Derived.Deep.CutBlock
import Derived.Test.YthpioplpfmlgcaaGreatDoorHb304910e
import Derived.Test.YthpioplpfmlgcaaGreatDoorH9f6b92c3
import Derived.Test.YthpioplpfmlgcaaGreatDoorH630bd2f2
namespace Go.Proofs.YthpioplpfmlgcaaGreatDoor.El
open Go.Proofs.YthpioplpfmlgcaaGreatDoor.At
open Go.Proofs.YthpioplpfmlgcaaGreatDoor.Ch
open Go.Proofs.YthpioplpfmlgcaaGreatDoor.Sp
open Go.Proofs.YthpioplpfmlgcaaGreatDoor.Sy
open Go.RowKit
def awN : List Tre := [.mk 2 ⟨#[120]⟩ 0 [], .mk 2 ⟨#[43]⟩ 0 [], .mk 3 ⟨#[49]⟩ 0 []]
def awT : Trm := .mk 4 ⟨#[112, 108, 117, 115]⟩ ⟨#[]⟩ ⟨#[105, 110, 102, 105, 120]⟩ [.mk 2 ⟨#[120]⟩ ⟨#[]⟩ ⟨#[]⟩ [], .mk 1 ⟨#[49]⟩ ⟨#[]⟩ ⟨#[]⟩ []]
set_option maxRecDepth 100000 in
theorem awake_tree : treeF [plusR] 6 (rowT awN) = .ok awT := by kernel_rfl
theorem ruls_plus {w : World} {g : Nat} (h : Blk w g 50 plusC) : RulsAt w (some ⟨g, 0, none⟩) [plusR] := fun k r hk => by
  cases k with
  | succ k => simp at hk
  | zero =>
    obtain rfl : plusR = r := by simpa using hk
    refine ⟨⟨by decide, by decide⟩, _, rfl, h.lt, fun j v hj => ?_⟩
    have hc := h.cell j
    match j, hj with
    | 0, hj | 1, hj | 2, hj | 3, hj | 4, hj | 5, hj => exact hc.trans hj
    | j + 6, hj => simp [plusR] at hj
theorem kids_aw {w : World} {g : Nat} (h : Blk w g 25 #[.int .i64 2, .string ⟨#[120]⟩, .int .i64 0, .slice none 0 0, .int .i64 2, .string ⟨#[43]⟩, .int .i64 0, .slice none 0 0, .int .i64 3, .string ⟨#[49]⟩, .int .i64 0, .slice none 0 0]) : KidsAt w (some ⟨g, 0, none⟩) awN := fun i t hi => by
  have leaf : ∀ (k : Int) (s : ByteArray), s.size ≤ 9223372036854775807 → NodAt w (.mk k s 0 []) #[.int .i64 k, .string s, .int .i64 0, .slice none 0 0] := fun k s hs => NodAt.of (ks := []) (A := none) (cap := 0) hs (Nat.le_refl _) (by omega) (fun i t hi => by simp at hi)
  match i, hi with
  | 0, hi =>
    obtain rfl : Tre.mk 2 ⟨#[120]⟩ 0 [] = t := by simpa [awN] using hi
    exact ⟨_, rfl, h.lt, _, leaf 2 _ (by decide), fun j hj => by
      have hc := h.cell j
      match j, hj with
      | 0, _ | 1, _ | 2, _ | 3, _ => exact hc
      | j + 4, hj => omega⟩
  | 1, hi =>
    obtain rfl : Tre.mk 2 ⟨#[43]⟩ 0 [] = t := by simpa [awN] using hi
    exact ⟨_, rfl, h.lt, _, leaf 2 _ (by decide), fun j hj => by
      have hc := h.cell (4 + j)
      match j, hj with
      | 0, _ | 1, _ | 2, _ | 3, _ => exact hc
      | j + 4, hj => omega⟩
  | 2, hi =>
    obtain rfl : Tre.mk 3 ⟨#[49]⟩ 0 [] = t := by simpa [awN] using hi
    exact ⟨_, rfl, h.lt, _, leaf 3 _ (by decide), fun j hj => by
      have hc := h.cell (8 + j)
      match j, hj with
      | 0, _ | 1, _ | 2, _ | 3, _ => exact hc
      | j + 4, hj => omega⟩
  | i + 3, hi => simp [awN] at hi
set_option maxRecDepth 100000 in
set_option maxHeartbeats 8000000 in
theorem awake_any (w : World) : Calls Tryz.prog 10 #[] w fun e w' => e = .returned (.bool true) ∧ Below w.heap.size w w' := by
  go_enter Tryz.func10, Tryz.ntmps10
  go_wp2_with fail
  refine (plus_any w).mono ?_
  rintro e w1 ⟨rfl, rfl⟩
  have HB := Lib.hid (bel_alloc w (.cells plusC 50))
  have K5 := Lib.hid (Blk.new w 50 plusC)
  generalize hn5 : w.heap.size = n5 at K5
  have HN5 := Lib.hid hn5
  clear hn5
  generalize w.alloc (.cells plusC 50) = w1 at *
  go_wp2_with fail
  have hba := bel_alloc w1 (.cells #[.int .i64 2, .string ⟨#[120]⟩, .int .i64 0, .slice none 0 0, .int .i64 2, .string ⟨#[43]⟩, .int .i64 0, .slice none 0 0, .int .i64 3, .string ⟨#[49]⟩, .int .i64 0, .slice none 0 0] 25)
  replace HB := Lib.hid (HB.out.trans (hba.mono HB.out.size))
  replace K5 := Lib.hid (keep hba K5.out)
  have K9 := Lib.hid (Blk.new w1 25 #[.int .i64 2, .string ⟨#[120]⟩, .int .i64 0, .slice none 0 0, .int .i64 2, .string ⟨#[43]⟩, .int .i64 0, .slice none 0 0, .int .i64 3, .string ⟨#[49]⟩, .int .i64 0, .slice none 0 0])
  clear hba
  generalize w1.alloc (.cells #[.int .i64 2, .string ⟨#[120]⟩, .int .i64 0, .slice none 0 0, .int .i64 2, .string ⟨#[43]⟩, .int .i64 0, .slice none 0 0, .int .i64 3, .string ⟨#[49]⟩, .int .i64 0, .slice none 0 0] 25) = w2 at *
  refine (row_any (some ⟨w1.heap.size, 0, none⟩) 3 3 w2).mono ?_
  rintro e w3 ⟨rfl, hb⟩
  replace HB := Lib.hid (HB.out.trans (hb.mono HB.out.size))
  replace K5 := Lib.hid (keep hb K5.out)
  replace K9 := Lib.hid (keep hb K9.out)
  clear hb
  go_wp2_with fail
  refine (tree_any (some ⟨n5, 0, none⟩) 1 [plusR] 6 (rowT awN) _ w3 (ruls_plus K5.out) (Nat.le_refl _) (by decide) (by decide) (NodAt.of (by decide) (Nat.le_refl _) (by decide) (kids_aw K9.out)) (by decide)).mono ?_
  rintro e w4 hm
  rw [awake_tree] at hm
  obtain ⟨⟨c9, rfl, htm⟩, hb⟩ := hm
  obtain ⟨Aa, ca, rfl, -⟩ := htm.form
  replace HB := Lib.hid (HB.out.trans (hb.mono HB.out.size))
  have hba := bel_alloc w4 (.cells zerC 31)
  have HB4 := Lib.hid (HB.out.trans (hba.mono HB.out.size))
  have K1 := Lib.hid (Blk.new w4 31 zerC)
  have HL := Lib.hid HB.out.size
  clear hb hba htm K5 K9
  have k1c := fun i => K1.out.cell i
  have k1f := fun i => K1.out.frozen i
  dsimp only [awT, Trm.kind, Trm.nam, Trm.vr, Trm.args, Trm.form, trmC, List.length_cons, List.length_nil]
  go_wp2_with fail
  exact bodyPost_ret (v := .bool true) (by simp [results, Tryz.results10, go_sem]) rfl ⟨rfl, HB.out.trans ((bel_alloc w4 _).mono HB.out.size)⟩
end Go.Proofs.YthpioplpfmlgcaaGreatDoor.El
namespace Go.Proofs.YthpioplpfmlgcaaGreatDoor.El
open Go.Proofs.YthpioplpfmlgcaaGreatDoor.At
open Go.RowKit
theorem few_any (t : Tre) (c : Array Value) (n : Nat) (w : World) (hN : NodAt w t c) (hn : n ≤ 100000) : Calls Tryz.prog 17 #[.agg c, .int .i64 (n : Nat)] w fun e w' => e = .returned (.bool (decide (countT t ≤ n))) ∧ Below w.heap.size w w' := by
  obtain ⟨k, s, cols, ks⟩ := t
  obtain ⟨A2, cap2, rfl, hs, hl, hc, hk⟩ := hN.form
  dsimp only [Tre.kind, Tre.text, Tre.cols, Tre.kids] at hs hl hc hk ⊢
  have HQ := Lib.hid (few_iff (.mk k s cols ks) n)
  have K0 := Lib.hid (Blk.new w 25 (nodC k s cols A2 ks.length cap2))
  have H0 := Lib.hid (bel_alloc w (.cells (nodC k s cols A2 ks.length cap2) 25))
  have HN := Lib.hid (hN.keep H0.out)
  clear hk hN
  dsimp only [nodC] at K0 H0 HN
  go_enter Tryz.func17, Tryz.ntmps17
  go_wp2_with fail
  generalize w.alloc (.cells #[.int .i64 k, .string s, .int .i64 cols, .slice A2 ks.length cap2] 25) = w1 at *
  refine (left_any (countT (.mk k s cols ks) + 1) _ _ n w1 (by omega) HN.out (by omega) (by omega)).mono ?_
  rintro e w2 ⟨rfl, hb⟩
  have HB := Lib.hid (H0.out.trans (hb.mono H0.out.size))
  clear hb
  generalize leftT (.mk k s cols ks) n = r at *
  by_cases hr : 0 ≤ r
  · have HR := Lib.hid (decide_eq_true (HQ.out.1 hr))
    go_wp2_with fail
    go_ret
    exact ⟨ret_bool HR.out.symm, HB.out⟩
  · have HR := Lib.hid (decide_eq_false (fun h => hr (HQ.out.2 h)))
    go_wp2_with fail
    go_ret
    exact ⟨ret_bool (by rw [HR.out, decide_eq_false (by omega)]), HB.out⟩
mutual
/-- how many of some nodes are left behind those of a tree with short rows and texts, or a negative number -/
def lef7T : Tre → Int → Int
  | .mk k s _ ks, n => if 300 < s.size ∨ (k = 1 ∧ 7 < ks.length) then -1 else lef7L ks (n - 1)
def lef7L : List Tre → Int → Int
  | [], n => n
  | t :: ts, n => if 0 ≤ n then lef7L ts (lef7T t n) else n
end
theorem lef7L_neg (ts : List Tre) {n : Int} (h : n < 0) : lef7L ts n = n := by
  cases ts with
  | nil => rw [lef7L]
  | cons x r => rw [lef7L, if_neg (by omega)]
theorem lef7L_app : ∀ (a b : List Tre) (n : Int), lef7L (a ++ b) n = lef7L b (lef7L a n)
  | [], b, n => by rw [List.nil_append, show lef7L [] n = n by rw [lef7L]]
  | x :: a, b, n => by
    rw [List.cons_append, lef7L, lef7L]
    split
    · exact lef7L_app a b _
    · rw [lef7L_neg b (by omega)]
theorem lef7L_snoc {ks : List Tre} {k : Nat} {x : Tre} (h : ks[k]? = some x) (n : Int) (h0 : 0 ≤ lef7L (ks.take k) n) : lef7L (ks.take (k + 1)) n = lef7T x (lef7L (ks.take k) n) := by
  rw [List.take_add_one, h, Option.toList, lef7L_app, lef7L, if_pos h0, lef7L]
theorem lef7L_stop (ks : List Tre) (k : Nat) (n : Int) (h0 : lef7L (ks.take k) n < 0) : lef7L ks n = lef7L (ks.take k) n := by
  conv => lhs; rw [← List.take_append_drop k ks]
  rw [lef7L_app, lef7L_neg _ h0]
mutual
theorem lef7T_le : ∀ (t : Tre) (n : Int), 0 ≤ n → lef7T t n ≤ n - 1 ∧ -1 ≤ lef7T t n ∧ (0 ≤ lef7T t n → lef7T t n = n - countT t)
  | .mk k s c ks, n, h0 => by
    rw [lef7T, countT]
    split
    · exact ⟨by omega, by omega, fun h => by omega⟩
    · obtain ⟨h1, h2, h3⟩ := lef7L_le ks (n - 1) (by omega)
      exact ⟨h1, h2, fun h => by have := h3 h; omega⟩
theorem lef7L_le : ∀ (ts : List Tre) (n : Int), -1 ≤ n → lef7L ts n ≤ n ∧ -1 ≤ lef7L ts n ∧ (0 ≤ lef7L ts n → lef7L ts n = n - countL ts)
  | [], n, h0 => by rw [lef7L, countL]; exact ⟨Int.le_refl _, h0, fun _ => by simp⟩
  | t :: ts, n, h0 => by
    rw [lef7L, countL]
    split
    · next hn =>
      obtain ⟨h1, h2, h3⟩ := lef7T_le t n hn
      obtain ⟨g1, g2, g3⟩ := lef7L_le ts (lef7T t n) h2
      refine ⟨by omega, g2, fun h => ?_⟩
      have := g3 h
      have := h3 (by omega)
      omega
    · exact ⟨Int.le_refl _, h0, fun h => by omega⟩
end
def smallB (t : Tre) (n : Int) : Bool := decide (0 ≤ lef7T t n)
mutual
/-- no row of a tree has more than seven items -/
def rows7T : Tre → Bool
  | .mk k _ _ ks => (!decide (k = 1) || decide (ks.length ≤ 7)) && rows7L ks
def rows7L : List Tre → Bool
  | [] => true
  | t :: ts => rows7T t && rows7L ts
end
mutual
theorem lef7_rows : ∀ (t : Tre) (n : Int), 0 ≤ lef7T t n → rows7T t = true
  | .mk k s c ks, n, h => by
    rw [lef7T] at h
    split at h
    · omega
    · next hn =>
      rw [rows7T, lef7L_rows ks _ h, Bool.and_true]
      by_cases hk : k = 1
      · rw [decide_eq_true (p := ks.length ≤ 7) (by omega)]; simp
      · rw [decide_eq_false hk]; rfl
theorem lef7L_rows : ∀ (ts : List Tre) (n : Int), 0 ≤ lef7L ts n → rows7L ts = true
  | [], n, _ => by rw [rows7L]
  | t :: ts, n, h => by
    rw [lef7L] at h
    split at h
    · next hn =>
      have h1 := lef7L_rows ts _ h
      have h2 : 0 ≤ lef7T t n := by
        rcases Int.lt_or_le (lef7T t n) 0 with h3 | h3
        · rw [lef7L_neg ts h3] at h; omega
        · exact h3
      rw [rows7L, lef7_rows t n h2, h1]; rfl
    · omega
end
theorem small_of {t : Tre} {n : Int} (hn : 0 ≤ n) (h : smallB t n = true) : (countT t : Int) ≤ n ∧ rows7T t = true := by
  unfold smallB at h
  have h1 := of_decide_eq_true h
  have h2 := (lef7T_le t n hn).2.2 h1
  exact ⟨by omega, lef7_rows t n h1⟩
set_option maxRecDepth 100000 in
set_option maxHeartbeats 1600000 in
theorem lef7_any : ∀ (m : Nat) (t : Tre) (c : Array Value) (n : Int) (w : World), countT t < m → NodAt w t c → 0 ≤ n → n ≤ 1000000 → Calls Tryz.prog 33 #[.agg c, .int .i64 n] w fun e w' => e = .returned (.int .i64 (lef7T t n)) ∧ Below w.heap.size w w' := by
  intro m
  induction m with
  | zero => intro t c n w h; omega
  | succ m ih =>
    intro t c n w hm hN hn0 hn1
    have IH := Lib.hid ih
    clear ih
    obtain ⟨k, s, cols, ks⟩ := t
    obtain ⟨A2, cap2, rfl, hs, hl, hc, hk⟩ := hN.form
    dsimp only [Tre.kind, Tre.text, Tre.cols, Tre.kids] at hs hl hc hk ⊢
    have HK := Lib.hid hk
    have HM := Lib.hid hm
    have K0 := Lib.hid (Blk.new w 25 #[.int .i64 k, .string s, .int .i64 cols, .slice A2 ks.length cap2])
    have H0 := Lib.hid (bel_alloc w (.cells #[.int .i64 k, .string s, .int .i64 cols, .slice A2 ks.length cap2] 25))
    have HK := Lib.hid (HK.out.keep H0.out)
    clear hk hN hm
    go_enter Tryz.func33, Tryz.ntmps33
    go_upto_region 1 with (fail)
    generalize w.alloc (.cells #[.int .i64 k, .string s, .int .i64 cols, .slice A2 ks.length cap2] 25) = w1 at *
    have k0 := K0.out.cell 0
    have k1 := K0.out.cell 1
    have k3 := K0.out.cell 3
    by_cases hz : 300 < s.size
    · have HQ := Lib.hid (show lef7T (.mk k s cols ks) n = -1 by rw [lef7T, if_pos (.inl hz)])
      have q1 : (300 : Int) < (s.size : Int) := by omega
      clear hz
      go_wp2_with fail
      go_ret
      exact ⟨At.ret_int (by rw [HQ.out]), H0.out⟩
    have q1 : ¬ ((300 : Int) < (s.size : Int)) := by omega
    by_cases hk1 : k = 1
    · have qk : (k == 1) = true := beq_iff_eq.2 hk1
      by_cases h7 : 7 < ks.length
      · have HQ := Lib.hid (show lef7T (.mk k s cols ks) n = -1 by rw [lef7T, if_pos (.inr ⟨hk1, h7⟩)])
        have q2 : (7 : Int) < (ks.length : Int) := by omega
        clear hz hk1 h7
        go_wp2_with fail
        go_ret
        exact ⟨At.ret_int (by rw [HQ.out]), H0.out⟩
      · have HQ := Lib.hid (show lef7T (.mk k s cols ks) n = lef7L ks (n - 1) by rw [lef7T, if_neg (by omega)])
        have q2 : ¬ ((7 : Int) < (ks.length : Int)) := by omega
        clear hz hk1 h7
        go_wp2_with fail
        go_loopw [1, 5] (fun v i wr => ∃ (j : Nat), j ≤ ks.length ∧ i = .int .i64 j ∧ v = .int .i64 (lef7L (ks.take j) (n - 1)) ∧ Hid (Blk wr w.heap.size 25 #[.int .i64 k, .string s, .int .i64 cols, .slice A2 ks.length cap2]) ∧ Hid (KidsAt wr A2 ks) ∧ Hid (Below w.heap.size w wr)) (fun _ i _ => ks.length - (intOf i).toNat)
        case atStart => exact ⟨0, by omega, rfl, by rw [List.take_zero, lef7L], K0, HK, H0⟩
        case round =>
          clear K0 HK H0 k0 k1 k3
          obtain ⟨j, hj, rfl, rfl, K0, HK, H0⟩ := hrel
          have c0 := K0.out.cell 3
          have hlow := (lef7L_le (ks.take j) (n - 1) (by omega)).2.1
          have hup := (lef7L_le (ks.take j) (n - 1) (by omega)).1
          by_cases hlt : j < ks.length
          · by_cases hz : 0 ≤ lef7L (ks.take j) (n - 1)
            · obtain ⟨x, hx⟩ : ∃ x, ks[j]? = some x := ⟨_, List.getElem?_eq_getElem hlt⟩
              obtain ⟨ad, A3, cap3, rfl, hadl, hs3, hl3, hc3, hk3, hN3, d0, d1, d2, d3⟩ := HK.out.at_ hx
              have HN3 := Lib.hid hN3
              have HS := Lib.hid (lef7L_snoc hx (n - 1) hz)
              have HCU : Hid (countT x < m) := by
                have h1 := HM.out
                have h2 := count_kid hx
                show _ < _
                rw [countT] at h1
                omega
              clear hx hk3 hN3
              generalize lef7L (ks.take j) (n - 1) = r at *
              go_wp2_with fail
              refine (IH.out x _ r wr HCU.out HN3.out hz (by omega)).mono ?_
              rintro e w2 ⟨rfl, hb⟩
              have K0 := Lib.hid (keep hb K0.out)
              have HK := Lib.hid (HK.out.keep hb)
              have H0 := Lib.hid (H0.out.trans (hb.mono H0.out.size))
              clear hb c0 d0 d1 d2 d3
              go_wp2_with fail
              go_roundw
              case rel => exact ⟨j + 1, by omega, by go_num, by rw [HS.out], K0, HK, H0⟩
              case measure => simp [intOf]; omega
            · have HS := Lib.hid (lef7L_stop ks j (n - 1) (by omega))
              generalize lef7L (ks.take j) (n - 1) = r at *
              go_wp2_with fail
              go_ret
              exact ⟨At.ret_int (by rw [HQ.out, HS.out]), H0.out⟩
          · obtain rfl : j = ks.length := by omega
            have HT := Lib.hid (show ks.take ks.length = ks from List.take_length)
            rw [HT.out] at *
            generalize lef7L ks (n - 1) = r at *
            go_wp2_with fail
            go_ret
            exact ⟨At.ret_int (by rw [HQ.out]), H0.out⟩
    · have qk : (k == 1) = false := beq_eq_false_iff_ne.2 hk1
      have HQ := Lib.hid (show lef7T (.mk k s cols ks) n = lef7L ks (n - 1) by rw [lef7T, if_neg (by omega)])
      clear hz hk1
      go_wp2_with fail
      go_loopw [1, 5] (fun v i wr => ∃ (j : Nat), j ≤ ks.length ∧ i = .int .i64 j ∧ v = .int .i64 (lef7L (ks.take j) (n - 1)) ∧ Hid (Blk wr w.heap.size 25 #[.int .i64 k, .string s, .int .i64 cols, .slice A2 ks.length cap2]) ∧ Hid (KidsAt wr A2 ks) ∧ Hid (Below w.heap.size w wr)) (fun _ i _ => ks.length - (intOf i).toNat)
      case atStart => exact ⟨0, by omega, rfl, by rw [List.take_zero, lef7L], K0, HK, H0⟩
      case round =>
        clear K0 HK H0 k0 k1 k3
        obtain ⟨j, hj, rfl, rfl, K0, HK, H0⟩ := hrel
        have c0 := K0.out.cell 3
        have hlow := (lef7L_le (ks.take j) (n - 1) (by omega)).2.1
        have hup := (lef7L_le (ks.take j) (n - 1) (by omega)).1
        by_cases hlt : j < ks.length
        · by_cases hz : 0 ≤ lef7L (ks.take j) (n - 1)
          · obtain ⟨x, hx⟩ : ∃ x, ks[j]? = some x := ⟨_, List.getElem?_eq_getElem hlt⟩
            obtain ⟨ad, A3, cap3, rfl, hadl, hs3, hl3, hc3, hk3, hN3, d0, d1, d2, d3⟩ := HK.out.at_ hx
            have HN3 := Lib.hid hN3
            have HS := Lib.hid (lef7L_snoc hx (n - 1) hz)
            have HCU : Hid (countT x < m) := by
              have h1 := HM.out
              have h2 := count_kid hx
              show _ < _
              rw [countT] at h1
              omega
            clear hx hk3 hN3
            generalize lef7L (ks.take j) (n - 1) = r at *
            go_wp2_with fail
            refine (IH.out x _ r wr HCU.out HN3.out hz (by omega)).mono ?_
            rintro e w2 ⟨rfl, hb⟩
            have K0 := Lib.hid (keep hb K0.out)
            have HK := Lib.hid (HK.out.keep hb)
            have H0 := Lib.hid (H0.out.trans (hb.mono H0.out.size))
            clear hb c0 d0 d1 d2 d3
            go_wp2_with fail
            go_roundw
            case rel => exact ⟨j + 1, by omega, by go_num, by rw [HS.out], K0, HK, H0⟩
            case measure => simp [intOf]; omega
          · have HS := Lib.hid (lef7L_stop ks j (n - 1) (by omega))
            generalize lef7L (ks.take j) (n - 1) = r at *
            go_wp2_with fail
            go_ret
            exact ⟨At.ret_int (by rw [HQ.out, HS.out]), H0.out⟩
        · obtain rfl : j = ks.length := by omega
          have HT := Lib.hid (show ks.take ks.length = ks from List.take_length)
          rw [HT.out] at *
          generalize lef7L ks (n - 1) = r at *
          go_wp2_with fail
          go_ret
          exact ⟨At.ret_int (by rw [HQ.out]), H0.out⟩
set_option maxRecDepth 100000 in
set_option maxHeartbeats 800000 in
theorem small_any (t : Tre) (c : Array Value) (n : Int) (w : World) (hN : NodAt w t c) (hn0 : 0 ≤ n) (hn : n ≤ 1000000) : Calls Tryz.prog 12 #[.agg c, .int .i64 n] w fun e w' => e = .returned (.bool (smallB t n)) ∧ Below w.heap.size w w' := by
  obtain ⟨k, s, cols, ks⟩ := t
  obtain ⟨A2, cap2, rfl, hs, hl, hc, hk⟩ := hN.form
  dsimp only [Tre.kind, Tre.text, Tre.cols, Tre.kids] at hs hl hc hk ⊢
  have HQ := Lib.hid (show smallB (.mk k s cols ks) n = decide (0 ≤ lef7T (.mk k s cols ks) n) from rfl)
  have K0 := Lib.hid (Blk.new w 25 #[.int .i64 k, .string s, .int .i64 cols, .slice A2 ks.length cap2])
  have H0 := Lib.hid (bel_alloc w (.cells #[.int .i64 k, .string s, .int .i64 cols, .slice A2 ks.length cap2] 25))
  have HN := Lib.hid (hN.keep H0.out)
  clear hk hN
  go_enter Tryz.func12, Tryz.ntmps12
  go_wp2_with fail
  generalize w.alloc (.cells #[.int .i64 k, .string s, .int .i64 cols, .slice A2 ks.length cap2] 25) = w1 at *
  refine (lef7_any (countT (.mk k s cols ks) + 1) _ _ n w1 (by omega) HN.out hn0 hn).mono ?_
  rintro e w2 ⟨rfl, hb⟩
  have HB := Lib.hid (H0.out.trans (hb.mono H0.out.size))
  clear hb
  generalize lef7T (.mk k s cols ks) n = r at *
  by_cases hr : 0 ≤ r
  · have HR := Lib.hid (decide_eq_true hr)
    go_wp2_with fail
    go_ret
    exact ⟨ret_bool (by rw [HQ.out, HR.out]), HB.out⟩
  · have HR := Lib.hid (decide_eq_false hr)
    go_wp2_with fail
    go_ret
    exact ⟨ret_bool (by rw [HQ.out, HR.out]), HB.out⟩
end Go.Proofs.YthpioplpfmlgcaaGreatDoor.El
namespace Go.Proofs.YthpioplpfmlgcaaGreatDoor.El
open Go.Proofs.YthpioplpfmlgcaaGreatDoor.At
open Go.Proofs.YthpioplpfmlgcaaGreatDoor.Ch
open Go.Proofs.YthpioplpfmlgcaaGreatDoor.Sp
open Go.Proofs.YthpioplpfmlgcaaGreatDoor.Sy
open Go.RowKit
end Go.Proofs.YthpioplpfmlgcaaGreatDoor.El
namespace Go.Proofs.YthpioplpfmlgcaaGreatDoor.El
open Go.Proofs.YthpioplpfmlgcaaGreatDoor.At
open Go.Proofs.YthpioplpfmlgcaaGreatDoor.Ch
open Go.Proofs.YthpioplpfmlgcaaGreatDoor.Sp
open Go.Proofs.YthpioplpfmlgcaaGreatDoor.Sy
open Go.RowKit
theorem get_more {rs : List Rul} {x : Rul} {n : Nat} (h : n < rs.length) : (rs ++ [x])[n]? = rs[n]? := List.getElem?_append_left h
theorem get_more' {rs : List Rul} {x u : Rul} {n : Nat} (h : rs[n]? = some u) : (rs ++ [x])[n]? = some u := by
  rw [get_more (List.getElem?_eq_some_iff.1 h).1]; exact h
theorem firsts_more {rs : List Rul} {x : Rul} : ∀ n, n ≤ rs.length → firstsB (rs ++ [x]) n = firstsB rs n
  | 0, _ => rfl
  | n + 1, h => by
    rw [firstsB, firstsB, firsts_more n (by omega), get_more (by omega), List.take_append_of_le_length (by omega)]
theorem valid_less {rs : List Rul} {x : Rul} (h : validB (rs ++ [x]) = true) : validB rs = true := by
  unfold validB at *
  rw [Bool.and_eq_true, decide_eq_true_eq, List.length_append, List.length_singleton] at h
  rw [Bool.and_eq_true, decide_eq_true_eq]
  refine ⟨by omega, ?_⟩
  have h2 := h.2
  rw [firstsB, Bool.and_eq_true] at h2
  rw [← firsts_more (x := x) _ (Nat.le_refl _)]
  exact h2.1
theorem knd_more {rs : List Rul} {x u : Rul} {n : Nat} (h : rs[n]? = some u) : kndR (rs ++ [x]) (n : Int) = kndR rs (n : Int) := by
  rw [knd_of h, knd_of (get_more' h)]
theorem name_more {rs : List Rul} {x u : Rul} {n : Nat} (h : rs[n]? = some u) : nameR (rs ++ [x]) (n : Int) = nameR rs (n : Int) := by
  unfold nameR; rw [Int.toNat_natCast, h, get_more' h]
theorem prec_more {rs : List Rul} {x u : Rul} {n : Nat} (h : rs[n]? = some u) : precI (rs ++ [x]) (n : Int) = precI rs (n : Int) := by
  rw [precI_nat h, precI_nat (get_more' h)]
theorem all_rule {rs : List Rul} {ts : List ByteArray} {i j : Nat} {y : Rd} (h : y ∈ allR rs ts i j) : y.rule = -1 ∨ ∃ n u, y.rule = ((n : Nat) : Int) ∧ rs[n]? = some u := by
  rcases (mem_all (mem_lt h)).1 h with ⟨_, _, rfl⟩ | ⟨n, u, hu, hr⟩
  · exact .inl rfl
  · exact .inr ⟨n, u, (rule_at hr).2, hu⟩
theorem least_more {rs : List Rul} {x : Rul} {ts : List ByteArray} {i j : Nat} {p : Int} : leastR (rs ++ [x]) (allR rs ts i j) p = leastR rs (allR rs ts i j) p := by
  unfold leastR
  refine List.filter_congr fun y hy => ?_
  rcases all_rule hy with h | ⟨n, u, h, hu⟩
  · rw [h]; rfl
  · rw [h, prec_more hu]
theorem rule_more {rs : List Rul} {x : Rul} {ts : List ByteArray} {i j n : Nat} (hn : n < rs.length) : ofRule (rs ++ [x]) ts (allR rs ts) i j n = ofRule rs ts (allR rs ts) i j n := by
  unfold ofRule
  rw [get_more hn]
  simp only [least_more]
theorem rule_new {rs : List Rul} {x : Rul} {ts : List ByteArray} {f : Nat → Nat → List Rd} {i j : Nat} (hx : ∀ q, tokB ts q x.sym.toList = false) (h4 : x.kind ≠ 4) : ofRule (rs ++ [x]) ts f i j rs.length = [] := by
  unfold ofRule
  rw [List.getElem?_append_right (Nat.le_refl _), Nat.sub_self, List.getElem?_cons_zero]
  simp only [hx, if_neg h4, Bool.false_eq_true, if_false, flatMap_nil', ite_self]
theorem all_more {rs : List Rul} {x : Rul} {ts : List ByteArray} (hx : ∀ q, tokB ts q x.sym.toList = false) (h4 : x.kind ≠ 4) : ∀ m i j, j - i ≤ m → allR (rs ++ [x]) ts i j = allR rs ts i j
  | 0, i, j, h => by rw [all_none (by omega), all_none (by omega)]
  | m + 1, i, j, h => by
    by_cases hij : i < j
    · rw [all_eq hij, all_eq hij, bodyR_congr (g := allR rs ts) hij fun a b _ _ hab => all_more hx h4 m a b (by omega)]
      unfold bodyR
      congr 1
      rw [List.length_append, List.length_singleton, List.range_succ, List.flatMap_append, List.flatMap_cons, List.flatMap_nil, rule_new hx h4, List.append_nil, List.append_nil]
      exact flatMap_congr' fun n hn => rule_more (List.mem_range.1 hn)
    · rw [all_none (by omega), all_none (by omega)]
theorem asg_more {rs : List Rul} {x : Rul} {y : Rd} {i j : Nat} (h : OkR rs y i j) : asgR (rs ++ [x]) y (j : Int) = asgR rs y (j : Int) := by
  induction h with
  | leaf i => rw [asg_leaf, asg_leaf]
  | inf n u i k j y z hu hk h1 h2 hz a b ha hb => rw [asg_inf hu hk hz, asg_inf (get_more' hu) hk hz, ha, hb]
  | pre n u i j y hu hk h1 a ha => rw [asg_pre hu hk, asg_pre (get_more' hu) hk, ha]
  | pos n u i j y hu hk h1 a ha => rw [asg_pos hu hk (by omega), asg_pos (get_more' hu) hk (by omega), ha]
  | jux n u i k j y z hu hk h1 h2 hz a b ha hb => rw [asg_jux hu hk hz, asg_jux (get_more' hu) hk hz, ha, hb]
theorem trm_more {rs : List Rul} {x : Rul} {ps : List Prt} {y : Rd} {i j : Nat} (h : OkR rs y i j) : trmR (rs ++ [x]) ps y (j : Int) = trmR rs ps y (j : Int) := by
  induction h with
  | leaf i => rw [trm_eqn, trm_eqn, if_pos (by decide), if_pos (by decide)]
  | inf n u i k j y z hu hk h1 h2 hz a b ha hb =>
    have h3 := op_inf (i := i) (j := j) (y := y) hu hk hz
    have h4 := op_inf (rs := rs ++ [x]) (i := i) (j := j) (y := y) (get_more' hu) hk hz
    rw [trm_eqn, trm_eqn, h3.1, h3.2, h4.1, h4.2, knd_more hu, name_more hu]
    simp only [trmL, ha, hb]
  | pre n u i j y hu hk h1 a ha =>
    have h3 := op_pre (i := i) (j := j) (y := y) hu hk
    have h4 := op_pre (rs := rs ++ [x]) (i := i) (j := j) (y := y) (get_more' hu) hk
    rw [trm_eqn, trm_eqn, h3.1, h3.2, h4.1, h4.2, knd_more hu, name_more hu]
    simp only [trmL, ha]
  | pos n u i j y hu hk h1 a ha =>
    have h3 := op_pos (i := i) (j := j) (y := y) hu hk (by omega)
    have h4 := op_pos (rs := rs ++ [x]) (i := i) (j := j) (y := y) (get_more' hu) hk (by omega)
    rw [trm_eqn, trm_eqn, h3.1, h3.2, h4.1, h4.2, knd_more hu, name_more hu]
    simp only [trmL, ha]
  | jux n u i k j y z hu hk h1 h2 hz a b ha hb =>
    have h3 := op_jux (i := i) (j := j) (y := y) hu hk hz
    have h4 := op_jux (rs := rs ++ [x]) (i := i) (j := j) (y := y) (get_more' hu) hk hz
    rw [trm_eqn, trm_eqn, h3.1, h3.2, h4.1, h4.2, knd_more hu, name_more hu]
    simp only [trmL, ha, hb]
mutual
/-- whether a tree contains a symbol -/
def hasT (s : List UInt8) : Tre → Bool
  | .mk k t _ ks => (decide (k = 2) && decide (t.data.toList = s)) || hasL s ks
def hasL (s : List UInt8) : List Tre → Bool
  | [] => false
  | t :: ts => hasT s t || hasL s ts
end
theorem hasL_mem {s : List UInt8} : ∀ {ts : List Tre}, hasL s ts = false → ∀ t ∈ ts, hasT s t = false
  | [], _, t, h => by cases h
  | x :: ts, hf, t, h => by
    rw [hasL, Bool.or_eq_false_iff] at hf
    rcases List.mem_cons.1 h with rfl | h
    · exact hf.1
    · exact hasL_mem hf.2 t h
theorem hasT_own {s : List UInt8} {t : Tre} (h : hasT s t = false) : (t.kind = 2 → t.text.data.toList ≠ s) ∧ hasL s t.kids = false := by
  obtain ⟨k, a, c, ks⟩ := t
  rw [hasT, Bool.or_eq_false_iff] at h
  refine ⟨fun e1 e2 => ?_, h.2⟩
  have h1 := h.1
  rw [decide_eq_true (show k = 2 from e1), decide_eq_true (show a.data.toList = s from e2)] at h1
  cases h1
theorem sy_more {rs : List Rul} {x : Rul} {t : List UInt8} (h : t ≠ x.sym.data.toList) : hasSy (rs ++ [x]) t = hasSy rs t := by
  unfold hasSy
  rw [List.any_append]
  simp only [List.any_cons, List.any_nil, Bool.or_false]
  rw [decide_eq_false (fun e => h e.symm), Bool.or_false]
theorem has_unsc {s : List UInt8} {n : Tre} (h : hasT s n = false) : hasT s (unsc n) = false := by
  unfold unsc
  split
  · split
    · next b ks hk =>
      split
      · next y hy =>
        have h1 := hasL_mem (hasT_own h).2 b (by rw [hk]; exact List.mem_cons_self)
        exact hasL_mem (hasT_own h1).2 y (by rw [hy]; exact List.mem_cons_self)
      · exact h
    · exact h
  · exact h
theorem oper_more {rs : List Rul} {x : Rul} {n : Tre} (h : hasT x.sym.data.toList n = false) : operB (rs ++ [x]) n = operB rs n := by
  unfold operB
  by_cases h2 : (unsc n).kind = 2
  · rw [sy_more ((hasT_own (has_unsc h)).1 h2)]
  · rw [decide_eq_false h2, Bool.false_and, Bool.false_and]
theorem toks_more {rs : List Rul} {x : Rul} : ∀ {l : List Tre}, hasL x.sym.data.toList l = false → toksN (rs ++ [x]) l = toksN rs l
  | [], _ => rfl
  | n :: l, h => by
    rw [hasL, Bool.or_eq_false_iff] at h
    rw [toksN, toksN, toks_more h.2]
    have : tokN (rs ++ [x]) n = tokN rs n := by unfold tokN; rw [oper_more h.1]
    rw [this]
theorem bind_more {rs : List Rul} {x : Rul} {n : Tre} (h : hasT x.sym.data.toList n = false) : bindN (rs ++ [x]) n = bindN rs n := by
  unfold bindN
  split
  · next a b c r hk =>
    have ha := hasL_mem (hasT_own h).2 a (by rw [hk]; exact List.mem_cons_self)
    by_cases h2 : a.kind = 2
    · rw [sy_more ((hasT_own ha).1 h2)]
    · rw [if_neg (fun e => h2 e.1.1), if_neg (fun e => h2 e.1.1)]
  · rfl
theorem var_more {rs : List Rul} {x : Rul} {n : Tre} {p : Bool} (h : hasT x.sym.data.toList n = false) : varN (rs ++ [x]) n p = varN rs n p := by
  unfold varN
  split
  · split
    · next b sub r hk => exact bind_more (hasL_mem (hasT_own h).2 sub (by rw [hk]; exact List.mem_cons_of_mem _ List.mem_cons_self))
    · rfl
  · rfl
theorem slots_congr {M M' : List Tre → List Int → Nat → Mea Trm} {path : List Int} : ∀ (ks : List Tre) (s b : Nat), (∀ d ∈ ks, ∀ p k, M d.kids p k = M' d.kids p k) → slotsF M path ks s b = slotsF M' path ks s b
  | [], _, _, _ => by rw [slotsF, slotsF]
  | n :: ns, s, b, h => by rw [slotsF, slotsF, h n List.mem_cons_self, slots_congr ns _ _ fun d hd => h d (List.mem_cons_of_mem _ hd)]
theorem opnd_congr {M M' : List Tre → List Int → Nat → Mea Trm} {n : Tre} {path : List Int} (h : ∀ d ∈ n.kids, ∀ p k, M d.kids p k = M' d.kids p k) : opndF M n path = opndF M' n path := by
  unfold opndF
  split
  · rfl
  split
  · rfl
  split
  · rfl
  · congr 1
    cases hk : n.kids with
    | nil => rfl
    | cons d ks =>
      rw [hk] at h
      dsimp only
      rw [slots_congr ks 1 0 fun e he => h e (List.mem_cons_of_mem _ he), slots_congr (d :: ks) 0 0 h]
theorem scr_congr {rs rs' : List Rul} {M M' : List Tre → List Int → Nat → Mea Trm} {n : Tre} {path : List Int} {p : Bool} (h : ∀ d ∈ n.kids, ∀ p k, M d.kids p k = M' d.kids p k) (hv : varN rs n p = varN rs' n p) : scrF rs M n path p = scrF rs' M' n path p := by
  unfold scrF
  rw [hv, slots_congr n.kids.tail _ _ fun d hd => h d (List.mem_of_mem_tail hd)]
theorem partsF_congr {rs rs' : List Rul} {M M' : List Tre → List Int → Nat → Mea Trm} {path : List Int} {kd kd' : Nat → Int} {k : Nat} : ∀ (ns : List Tre) (ts : List ByteArray) (i : Nat), (∀ n ∈ ns, ∀ d ∈ n.kids, ∀ p k, M d.kids p k = M' d.kids p k) → (∀ n ∈ ns, ∀ p, varN rs n p = varN rs' n p) → (∀ (q : Nat) (t : ByteArray), ts[q]? = some t → t.data.toList ≠ [35] → kd (i + q) = kd' (i + q)) →
    partsF rs M path kd k ns ts i = partsF rs' M' path kd' k ns ts i
  | [], ts, i, _, _, _ => by cases ts <;> simp [partsF]
  | _ :: _, [], i, _, _, _ => by simp [partsF]
  | n :: ns, t :: ts, i, h, hv, hk => by
    rw [partsF, partsF, partsF_congr (rs' := rs') (M' := M') (kd' := kd') ns ts (i + 1) (fun m hm => h m (List.mem_cons_of_mem _ hm)) (fun m hm => hv m (List.mem_cons_of_mem _ hm)) (fun q u hu hne => by have := hk (q + 1) u (by simpa using hu) hne; rw [show i + 1 + q = i + (q + 1) by omega]; exact this)]
    congr 1
    split
    · exact opnd_congr (h n List.mem_cons_self)
    · next hne =>
      have := hk 0 t rfl hne
      rw [Nat.add_zero] at this
      rw [this]
      exact scr_congr (h n List.mem_cons_self) (hv n List.mem_cons_self _)
theorem drop_has {s : List UInt8} {l : List Tre} (h : hasL s l = false) (k : Nat) : hasL s (l.drop k) = false := by
  induction l generalizing k with
  | nil => rw [List.drop_nil]; rfl
  | cons a l ih =>
    cases k with
    | zero => exact h
    | succ k =>
      rw [hasL, Bool.or_eq_false_iff] at h
      rw [List.drop_succ_cons]
      exact ih h.2 k
/-- THE LAW -/
theorem list_more {rs : List Rul} {x : Rul} (hv : validB (rs ++ [x]) = true) (h4 : x.kind ≠ 4) : ∀ (f : Nat) (items : List Tre) (path : List Int) (k : Nat), hasL x.sym.data.toList items = false → listM (rs ++ [x]) f items path k = listM rs f items path k
  | 0, _, _, _, _ => rfl
  | f + 1, items, path, k, hh => by
    have hvr := valid_less hv
    have hd := drop_has hh k
    rw [listM, listM]
    unfold listF
    split
    · rfl
    rw [toks_more hd]
    cases ht : toksN rs (items.drop k) with
    | inr i => rfl
    | inl ts =>
      dsimp only
      have hne : ∀ q, tokB ts q x.sym.toList = false := by
        intro q
        cases hq : ts[q]? with
        | none => unfold tokB; rw [hq]
        | some t =>
          rw [tok_at hq]
          refine decide_eq_false fun e => ?_
          have hql : q < (items.drop k).length := by rw [← toksN_len ht]; exact (List.getElem?_eq_some_iff.1 hq).1
          obtain ⟨n, hn⟩ : ∃ n, (items.drop k)[q]? = some n := ⟨_, List.getElem?_eq_getElem hql⟩
          have h1 := toks_at ht q n hn
          rw [hq] at h1
          have h2 := Option.some.inj h1.1
          rw [ByteArray.toList_eq] at e
          have h3 := hasL_mem hd n (List.mem_of_getElem? hn)
          unfold tokS at h2
          split at h2
          · next ho =>
            unfold operB at ho
            rw [Bool.and_eq_true, decide_eq_true_eq] at ho
            exact (hasT_own (has_unsc h3)).1 ho.1 (by rw [← h2]; exact e)
          · rw [h2] at e
            have h5 : (rs ++ [x])[rs.length]? = some x := by rw [List.getElem?_append_right (Nat.le_refl _), Nat.sub_self]; rfl
            exact sym_hash hv h5 (by rw [ByteArray.toList_eq, ← e]; rfl)
      have hr : readsM (rs ++ [x]) ts = readsM rs ts := by
        unfold readsM
        rw [hv, hvr, all_more hne h4 _ _ _ (Nat.le_refl _)]
      rw [hr]
      cases hrm : readsM rs ts with
      | nil => rfl
      | cons y yr =>
        cases yr with
        | cons z zr => rfl
        | nil =>
          have hy : y ∈ allR rs ts 0 ts.length := by
            unfold readsM at hrm
            split at hrm
            · rw [hrm]; exact List.mem_cons_self
            · cases hrm
          have hok := ok_of_mem _ 0 ts.length y (Nat.le_refl _) hy
          dsimp only
          rw [asg_more hok, partsF_congr (rs' := rs) (M' := listM rs f) (kd' := fun i => kndR rs ((ruleA (asgR rs y ts.length) ts.length).getD i 0)) (items.drop k) ts 0 (fun n hn d hdn p j => list_more hv h4 f d.kids p j (hasT_own (hasL_mem (hasT_own (hasL_mem hd n hn)).2 d hdn)).2) (fun n hn p => var_more (hasL_mem hd n hn)) (fun q t hq hne2 => ?_)]
          · congr 1
            funext ps
            rw [trm_more hok]
          · rw [Nat.zero_add]
            rcases cover _ 0 ts.length y (Nat.le_refl _) hy q (Nat.zero_le _) (List.getElem?_eq_some_iff.1 hq).1 with h | ⟨n, h⟩
            · rw [tok_at hq] at h
              exact absurd (of_decide_eq_true h) hne2
            · rw [rule_at_ hok h]
              obtain ⟨a, b, e, _, _, hb⟩ := asg_range hok _ h
              injection e with e1 e2
              have : n = b := by omega
              subst this
              exact knd_more (List.getElem?_eq_getElem hb)
end Go.Proofs.YthpioplpfmlgcaaGreatDoor.El
namespace Go.Proofs.YthpioplpfmlgcaaGreatDoor.El
open Go.Proofs.YthpioplpfmlgcaaGreatDoor.At
open Go.Proofs.YthpioplpfmlgcaaGreatDoor.Ch
open Go.Proofs.YthpioplpfmlgcaaGreatDoor.Sp
open Go.Proofs.YthpioplpfmlgcaaGreatDoor.Sy
open Go.RowKit
theorem hasL_take {s : List UInt8} {ks : List Tre} {j : Nat} {x : Tre} (h : ks[j]? = some x) (h0 : hasL s (ks.take j) = false) (h1 : hasT s x = false) : hasL s (ks.take (j + 1)) = false := by
  have app : ∀ (a b : List Tre), hasL s (a ++ b) = (hasL s a || hasL s b) := by
    intro a
    induction a with
    | nil => intro b; rw [List.nil_append, hasL, Bool.false_or]
    | cons y a ih => intro b; rw [List.cons_append, hasL, hasL, ih, Bool.or_assoc]
  rw [List.take_add_one, h, Option.toList, app, h0, hasL, hasL, h1]
  rfl
theorem hasT_of {s : List UInt8} {ks : List Tre} {j : Nat} {x : Tre} (h : ks[j]? = some x) (h1 : hasT s x = true) : hasL s ks = true := by
  have key : ∀ (ks : List Tre), x ∈ ks → hasL s ks = true := by
    intro ks
    induction ks with
    | nil => intro h; cases h
    | cons y ks ih =>
      intro h
      rw [hasL, Bool.or_eq_true]
      rcases List.mem_cons.1 h with rfl | h
      · exact .inl h1
      · exact .inr (ih h)
  exact key ks (List.mem_of_getElem? h)
set_option maxRecDepth 100000 in
set_option maxHeartbeats 1600000 in
theorem hast_any : ∀ (m : Nat) (t : Tre) (c : Array Value) (s : ByteArray) (w : World), countT t < m → NodAt w t c → Calls Tryz.prog 19 #[.agg c, .string s] w fun e w' => e = .returned (.bool (hasT s.data.toList t)) ∧ Below w.heap.size w w' := by
  intro m
  induction m with
  | zero => intro t c n w h; omega
  | succ m ih =>
    intro t c s w hm hN
    have IH := Lib.hid ih
    clear ih
    obtain ⟨k, a, cols, ks⟩ := t
    obtain ⟨A2, cap2, rfl, hs, hl, hc, hk⟩ := hN.form
    dsimp only [Tre.kind, Tre.text, Tre.cols, Tre.kids] at hs hl hc hk ⊢
    have HM := Lib.hid hm
    have K0 := Lib.hid (Blk.new w 25 #[.int .i64 k, .string a, .int .i64 cols, .slice A2 ks.length cap2])
    have H0 := Lib.hid (bel_alloc w (.cells #[.int .i64 k, .string a, .int .i64 cols, .slice A2 ks.length cap2] 25))
    have HK := Lib.hid (hk.keep H0.out)
    clear hk hN hm
    go_enter Tryz.func19, Tryz.ntmps19
    go_upto_region 1 with (fail)
    generalize w.alloc (.cells #[.int .i64 k, .string a, .int .i64 cols, .slice A2 ks.length cap2] 25) = w1 at *
    have k0 := K0.out.cell 0
    have k1 := K0.out.cell 1
    have k3 := K0.out.cell 3
    go_cut [14] (fun b wc => b = .bool (decide (k = 2) && decide (a.data.toList = s.data.toList)) ∧ wc = w1)
    case first =>
      by_cases h2 : k = 2
      · have q1 : (k == 2) = true := beq_iff_eq.2 h2
        have HD := Lib.hid (decide_eq_true h2)
        clear h2
        by_cases h3 : a.data.toList = s.data.toList
        · have q2 : (a.toList == s.toList) = true := by rw [ByteArray.toList_eq, ByteArray.toList_eq]; exact beq_iff_eq.2 h3
          have HE := Lib.hid (decide_eq_true h3)
          clear h3
          go_wp2_with fail
          go_meet
          exact ⟨by rw [HD.out, HE.out]; rfl, rfl⟩
        · have q2 : (a.toList == s.toList) = false := by rw [ByteArray.toList_eq, ByteArray.toList_eq]; exact beq_eq_false_iff_ne.2 h3
          have HE := Lib.hid (decide_eq_false h3)
          clear h3
          go_wp2_with fail
          go_meet
          exact ⟨by rw [HD.out, HE.out]; rfl, rfl⟩
      · have q1 : (k == 2) = false := beq_eq_false_iff_ne.2 h2
        have HD := Lib.hid (decide_eq_false h2)
        clear h2
        go_wp2_with fail
        go_meet
        exact ⟨by rw [HD.out]; rfl, rfl⟩
    obtain ⟨rfl, rfl⟩ := hcut
    clear k0 k1 k3
    cases hown : (decide (k = 2) && decide (a.data.toList = s.data.toList)) with
    | true =>
      have HQ := Lib.hid (show hasT s.data.toList (.mk k a cols ks) = true by rw [hasT, hown]; rfl)
      clear hown
      go_wp2_with fail
      go_ret
      exact ⟨ret_bool (by rw [HQ.out]), H0.out⟩
    | false =>
      have HQ := Lib.hid (show hasT s.data.toList (.mk k a cols ks) = hasL s.data.toList ks by rw [hasT, hown]; rfl)
      clear hown
      go_wp2_with fail
      go_loopw [5] (fun i wr => ∃ (j : Nat), j ≤ ks.length ∧ i = .int .i64 j ∧ Hid (hasL s.data.toList (ks.take j) = false) ∧ Hid (Blk wr w.heap.size 25 #[.int .i64 k, .string a, .int .i64 cols, .slice A2 ks.length cap2]) ∧ Hid (KidsAt wr A2 ks) ∧ Hid (Below w.heap.size w wr)) (fun i _ => ks.length - (intOf i).toNat)
      case atStart => exact ⟨0, by omega, rfl, by rw [List.take_zero, hasL]; exact Lib.hid rfl, K0, HK, H0⟩
      case round =>
        clear K0 HK H0
        obtain ⟨j, hj, rfl, HN, K0, HK, H0⟩ := hrel
        have c0 := K0.out.cell 3
        by_cases hlt : j < ks.length
        · obtain ⟨x, hx⟩ : ∃ x, ks[j]? = some x := ⟨_, List.getElem?_eq_getElem hlt⟩
          obtain ⟨ad, A3, cap3, rfl, hadl, hs3, hl3, hc3, hk3, hN3, d0, d1, d2, d3⟩ := HK.out.at_ hx
          have HN3 := Lib.hid hN3
          have HX := Lib.hid hx
          have HCU : Hid (countT x < m) := by
            have h1 := HM.out
            have h2 := count_kid hx
            show _ < _
            rw [countT] at h1
            omega
          clear hx hk3 hN3
          go_wp2_with fail
          refine (IH.out x _ s wr HCU.out HN3.out).mono ?_
          rintro e w2 ⟨rfl, hb⟩
          have K0 := Lib.hid (keep hb K0.out)
          have HK := Lib.hid (HK.out.keep hb)
          have H0 := Lib.hid (H0.out.trans (hb.mono H0.out.size))
          clear hb c0 d0 d1 d2 d3
          cases hq : hasT s.data.toList x with
          | true =>
            have HR := Lib.hid (hasT_of HX.out hq)
            clear hq
            go_wp2_with fail
            go_ret
            exact ⟨ret_bool (by rw [HQ.out, HR.out]), H0.out⟩
          | false =>
            have HR := Lib.hid (hasL_take HX.out HN.out hq)
            clear hq
            go_wp2_with fail
            go_roundw
            case rel => exact ⟨j + 1, by omega, by go_num, HR, K0, HK, H0⟩
            case measure => simp [intOf]; omega
        · obtain rfl : j = ks.length := by omega
          have HR := Lib.hid (show hasL s.data.toList ks = false by have := HN.out; rwa [List.take_length] at this)
          go_wp2_with fail
          go_ret
          exact ⟨ret_bool (by rw [HQ.out, HR.out]), H0.out⟩
end Go.Proofs.YthpioplpfmlgcaaGreatDoor.El
namespace Go.Proofs.YthpioplpfmlgcaaGreatDoor.El
open Go.Proofs.YthpioplpfmlgcaaGreatDoor.At
open Go.Proofs.YthpioplpfmlgcaaGreatDoor.Ch
open Go.Proofs.YthpioplpfmlgcaaGreatDoor.Sp
open Go.Proofs.YthpioplpfmlgcaaGreatDoor.Sy
open Go.RowKit
end Go.Proofs.YthpioplpfmlgcaaGreatDoor.El
namespace Go.Proofs.YthpioplpfmlgcaaGreatDoor.El
open Go.Proofs.YthpioplpfmlgcaaGreatDoor.At
open Go.Proofs.YthpioplpfmlgcaaGreatDoor.Ch
open Go.Proofs.YthpioplpfmlgcaaGreatDoor.Sp
open Go.Proofs.YthpioplpfmlgcaaGreatDoor.Sy
open Go.RowKit
end Go.Proofs.YthpioplpfmlgcaaGreatDoor.El
