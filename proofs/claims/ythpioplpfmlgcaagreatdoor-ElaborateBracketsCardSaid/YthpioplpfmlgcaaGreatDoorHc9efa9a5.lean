/- awake of the law · Few; Small of the reference; has of the law · A list with one reading, as the reference computes it; positions; further plain laws of meanings · A further rule whose symbol does not occur changes nothing: plain · has of the law: whether a tree contains a symbol · The variables of a meaning are symbols of the tree: plain · A meaning is a well-formed term, with at most twice as many subterms as the tree has nodes: plain · Equal of the reference · How many readings valid rules have at most: plain -/
import Derived.Test.YthpioplpfmlgcaaGreatDoorHfbed354a
import Derived.Test.YthpioplpfmlgcaaGreatDoorH826c579a
import Derived.BigQuiet
import Derived.Deep.DeepCutAuto
import Derived.Deep.CutBlock
import Derived.Test.YthpioplpfmlgcaaGreatDoorHb304910e
import Derived.Test.YthpioplpfmlgcaaGreatDoorH9f6b92c3
import Derived.Test.YthpioplpfmlgcaaGreatDoorH630bd2f2
import Derived.Test.YthpioplpfmlgcaaGreatDoorH09685d45
import Derived.Deep.RegionWith
import Derived.Test.YthpioplpfmlgcaaGreatDoorH4c6de665
import Derived.Test.YthpioplpfmlgcaaGreatDoorH95b2a9f9
import Derived.Test.YthpioplpfmlgcaaGreatDoorH64d930c9
namespace Go.Proofs.YthpioplpfmlgcaaGreatDoor.El
open Go.Proofs.YthpioplpfmlgcaaGreatDoor.At
open Go.Proofs.YthpioplpfmlgcaaGreatDoor.Ch
open Go.Proofs.YthpioplpfmlgcaaGreatDoor.Sp
open Go.Proofs.YthpioplpfmlgcaaGreatDoor.Sy
open Go.RowKit
def awN : List Tre := [.mk 2 ⟨#[120]⟩ 0 [], .mk 2 ⟨#[43]⟩ 0 [], .mk 3 ⟨#[49]⟩ 0 []]
def awT : Trm := .mk 4 ⟨#[112, 108, 117, 115]⟩ ⟨#[]⟩ ⟨#[105, 110, 102, 105, 120]⟩ [.mk 2 ⟨#[120]⟩ ⟨#[]⟩ ⟨#[]⟩ [], .mk 1 ⟨#[49]⟩ ⟨#[]⟩ ⟨#[]⟩ []]
set_option maxRecDepth 100000 in
theorem awake_tree : treeF [plusR] 6 (rowT awN) = .ok awT := by kernel_rfl
theorem ruls_plus {w : World} {g : Nat} (h : Blk w g 50 plusC) : RulsAt w (some ⟨g, 0, none⟩) [plusR] := fun k r hk => by
  cases k with
  | succ k => simp at hk
  | zero =>
    obtain rfl : plusR = r := by simpa using hk
    refine ⟨⟨by decide, by decide⟩, _, rfl, h.lt, fun j v hj => ?_⟩
    have hc := h.cell j
    match j, hj with
    | 0, hj | 1, hj | 2, hj | 3, hj | 4, hj | 5, hj => exact hc.trans hj
    | j + 6, hj => simp [plusR] at hj
theorem kids_aw {w : World} {g : Nat} (h : Blk w g 25 #[.int .i64 2, .string ⟨#[120]⟩, .int .i64 0, .slice none 0 0, .int .i64 2, .string ⟨#[43]⟩, .int .i64 0, .slice none 0 0, .int .i64 3, .string ⟨#[49]⟩, .int .i64 0, .slice none 0 0]) : KidsAt w (some ⟨g, 0, none⟩) awN := fun i t hi => by
  have leaf : ∀ (k : Int) (s : ByteArray), s.size ≤ 9223372036854775807 → NodAt w (.mk k s 0 []) #[.int .i64 k, .string s, .int .i64 0, .slice none 0 0] := fun k s hs => NodAt.of (ks := []) (A := none) (cap := 0) hs (Nat.le_refl _) (by omega) (fun i t hi => by simp at hi)
  match i, hi with
  | 0, hi =>
    obtain rfl : Tre.mk 2 ⟨#[120]⟩ 0 [] = t := by simpa [awN] using hi
    exact ⟨_, rfl, h.lt, _, leaf 2 _ (by decide), fun j hj => by
      have hc := h.cell j
      match j, hj with
      | 0, _ | 1, _ | 2, _ | 3, _ => exact hc
      | j + 4, hj => omega⟩
  | 1, hi =>
    obtain rfl : Tre.mk 2 ⟨#[43]⟩ 0 [] = t := by simpa [awN] using hi
    exact ⟨_, rfl, h.lt, _, leaf 2 _ (by decide), fun j hj => by
      have hc := h.cell (4 + j)
      match j, hj with
      | 0, _ | 1, _ | 2, _ | 3, _ => exact hc
      | j + 4, hj => omega⟩
  | 2, hi =>
    obtain rfl : Tre.mk 3 ⟨#[49]⟩ 0 [] = t := by simpa [awN] using hi
    exact ⟨_, rfl, h.lt, _, leaf 3 _ (by decide), fun j hj => by
      have hc := h.cell (8 + j)
      match j, hj with
      | 0, _ | 1, _ | 2, _ | 3, _ => exact hc
      | j + 4, hj => omega⟩
  | i + 3, hi => simp [awN] at hi
set_option maxRecDepth 100000 in
set_option maxHeartbeats 8000000 in
theorem awake_any (w : World) : Calls Tryz.prog 10 #[] w fun e w' => e = .returned (.bool true) ∧ Below w.heap.size w w' := by
  go_enter Tryz.func10, Tryz.ntmps10
  go_wp2_with fail
  refine (plus_any w).mono ?_
  rintro e w1 ⟨rfl, rfl⟩
  have HB := Lib.hid (bel_alloc w (.cells plusC 50))
  have K5 := Lib.hid (Blk.new w 50 plusC)
  generalize hn5 : w.heap.size = n5 at K5
  have HN5 := Lib.hid hn5
  clear hn5
  generalize w.alloc (.cells plusC 50) = w1 at *
  go_wp2_with fail
  have hba := bel_alloc w1 (.cells #[.int .i64 2, .string ⟨#[120]⟩, .int .i64 0, .slice none 0 0, .int .i64 2, .string ⟨#[43]⟩, .int .i64 0, .slice none 0 0, .int .i64 3, .string ⟨#[49]⟩, .int .i64 0, .slice none 0 0] 25)
  replace HB := Lib.hid (HB.out.trans (hba.mono HB.out.size))
  replace K5 := Lib.hid (keep hba K5.out)
  have K9 := Lib.hid (Blk.new w1 25 #[.int .i64 2, .string ⟨#[120]⟩, .int .i64 0, .slice none 0 0, .int .i64 2, .string ⟨#[43]⟩, .int .i64 0, .slice none 0 0, .int .i64 3, .string ⟨#[49]⟩, .int .i64 0, .slice none 0 0])
  clear hba
  generalize w1.alloc (.cells #[.int .i64 2, .string ⟨#[120]⟩, .int .i64 0, .slice none 0 0, .int .i64 2, .string ⟨#[43]⟩, .int .i64 0, .slice none 0 0, .int .i64 3, .string ⟨#[49]⟩, .int .i64 0, .slice none 0 0] 25) = w2 at *
  refine (row_any (some ⟨w1.heap.size, 0, none⟩) 3 3 w2).mono ?_
  rintro e w3 ⟨rfl, hb⟩
  replace HB := Lib.hid (HB.out.trans (hb.mono HB.out.size))
  replace K5 := Lib.hid (keep hb K5.out)
  replace K9 := Lib.hid (keep hb K9.out)
  clear hb
  go_wp2_with fail
  refine (tree_any (some ⟨n5, 0, none⟩) 1 [plusR] 6 (rowT awN) _ w3 (ruls_plus K5.out) (Nat.le_refl _) (by decide) (by decide) (NodAt.of (by decide) (Nat.le_refl _) (by decide) (kids_aw K9.out)) (by decide)).mono ?_
  rintro e w4 hm
  rw [awake_tree] at hm
  obtain ⟨⟨c9, rfl, htm⟩, hb⟩ := hm
  obtain ⟨Aa, ca, rfl, -⟩ := htm.form
  replace HB := Lib.hid (HB.out.trans (hb.mono HB.out.size))
  have hba := bel_alloc w4 (.cells zerC 31)
  have HB4 := Lib.hid (HB.out.trans (hba.mono HB.out.size))
  have K1 := Lib.hid (Blk.new w4 31 zerC)
  have HL := Lib.hid HB.out.size
  clear hb hba htm K5 K9
  have k1c := fun i => K1.out.cell i
  have k1f := fun i => K1.out.frozen i
  dsimp only [awT, Trm.kind, Trm.nam, Trm.vr, Trm.args, Trm.form, trmC, List.length_cons, List.length_nil]
  go_wp2_with fail
  exact bodyPost_ret (v := .bool true) (by simp [results, Tryz.results10, go_sem]) rfl ⟨rfl, HB.out.trans ((bel_alloc w4 _).mono HB.out.size)⟩
end Go.Proofs.YthpioplpfmlgcaaGreatDoor.El
namespace Go.Proofs.YthpioplpfmlgcaaGreatDoor.El
open Go.Proofs.YthpioplpfmlgcaaGreatDoor.At
open Go.RowKit
theorem few_any (t : Tre) (c : Array Value) (n : Nat) (w : World) (hN : NodAt w t c) (hn : n ≤ 100000) : Calls Tryz.prog 17 #[.agg c, .int .i64 (n : Nat)] w fun e w' => e = .returned (.bool (decide (countT t ≤ n))) ∧ Below w.heap.size w w' := by
  obtain ⟨k, s, cols, ks⟩ := t
  obtain ⟨A2, cap2, rfl, hs, hl, hc, hk⟩ := hN.form
  dsimp only [Tre.kind, Tre.text, Tre.cols, Tre.kids] at hs hl hc hk ⊢
  have HQ := Lib.hid (few_iff (.mk k s cols ks) n)
  have K0 := Lib.hid (Blk.new w 25 (nodC k s cols A2 ks.length cap2))
  have H0 := Lib.hid (bel_alloc w (.cells (nodC k s cols A2 ks.length cap2) 25))
  have HN := Lib.hid (hN.keep H0.out)
  clear hk hN
  dsimp only [nodC] at K0 H0 HN
  go_enter Tryz.func17, Tryz.ntmps17
  go_wp2_with fail
  generalize w.alloc (.cells #[.int .i64 k, .string s, .int .i64 cols, .slice A2 ks.length cap2] 25) = w1 at *
  refine (left_any (countT (.mk k s cols ks) + 1) _ _ n w1 (by omega) HN.out (by omega) (by omega)).mono ?_
  rintro e w2 ⟨rfl, hb⟩
  have HB := Lib.hid (H0.out.trans (hb.mono H0.out.size))
  clear hb
  generalize leftT (.mk k s cols ks) n = r at *
  by_cases hr : 0 ≤ r
  · have HR := Lib.hid (decide_eq_true (HQ.out.1 hr))
    go_wp2_with fail
    go_ret
    exact ⟨ret_bool HR.out.symm, HB.out⟩
  · have HR := Lib.hid (decide_eq_false (fun h => hr (HQ.out.2 h)))
    go_wp2_with fail
    go_ret
    exact ⟨ret_bool (by rw [HR.out, decide_eq_false (by omega)]), HB.out⟩
mutual
/-- how many of some nodes are left behind those of a tree with short rows and texts, or a negative number -/
def lef7T : Tre → Int → Int
  | .mk k s _ ks, n => if 300 < s.size ∨ (k = 1 ∧ 7 < ks.length) then -1 else lef7L ks (n - 1)
def lef7L : List Tre → Int → Int
  | [], n => n
  | t :: ts, n => if 0 ≤ n then lef7L ts (lef7T t n) else n
end
theorem lef7L_neg (ts : List Tre) {n : Int} (h : n < 0) : lef7L ts n = n := by
  cases ts with
  | nil => rw [lef7L]
  | cons x r => rw [lef7L, if_neg (by omega)]
theorem lef7L_app : ∀ (a b : List Tre) (n : Int), lef7L (a ++ b) n = lef7L b (lef7L a n)
  | [], b, n => by rw [List.nil_append, show lef7L [] n = n by rw [lef7L]]
  | x :: a, b, n => by
    rw [List.cons_append, lef7L, lef7L]
    split
    · exact lef7L_app a b _
    · rw [lef7L_neg b (by omega)]
theorem lef7L_snoc {ks : List Tre} {k : Nat} {x : Tre} (h : ks[k]? = some x) (n : Int) (h0 : 0 ≤ lef7L (ks.take k) n) : lef7L (ks.take (k + 1)) n = lef7T x (lef7L (ks.take k) n) := by
  rw [List.take_add_one, h, Option.toList, lef7L_app, lef7L, if_pos h0, lef7L]
theorem lef7L_stop (ks : List Tre) (k : Nat) (n : Int) (h0 : lef7L (ks.take k) n < 0) : lef7L ks n = lef7L (ks.take k) n := by
  conv => lhs; rw [← List.take_append_drop k ks]
  rw [lef7L_app, lef7L_neg _ h0]
mutual
theorem lef7T_le : ∀ (t : Tre) (n : Int), 0 ≤ n → lef7T t n ≤ n - 1 ∧ -1 ≤ lef7T t n ∧ (0 ≤ lef7T t n → lef7T t n = n - countT t)
  | .mk k s c ks, n, h0 => by
    rw [lef7T, countT]
    split
    · exact ⟨by omega, by omega, fun h => by omega⟩
    · obtain ⟨h1, h2, h3⟩ := lef7L_le ks (n - 1) (by omega)
      exact ⟨h1, h2, fun h => by have := h3 h; omega⟩
theorem lef7L_le : ∀ (ts : List Tre) (n : Int), -1 ≤ n → lef7L ts n ≤ n ∧ -1 ≤ lef7L ts n ∧ (0 ≤ lef7L ts n → lef7L ts n = n - countL ts)
  | [], n, h0 => by rw [lef7L, countL]; exact ⟨Int.le_refl _, h0, fun _ => by simp⟩
  | t :: ts, n, h0 => by
    rw [lef7L, countL]
    split
    · next hn =>
      obtain ⟨h1, h2, h3⟩ := lef7T_le t n hn
      obtain ⟨g1, g2, g3⟩ := lef7L_le ts (lef7T t n) h2
      refine ⟨by omega, g2, fun h => ?_⟩
      have := g3 h
      have := h3 (by omega)
      omega
    · exact ⟨Int.le_refl _, h0, fun h => by omega⟩
end
def smallB (t : Tre) (n : Int) : Bool := decide (0 ≤ lef7T t n)
mutual
/-- no row of a tree has more than seven items -/
def rows7T : Tre → Bool
  | .mk k _ _ ks => (!decide (k = 1) || decide (ks.length ≤ 7)) && rows7L ks
def rows7L : List Tre → Bool
  | [] => true
  | t :: ts => rows7T t && rows7L ts
end
mutual
theorem lef7_rows : ∀ (t : Tre) (n : Int), 0 ≤ lef7T t n → rows7T t = true
  | .mk k s c ks, n, h => by
    rw [lef7T] at h
    split at h
    · omega
    · next hn =>
      rw [rows7T, lef7L_rows ks _ h, Bool.and_true]
      by_cases hk : k = 1
      · rw [decide_eq_true (p := ks.length ≤ 7) (by omega)]; simp
      · rw [decide_eq_false hk]; rfl
theorem lef7L_rows : ∀ (ts : List Tre) (n : Int), 0 ≤ lef7L ts n → rows7L ts = true
  | [], n, _ => by rw [rows7L]
  | t :: ts, n, h => by
    rw [lef7L] at h
    split at h
    · next hn =>
      have h1 := lef7L_rows ts _ h
      have h2 : 0 ≤ lef7T t n := by
        rcases Int.lt_or_le (lef7T t n) 0 with h3 | h3
        · rw [lef7L_neg ts h3] at h; omega
        · exact h3
      rw [rows7L, lef7_rows t n h2, h1]; rfl
    · omega
end
theorem small_of {t : Tre} {n : Int} (hn : 0 ≤ n) (h : smallB t n = true) : (countT t : Int) ≤ n ∧ rows7T t = true := by
  unfold smallB at h
  have h1 := of_decide_eq_true h
  have h2 := (lef7T_le t n hn).2.2 h1
  exact ⟨by omega, lef7_rows t n h1⟩
set_option maxRecDepth 100000 in
set_option maxHeartbeats 1600000 in
theorem lef7_any : ∀ (m : Nat) (t : Tre) (c : Array Value) (n : Int) (w : World), countT t < m → NodAt w t c → 0 ≤ n → n ≤ 1000000 → Calls Tryz.prog 33 #[.agg c, .int .i64 n] w fun e w' => e = .returned (.int .i64 (lef7T t n)) ∧ Below w.heap.size w w' := by
  intro m
  induction m with
  | zero => intro t c n w h; omega
  | succ m ih =>
    intro t c n w hm hN hn0 hn1
    have IH := Lib.hid ih
    clear ih
    obtain ⟨k, s, cols, ks⟩ := t
    obtain ⟨A2, cap2, rfl, hs, hl, hc, hk⟩ := hN.form
    dsimp only [Tre.kind, Tre.text, Tre.cols, Tre.kids] at hs hl hc hk ⊢
    have HK := Lib.hid hk
    have HM := Lib.hid hm
    have K0 := Lib.hid (Blk.new w 25 #[.int .i64 k, .string s, .int .i64 cols, .slice A2 ks.length cap2])
    have H0 := Lib.hid (bel_alloc w (.cells #[.int .i64 k, .string s, .int .i64 cols, .slice A2 ks.length cap2] 25))
    have HK := Lib.hid (HK.out.keep H0.out)
    clear hk hN hm
    go_enter Tryz.func33, Tryz.ntmps33
    go_upto_region 1 with (fail)
    generalize w.alloc (.cells #[.int .i64 k, .string s, .int .i64 cols, .slice A2 ks.length cap2] 25) = w1 at *
    have k0 := K0.out.cell 0
    have k1 := K0.out.cell 1
    have k3 := K0.out.cell 3
    by_cases hz : 300 < s.size
    · have HQ := Lib.hid (show lef7T (.mk k s cols ks) n = -1 by rw [lef7T, if_pos (.inl hz)])
      have q1 : (300 : Int) < (s.size : Int) := by omega
      clear hz
      go_wp2_with fail
      go_ret
      exact ⟨At.ret_int (by rw [HQ.out]), H0.out⟩
    have q1 : ¬ ((300 : Int) < (s.size : Int)) := by omega
    by_cases hk1 : k = 1
    · have qk : (k == 1) = true := beq_iff_eq.2 hk1
      by_cases h7 : 7 < ks.length
      · have HQ := Lib.hid (show lef7T (.mk k s cols ks) n = -1 by rw [lef7T, if_pos (.inr ⟨hk1, h7⟩)])
        have q2 : (7 : Int) < (ks.length : Int) := by omega
        clear hz hk1 h7
        go_wp2_with fail
        go_ret
        exact ⟨At.ret_int (by rw [HQ.out]), H0.out⟩
      · have HQ := Lib.hid (show lef7T (.mk k s cols ks) n = lef7L ks (n - 1) by rw [lef7T, if_neg (by omega)])
        have q2 : ¬ ((7 : Int) < (ks.length : Int)) := by omega
        clear hz hk1 h7
        go_wp2_with fail
        go_loopw [1, 5] (fun v i wr => ∃ (j : Nat), j ≤ ks.length ∧ i = .int .i64 j ∧ v = .int .i64 (lef7L (ks.take j) (n - 1)) ∧ Hid (Blk wr w.heap.size 25 #[.int .i64 k, .string s, .int .i64 cols, .slice A2 ks.length cap2]) ∧ Hid (KidsAt wr A2 ks) ∧ Hid (Below w.heap.size w wr)) (fun _ i _ => ks.length - (intOf i).toNat)
        case atStart => exact ⟨0, by omega, rfl, by rw [List.take_zero, lef7L], K0, HK, H0⟩
        case round =>
          clear K0 HK H0 k0 k1 k3
          obtain ⟨j, hj, rfl, rfl, K0, HK, H0⟩ := hrel
          have c0 := K0.out.cell 3
          have hlow := (lef7L_le (ks.take j) (n - 1) (by omega)).2.1
          have hup := (lef7L_le (ks.take j) (n - 1) (by omega)).1
          by_cases hlt : j < ks.length
          · by_cases hz : 0 ≤ lef7L (ks.take j) (n - 1)
            · obtain ⟨x, hx⟩ : ∃ x, ks[j]? = some x := ⟨_, List.getElem?_eq_getElem hlt⟩
              obtain ⟨ad, A3, cap3, rfl, hadl, hs3, hl3, hc3, hk3, hN3, d0, d1, d2, d3⟩ := HK.out.at_ hx
              have HN3 := Lib.hid hN3
              have HS := Lib.hid (lef7L_snoc hx (n - 1) hz)
              have HCU : Hid (countT x < m) := by
                have h1 := HM.out
                have h2 := count_kid hx
                show _ < _
                rw [countT] at h1
                omega
              clear hx hk3 hN3
              generalize lef7L (ks.take j) (n - 1) = r at *
              go_wp2_with fail
              refine (IH.out x _ r wr HCU.out HN3.out hz (by omega)).mono ?_
              rintro e w2 ⟨rfl, hb⟩
              have K0 := Lib.hid (keep hb K0.out)
              have HK := Lib.hid (HK.out.keep hb)
              have H0 := Lib.hid (H0.out.trans (hb.mono H0.out.size))
              clear hb c0 d0 d1 d2 d3
              go_wp2_with fail
              go_roundw
              case rel => exact ⟨j + 1, by omega, by go_num, by rw [HS.out], K0, HK, H0⟩
              case measure => simp [intOf]; omega
            · have HS := Lib.hid (lef7L_stop ks j (n - 1) (by omega))
              generalize lef7L (ks.take j) (n - 1) = r at *
              go_wp2_with fail
              go_ret
              exact ⟨At.ret_int (by rw [HQ.out, HS.out]), H0.out⟩
          · obtain rfl : j = ks.length := by omega
            have HT := Lib.hid (show ks.take ks.length = ks from List.take_length)
            rw [HT.out] at *
            generalize lef7L ks (n - 1) = r at *
            go_wp2_with fail
            go_ret
            exact ⟨At.ret_int (by rw [HQ.out]), H0.out⟩
    · have qk : (k == 1) = false := beq_eq_false_iff_ne.2 hk1
      have HQ := Lib.hid (show lef7T (.mk k s cols ks) n = lef7L ks (n - 1) by rw [lef7T, if_neg (by omega)])
      clear hz hk1
      go_wp2_with fail
      go_loopw [1, 5] (fun v i wr => ∃ (j : Nat), j ≤ ks.length ∧ i = .int .i64 j ∧ v = .int .i64 (lef7L (ks.take j) (n - 1)) ∧ Hid (Blk wr w.heap.size 25 #[.int .i64 k, .string s, .int .i64 cols, .slice A2 ks.length cap2]) ∧ Hid (KidsAt wr A2 ks) ∧ Hid (Below w.heap.size w wr)) (fun _ i _ => ks.length - (intOf i).toNat)
      case atStart => exact ⟨0, by omega, rfl, by rw [List.take_zero, lef7L], K0, HK, H0⟩
      case round =>
        clear K0 HK H0 k0 k1 k3
        obtain ⟨j, hj, rfl, rfl, K0, HK, H0⟩ := hrel
        have c0 := K0.out.cell 3
        have hlow := (lef7L_le (ks.take j) (n - 1) (by omega)).2.1
        have hup := (lef7L_le (ks.take j) (n - 1) (by omega)).1
        by_cases hlt : j < ks.length
        · by_cases hz : 0 ≤ lef7L (ks.take j) (n - 1)
          · obtain ⟨x, hx⟩ : ∃ x, ks[j]? = some x := ⟨_, List.getElem?_eq_getElem hlt⟩
            obtain ⟨ad, A3, cap3, rfl, hadl, hs3, hl3, hc3, hk3, hN3, d0, d1, d2, d3⟩ := HK.out.at_ hx
            have HN3 := Lib.hid hN3
            have HS := Lib.hid (lef7L_snoc hx (n - 1) hz)
            have HCU : Hid (countT x < m) := by
              have h1 := HM.out
              have h2 := count_kid hx
              show _ < _
              rw [countT] at h1
              omega
            clear hx hk3 hN3
            generalize lef7L (ks.take j) (n - 1) = r at *
            go_wp2_with fail
            refine (IH.out x _ r wr HCU.out HN3.out hz (by omega)).mono ?_
            rintro e w2 ⟨rfl, hb⟩
            have K0 := Lib.hid (keep hb K0.out)
            have HK := Lib.hid (HK.out.keep hb)
            have H0 := Lib.hid (H0.out.trans (hb.mono H0.out.size))
            clear hb c0 d0 d1 d2 d3
            go_wp2_with fail
            go_roundw
            case rel => exact ⟨j + 1, by omega, by go_num, by rw [HS.out], K0, HK, H0⟩
            case measure => simp [intOf]; omega
          · have HS := Lib.hid (lef7L_stop ks j (n - 1) (by omega))
            generalize lef7L (ks.take j) (n - 1) = r at *
            go_wp2_with fail
            go_ret
            exact ⟨At.ret_int (by rw [HQ.out, HS.out]), H0.out⟩
        · obtain rfl : j = ks.length := by omega
          have HT := Lib.hid (show ks.take ks.length = ks from List.take_length)
          rw [HT.out] at *
          generalize lef7L ks (n - 1) = r at *
          go_wp2_with fail
          go_ret
          exact ⟨At.ret_int (by rw [HQ.out]), H0.out⟩
set_option maxRecDepth 100000 in
set_option maxHeartbeats 800000 in
theorem small_any (t : Tre) (c : Array Value) (n : Int) (w : World) (hN : NodAt w t c) (hn0 : 0 ≤ n) (hn : n ≤ 1000000) : Calls Tryz.prog 12 #[.agg c, .int .i64 n] w fun e w' => e = .returned (.bool (smallB t n)) ∧ Below w.heap.size w w' := by
  obtain ⟨k, s, cols, ks⟩ := t
  obtain ⟨A2, cap2, rfl, hs, hl, hc, hk⟩ := hN.form
  dsimp only [Tre.kind, Tre.text, Tre.cols, Tre.kids] at hs hl hc hk ⊢
  have HQ := Lib.hid (show smallB (.mk k s cols ks) n = decide (0 ≤ lef7T (.mk k s cols ks) n) from rfl)
  have K0 := Lib.hid (Blk.new w 25 #[.int .i64 k, .string s, .int .i64 cols, .slice A2 ks.length cap2])
  have H0 := Lib.hid (bel_alloc w (.cells #[.int .i64 k, .string s, .int .i64 cols, .slice A2 ks.length cap2] 25))
  have HN := Lib.hid (hN.keep H0.out)
  clear hk hN
  go_enter Tryz.func12, Tryz.ntmps12
  go_wp2_with fail
  generalize w.alloc (.cells #[.int .i64 k, .string s, .int .i64 cols, .slice A2 ks.length cap2] 25) = w1 at *
  refine (lef7_any (countT (.mk k s cols ks) + 1) _ _ n w1 (by omega) HN.out hn0 hn).mono ?_
  rintro e w2 ⟨rfl, hb⟩
  have HB := Lib.hid (H0.out.trans (hb.mono H0.out.size))
  clear hb
  generalize lef7T (.mk k s cols ks) n = r at *
  by_cases hr : 0 ≤ r
  · have HR := Lib.hid (decide_eq_true hr)
    go_wp2_with fail
    go_ret
    exact ⟨ret_bool (by rw [HQ.out, HR.out]), HB.out⟩
  · have HR := Lib.hid (decide_eq_false hr)
    go_wp2_with fail
    go_ret
    exact ⟨ret_bool (by rw [HQ.out, HR.out]), HB.out⟩
end Go.Proofs.YthpioplpfmlgcaaGreatDoor.El
namespace Go.Proofs.YthpioplpfmlgcaaGreatDoor.El
open Go.Proofs.YthpioplpfmlgcaaGreatDoor.At
open Go.Proofs.YthpioplpfmlgcaaGreatDoor.Ch
open Go.Proofs.YthpioplpfmlgcaaGreatDoor.Sp
open Go.Proofs.YthpioplpfmlgcaaGreatDoor.Sy
open Go.RowKit
/-- a failure's position behind a path -/
def Mea.shift {α : Type} (p : List Int) : Mea α → Mea α
  | .ok a => .ok a
  | .bad e q => .bad e (p ++ q)
theorem Mea.shift_then {α β : Type} {p : List Int} {m : Mea α} {f g : α → Mea β} (h : ∀ a, f a = (g a).shift p) : (m.shift p).then_ f = (m.then_ g).shift p := by
  cases m with
  | ok a => exact h a
  | bad e q => rfl
theorem slots_shift {M : List Tre → List Int → Nat → Mea Trm} {p : List Int} (hM : ∀ items path k, M items (p ++ path) k = (M items path k).shift p) {path : List Int} : ∀ (ks : List Tre) (s b : Nat), slotsF M (p ++ path) ks s b = (slotsF M path ks s b).shift p
  | [], _, _ => by rw [slotsF, slotsF]; rfl
  | n :: ns, s, b => by
    rw [slotsF, slotsF, List.append_assoc, hM]
    refine Mea.shift_then fun t => ?_
    rw [slots_shift hM ns]
    exact Mea.shift_then fun ts => rfl
theorem opnd_shift {M : List Tre → List Int → Nat → Mea Trm} {p : List Int} (hM : ∀ items path k, M items (p ++ path) k = (M items path k).shift p) (n : Tre) (path : List Int) : opndF M n (p ++ path) = (opndF M n path).shift p := by
  unfold opndF
  split
  · rfl
  split
  · rfl
  split
  · rfl
  · have key : ∀ (m m' : Mea (List Trm)) (f : List Trm → Mea Prt), (∀ a, f a = (f a).shift p) → m = m'.shift p → m.then_ f = (m'.then_ f).shift p := fun m m' f hf e => by rw [e]; exact Mea.shift_then hf
    refine key _ _ _ (fun ts => rfl) ?_
    cases n.kids with
    | nil => rfl
    | cons d ks =>
      dsimp only
      split
      · exact slots_shift hM ks 1 0
      · exact slots_shift hM (d :: ks) 0 0
theorem scr_shift {rs : List Rul} {M : List Tre → List Int → Nat → Mea Trm} {p : List Int} (hM : ∀ items path k, M items (p ++ path) k = (M items path k).shift p) (n : Tre) (path : List Int) (pre : Bool) : scrF rs M n (p ++ path) pre = (scrF rs M n path pre).shift p := by
  unfold scrF
  split
  · rfl
  · rw [slots_shift hM]
    exact Mea.shift_then fun ts => rfl
theorem partsF_shift {rs : List Rul} {M : List Tre → List Int → Nat → Mea Trm} {p : List Int} (hM : ∀ items path k, M items (p ++ path) k = (M items path k).shift p) {path : List Int} {kd : Nat → Int} {k : Nat} : ∀ (ns : List Tre) (ts : List ByteArray) (i : Nat), partsF rs M (p ++ path) kd k ns ts i = (partsF rs M path kd k ns ts i).shift p
  | [], ts, i => by cases ts <;> simp [partsF, Mea.shift]
  | _ :: _, [], i => by simp [partsF, Mea.shift]
  | n :: ns, t :: ts, i => by
    rw [partsF, partsF]
    have h : (if t.data.toList = [35] then opndF M n (p ++ path ++ [((k + i : Nat) : Int)]) else scrF rs M n (p ++ path ++ [((k + i : Nat) : Int)]) (decide (kd i = 2))) = (if t.data.toList = [35] then opndF M n (path ++ [((k + i : Nat) : Int)]) else scrF rs M n (path ++ [((k + i : Nat) : Int)]) (decide (kd i = 2))).shift p := by
      rw [List.append_assoc]
      split
      · exact opnd_shift hM n _
      · exact scr_shift hM n _ _
    rw [h]
    refine Mea.shift_then fun x => ?_
    rw [partsF_shift hM ns ts (i + 1)]
    exact Mea.shift_then fun xs => rfl
theorem listF_shift {rs : List Rul} {M : List Tre → List Int → Nat → Mea Trm} {p : List Int} (hM : ∀ items path k, M items (p ++ path) k = (M items path k).shift p) (items : List Tre) (path : List Int) (k : Nat) : listF rs M items (p ++ path) k = (listF rs M items path k).shift p := by
  unfold listF
  split
  · rw [List.append_assoc]; rfl
  · split
    · rw [List.append_assoc]; rfl
    · split
      · rw [List.append_assoc]; rfl
      · rw [partsF_shift hM]
        exact Mea.shift_then fun ps => rfl
      · rw [List.append_assoc]; rfl
theorem list_shift (rs : List Rul) (p : List Int) : ∀ (f : Nat) (items : List Tre) (path : List Int) (k : Nat), listM rs f items (p ++ path) k = (listM rs f items path k).shift p
  | 0, items, path, k => by rw [listM, listM]; rfl
  | f + 1, items, path, k => by
    rw [listM, listM]
    exact listF_shift (list_shift rs p f) items path k
end Go.Proofs.YthpioplpfmlgcaaGreatDoor.El
namespace Go.Proofs.YthpioplpfmlgcaaGreatDoor.El
open Go.Proofs.YthpioplpfmlgcaaGreatDoor.At
open Go.Proofs.YthpioplpfmlgcaaGreatDoor.Ch
open Go.Proofs.YthpioplpfmlgcaaGreatDoor.Sp
open Go.Proofs.YthpioplpfmlgcaaGreatDoor.Sy
open Go.RowKit
theorem slots_congr {M M' : List Tre → List Int → Nat → Mea Trm} {path : List Int} : ∀ (ks : List Tre) (s b : Nat), (∀ d ∈ ks, ∀ p k, M d.kids p k = M' d.kids p k) → slotsF M path ks s b = slotsF M' path ks s b
  | [], _, _, _ => by rw [slotsF, slotsF]
  | n :: ns, s, b, h => by rw [slotsF, slotsF, h n List.mem_cons_self, slots_congr ns _ _ fun d hd => h d (List.mem_cons_of_mem _ hd)]
theorem opnd_congr {M M' : List Tre → List Int → Nat → Mea Trm} {n : Tre} {path : List Int} (h : ∀ d ∈ n.kids, ∀ p k, M d.kids p k = M' d.kids p k) : opndF M n path = opndF M' n path := by
  unfold opndF
  split
  · rfl
  split
  · rfl
  split
  · rfl
  · congr 1
    cases hk : n.kids with
    | nil => rfl
    | cons d ks =>
      rw [hk] at h
      dsimp only
      rw [slots_congr ks 1 0 fun e he => h e (List.mem_cons_of_mem _ he), slots_congr (d :: ks) 0 0 h]
theorem scr_congr {rs rs' : List Rul} {M M' : List Tre → List Int → Nat → Mea Trm} {n : Tre} {path : List Int} {p : Bool} (h : ∀ d ∈ n.kids, ∀ p k, M d.kids p k = M' d.kids p k) (hv : varN rs n p = varN rs' n p) : scrF rs M n path p = scrF rs' M' n path p := by
  unfold scrF
  rw [hv, slots_congr n.kids.tail _ _ fun d hd => h d (List.mem_of_mem_tail hd)]
theorem partsF_congr {rs rs' : List Rul} {M M' : List Tre → List Int → Nat → Mea Trm} {path : List Int} {kd kd' : Nat → Int} {k : Nat} : ∀ (ns : List Tre) (ts : List ByteArray) (i : Nat), (∀ n ∈ ns, ∀ d ∈ n.kids, ∀ p k, M d.kids p k = M' d.kids p k) → (∀ n ∈ ns, ∀ p, varN rs n p = varN rs' n p) → (∀ (q : Nat) (t : ByteArray), ts[q]? = some t → t.data.toList ≠ [35] → kd (i + q) = kd' (i + q)) →
    partsF rs M path kd k ns ts i = partsF rs' M' path kd' k ns ts i
  | [], ts, i, _, _, _ => by cases ts <;> simp [partsF]
  | _ :: _, [], i, _, _, _ => by simp [partsF]
  | n :: ns, t :: ts, i, h, hv, hk => by
    rw [partsF, partsF, partsF_congr (rs' := rs') (M' := M') (kd' := kd') ns ts (i + 1) (fun m hm => h m (List.mem_cons_of_mem _ hm)) (fun m hm => hv m (List.mem_cons_of_mem _ hm)) (fun q u hu hne => by have := hk (q + 1) u (by simpa using hu) hne; rw [show i + 1 + q = i + (q + 1) by omega]; exact this)]
    congr 1
    split
    · exact opnd_congr (h n List.mem_cons_self)
    · next hne =>
      have := hk 0 t rfl hne
      rw [Nat.add_zero] at this
      rw [this]
      exact scr_congr (h n List.mem_cons_self) (hv n List.mem_cons_self _)
end Go.Proofs.YthpioplpfmlgcaaGreatDoor.El
namespace Go.Proofs.YthpioplpfmlgcaaGreatDoor.El
open Go.Proofs.YthpioplpfmlgcaaGreatDoor.At
open Go.Proofs.YthpioplpfmlgcaaGreatDoor.Ch
open Go.Proofs.YthpioplpfmlgcaaGreatDoor.Sp
open Go.Proofs.YthpioplpfmlgcaaGreatDoor.Sy
open Go.RowKit
end Go.Proofs.YthpioplpfmlgcaaGreatDoor.El
namespace Go.Proofs.YthpioplpfmlgcaaGreatDoor.El
open Go.Proofs.YthpioplpfmlgcaaGreatDoor.At
open Go.Proofs.YthpioplpfmlgcaaGreatDoor.Ch
open Go.Proofs.YthpioplpfmlgcaaGreatDoor.Sp
open Go.Proofs.YthpioplpfmlgcaaGreatDoor.Sy
open Go.RowKit
end Go.Proofs.YthpioplpfmlgcaaGreatDoor.El
namespace Go.Proofs.YthpioplpfmlgcaaGreatDoor.El
open Go.Proofs.YthpioplpfmlgcaaGreatDoor.At
open Go.Proofs.YthpioplpfmlgcaaGreatDoor.Ch
open Go.Proofs.YthpioplpfmlgcaaGreatDoor.Sp
open Go.Proofs.YthpioplpfmlgcaaGreatDoor.Sy
open Go.RowKit
theorem count_kids (d : Tre) : countT d = countL d.kids + 1 := by
  obtain ⟨k, t, c, ks⟩ := d
  rw [countT]; rfl
theorem parts_at {rs : List Rul} {M : List Tre → List Int → Nat → Mea Trm} {path : List Int} {kd : Nat → Int} {k : Nat} : ∀ (ns : List Tre) (ts : List ByteArray) (i : Nat) (ps : List Prt), ns.length = ts.length → partsF rs M path kd k ns ts i = .ok ps → ps.length = ns.length ∧ ∀ q n t, ns[q]? = some n → ts[q]? = some t → ∃ p, ps[q]? = some p ∧ (if t.data.toList = [35] then opndF M n (path ++ [((k + (i + q) : Nat) : Int)]) else scrF rs M n (path ++ [((k + (i + q) : Nat) : Int)]) (decide (kd (i + q) = 2))) = .ok p
  | [], ts, i, ps, _, h => by
    have : (Mea.ok [] : Mea (List Prt)) = .ok ps := by rw [← h]; cases ts <;> simp [partsF]
    injection this with this
    subst this
    exact ⟨rfl, fun q n t hn => by simp at hn⟩
  | n :: ns, [], i, ps, hl, _ => by simp at hl
  | n :: ns, t :: ts, i, ps, hl, h => by
    rw [partsF] at h
    cases h1 : (if t.data.toList = [35] then opndF M n (path ++ [((k + i : Nat) : Int)]) else scrF rs M n (path ++ [((k + i : Nat) : Int)]) (decide (kd i = 2))) with
    | bad e p => rw [h1] at h; cases h
    | ok x =>
      rw [h1] at h
      simp only [Mea.then_] at h
      cases h2 : partsF rs M path kd k ns ts (i + 1) with
      | bad e p => rw [h2] at h; cases h
      | ok us =>
        rw [h2] at h
        simp only at h
        injection h with h
        subst h
        obtain ⟨h3, h4⟩ := parts_at ns ts (i + 1) us (by simpa using hl) h2
        refine ⟨by rw [List.length_cons, List.length_cons, h3], fun q m u hm hu => ?_⟩
        cases q with
        | zero =>
          rw [List.getElem?_cons_zero] at hm hu
          injection hm with hm; injection hu with hu
          subst hm; subst hu
          exact ⟨x, rfl, h1⟩
        | succ q =>
          rw [List.getElem?_cons_succ] at hm hu
          obtain ⟨y, h5, h6⟩ := h4 q m u hm hu
          exact ⟨y, by rw [List.getElem?_cons_succ]; exact h5, by rw [show i + (q + 1) = i + 1 + q by omega]; exact h6⟩
theorem countL_app : ∀ (a b : List Tre), countL (a ++ b) = countL a + countL b
  | [], b => by rw [countL, Nat.zero_add]; rfl
  | t :: a, b => by rw [List.cons_append, countL, countL, countL_app a b]; omega
theorem count_take {l : List Tre} {q : Nat} {n : Tre} (h : l[q]? = some n) : countL (l.take (q + 1)) = countL (l.take q) + countT n := by
  rw [List.take_add_one, h, Option.toList_some, countL_app, countL, countL]; omega
theorem count_drop (l : List Tre) (k : Nat) : countL (l.drop k) ≤ countL l := by
  have := countL_app (l.take k) (l.drop k)
  rw [List.take_append_drop] at this
  omega
theorem sy_hash {rs : List Rul} (hv : validB rs = true) : hasSy rs [35] = false := by
  unfold hasSy
  rw [show (!([35] : List UInt8).isEmpty) = true from rfl, Bool.true_and, List.any_eq_false]
  intro u hu h
  obtain ⟨n, hn⟩ := List.getElem?_of_mem hu
  exact sym_hash hv hn (by rw [ByteArray.toList_eq]; exact of_decide_eq_true h)
theorem tok_hash {rs : List Rul} (hv : validB rs = true) {n : Tre} (h : (tokS rs n).data.toList = [35]) : operB rs n = false := by
  cases ho : operB rs n with
  | false => rfl
  | true =>
    unfold tokS at h
    rw [if_pos ho] at h
    unfold operB at ho
    rw [Bool.and_eq_true, h, sy_hash hv] at ho
    cases ho.2
end Go.Proofs.YthpioplpfmlgcaaGreatDoor.El
namespace Go.Proofs.YthpioplpfmlgcaaGreatDoor.Sp
open Go.Proofs.YthpioplpfmlgcaaGreatDoor.At
open Go.RowKit
mutual
def eqM : Trm → Trm → Bool
  | .mk k a v f ts, u => (k == u.kind && (a.toList == u.nam.toList && (v.toList == u.vr.toList && (f.toList == u.form.toList && decide (ts.length = u.args.length))))) && eqL ts u.args
def eqL : List Trm → List Trm → Bool
  | [], us => us.isEmpty
  | t :: ts, us => match us with
    | [] => false
    | u :: us => eqM t u && eqL ts us
end
theorem bytes_eq {a b : ByteArray} (h : (a.toList == b.toList) = true) : a = b := by
  rw [beq_iff_eq, ByteArray.toList_eq, ByteArray.toList_eq] at h
  apply ByteArray.ext
  exact Array.toList_inj.1 h
mutual
theorem eqM_iff : ∀ t u : Trm, eqM t u = true ↔ t = u
  | .mk k a v f ts, .mk k' a' v' f' us => by
    unfold eqM
    simp only [Trm.kind, Trm.nam, Trm.vr, Trm.form, Trm.args, Bool.and_eq_true, beq_iff_eq]
    constructor
    · rintro ⟨⟨rfl, h1, h2, h3, h4⟩, h5⟩
      rw [bytes_eq (beq_iff_eq.2 h1), bytes_eq (beq_iff_eq.2 h2), bytes_eq (beq_iff_eq.2 h3), (eqL_iff ts us).1 h5]
    · intro e
      injection e with e1 e2 e3 e4 e5
      subst e1; subst e2; subst e3; subst e4; subst e5
      exact ⟨⟨rfl, rfl, rfl, rfl, decide_eq_true rfl⟩, (eqL_iff ts ts).2 rfl⟩
theorem eqL_iff : ∀ ts us : List Trm, eqL ts us = true ↔ ts = us
  | [], us => by unfold eqL; rw [List.isEmpty_iff]; exact eq_comm
  | t :: ts, [] => by unfold eqL; simp
  | t :: ts, u :: us => by
    unfold eqL
    simp only [Bool.and_eq_true]
    rw [eqM_iff t u, eqL_iff ts us, List.cons.injEq]
end
theorem eqL_snoc {ts us : List Trm} {j : Nat} {x y : Trm} (h1 : ts[j]? = some x) (h2 : us[j]? = some y) : eqL (ts.take (j + 1)) (us.take (j + 1)) = (eqL (ts.take j) (us.take j) && eqM x y) := by
  rw [Bool.eq_iff_iff, Bool.and_eq_true, eqL_iff, eqL_iff, eqM_iff, List.take_add_one, List.take_add_one, h1, h2]
  have l1 : j < ts.length := (List.getElem?_eq_some_iff.1 h1).1
  have l2 : j < us.length := (List.getElem?_eq_some_iff.1 h2).1
  constructor
  · intro e
    have := List.append_inj e (by simp; omega)
    exact ⟨this.1, by simpa using this.2⟩
  · rintro ⟨e, rfl⟩
    rw [e]
theorem eqL_false {ts us : List Trm} {j : Nat} (h : eqL (ts.take j) (us.take j) = false) : eqL ts us = false := by
  cases hq : eqL ts us
  · rfl
  · rw [(eqL_iff ts us).1 hq] at h
    rw [(eqL_iff _ _).2 rfl] at h
    cases h
set_option maxRecDepth 100000 in
set_option maxHeartbeats 4000000 in
theorem requal_any : ∀ (z : Nat) (t u : Trm) (c d : Array Value) (w : World), cntM t ≤ z → MAt w t c → MAt w u d → Calls Tryz.prog 16 #[.agg c, .agg d] w fun e w' => e = .returned (.bool (eqM t u)) ∧ Below w.heap.size w w' := by
  intro z
  induction z with
  | zero => intro t u c d w h; have := cnt_pos t; omega
  | succ z ih =>
    intro t u c d w hz hM hM2
    have IH := Lib.hid ih
    clear ih
    obtain ⟨A, cap, rfl, ha, hv, hf, hl, hc, hk⟩ := hM.form
    obtain ⟨A', cap', rfl, ha', hv', hf', hl', hc', hk'⟩ := hM2.form
    obtain ⟨k, a, v, f, ts⟩ := t
    obtain ⟨k', a', v', f', us⟩ := u
    dsimp only [Trm.kind, Trm.nam, Trm.vr, Trm.form, Trm.args] at ha hv hf hl hk ha' hv' hf' hl' hk' ⊢
    have HQ := Lib.hid (show eqM (.mk k a v f ts) (.mk k' a' v' f' us) = ((k == k' && (a.toList == a'.toList && (v.toList == v'.toList && (f.toList == f'.toList && decide (ts.length = us.length))))) && eqL ts us) by unfold eqM; rfl)
    have HZ := Lib.hid (show cntL ts ≤ z by rw [cntM] at hz; omega)
    have HW := Lib.hid (show (w.alloc (.cells (trmC k a v A ts.length cap f) 31)).heap.size = w.heap.size + 1 by simp)
    have B1 := bel_alloc w (.cells (trmC k a v A ts.length cap f) 31)
    have B2 := bel_alloc (w.alloc (.cells (trmC k a v A ts.length cap f) 31)) (.cells (trmC k' a' v' A' us.length cap' f') 31)
    have HB := Lib.hid (B1.trans (B2.mono B1.size))
    have HK := Lib.hid (hk.keep HB.out)
    have HK' := Lib.hid (hk'.keep HB.out)
    have K0 := Lib.hid (keep B2 (Blk.new w 31 (trmC k a v A ts.length cap f)))
    have K1 : Hid (Blk ((w.alloc (.cells (trmC k a v A ts.length cap f) 31)).alloc (.cells (trmC k' a' v' A' us.length cap' f') 31)) (w.heap.size + 1) 31 (trmC k' a' v' A' us.length cap' f')) := by
      show Blk _ _ _ _
      rw [← HW.out]
      exact Blk.new _ _ _
    clear hM hM2 hk hk' B1 B2 HW hz
    dsimp only [trmC] at HB HK HK' K0 K1
    have c0 := K0.out.cell 0
    have c1 := K0.out.cell 1
    have c2 := K0.out.cell 2
    have c3 := K0.out.cell 3
    have c4 := K0.out.cell 4
    have e0 := K1.out.cell 0
    have e1 := K1.out.cell 1
    have e2 := K1.out.cell 2
    have e3 := K1.out.cell 3
    have e4 := K1.out.cell 4
    go_enter Tryz.func16, Tryz.ntmps16
    cases q0 : (k == k')
    · rw [q0] at HQ
      have n0 : (k != k') = true := by rw [bne, q0]; rfl
      go_wp2_with fail
      go_ret
      exact ⟨ret_bool (by rw [HQ.out]; rfl), HB.out⟩
    have n0 : (k != k') = false := by rw [bne, q0]; rfl
    rw [q0, Bool.true_and] at HQ
    replace q0 := Lib.hid q0
    cases q1 : (a.toList == a'.toList)
    · rw [q1] at HQ
      have n1 : (!(a.toList == a'.toList)) = true := by rw [q1]; rfl
      go_wp2_with fail
      go_ret
      exact ⟨ret_bool (by rw [HQ.out]; rfl), HB.out⟩
    have n1 : (!(a.toList == a'.toList)) = false := by rw [q1]; rfl
    rw [q1, Bool.true_and] at HQ
    replace q1 := Lib.hid q1
    cases q2 : (v.toList == v'.toList)
    · rw [q2] at HQ
      have n2 : (!(v.toList == v'.toList)) = true := by rw [q2]; rfl
      go_wp2_with fail
      go_ret
      exact ⟨ret_bool (by rw [HQ.out]; rfl), HB.out⟩
    have n2 : (!(v.toList == v'.toList)) = false := by rw [q2]; rfl
    rw [q2, Bool.true_and] at HQ
    replace q2 := Lib.hid q2
    cases q4 : (f.toList == f'.toList)
    · rw [q4] at HQ
      have n4 : (!(f.toList == f'.toList)) = true := by rw [q4]; rfl
      go_wp2_with fail
      go_ret
      exact ⟨ret_bool (by rw [HQ.out]; rfl), HB.out⟩
    have n4 : (!(f.toList == f'.toList)) = false := by rw [q4]; rfl
    rw [q4, Bool.true_and] at HQ
    replace q4 := Lib.hid q4
    by_cases hn : ts.length ≠ us.length
    · have n3 : ((ts.length : Int) != (us.length : Int)) = true := by rw [bne_iff_ne]; omega
      rw [decide_eq_false hn] at HQ
      clear hn
      go_wp2_with fail
      go_ret
      exact ⟨ret_bool (by rw [HQ.out]; rfl), HB.out⟩
    have n3 : ((ts.length : Int) != (us.length : Int)) = false := by rw [bne_eq_false_iff_eq]; omega
    replace hn : ts.length = us.length := Classical.not_not.1 hn
    rw [decide_eq_true hn, Bool.true_and] at HQ
    replace hn := Lib.hid hn
    go_wp2_with fail
    clear c0 c1 c2 c3 c4 e0 e1 e2 e3 e4
    generalize (w.alloc (.cells #[.int .i64 k, .string a, .string v, .slice A ts.length cap, .string f] 31)).alloc (.cells #[.int .i64 k', .string a', .string v', .slice A' us.length cap', .string f'] 31) = w1 at *
    go_loopw [5] (fun i wr => ∃ j : Nat, j ≤ ts.length ∧ i = .int .i64 j ∧ Hid (eqL (ts.take j) (us.take j) = true) ∧ Hid (Blk wr w.heap.size 31 #[.int .i64 k, .string a, .string v, .slice A ts.length cap, .string f]) ∧ Hid (Blk wr (w.heap.size + 1) 31 #[.int .i64 k', .string a', .string v', .slice A' us.length cap', .string f']) ∧ Hid (ArgsAt wr A ts) ∧ Hid (ArgsAt wr A' us) ∧ Hid (Below w.heap.size w wr)) (fun i _ => ts.length - (intOf i).toNat)
    case atStart => exact ⟨0, by omega, rfl, rfl, K0, K1, HK, HK', HB⟩
    case round =>
      clear K0 K1 HK HK' HB
      obtain ⟨j, hj, rfl, HJ, K0, K1, HK, HK', HB⟩ := hrel
      have c3 := K0.out.cell 3
      have e3 := K1.out.cell 3
      by_cases hlt : j < ts.length
      · obtain ⟨x, hx⟩ : ∃ x, ts[j]? = some x := ⟨_, List.getElem?_eq_getElem hlt⟩
        obtain ⟨y, hy⟩ : ∃ y, us[j]? = some y := ⟨_, List.getElem?_eq_getElem (by have := hn.out; omega)⟩
        obtain ⟨ad, A2, cap2, rfl, hadl, hp⟩ := HK.out.at_ hx
        obtain ⟨ad', A3, cap3, rfl, hadl', hp'⟩ := HK'.out.at_ hy
        have HX := Lib.hid hp.whole
        have HY := Lib.hid hp'.whole
        obtain ⟨hb1, d0, d1, d2, d3, d4, -⟩ := hp
        obtain ⟨hb2, g0, g1, g2, g3, g4, -⟩ := hp'
        have HS := Lib.hid (show cntM x ≤ z by have := cnt_arg hx; have := HZ.out; omega)
        have HSN := Lib.hid (eqL_snoc hx hy)
        rw [HJ.out, Bool.true_and] at HSN
        have HFA := Lib.hid (fun h => eqL_false (ts := ts) (us := us) (j := j + 1) h)
        have hlu : (j : Int) < (us.length : Int) := by have := hn.out; omega
        clear hx hy
        go_wp2_with fail
        go_upto_region 6 with (fail)
        refine wp_region_ext (by kernel_rfl) (by kernel_rfl) ?_
        have EC := fun e : Ext wr => (keep e.bel K0.out).cell 3
        have EE := fun e : Ext wr => (keep e.bel K1.out).cell 3
        have D0 := fun e : Ext wr => e.cell hb1 d0
        have D1 := fun e : Ext wr => e.cell (p := ⟨(ad.add (j * 5)).block, (ad.add (j * 5)).off + 1, none⟩) hb1 d1
        have D2 := fun e : Ext wr => e.cell (p := ⟨(ad.add (j * 5)).block, (ad.add (j * 5)).off + 2, none⟩) hb1 d2
        have D3 := fun e : Ext wr => e.cell (p := ⟨(ad.add (j * 5)).block, (ad.add (j * 5)).off + 3, none⟩) hb1 d3
        have D4 := fun e : Ext wr => e.cell (p := ⟨(ad.add (j * 5)).block, (ad.add (j * 5)).off + 4, none⟩) hb1 d4
        have G0 := fun e : Ext wr => e.cell hb2 g0
        have G1 := fun e : Ext wr => e.cell (p := ⟨(ad'.add (j * 5)).block, (ad'.add (j * 5)).off + 1, none⟩) hb2 g1
        have G2 := fun e : Ext wr => e.cell (p := ⟨(ad'.add (j * 5)).block, (ad'.add (j * 5)).off + 2, none⟩) hb2 g2
        have G3 := fun e : Ext wr => e.cell (p := ⟨(ad'.add (j * 5)).block, (ad'.add (j * 5)).off + 3, none⟩) hb2 g3
        have G4 := fun e : Ext wr => e.cell (p := ⟨(ad'.add (j * 5)).block, (ad'.add (j * 5)).off + 4, none⟩) hb2 g4
        have HC := Lib.hid (fun e : Ext wr => Calls.ext (IH.out x y _ _ e.val HS.out (HX.out.keep e.bel) (HY.out.keep e.bel)))
        clear c3 e3 d0 d1 d2 d3 d4 g0 g1 g2 g3 g4
        repeat (go_big_quiet_step (fail))
        go_big_quiet_step ((rename_i e; exact HC.out e))
        repeat (go_big_quiet_step (fail))
        refine wpQuiet_nil ?_
        intro wq hwq
        obtain ⟨⟨w9, hb⟩, e9⟩ := hwq
        dsimp only at e9
        subst e9
        replace K0 := Lib.hid (keep hb K0.out)
        replace K1 := Lib.hid (keep hb K1.out)
        replace HK := Lib.hid (HK.out.keep hb)
        replace HK' := Lib.hid (HK'.out.keep hb)
        replace HB := Lib.hid (HB.out.trans (hb.mono HB.out.size))
        clear EC EE D0 D1 D2 D3 D4 G0 G1 G2 G3 G4 HC hb hb1 hb2 HX HY
        cases hr : eqM x y
        · have hq : eqL ts us = false := HFA.out (by rw [HSN.out, hr])
          rw [hq] at HQ
          clear hr hq
          go_wp2_with fail
          go_ret
          exact ⟨ret_bool (by rw [HQ.out]), HB.out⟩
        · rw [hr] at HSN
          clear hr
          go_wp2_with fail
          go_roundw
          case rel => exact ⟨j + 1, by omega, by go_num, HSN, K0, K1, HK, HK', HB⟩
          case measure => simp [intOf]; omega
      · obtain rfl : j = ts.length := by omega
        have hq : eqL ts us = true := by
          have h := HJ.out
          rw [List.take_length, hn.out, List.take_length] at h
          exact h
        rw [hq] at HQ
        clear hq
        go_wp2_with fail
        go_ret
        exact ⟨ret_bool (by rw [HQ.out]), HB.out⟩
end Go.Proofs.YthpioplpfmlgcaaGreatDoor.Sp
namespace Go.Proofs.YthpioplpfmlgcaaGreatDoor.Ch
theorem tok_two {ts : List ByteArray} {k : Nat} {s t : List UInt8} (h : tokB ts k s = true) (h' : tokB ts k t = true) : s = t := by
  unfold tokB at h h'
  cases ht : ts[k]? with
  | none => rw [ht] at h; cases h
  | some x =>
    rw [ht] at h h'
    exact (eq_of_beq h).symm.trans (eq_of_beq h')
def fewN : List Nat := [0, 1, 3, 13, 67, 381, 2307, 14589]
def P1 (s k : Nat) : Nat := fewN.getD (k + 1) 0 * fewN.getD (s - (k + 2)) 0
end Go.Proofs.YthpioplpfmlgcaaGreatDoor.Ch
