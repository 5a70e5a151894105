/- Count, Depth, form and Valid of the reference. -/
import Derived.Test.YtgoafobhhmeppaaGreatNX
namespace Go.Proofs.YtgoafobhhmeppaaGreat
open Go.RowKit
abbrev nodC (k : Int) (s : ByteArray) (c : Int) (A : Option Addr) (n cap : Nat) : Array Value := #[.int .i64 k, .string s, .int .i64 c, .slice A n cap]
theorem countL_snoc {ks : List Tre} {k : Nat} {x : Tre} (h : ks[k]? = some x) : countL (ks.take (k + 1)) = countL (ks.take k) + countT x := by
  rw [List.take_add_one, h, Option.toList]
  generalize ks.take k = l
  induction l with
  | nil => simp [countL]
  | cons a r ih => rw [List.cons_append, countL, countL, ih]; omega
theorem countL_take (ks : List Tre) (k : Nat) : countL (ks.take k) ≤ countL ks := by
  induction ks generalizing k with
  | nil => simp [countL]
  | cons a r ih =>
    cases k with
    | zero => simp [countL]
    | succ k => rw [List.take_succ_cons, countL, countL]; have := ih k; omega
theorem depthL_snoc {ks : List Tre} {k : Nat} {x : Tre} (h : ks[k]? = some x) : depthL (ks.take (k + 1)) = max (depthL (ks.take k)) (depthT x) := by
  rw [List.take_add_one, h, Option.toList]
  generalize ks.take k = l
  induction l with
  | nil => simp [depthL]
  | cons a r ih => rw [List.cons_append, depthL, depthL, ih]; omega
mutual
theorem depth_count : ∀ t : Tre, depthT t ≤ countT t
  | .mk k s c ks => by rw [depthT, countT]; have := depth_countL ks; omega
theorem depth_countL : ∀ ts : List Tre, depthL ts ≤ countL ts
  | [] => by rw [depthL, countL]; omega
  | t :: ts => by rw [depthL, countL]; have := depth_count t; have := depth_countL ts; omega
end
theorem formL_snoc {ks : List Tre} {k : Nat} {x : Tre} {q : Int} (h : ks[k]? = some x) : formL q (ks.take (k + 1)) = (formL q (ks.take k) && (!badPair q x.kind && formT x)) := by
  rw [List.take_add_one, h, Option.toList]
  generalize ks.take k = l
  induction l with
  | nil => simp [formL]
  | cons a r ih => rw [List.cons_append, formL, formL, ih]; simp [Bool.and_assoc]
theorem formL_false {ks : List Tre} {q : Int} {k : Nat} (h : formL q (ks.take k) = false) : formL q ks = false := by
  induction ks generalizing k with
  | nil => rw [List.take_nil] at h; rw [formL] at h; cases h
  | cons a r ih =>
    cases k with
    | zero => rw [List.take_zero, formL] at h; cases h
    | succ k =>
      rw [List.take_succ_cons, formL] at h
      rw [formL]
      cases ha : (!badPair q a.kind)
      · rfl
      · cases hb : formT a
        · rfl
        · rw [ha, hb, Bool.true_and, Bool.true_and] at h
          rw [ih h]; rfl
set_option maxRecDepth 100000 in
set_option maxHeartbeats 800000 in
theorem rcount_any : ∀ (m : Nat) (t : Tre) (c : Array Value) (w : World), countT t < m → m ≤ 1000000 → NodAt w t c → Calls Tryz.prog 80 #[.agg c] w fun e w' => e = .returned (.int .i64 (countT t : Nat)) ∧ Below w.heap.size w w' := by
  intro m
  induction m with
  | zero => intro t c w h; omega
  | succ m ih =>
    intro t c w hm hm2 hN
    have IH := Lib.hid (fun t c w h hN => ih t c w h (by omega) hN)
    clear ih
    obtain ⟨k, s, cols, ks⟩ := t
    obtain ⟨A2, cap2, rfl, hs, hl, hc, hk⟩ := hN.form
    dsimp only [Tre.kind, Tre.text, Tre.cols, Tre.kids] at hs hl hc hk ⊢
    have HK := Lib.hid hk
    have HQ := Lib.hid (show countT (.mk k s cols ks) = countL ks + 1 by rw [countT])
    rw [HQ.out] at hm
    have HM := Lib.hid hm
    have hle := countL_take ks
    have HLE := Lib.hid hle
    clear hk hN hle
    go_enter Tryz.func80, Tryz.ntmps80
    go_wp2_with fail
    have K0 := Lib.hid (Blk.new w 46 (nodC k s cols A2 ks.length cap2))
    have H0 := Lib.hid (bel_alloc w (.cells (nodC k s cols A2 ks.length cap2) 46))
    have HK := Lib.hid (HK.out.keep H0.out)
    dsimp only [nodC] at K0 H0 HK
    generalize w.alloc (.cells #[.int .i64 k, .string s, .int .i64 cols, .slice A2 ks.length cap2] 46) = w1 at *
    go_loopw [3, 4] (fun v i wr => ∃ (j x : Nat), j ≤ ks.length ∧ i = .int .i64 j ∧ v = .int .i64 x ∧ x ≤ 1000000 ∧ Hid (x = countL (ks.take j) + 1) ∧ Hid (Blk wr w.heap.size 46 (nodC k s cols A2 ks.length cap2)) ∧ Hid (KidsAt wr A2 ks) ∧ Hid (Below w.heap.size w wr)) (fun _ i _ => ks.length - (intOf i).toNat)
    case atStart => exact ⟨0, 1, by omega, rfl, rfl, by omega, rfl, K0, HK, H0⟩
    case round =>
      clear K0 HK H0
      obtain ⟨j, x, hj, rfl, rfl, hx0, HX, K0, HK, H0⟩ := hrel
      have c0 := K0.out.cell 3
      dsimp only [nodC] at c0
      by_cases hlt : j < ks.length
      · obtain ⟨y, hy⟩ : ∃ y, ks[j]? = some y := ⟨_, List.getElem?_eq_getElem hlt⟩
        obtain ⟨ad, A3, cap3, rfl, hadl, hs3, hl3, hc3, hk3, hN3, d0, d1, d2, d3⟩ := HK.out.at_ hy
        have HN3 := Lib.hid hN3
        have hcy := count_kid hy
        have hsn := countL_snoc hy
        have hle := HLE.out (j + 1)
        have HS := Lib.hid (show x + countT y = countL (ks.take (j + 1)) + 1 by rw [hsn, HX.out]; omega)
        have hb1 : x + countT y ≤ 1000000 := by rw [HS.out]; omega
        have HCU : Hid (countT y < m) := by show _ < _; omega
        clear hy hk3 hN3 hsn hle hcy
        generalize hcy : countT y = u at *
        have HCY := Lib.hid hcy
        clear hcy
        go_wp2_with fail
        refine (IH.out y _ wr (by rw [HCY.out]; exact HCU.out) HN3.out).mono ?_
        rw [HCY.out]
        rintro e w2 ⟨rfl, hb⟩
        have K0 := Lib.hid (keep hb K0.out)
        have HK := Lib.hid (HK.out.keep hb)
        have H0 := Lib.hid (H0.out.trans (hb.mono H0.out.size))
        clear hb c0 d0 d1 d2 d3
        go_wp2_with fail
        go_roundw
        case rel => exact ⟨j + 1, x + u, by omega, by go_num, by go_num, by omega, HS, K0, HK, H0⟩
        case measure => simp [intOf]; omega
      · obtain rfl : j = ks.length := by omega
        rw [List.take_length] at HX
        go_wp2_with fail
        go_ret
        exact ⟨ret_int (by rw [HQ.out, ← HX.out]), H0.out⟩
set_option maxRecDepth 100000 in
set_option maxHeartbeats 800000 in
theorem rdepth_any : ∀ (m : Nat) (t : Tre) (c : Array Value) (w : World), countT t < m → m ≤ 1000000 → NodAt w t c → Calls Tryz.prog 81 #[.agg c] w fun e w' => e = .returned (.int .i64 (depthT t : Nat)) ∧ Below w.heap.size w w' := by
  intro m
  induction m with
  | zero => intro t c w h; omega
  | succ m ih =>
    intro t c w hm hm2 hN
    have IH := Lib.hid (fun t c w h hN => ih t c w h (by omega) hN)
    clear ih
    obtain ⟨k, s, cols, ks⟩ := t
    obtain ⟨A2, cap2, rfl, hs, hl, hc, hk⟩ := hN.form
    dsimp only [Tre.kind, Tre.text, Tre.cols, Tre.kids] at hs hl hc hk ⊢
    have HK := Lib.hid hk
    have HQ := Lib.hid (show depthT (.mk k s cols ks) = depthL ks + 1 by rw [depthT])
    rw [countT] at hm
    have HM := Lib.hid hm
    clear hk hN
    go_enter Tryz.func81, Tryz.ntmps81
    go_wp2_with fail
    have K0 := Lib.hid (Blk.new w 46 (nodC k s cols A2 ks.length cap2))
    have H0 := Lib.hid (bel_alloc w (.cells (nodC k s cols A2 ks.length cap2) 46))
    have HK := Lib.hid (HK.out.keep H0.out)
    dsimp only [nodC] at K0 H0 HK
    generalize w.alloc (.cells #[.int .i64 k, .string s, .int .i64 cols, .slice A2 ks.length cap2] 46) = w1 at *
    go_loopw [3, 4] (fun v i wr => ∃ (j x : Nat), j ≤ ks.length ∧ i = .int .i64 j ∧ v = .int .i64 x ∧ x ≤ 1000000 ∧ Hid (x = depthL (ks.take j)) ∧ Hid (Blk wr w.heap.size 46 (nodC k s cols A2 ks.length cap2)) ∧ Hid (KidsAt wr A2 ks) ∧ Hid (Below w.heap.size w wr)) (fun _ i _ => ks.length - (intOf i).toNat)
    case atStart => exact ⟨0, 0, by omega, rfl, rfl, by omega, rfl, K0, HK, H0⟩
    case round =>
      clear K0 HK H0
      obtain ⟨j, x, hj, rfl, rfl, hx0, HX, K0, HK, H0⟩ := hrel
      have c0 := K0.out.cell 3
      dsimp only [nodC] at c0
      by_cases hlt : j < ks.length
      · obtain ⟨y, hy⟩ : ∃ y, ks[j]? = some y := ⟨_, List.getElem?_eq_getElem hlt⟩
        obtain ⟨ad, A3, cap3, rfl, hadl, hs3, hl3, hc3, hk3, hN3, d0, d1, d2, d3⟩ := HK.out.at_ hy
        have HN3 := Lib.hid hN3
        have hcy := count_kid hy
        have hsn := depthL_snoc hy
        have hdc := depth_count y
        have HS := Lib.hid (show max x (depthT y) = depthL (ks.take (j + 1)) by rw [hsn, HX.out])
        have hb1 : depthT y ≤ 1000000 := by omega
        have HCU : Hid (countT y < m) := by show _ < _; omega
        clear hy hk3 hN3 hsn hcy hdc
        generalize hcy : depthT y = u at *
        have HCY := Lib.hid hcy
        clear hcy
        go_wp2_with fail
        refine (IH.out y _ wr HCU.out HN3.out).mono ?_
        rw [HCY.out]
        rintro e w2 ⟨rfl, hb⟩
        have K0 := Lib.hid (keep hb K0.out)
        have HK := Lib.hid (HK.out.keep hb)
        have H0 := Lib.hid (H0.out.trans (hb.mono H0.out.size))
        clear hb c0 d0 d1 d2 d3
        have hmx : max (x : Int) (u : Int) = ((max x u : Nat) : Int) := by omega
        have hmx2 : (if (x : Int) < u then (u : Int) else x) = ((max x u : Nat) : Int) := by split <;> omega
        go_wp2_with fail
        all_goals
          go_roundw
          case rel => exact ⟨j + 1, max x u, by omega, by go_num, (by first | rfl | (congr 1; omega)), by omega, HS, K0, HK, H0⟩
          case measure => simp [intOf]; omega
      · obtain rfl : j = ks.length := by omega
        rw [List.take_length] at HX
        go_wp2_with fail
        go_ret
        exact ⟨ret_int (by rw [HQ.out, ← HX.out]; rfl), H0.out⟩
end Go.Proofs.YtgoafobhhmeppaaGreat
