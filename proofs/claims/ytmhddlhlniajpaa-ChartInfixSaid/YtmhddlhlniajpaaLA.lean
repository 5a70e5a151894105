/- What the statements share: short, Few. -/
import Derived.Test.YtmhddlhlniajpaaAW
namespace Go.Proofs.Ytmhddlhlniajpaa
open Go.RowKit
theorem RdsAt.at_ {ok : Nat → Prop} {w : World} {A : Option Addr} {ks : List Rd} (h : RdsAt ok w A ks) {k : Nat} {x : Rd} (hk : ks[k]? = some x) :
    ∃ ad A' cap', A = some ad ∧ ad.block < w.heap.size ∧ RdAt ok w x (rdC x.rule x.at_ A' x.kids.length cap') ∧ x.kids.length ≤ cap' ∧ cap' ≤ 9223372036854775807 ∧ RdsAt ok w A' x.kids ∧ w.cell? (ad.add (k * 3)) = some (.int .i64 x.rule) ∧ w.cell? ⟨(ad.add (k * 3)).block, (ad.add (k * 3)).off + 1, none⟩ = some (.int .i64 x.at_) ∧ w.cell? ⟨(ad.add (k * 3)).block, (ad.add (k * 3)).off + 2, none⟩ = some (.slice A' x.kids.length cap') := by
  obtain ⟨ad, hA, hlt, _, c, hc, hd⟩ := h k x hk
  obtain ⟨A', cap', rfl, h1, h2, h3⟩ := hc.form
  exact ⟨ad, A', cap', hA, hlt, hc, h1, h2, h3, hd 0 (by omega), add_cell (j := 0) (hd 1 (by omega)), add_cell (j := 1) (hd 2 (by omega))⟩
theorem size_snoc {ks : List Rd} {k : Nat} {y : Rd} (h : ks[k]? = some y) : sizeL (ks.take (k + 1)) = sizeL (ks.take k) + sizeR y := by
  induction ks generalizing k with
  | nil => simp at h
  | cons a ks ih =>
    cases k with
    | zero => simp at h; subst h; simp [sizeL]
    | succ k =>
      have := ih (k := k) (by simpa using h)
      simp only [List.take_succ_cons, sizeL, this]
      omega
theorem size_take (ks : List Rd) (k : Nat) : sizeL (ks.take k) ≤ sizeL ks := by
  induction ks generalizing k with
  | nil => simp
  | cons a ks ih =>
    cases k with
    | zero => simp [sizeL]
    | succ k => have := ih k; simp only [List.take_succ_cons, sizeL]; omega
theorem size_pos (x : Rd) : 1 ≤ sizeR x := by obtain ⟨r, a, ks⟩ := x; rw [sizeR]; omega
theorem size_kids (x : Rd) : sizeR x = sizeL x.kids + 1 := by obtain ⟨r, a, ks⟩ := x; rw [sizeR]; rfl
def leftI (x : Rd) (m : Int) : Int := if (sizeR x : Int) ≤ m then m - sizeR x else -1
def midI (x : Rd) (m : Int) (k : Nat) : Int := if (sizeL (x.kids.take k) : Int) + 1 ≤ m then m - (sizeL (x.kids.take k) + 1) else -1
theorem mid_start (x : Rd) {m : Int} (h : 0 ≤ m) : midI x m 0 = m - 1 := by
  unfold midI
  rw [List.take_zero, sizeL]
  split <;> omega
theorem mid_step (x : Rd) (m : Int) (k : Nat) (y : Rd) (hy : x.kids[k]? = some y) (h : 0 ≤ midI x m k) : leftI y (midI x m k) = midI x m (k + 1) := by
  unfold leftI midI at *
  rw [size_snoc hy]
  have hp := size_pos y
  generalize sizeL (List.take k x.kids) = a at *
  generalize sizeR y = b at *
  by_cases h1 : (a : Int) + 1 ≤ m
  · simp only [if_pos h1]
    by_cases h2 : (b : Int) ≤ m - (a + 1)
    · rw [if_pos h2, if_pos (by omega)]; omega
    · rw [if_neg h2, if_neg (by omega)]
  · rw [if_neg h1] at h; omega
theorem mid_end (x : Rd) (m : Int) : midI x m x.kids.length = leftI x m := by
  unfold midI leftI
  rw [List.take_length, size_kids]
  by_cases h : (sizeL x.kids : Int) + 1 ≤ m
  · rw [if_pos h, if_pos (by omega)]; omega
  · rw [if_neg h, if_neg (by omega)]
theorem mid_stop (x : Rd) (m : Int) (k : Nat) (h : midI x m k < 0) : midI x m k = leftI x m := by
  have := size_take x.kids k
  unfold midI leftI at *
  rw [size_kids]
  split at h
  · omega
  · rw [if_neg (by omega), if_neg (by omega)]
theorem mid_bound (x : Rd) (m : Int) (k : Nat) (h : 0 ≤ m) (h2 : m ≤ 1000000) : -1 ≤ midI x m k ∧ midI x m k ≤ 1000000 := by
  unfold midI; split <;> omega
set_option maxRecDepth 100000 in
set_option maxHeartbeats 1600000 in
theorem left_any (ok : Nat → Prop) : ∀ (z : Nat) (x : Rd) (c : Array Value) (m : Int) (w : World), sizeR x ≤ z → RdAt ok w x c → 0 ≤ m → m ≤ 1000000 → Calls Try.prog 34 #[.agg c, .int .i64 m] w fun e w' => e = .returned (.int .i64 (leftI x m)) ∧ Below w.heap.size w w' := by
  intro z
  induction z with
  | zero => intro x c m w h; have := size_pos x; omega
  | succ z ih =>
    intro x c m w hz hR h0 hm
    have IH := Lib.hid ih
    clear ih
    have HZ := Lib.hid hz
    obtain ⟨A, cap, rfl, hl, hc, hk⟩ := hR.form
    have HK := Lib.hid (hk.keep (bel_alloc w (.cells (rdC x.rule x.at_ A x.kids.length cap) 34)))
    have HB := Lib.hid (bel_alloc w (.cells (rdC x.rule x.at_ A x.kids.length cap) 34))
    have K1 := Lib.hid (Blk.new w 34 (rdC x.rule x.at_ A x.kids.length cap))
    have HMB := Lib.hid (mid_bound x m)
    have E0 := Lib.hid (mid_start x h0)
    have EE := Lib.hid (mid_end x m)
    have ES := Lib.hid (mid_stop x m)
    have ET := Lib.hid (mid_step x m)
    have HL : x.kids.length ≤ 9223372036854775807 := by omega
    clear hz hR hk
    go_enter Try.func34, Try.ntmps34
    go_wp2_with fail
    go_loopw [1, 5] (fun v i wr => ∃ k : Nat, k ≤ x.kids.length ∧ i = .int .i64 k ∧ v = .int .i64 (midI x m k) ∧ Hid (Blk wr w.heap.size 34 (rdC x.rule x.at_ A x.kids.length cap)) ∧ Hid (RdsAt ok wr A x.kids) ∧ Hid (Below w.heap.size w wr)) (fun _ i _ => x.kids.length - (intOf i).toNat)
    case atStart => exact ⟨0, by omega, rfl, by rw [E0.out], K1, HK, HB⟩
    case round =>
      clear K1 HK HB
      obtain ⟨k, hk, rfl, rfl, K1, HK, HB⟩ := hrel
      obtain ⟨hb1, hb2⟩ := HMB.out k h0 hm
      have c2 := K1.out.cell 2
      by_cases hlt : k < x.kids.length
      · by_cases hpos : 0 ≤ midI x m k
        · obtain ⟨y, hy⟩ : ∃ y, x.kids[k]? = some y := ⟨_, List.getElem?_eq_getElem hlt⟩
          obtain ⟨ad, A', cap', rfl, hadl, hcy, _, _, _, d0, d1, d2⟩ := HK.out.at_ hy
          have HY := Lib.hid hcy
          have HS := Lib.hid (show sizeR y ≤ z by have h1 := HZ.out; rw [size_kids] at h1; have := size_kid hy; omega)
          have ET := Lib.hid (ET.out k y hy hpos)
          clear hcy hy
          go_wp2_with fail
          refine (IH.out y _ _ _ HS.out HY.out hpos hb2).mono ?_
          rintro e w2 ⟨rfl, hb⟩
          rw [ET.out]
          have HK := Lib.hid (HK.out.keep hb)
          have K1 := Lib.hid (keep hb K1.out)
          have HB := Lib.hid (HB.out.trans (hb.mono HB.out.size))
          clear hb HY d0 d1 d2 c2
          go_wp2_with fail
          go_roundw
          case rel => exact ⟨k + 1, by omega, by go_num, rfl, K1, HK, HB⟩
          case measure => simp [intOf]; omega
        · have hE := Lib.hid (ES.out k (by omega))
          go_wp2_with fail
          go_ret
          exact ⟨ret_int hE.out, HB.out⟩
      · obtain rfl : k = x.kids.length := by omega
        go_wp2_with fail
        go_ret
        exact ⟨ret_int EE.out, HB.out⟩
theorem left_few {x : Rd} {m : Int} (_h : 0 ≤ m) : decide (0 ≤ leftI x m) = decide ((sizeR x : Int) ≤ m) := by
  unfold leftI
  split
  · rw [decide_eq_true (by omega), decide_eq_true (by omega)]
  · rw [decide_eq_false (by omega), decide_eq_false (by omega)]
set_option maxHeartbeats 800000 in
theorem few_any (ok : Nat → Prop) (x : Rd) (c : Array Value) (m : Int) (w : World) (hR : RdAt ok w x c) (h0 : 0 ≤ m) (hm : m ≤ 1000000) : Calls Try.prog 16 #[.agg c, .int .i64 m] w fun e w' => e = .returned (.bool (decide ((sizeR x : Int) ≤ m))) ∧ Below w.heap.size w w' := by
  obtain ⟨A, cap, rfl, hl, hc, hk⟩ := hR.form
  have hba := bel_alloc w (.cells (rdC x.rule x.at_ A x.kids.length cap) 34)
  have HR := Lib.hid (hR.keep hba)
  have HB := Lib.hid hba
  have K1 := Lib.hid (Blk.new w 34 (rdC x.rule x.at_ A x.kids.length cap))
  have HQ := Lib.hid (left_few (x := x) h0)
  clear hR hk hba
  have c0 := K1.out.cell 0
  have c1 := K1.out.cell 1
  have c2 := K1.out.cell 2
  go_enter Try.func16, Try.ntmps16
  go_wp2_with fail
  refine (left_any ok (sizeR x) x _ m _ (Nat.le_refl _) HR.out h0 hm).mono ?_
  rintro e w2 ⟨rfl, hb⟩
  have HB := Lib.hid (HB.out.trans (hb.mono HB.out.size))
  clear hb c0 c1 c2
  go_wp2_with fail
  go_ret
  exact ⟨ret_bool HQ.out, HB.out⟩
def briefB (r : Rul) : Bool := decide (r.sym.size ≤ 50) && decide (r.nam.size ≤ 50)
def shortB (rs : List Rul) (ts : List ByteArray) (m : Int) : Bool := rs.all briefB && (ts.all fun s => decide (s.size ≤ 50)) && (decide (rs.length ≤ 8) && decide ((ts.length : Int) ≤ m))
theorem short_rule {rs : List Rul} {ts : List ByteArray} {m : Int} {k : Nat} {x : Rul} (hx : rs[k]? = some x) (h : briefB x = false) : shortB rs ts m = false := by
  unfold shortB
  rw [show rs.all briefB = false from List.all_eq_false.2 ⟨x, List.mem_of_getElem? hx, by rw [h]; simp⟩]
  rfl
theorem short_tok {rs : List Rul} {ts : List ByteArray} {m : Int} {k : Nat} {s : ByteArray} (hx : ts[k]? = some s) (h : 50 < s.size) : shortB rs ts m = false := by
  unfold shortB
  rw [show (ts.all fun s => decide (s.size ≤ 50)) = false from List.all_eq_false.2 ⟨s, List.mem_of_getElem? hx, by simp; omega⟩, Bool.and_false, Bool.false_and]
theorem short_all {rs : List Rul} {ts : List ByteArray} {m : Int} (h1 : ∀ (j : Nat) x, rs[j]? = some x → j < rs.length → briefB x = true) (h2 : ∀ (j : Nat) s, ts[j]? = some s → j < ts.length → s.size ≤ 50) : shortB rs ts m = (decide (rs.length ≤ 8) && decide ((ts.length : Int) ≤ m)) := by
  unfold shortB
  rw [show rs.all briefB = true from List.all_eq_true.2 fun x hx => by
    obtain ⟨j, hj⟩ := List.mem_iff_getElem?.1 hx
    exact h1 j x hj (List.getElem?_eq_some_iff.1 hj).1,
    show (ts.all fun s => decide (s.size ≤ 50)) = true from List.all_eq_true.2 fun s hs => by
    obtain ⟨j, hj⟩ := List.mem_iff_getElem?.1 hs
    exact decide_eq_true (h2 j s hj (List.getElem?_eq_some_iff.1 hj).1), Bool.and_self, Bool.true_and]
theorem short_of {rs : List Rul} {ts : List ByteArray} {m : Int} (h : shortB rs ts m = true) : rs.length ≤ 8 ∧ (ts.length : Int) ≤ m := by
  unfold shortB at h
  simp only [Bool.and_eq_true, decide_eq_true_eq] at h
  exact h.2
set_option maxRecDepth 100000 in
set_option maxHeartbeats 1600000 in
theorem short_any (A T : Option Addr) (cap cT : Nat) (rs : List Rul) (ts : List ByteArray) (m : Int) (w : World) (hR : RulsAt w A rs) (hT : ToksAt w T ts) (hn : rs.length ≤ 9223372036854775807) (ht : ts.length ≤ 9223372036854775807) : Calls Try.prog 12 #[.slice A rs.length cap, .slice T ts.length cT, .int .i64 m] w fun e w' => e = .returned (.bool (shortB rs ts m)) ∧ w = w' := by
  have HR := Lib.hid hR
  have HT := Lib.hid hT
  have HA := Lib.hid (@short_all rs ts m)
  clear hR hT
  go_enter Try.func12, Try.ntmps12
  go_wp2_with fail
  go_loop [7] (fun i => ∃ k : Nat, k ≤ rs.length ∧ i = .int .i64 k ∧ Hid (∀ (j : Nat) x, rs[j]? = some x → j < k → briefB x = true)) (fun i => rs.length - (intOf i).toNat)
  case atStart => exact ⟨0, by omega, rfl, (fun j _ _ h => by omega)⟩
  case round =>
    obtain ⟨k, hk, rfl, HJ⟩ := hrel
    by_cases hlt : k < rs.length
    · obtain ⟨x, hx⟩ : ∃ x, rs[k]? = some x := ⟨_, List.getElem?_eq_getElem hlt⟩
      obtain ⟨hf, ad, rfl, hadl, c0, c1, c2, c3, c4, c5⟩ := HR.out.at_ hx
      have HX := Lib.hid hx
      clear hx hf
      by_cases h1 : 50 < x.sym.size
      · have HQ := Lib.hid (short_rule (ts := ts) (m := m) HX.out (show briefB x = false by unfold briefB; rw [decide_eq_false (by omega)]; rfl))
        go_wp2_with fail
        go_ret
        exact ⟨ret_bool HQ.out.symm, rfl⟩
      · by_cases h2 : 50 < x.nam.size
        · have HQ := Lib.hid (short_rule (ts := ts) (m := m) HX.out (show briefB x = false by unfold briefB; rw [decide_eq_false (p := x.nam.size ≤ 50) (by omega), Bool.and_false]))
          go_wp2_with fail
          go_ret
          exact ⟨ret_bool HQ.out.symm, rfl⟩
        · have HQ : Hid (briefB x = true) := by
            show briefB x = true
            unfold briefB; rw [decide_eq_true (by omega), decide_eq_true (by omega)]; rfl
          go_wp2_with fail
          go_round
          case rel => exact ⟨k + 1, by omega, by go_num, (fun j y hj h => by
            rcases Nat.lt_or_ge j k with h' | h'
            · exact HJ.out j y hj h'
            · obtain rfl : j = k := by omega
              rw [HX.out] at hj
              obtain rfl := Option.some.inj hj
              exact HQ.out)⟩
          case measure => simp [intOf]; omega
    · obtain rfl : k = rs.length := by omega
      have HA := Lib.hid (HA.out HJ.out)
      go_wp2_with fail
      go_loop [8] (fun i => ∃ k : Nat, k ≤ ts.length ∧ i = .int .i64 k ∧ Hid (∀ (j : Nat) s, ts[j]? = some s → j < k → s.size ≤ 50)) (fun i => ts.length - (intOf i).toNat)
      case atStart => exact ⟨0, by omega, rfl, (fun j _ _ h => by omega)⟩
      case round =>
        obtain ⟨k, hk, rfl, HT2⟩ := hrel
        by_cases hlt2 : k < ts.length
        · obtain ⟨s, hs⟩ : ∃ s, ts[k]? = some s := ⟨_, List.getElem?_eq_getElem hlt2⟩
          obtain ⟨hf, ad, rfl, hadl, c0⟩ := HT.out k s hs
          have HS := Lib.hid hs
          clear hs
          by_cases h1 : 50 < s.size
          · have HQ := Lib.hid (short_tok (rs := rs) (m := m) HS.out h1)
            go_wp2_with fail
            go_ret
            exact ⟨ret_bool HQ.out.symm, rfl⟩
          · have HQ := Lib.hid (show s.size ≤ 50 by omega)
            go_wp2_with fail
            go_round
            case rel => exact ⟨k + 1, by omega, by go_num, (fun j y hj h => by
              rcases Nat.lt_or_ge j k with h' | h'
              · exact HT2.out j y hj h'
              · obtain rfl : j = k := by omega
                rw [HS.out] at hj
                obtain rfl := Option.some.inj hj
                exact HQ.out)⟩
            case measure => simp [intOf]; omega
        · obtain rfl : k = ts.length := by omega
          have HA := Lib.hid (HA.out HT2.out)
          by_cases h8 : rs.length ≤ 8
          · rw [decide_eq_true h8, Bool.true_and] at HA
            go_wp2_with fail
            go_ret
            exact ⟨ret_bool HA.out.symm, rfl⟩
          · rw [decide_eq_false h8, Bool.false_and] at HA
            go_wp2_with fail
            go_ret
            exact ⟨ret_bool HA.out.symm, rfl⟩
end Go.Proofs.Ytmhddlhlniajpaa
