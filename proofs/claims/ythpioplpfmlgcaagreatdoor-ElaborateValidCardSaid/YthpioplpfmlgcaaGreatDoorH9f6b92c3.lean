/- The text and the number of kids of a node: the reference · Count, Depth, form and Valid of the reference · Class of the program · form, Valid and ValidItems of the reference -/
import Derived.Test.YthpioplpfmlgcaaGreatDoorHb304910e
import Derived.Test.YthpioplpfmlgcaaGreatDoorHde6136ad
namespace Go.Proofs.YthpioplpfmlgcaaGreatDoor.At
open Go.RowKit
theorem delims_list : (⟨#[40, 41, 91, 93, 123, 125, 124, 60, 62, 47, 46]⟩ : ByteArray).toList = delimL := by rw [ByteArray.toList_eq]; rfl
theorem tl (s : ByteArray) : s.toList = s.data.toList := ByteArray.toList_eq s
set_option maxRecDepth 100000 in
set_option maxHeartbeats 800000 in
theorem rtext_any (k : Int) (s : ByteArray) (cols : Int) (A : Option Addr) (n cap : Nat) (w : World) (hs : s.size ≤ 9223372036854775807) : Calls Tryz.prog 74 #[.agg #[.int .i64 k, .string s, .int .i64 cols, .slice A n cap]] w fun e w' => e = .returned (.bool (textB k s.data.toList)) ∧ Below w.heap.size w w' := by
  have HL := Lib.hid (show s.data.toList.length = s.size by simp)
  by_cases h2 : k = 2
  · subst h2
    have HQ := Lib.hid (show textB 2 s.data.toList = symB s.toList by unfold textB; rw [if_pos rfl, tl])
    go_enter Tryz.func74, Tryz.ntmps74
    go_wp2_with fail
    refine (rsym_any s _ hs).mono ?_
    rintro e w1 ⟨rfl, hb⟩
    have HB := Lib.hid ((bel_alloc w _).trans (hb.mono (by simp)))
    clear hb
    go_wp2_with fail
    go_ret
    exact ⟨ret_bool HQ.out.symm, HB.out⟩
  have q2 : (k == 2) = false := beq_eq_false_iff_ne.2 h2
  by_cases h3 : k = 3
  · subst h3
    clear h2 q2
    have HQ := Lib.hid (show textB 3 s.data.toList = numR s.data.toList by rw [num_same]; rfl)
    go_enter Tryz.func74, Tryz.ntmps74
    go_wp2_with fail
    refine (rnum_any s _ hs).mono ?_
    rintro e w1 ⟨rfl, rfl⟩
    go_wp2_with fail
    go_ret
    exact ⟨ret_bool HQ.out.symm, bel_alloc _ _⟩
  have q3 : (k == 3) = false := beq_eq_false_iff_ne.2 h3
  by_cases h4 : k = 4
  · subst h4
    clear h2 q2 h3 q3
    have HQ := Lib.hid (show textB 4 s.data.toList = (decide (s.size ≤ 200) && prinB s.toList) by rw [← HL.out, tl]; rfl)
    by_cases h200 : s.size ≤ 200
    · rw [decide_eq_true h200, Bool.true_and] at HQ
      go_enter Tryz.func74, Tryz.ntmps74
      go_wp2_with fail
      refine (rprin_any s _ hs).mono ?_
      rintro e w1 ⟨rfl, rfl⟩
      go_wp2_with fail
      go_ret
      exact ⟨ret_bool HQ.out.symm, bel_alloc _ _⟩
    · rw [decide_eq_false h200, Bool.false_and] at HQ
      go_enter Tryz.func74, Tryz.ntmps74
      go_wp2_with fail
      go_ret
      exact ⟨ret_bool HQ.out.symm, bel_alloc _ _⟩
  have q4 : (k == 4) = false := beq_eq_false_iff_ne.2 h4
  by_cases h10 : k = 10
  · subst h10
    clear h2 q2 h3 q3 h4 q4
    have HQ := Lib.hid (show textB 10 s.data.toList = inB (acS.map (·.toList)) s.toList by rw [acS_list, tl]; rfl)
    go_enter Tryz.func74, Tryz.ntmps74
    go_wp2_with fail
    have K0 := Lib.hid (Blk.new w 25 #[.int .i64 10, .string s, .int .i64 cols, .slice A n cap])
    have H0 := Lib.hid (bel_alloc w (.cells #[.int .i64 10, .string s, .int .i64 cols, .slice A n cap] 25))
    generalize w.alloc (.cells #[.int .i64 10, .string s, .int .i64 cols, .slice A n cap] 25) = wz at *
    have d1 := K0.out.drew.cell 1
    have HN : Hid (acS.length = 6) := rfl
    go_region_with (first
      | (go_at_call 118; refine (raccents_any _).mono ?_; rintro e w1 ⟨rfl, hS, hb⟩; have HS := Lib.hid hS; have HB := Lib.hid ((below_drew H0.out).trans (hb.mono H0.out.size)); have e1 := (keep hb K0.out.drew).cell 1; clear hS hb)
      | (go_at_call 117; rw [← HN.out]; refine (rin_any _ 6 acS s _ HS.out (by decide)).mono ?_; rintro e w2 ⟨rfl, rfl⟩))
    all_goals
      go_wp2_with fail
      go_ret
      exact ⟨ret_bool HQ.out.symm, HB.out⟩
  have q10 : (k == 10) = false := beq_eq_false_iff_ne.2 h10
  by_cases h11 : k = 11
  · subst h11
    clear h2 q2 h3 q3 h4 q4 h10 q10
    have HQ := Lib.hid (show textB 11 s.data.toList = fencB s.data.toList from rfl)
    by_cases hz : s.size = 2
    · obtain ⟨a, b, rfl⟩ := two_bytes s hz
      clear hz HL hs
      rw [fenc_two] at HQ
      have HA := Lib.hid (fun w1 => rhas_any ⟨#[40, 41, 91, 93, 123, 125, 124, 60, 62, 47, 46]⟩ a w1 (by decide))
      have HB := Lib.hid (fun w1 => rhas_any ⟨#[40, 41, 91, 93, 123, 125, 124, 60, 62, 47, 46]⟩ b w1 (by decide))
      rw [delims_list] at HA HB
      go_enter Tryz.func74, Tryz.ntmps74
      go_wp2_with fail
      refine (HA.out _).mono ?_
      rintro e w1 ⟨rfl, rfl⟩
      cases ha : hasB delimL a
      · rw [ha] at HQ
        clear ha
        go_wp2_with fail
        go_ret
        exact ⟨ret_bool HQ.out.symm, bel_alloc _ _⟩
      · rw [ha] at HQ
        clear ha
        go_wp2_with fail
        refine (HB.out _).mono ?_
        rintro e w1 ⟨rfl, rfl⟩
        go_wp2_with fail
        go_ret
        exact ⟨ret_bool (by rw [HQ.out, Bool.true_and]), bel_alloc _ _⟩
    · rw [fenc_no hz] at HQ
      have hq : ((s.size : Int) == 2) = false := by rw [beq_eq_false_iff_ne]; omega
      clear hz
      go_enter Tryz.func74, Tryz.ntmps74
      go_wp2_with fail
      go_ret
      exact ⟨ret_bool HQ.out.symm, bel_alloc _ _⟩
  have q11 : (k == 11) = false := beq_eq_false_iff_ne.2 h11
  have HQ := Lib.hid (show textB k s.data.toList = s.toList.isEmpty by unfold textB; rw [if_neg h2, if_neg h3, if_neg h4, if_neg h10, if_neg h11, tl])
  clear h2 h3 h4 h10 h11
  go_enter Tryz.func74, Tryz.ntmps74
  go_wp2_with fail
  go_ret
  exact ⟨ret_bool HQ.out.symm, bel_alloc _ _⟩
set_option maxRecDepth 100000 in
set_option maxHeartbeats 800000 in
theorem rkids_any (k : Int) (s : ByteArray) (c : Int) (A : Option Addr) (n cap : Nat) (w : World) (hn : n ≤ 9223372036854775807) : Calls Tryz.prog 75 #[.agg #[.int .i64 k, .string s, .int .i64 c, .slice A n cap]] w fun e w' => e = .returned (.bool (kidsB k c n)) ∧ Below w.heap.size w w' := by
  by_cases h12 : k = 12
  · subst h12
    have HQ := Lib.hid (show kidsB 12 c n = (decide (1 ≤ c ∧ c ≤ 16) && (decide (1 ≤ n ∧ n ≤ 256) && decide ((n : Int) % c = 0))) from rfl)
    by_cases c1 : 1 ≤ c
    · by_cases c2 : c ≤ 16
      · rw [decide_eq_true ⟨c1, c2⟩, Bool.true_and] at HQ
        by_cases n1 : 1 ≤ n
        · by_cases n2 : n ≤ 256
          · rw [decide_eq_true ⟨n1, n2⟩, Bool.true_and] at HQ
            go_enter Tryz.func75, Tryz.ntmps75
            go_wp2_with fail
            go_ret
            exact ⟨ret_bool (by rw [HQ.out]; first | rfl | (simp; done)), bel_alloc _ _⟩
          · rw [decide_eq_false (p := 1 ≤ n ∧ n ≤ 256) (by omega), Bool.false_and] at HQ
            go_enter Tryz.func75, Tryz.ntmps75
            go_wp2_with fail
            go_ret
            exact ⟨ret_bool (by rw [HQ.out]), bel_alloc _ _⟩
        · rw [decide_eq_false (p := 1 ≤ n ∧ n ≤ 256) (by omega), Bool.false_and] at HQ
          go_enter Tryz.func75, Tryz.ntmps75
          go_wp2_with fail
          go_ret
          exact ⟨ret_bool (by rw [HQ.out]), bel_alloc _ _⟩
      · rw [decide_eq_false (p := 1 ≤ c ∧ c ≤ 16) (by omega), Bool.false_and] at HQ
        go_enter Tryz.func75, Tryz.ntmps75
        go_wp2_with fail
        go_ret
        exact ⟨ret_bool (by rw [HQ.out]), bel_alloc _ _⟩
    · rw [decide_eq_false (p := 1 ≤ c ∧ c ≤ 16) (by omega), Bool.false_and] at HQ
      go_enter Tryz.func75, Tryz.ntmps75
      go_wp2_with fail
      go_ret
      exact ⟨ret_bool (by rw [HQ.out]), bel_alloc _ _⟩
  have q12 : (k == 12) = false := beq_eq_false_iff_ne.2 h12
  by_cases hc : c = 0
  · subst hc
    have HQ := Lib.hid (show kidsB k 0 n = (if k = 1 then decide (n ≤ 200) else if k = 2 ∨ k = 3 ∨ k = 4 then decide (n = 0) else if k = 5 ∨ k = 6 ∨ k = 7 ∨ k = 8 then decide (n = 2) else if k = 9 then decide (n = 3) else if k = 10 ∨ k = 11 then decide (n = 1) else false) by unfold kidsB; rw [if_neg h12, decide_eq_true rfl, Bool.true_and])
    by_cases h1 : k = 1
    · subst h1
      go_enter Tryz.func75, Tryz.ntmps75
      go_wp2_with fail
      go_ret
      exact ⟨ret_bool (by rw [HQ.out, Bool.eq_iff_iff]; simp; try omega), bel_alloc _ _⟩
    have q1 : (k == 1) = false := beq_eq_false_iff_ne.2 h1
    by_cases h2 : k = 2
    · subst h2
      go_enter Tryz.func75, Tryz.ntmps75
      go_wp2_with fail
      go_ret
      exact ⟨ret_bool (by rw [HQ.out, Bool.eq_iff_iff]; simp; try omega), bel_alloc _ _⟩
    have q2 : (k == 2) = false := beq_eq_false_iff_ne.2 h2
    by_cases h3 : k = 3
    · subst h3
      go_enter Tryz.func75, Tryz.ntmps75
      go_wp2_with fail
      go_ret
      exact ⟨ret_bool (by rw [HQ.out, Bool.eq_iff_iff]; simp; try omega), bel_alloc _ _⟩
    have q3 : (k == 3) = false := beq_eq_false_iff_ne.2 h3
    by_cases h4 : k = 4
    · subst h4
      go_enter Tryz.func75, Tryz.ntmps75
      go_wp2_with fail
      go_ret
      exact ⟨ret_bool (by rw [HQ.out, Bool.eq_iff_iff]; simp; try omega), bel_alloc _ _⟩
    have q4 : (k == 4) = false := beq_eq_false_iff_ne.2 h4
    by_cases h5 : k = 5
    · subst h5
      go_enter Tryz.func75, Tryz.ntmps75
      go_wp2_with fail
      go_ret
      exact ⟨ret_bool (by rw [HQ.out, Bool.eq_iff_iff]; simp; try omega), bel_alloc _ _⟩
    have q5 : (k == 5) = false := beq_eq_false_iff_ne.2 h5
    by_cases h6 : k = 6
    · subst h6
      go_enter Tryz.func75, Tryz.ntmps75
      go_wp2_with fail
      go_ret
      exact ⟨ret_bool (by rw [HQ.out, Bool.eq_iff_iff]; simp; try omega), bel_alloc _ _⟩
    have q6 : (k == 6) = false := beq_eq_false_iff_ne.2 h6
    by_cases h7 : k = 7
    · subst h7
      go_enter Tryz.func75, Tryz.ntmps75
      go_wp2_with fail
      go_ret
      exact ⟨ret_bool (by rw [HQ.out, Bool.eq_iff_iff]; simp; try omega), bel_alloc _ _⟩
    have q7 : (k == 7) = false := beq_eq_false_iff_ne.2 h7
    by_cases h8 : k = 8
    · subst h8
      go_enter Tryz.func75, Tryz.ntmps75
      go_wp2_with fail
      go_ret
      exact ⟨ret_bool (by rw [HQ.out, Bool.eq_iff_iff]; simp; try omega), bel_alloc _ _⟩
    have q8 : (k == 8) = false := beq_eq_false_iff_ne.2 h8
    by_cases h9 : k = 9
    · subst h9
      go_enter Tryz.func75, Tryz.ntmps75
      go_wp2_with fail
      go_ret
      exact ⟨ret_bool (by rw [HQ.out, Bool.eq_iff_iff]; simp; try omega), bel_alloc _ _⟩
    have q9 : (k == 9) = false := beq_eq_false_iff_ne.2 h9
    by_cases h10 : k = 10
    · subst h10
      go_enter Tryz.func75, Tryz.ntmps75
      go_wp2_with fail
      go_ret
      exact ⟨ret_bool (by rw [HQ.out, Bool.eq_iff_iff]; simp; try omega), bel_alloc _ _⟩
    have q10 : (k == 10) = false := beq_eq_false_iff_ne.2 h10
    by_cases h11 : k = 11
    · subst h11
      go_enter Tryz.func75, Tryz.ntmps75
      go_wp2_with fail
      go_ret
      exact ⟨ret_bool (by rw [HQ.out, Bool.eq_iff_iff]; simp; try omega), bel_alloc _ _⟩
    have q11 : (k == 11) = false := beq_eq_false_iff_ne.2 h11
    rw [if_neg h1, if_neg (by omega), if_neg (by omega), if_neg h9, if_neg (by omega)] at HQ
    clear h1 h2 h3 h4 h5 h6 h7 h8 h9 h10 h11 h12
    go_enter Tryz.func75, Tryz.ntmps75
    go_wp2_with fail
    go_ret
    exact ⟨ret_bool (by rw [HQ.out]), bel_alloc _ _⟩
  · have HQ := Lib.hid (show kidsB k c n = false by unfold kidsB; rw [if_neg h12, decide_eq_false hc, Bool.false_and])
    have qc : (c == 0) = false := beq_eq_false_iff_ne.2 hc
    have qc2 : (c != 0) = true := by rw [bne, qc]; rfl
    clear hc h12
    go_enter Tryz.func75, Tryz.ntmps75
    go_wp2_with fail
    go_ret
    exact ⟨ret_bool (by rw [HQ.out]), bel_alloc _ _⟩
end Go.Proofs.YthpioplpfmlgcaaGreatDoor.At
namespace Go.Proofs.YthpioplpfmlgcaaGreatDoor.At
open Go.RowKit
abbrev nodC (k : Int) (s : ByteArray) (c : Int) (A : Option Addr) (n cap : Nat) : Array Value := #[.int .i64 k, .string s, .int .i64 c, .slice A n cap]
theorem countL_snoc {ks : List Tre} {k : Nat} {x : Tre} (h : ks[k]? = some x) : countL (ks.take (k + 1)) = countL (ks.take k) + countT x := by
  rw [List.take_add_one, h, Option.toList]
  generalize ks.take k = l
  induction l with
  | nil => simp [countL]
  | cons a r ih => rw [List.cons_append, countL, countL, ih]; omega
theorem countL_take (ks : List Tre) (k : Nat) : countL (ks.take k) ≤ countL ks := by
  induction ks generalizing k with
  | nil => simp [countL]
  | cons a r ih =>
    cases k with
    | zero => simp [countL]
    | succ k => rw [List.take_succ_cons, countL, countL]; have := ih k; omega
theorem depthL_snoc {ks : List Tre} {k : Nat} {x : Tre} (h : ks[k]? = some x) : depthL (ks.take (k + 1)) = max (depthL (ks.take k)) (depthT x) := by
  rw [List.take_add_one, h, Option.toList]
  generalize ks.take k = l
  induction l with
  | nil => simp [depthL]
  | cons a r ih => rw [List.cons_append, depthL, depthL, ih]; omega
mutual
theorem depth_count : ∀ t : Tre, depthT t ≤ countT t
  | .mk k s c ks => by rw [depthT, countT]; have := depth_countL ks; omega
theorem depth_countL : ∀ ts : List Tre, depthL ts ≤ countL ts
  | [] => by rw [depthL, countL]; omega
  | t :: ts => by rw [depthL, countL]; have := depth_count t; have := depth_countL ts; omega
end
theorem formL_snoc {ks : List Tre} {k : Nat} {x : Tre} {q : Int} (h : ks[k]? = some x) : formL q (ks.take (k + 1)) = (formL q (ks.take k) && (!badPair q x.kind && formT x)) := by
  rw [List.take_add_one, h, Option.toList]
  generalize ks.take k = l
  induction l with
  | nil => simp [formL]
  | cons a r ih => rw [List.cons_append, formL, formL, ih]; simp [Bool.and_assoc]
theorem formL_false {ks : List Tre} {q : Int} {k : Nat} (h : formL q (ks.take k) = false) : formL q ks = false := by
  induction ks generalizing k with
  | nil => rw [List.take_nil] at h; rw [formL] at h; cases h
  | cons a r ih =>
    cases k with
    | zero => rw [List.take_zero, formL] at h; cases h
    | succ k =>
      rw [List.take_succ_cons, formL] at h
      rw [formL]
      cases ha : (!badPair q a.kind)
      · rfl
      · cases hb : formT a
        · rfl
        · rw [ha, hb, Bool.true_and, Bool.true_and] at h
          rw [ih h]; rfl
set_option maxRecDepth 100000 in
set_option maxHeartbeats 800000 in
theorem rcount_any : ∀ (m : Nat) (t : Tre) (c : Array Value) (w : World), countT t < m → m ≤ 1000000 → NodAt w t c → Calls Tryz.prog 45 #[.agg c] w fun e w' => e = .returned (.int .i64 (countT t : Nat)) ∧ Below w.heap.size w w' := by
  intro m
  induction m with
  | zero => intro t c w h; omega
  | succ m ih =>
    intro t c w hm hm2 hN
    have IH := Lib.hid (fun t c w h hN => ih t c w h (by omega) hN)
    clear ih
    obtain ⟨k, s, cols, ks⟩ := t
    obtain ⟨A2, cap2, rfl, hs, hl, hc, hk⟩ := hN.form
    dsimp only [Tre.kind, Tre.text, Tre.cols, Tre.kids] at hs hl hc hk ⊢
    have HK := Lib.hid hk
    have HQ := Lib.hid (show countT (.mk k s cols ks) = countL ks + 1 by rw [countT])
    rw [HQ.out] at hm
    have HM := Lib.hid hm
    have hle := countL_take ks
    have HLE := Lib.hid hle
    clear hk hN hle
    go_enter Tryz.func45, Tryz.ntmps45
    go_wp2_with fail
    have K0 := Lib.hid (Blk.new w 25 (nodC k s cols A2 ks.length cap2))
    have H0 := Lib.hid (bel_alloc w (.cells (nodC k s cols A2 ks.length cap2) 25))
    have HK := Lib.hid (HK.out.keep H0.out)
    dsimp only [nodC] at K0 H0 HK
    generalize w.alloc (.cells #[.int .i64 k, .string s, .int .i64 cols, .slice A2 ks.length cap2] 25) = w1 at *
    go_loopw [3, 4] (fun v i wr => ∃ (j x : Nat), j ≤ ks.length ∧ i = .int .i64 j ∧ v = .int .i64 x ∧ x ≤ 1000000 ∧ Hid (x = countL (ks.take j) + 1) ∧ Hid (Blk wr w.heap.size 25 (nodC k s cols A2 ks.length cap2)) ∧ Hid (KidsAt wr A2 ks) ∧ Hid (Below w.heap.size w wr)) (fun _ i _ => ks.length - (intOf i).toNat)
    case atStart => exact ⟨0, 1, by omega, rfl, rfl, by omega, rfl, K0, HK, H0⟩
    case round =>
      clear K0 HK H0
      obtain ⟨j, x, hj, rfl, rfl, hx0, HX, K0, HK, H0⟩ := hrel
      have c0 := K0.out.cell 3
      dsimp only [nodC] at c0
      by_cases hlt : j < ks.length
      · obtain ⟨y, hy⟩ : ∃ y, ks[j]? = some y := ⟨_, List.getElem?_eq_getElem hlt⟩
        obtain ⟨ad, A3, cap3, rfl, hadl, hs3, hl3, hc3, hk3, hN3, d0, d1, d2, d3⟩ := HK.out.at_ hy
        have HN3 := Lib.hid hN3
        have hcy := count_kid hy
        have hsn := countL_snoc hy
        have hle := HLE.out (j + 1)
        have HS := Lib.hid (show x + countT y = countL (ks.take (j + 1)) + 1 by rw [hsn, HX.out]; omega)
        have hb1 : x + countT y ≤ 1000000 := by rw [HS.out]; omega
        have HCU : Hid (countT y < m) := by show _ < _; omega
        clear hy hk3 hN3 hsn hle hcy
        generalize hcy : countT y = u at *
        have HCY := Lib.hid hcy
        clear hcy
        go_wp2_with fail
        refine (IH.out y _ wr (by rw [HCY.out]; exact HCU.out) HN3.out).mono ?_
        rw [HCY.out]
        rintro e w2 ⟨rfl, hb⟩
        have K0 := Lib.hid (keep hb K0.out)
        have HK := Lib.hid (HK.out.keep hb)
        have H0 := Lib.hid (H0.out.trans (hb.mono H0.out.size))
        clear hb c0 d0 d1 d2 d3
        go_wp2_with fail
        go_roundw
        case rel => exact ⟨j + 1, x + u, by omega, by go_num, by go_num, by omega, HS, K0, HK, H0⟩
        case measure => simp [intOf]; omega
      · obtain rfl : j = ks.length := by omega
        rw [List.take_length] at HX
        go_wp2_with fail
        go_ret
        exact ⟨ret_int (by rw [HQ.out, ← HX.out]), H0.out⟩
set_option maxRecDepth 100000 in
set_option maxHeartbeats 800000 in
theorem rdepth_any : ∀ (m : Nat) (t : Tre) (c : Array Value) (w : World), countT t < m → m ≤ 1000000 → NodAt w t c → Calls Tryz.prog 46 #[.agg c] w fun e w' => e = .returned (.int .i64 (depthT t : Nat)) ∧ Below w.heap.size w w' := by
  intro m
  induction m with
  | zero => intro t c w h; omega
  | succ m ih =>
    intro t c w hm hm2 hN
    have IH := Lib.hid (fun t c w h hN => ih t c w h (by omega) hN)
    clear ih
    obtain ⟨k, s, cols, ks⟩ := t
    obtain ⟨A2, cap2, rfl, hs, hl, hc, hk⟩ := hN.form
    dsimp only [Tre.kind, Tre.text, Tre.cols, Tre.kids] at hs hl hc hk ⊢
    have HK := Lib.hid hk
    have HQ := Lib.hid (show depthT (.mk k s cols ks) = depthL ks + 1 by rw [depthT])
    rw [countT] at hm
    have HM := Lib.hid hm
    clear hk hN
    go_enter Tryz.func46, Tryz.ntmps46
    go_wp2_with fail
    have K0 := Lib.hid (Blk.new w 25 (nodC k s cols A2 ks.length cap2))
    have H0 := Lib.hid (bel_alloc w (.cells (nodC k s cols A2 ks.length cap2) 25))
    have HK := Lib.hid (HK.out.keep H0.out)
    dsimp only [nodC] at K0 H0 HK
    generalize w.alloc (.cells #[.int .i64 k, .string s, .int .i64 cols, .slice A2 ks.length cap2] 25) = w1 at *
    go_loopw [3, 4] (fun v i wr => ∃ (j x : Nat), j ≤ ks.length ∧ i = .int .i64 j ∧ v = .int .i64 x ∧ x ≤ 1000000 ∧ Hid (x = depthL (ks.take j)) ∧ Hid (Blk wr w.heap.size 25 (nodC k s cols A2 ks.length cap2)) ∧ Hid (KidsAt wr A2 ks) ∧ Hid (Below w.heap.size w wr)) (fun _ i _ => ks.length - (intOf i).toNat)
    case atStart => exact ⟨0, 0, by omega, rfl, rfl, by omega, rfl, K0, HK, H0⟩
    case round =>
      clear K0 HK H0
      obtain ⟨j, x, hj, rfl, rfl, hx0, HX, K0, HK, H0⟩ := hrel
      have c0 := K0.out.cell 3
      dsimp only [nodC] at c0
      by_cases hlt : j < ks.length
      · obtain ⟨y, hy⟩ : ∃ y, ks[j]? = some y := ⟨_, List.getElem?_eq_getElem hlt⟩
        obtain ⟨ad, A3, cap3, rfl, hadl, hs3, hl3, hc3, hk3, hN3, d0, d1, d2, d3⟩ := HK.out.at_ hy
        have HN3 := Lib.hid hN3
        have hcy := count_kid hy
        have hsn := depthL_snoc hy
        have hdc := depth_count y
        have HS := Lib.hid (show max x (depthT y) = depthL (ks.take (j + 1)) by rw [hsn, HX.out])
        have hb1 : depthT y ≤ 1000000 := by omega
        have HCU : Hid (countT y < m) := by show _ < _; omega
        clear hy hk3 hN3 hsn hcy hdc
        generalize hcy : depthT y = u at *
        have HCY := Lib.hid hcy
        clear hcy
        go_wp2_with fail
        refine (IH.out y _ wr HCU.out HN3.out).mono ?_
        rw [HCY.out]
        rintro e w2 ⟨rfl, hb⟩
        have K0 := Lib.hid (keep hb K0.out)
        have HK := Lib.hid (HK.out.keep hb)
        have H0 := Lib.hid (H0.out.trans (hb.mono H0.out.size))
        clear hb c0 d0 d1 d2 d3
        have hmx : max (x : Int) (u : Int) = ((max x u : Nat) : Int) := by omega
        have hmx2 : (if (x : Int) < u then (u : Int) else x) = ((max x u : Nat) : Int) := by split <;> omega
        go_wp2_with fail
        all_goals
          go_roundw
          case rel => exact ⟨j + 1, max x u, by omega, by go_num, (by first | rfl | (congr 1; omega)), by omega, HS, K0, HK, H0⟩
          case measure => simp [intOf]; omega
      · obtain rfl : j = ks.length := by omega
        rw [List.take_length] at HX
        go_wp2_with fail
        go_ret
        exact ⟨ret_int (by rw [HQ.out, ← HX.out]; rfl), H0.out⟩
end Go.Proofs.YthpioplpfmlgcaaGreatDoor.At
namespace Go.Proofs.YthpioplpfmlgcaaGreatDoor.At
open Go.RowKit
/-- a node that a pointer leads to -/
structure PtrAt (w : World) (p : Addr) (t : Tre) (A : Option Addr) (cap : Nat) : Prop where
  lt : p.block < w.heap.size
  kind : w.cell? p = some (.int .i64 t.kind)
  text : w.cell? ⟨p.block, p.off + 1, none⟩ = some (.string t.text)
  cols : w.cell? ⟨p.block, p.off + 2, none⟩ = some (.int .i64 t.cols)
  kids : w.cell? ⟨p.block, p.off + 3, none⟩ = some (.slice A t.kids.length cap)
  size : t.text.size ≤ 9223372036854775807
  len : t.kids.length ≤ cap
  capl : cap ≤ 9223372036854775807
  down : KidsAt w A t.kids
theorem PtrAt.keep {w w' : World} {p : Addr} {t : Tre} {A : Option Addr} {cap : Nat} (h : PtrAt w p t A cap) (hb : Below w.heap.size w w') : PtrAt w' p t A cap :=
  ⟨Nat.lt_of_lt_of_le h.lt hb.size, (hb.cell h.lt).trans h.kind, (hb.cell (p := ⟨p.block, p.off + 1, none⟩) h.lt).trans h.text, (hb.cell (p := ⟨p.block, p.off + 2, none⟩) h.lt).trans h.cols, (hb.cell (p := ⟨p.block, p.off + 3, none⟩) h.lt).trans h.kids, h.size, h.len, h.capl, h.down.keep hb⟩
theorem PtrAt.drew {w : World} {p : Addr} {t : Tre} {A : Option Addr} {cap : Nat} (h : PtrAt w p t A cap) : PtrAt w.drew p t A cap := h.keep (below_drew (Below.refl _ _))
theorem KidsAt.ptr {w : World} {A : Option Addr} {ts : List Tre} (h : KidsAt w A ts) {i : Nat} {t : Tre} (hi : ts[i]? = some t) : ∃ ad A2 cap2, A = some ad ∧ PtrAt w (ad.add (i * 4)) t A2 cap2 := by
  obtain ⟨ad, A2, cap2, h1, h2, h3, h4, h5, h6, h7, d0, d1, d2, d3⟩ := h.at_ hi
  exact ⟨ad, A2, cap2, h1, ⟨by rw [add_blk]; exact h2, d0, d1, d2, d3, h3, h4, h5, h6⟩⟩
end Go.Proofs.YthpioplpfmlgcaaGreatDoor.At
namespace Go.Proofs.YthpioplpfmlgcaaGreatDoor.At
open Go.RowKit
theorem tre_kind (k : Int) (s : ByteArray) (c : Int) (ks : List Tre) : (Tre.mk k s c ks).kind = k := rfl
theorem badPair_eq (k j : Int) : ((j == 1) == (k == 1)) = badPair k j := by
  unfold badPair
  rw [show (j == 1) = decide (j = 1) from rfl, show (k == 1) = decide (k = 1) from rfl]
  cases decide (j = 1) <;> cases decide (k = 1) <;> rfl
set_option maxRecDepth 100000 in
set_option maxHeartbeats 1600000 in
theorem rform_any : ∀ (m : Nat) (t : Tre) (c : Array Value) (w : World), countT t < m → NodAt w t c → Calls Tryz.prog 44 #[.agg c] w fun e w' => e = .returned (.bool (formT t)) ∧ Below w.heap.size w w' := by
  intro m
  induction m with
  | zero => intro t c w h; omega
  | succ m ih =>
    intro t c w hm hN
    have IH := Lib.hid ih
    clear ih
    obtain ⟨k, s, cols, ks⟩ := t
    obtain ⟨A2, cap2, rfl, hs, hl, hc, hk⟩ := hN.form
    dsimp only [Tre.kind, Tre.text, Tre.cols, Tre.kids] at hs hl hc hk ⊢
    have HK := Lib.hid hk
    have HM := Lib.hid hm
    have HQ0 := Lib.hid (show formT (.mk k s cols ks) = (textB k s.data.toList && kidsB k cols ks.length && formL k ks) by rw [formT, ownT])
    clear hk hN hm
    go_enter Tryz.func44, Tryz.ntmps44
    go_wp2_with fail
    have K0 := Lib.hid (Blk.new w 25 (nodC k s cols A2 ks.length cap2))
    have H0 := Lib.hid (bel_alloc w (.cells (nodC k s cols A2 ks.length cap2) 25))
    have HK := Lib.hid (HK.out.keep H0.out)
    dsimp only [nodC] at K0 H0 HK
    generalize w.alloc (.cells #[.int .i64 k, .string s, .int .i64 cols, .slice A2 ks.length cap2] 25) = w1 at *
    refine (rtext_any k s cols A2 ks.length cap2 _ hs).mono ?_
    rintro e w2 ⟨rfl, hb⟩
    have K0 := Lib.hid (keep hb K0.out)
    have HK := Lib.hid (HK.out.keep hb)
    have H0 := Lib.hid (H0.out.trans (hb.mono H0.out.size))
    clear hb
    cases ht : textB k s.data.toList
    · have HQ := Lib.hid (show formT (.mk k s cols ks) = false by rw [HQ0.out, ht]; rfl)
      clear ht
      go_wp2_with fail
      go_ret
      exact ⟨ret_bool HQ.out.symm, H0.out⟩
    rw [ht, Bool.true_and] at HQ0
    clear ht
    have c0 := K0.out.cell 0
    have c1 := K0.out.cell 1
    have c2 := K0.out.cell 2
    have c3 := K0.out.cell 3
    go_wp2_with fail
    refine (rkids_any k s cols A2 ks.length cap2 _ (by omega)).mono ?_
    rintro e w3 ⟨rfl, hb⟩
    have K0 := Lib.hid (keep hb K0.out)
    have HK := Lib.hid (HK.out.keep hb)
    have H0 := Lib.hid (H0.out.trans (hb.mono H0.out.size))
    clear hb c0 c1 c2 c3
    cases ht : kidsB k cols ks.length
    · have HQ := Lib.hid (show formT (.mk k s cols ks) = false by rw [HQ0.out, ht]; rfl)
      clear ht
      go_wp2_with fail
      go_ret
      exact ⟨ret_bool HQ.out.symm, H0.out⟩
    rw [ht, Bool.true_and] at HQ0
    clear ht
    go_wp2_with fail
    go_loopw [3] (fun i wr => ∃ (j : Nat), j ≤ ks.length ∧ i = .int .i64 j ∧ Hid (formL k (ks.take j) = true) ∧ Hid (Blk wr w.heap.size 25 (nodC k s cols A2 ks.length cap2)) ∧ Hid (KidsAt wr A2 ks) ∧ Hid (Below w.heap.size w wr)) (fun i _ => ks.length - (intOf i).toNat)
    case atStart => exact ⟨0, by omega, rfl, Lib.hid (show formL k (ks.take 0) = true by rw [List.take_zero, formL]), K0, HK, H0⟩
    case round =>
      clear K0 HK H0
      obtain ⟨j, hj, rfl, HX, K0, HK, H0⟩ := hrel
      have c0 := K0.out.cell 3
      dsimp only [nodC] at c0
      by_cases hlt : j < ks.length
      · obtain ⟨y, hy⟩ : ∃ y, ks[j]? = some y := ⟨_, List.getElem?_eq_getElem hlt⟩
        obtain ⟨ad, A3, cap3, rfl, hP⟩ := HK.out.ptr hy
        have HP := Lib.hid hP
        have hcy := count_kid hy
        have HSN := Lib.hid (formL_snoc (q := k) hy)
        have HCU : Hid (countT y < m) := by have h1 := HM.out; show _ < _; rw [countT] at h1; omega
        obtain ⟨ky, sy, cy, ksy⟩ := y
        clear hy hP hcy
        have HBP := Lib.hid (badPair_eq k ky)
        go_upto_region 6 with (fail)
        clear c0
        cases hbp : ((ky == 1) == (k == 1))
        · rw [hbp] at HBP
          rw [tre_kind ky sy cy ksy, ← HBP.out, HX.out, Bool.true_and, Bool.not_false, Bool.true_and] at HSN
          cases hfv : formT (.mk ky sy cy ksy)
          · have HFV := Lib.hid hfv
            have HQ := Lib.hid (show formT (.mk k s cols ks) = false by rw [HQ0.out]; exact formL_false (HSN.out.trans hfv))
            clear hfv
            refine region_list (by kernel_rfl) _ [.pointer (some ⟨w.heap.size, 3, none⟩), .slice (some ad) ks.length cap2, .int .i64 j, .pointer (some (ad.add (j * 4))), .pointer (some (ad.add (j * 4))), .int .i64 ky, .bool (ky == 1), .pointer (some ⟨w.heap.size, 0, none⟩), .int .i64 k, .bool (k == 1), .bool false, .bool false, .pointer (some ⟨w.heap.size, 3, none⟩), .slice (some ad) ks.length cap2, .int .i64 j, .pointer (some (ad.add (j * 4))), .agg (nodC ky sy cy A3 ksy.length cap3), .bool false, .bool true, .bool true] [true, true, true, true, true, true, true, true, true, true, true, true, true, true, true, true, true, true, true, true] (fun wq => Hid (Blk wq w.heap.size 25 (nodC k s cols (some ad) ks.length cap2)) ∧ Hid (PtrAt wq (ad.add (j * 4)) (.mk ky sy cy ksy) A3 cap3) ∧ Hid (KidsAt wq (some ad) ks) ∧ Hid (Below w.heap.size w wq)) (by kernel_rfl) (by simp [fin, finOn, dstAt, List.range, List.range.loop, Act.put]; rfl) (by kernel_rfl) ⟨K0.out.drew, HP.out.drew, HK.out.keep (below_drew (Below.refl _ _)), below_drew H0.out⟩ ?_ ?_
            · refine ⟨fun wq hI => ?_, fun wq hI => ?_, fun wq hI => ?_, fun wq hI => ?_, fun wq hI => ?_, fun wq hI => ?_, fun wq hI => ?_, fun wq hI => ?_, fun wq hI => ?_, fun wq hI => ?_, fun wq hI => ?_, fun wq hI => ?_, fun wq hI => ?_, fun wq hI => ?_, fun wq hI => ?_, fun wq hI => ?_, fun wq hI => ?_, fun wq hI => ?_, fun wq hI => ?_, fun wq hI => ?_, trivial⟩
              · exact Gives.value (v := .pointer (some ⟨w.heap.size, 3, none⟩)) (w' := wq) (by simp [execOp, Act.eval, go_sem]) ⟨rfl, hI⟩
              · have cJ := hI.1.out.cell 3
                exact Gives.value (v := .slice (some ad) ks.length cap2) (w' := wq) (by simp [execOp, Act.eval, go_sem, cJ]) ⟨rfl, hI⟩
              · exact Gives.value (v := .int .i64 j) (w' := wq) (by kernel_rfl) ⟨rfl, hI⟩
              · skip
                exact Gives.value (v := .pointer (some (ad.add (j * 4)))) (w' := wq) (by simp [execOp, Act.eval, go_sem, hlt]; try omega) ⟨rfl, hI⟩
              · exact Gives.value (v := .pointer (some (ad.add (j * 4)))) (w' := wq) (by simp [execOp, Act.eval, go_sem]) ⟨rfl, hI⟩
              · have cJ : wq.cell? (ad.add (j * 4)) = some (.int .i64 ky) := hI.2.1.out.kind
                exact Gives.value (v := .int .i64 ky) (w' := wq) (by simp [execOp, Act.eval, go_sem, cJ]) ⟨rfl, hI⟩
              · exact Gives.value (v := .bool (ky == 1)) (w' := wq) (by simp [execOp, Act.eval, go_sem]) ⟨rfl, hI⟩
              · exact Gives.value (v := .pointer (some ⟨w.heap.size, 0, none⟩)) (w' := wq) (by simp [execOp, Act.eval, go_sem]) ⟨rfl, hI⟩
              · have cJ := hI.1.out.cell 0
                exact Gives.value (v := .int .i64 k) (w' := wq) (by simp [execOp, Act.eval, go_sem, cJ]) ⟨rfl, hI⟩
              · exact Gives.value (v := .bool (k == 1)) (w' := wq) (by simp [execOp, Act.eval, go_sem]) ⟨rfl, hI⟩
              · skip
                exact Gives.value (v := .bool false) (w' := wq) (by simp [execOp, Act.eval, go_sem, hbp]) ⟨rfl, hI⟩
              · exact Gives.value (v := .bool false) (w' := wq) (by kernel_rfl) ⟨rfl, hI⟩
              · exact Gives.value (v := .pointer (some ⟨w.heap.size, 3, none⟩)) (w' := wq) (by simp [execOp, Act.eval, go_sem]) ⟨rfl, hI⟩
              · have cJ := hI.1.out.cell 3
                exact Gives.value (v := .slice (some ad) ks.length cap2) (w' := wq) (by simp [execOp, Act.eval, go_sem, cJ]) ⟨rfl, hI⟩
              · exact Gives.value (v := .int .i64 j) (w' := wq) (by kernel_rfl) ⟨rfl, hI⟩
              · skip
                exact Gives.value (v := .pointer (some (ad.add (j * 4)))) (w' := wq) (by simp [execOp, Act.eval, go_sem, hlt]; try omega) ⟨rfl, hI⟩
              · have hP := hI.2.1.out
                have c0 := hP.kind
                have c1 := hP.text
                have c2 := hP.cols
                have c3 := hP.kids
                dsimp only [Tre.kind, Tre.text, Tre.cols, Tre.kids] at c0 c1 c2 c3
                clear hP
                exact Gives.value (v := .agg (nodC ky sy cy A3 ksy.length cap3)) (w' := wq) (by simp [execOp, Act.eval, go_sem, c0, c1, c2, c3]) ⟨rfl, hI⟩
              · refine Gives.call (f := 44) (args := #[.agg (nodC ky sy cy A3 ksy.length cap3)]) (w' := wq) (by kernel_rfl) ((IH.out (.mk ky sy cy ksy) _ wq HCU.out (NodAt.of hI.2.1.out.size hI.2.1.out.len hI.2.1.out.capl hI.2.1.out.down)).mono ?_)
                rintro e wa ⟨rfl, hb5⟩
                exact ⟨_, rfl, by rw [HFV.out], keep hb5 hI.1.out, hI.2.1.out.keep hb5, hI.2.2.1.out.keep hb5, hI.2.2.2.out.trans (hb5.mono hI.2.2.2.out.size)⟩
              · exact Gives.value (v := .bool true) (w' := wq) (by simp [execOp, Act.eval, go_sem]) ⟨rfl, hI⟩
              · exact Gives.value (v := .bool true) (w' := wq) (by kernel_rfl) ⟨rfl, hI⟩
            · intro wq hI
              have HB := hI.2.2.2
              clear hI
              go_wp2_with fail
              go_ret
              exact ⟨ret_bool HQ.out.symm, HB.out⟩
          · have HFV := Lib.hid hfv
            have HS := Lib.hid (HSN.out.trans hfv)
            clear hfv
            refine region_list (by kernel_rfl) _ [.pointer (some ⟨w.heap.size, 3, none⟩), .slice (some ad) ks.length cap2, .int .i64 j, .pointer (some (ad.add (j * 4))), .pointer (some (ad.add (j * 4))), .int .i64 ky, .bool (ky == 1), .pointer (some ⟨w.heap.size, 0, none⟩), .int .i64 k, .bool (k == 1), .bool false, .bool false, .pointer (some ⟨w.heap.size, 3, none⟩), .slice (some ad) ks.length cap2, .int .i64 j, .pointer (some (ad.add (j * 4))), .agg (nodC ky sy cy A3 ksy.length cap3), .bool true, .bool false, .bool false] [true, true, true, true, true, true, true, true, true, true, true, true, true, true, true, true, true, true, true, true] (fun wq => Hid (Blk wq w.heap.size 25 (nodC k s cols (some ad) ks.length cap2)) ∧ Hid (PtrAt wq (ad.add (j * 4)) (.mk ky sy cy ksy) A3 cap3) ∧ Hid (KidsAt wq (some ad) ks) ∧ Hid (Below w.heap.size w wq)) (by kernel_rfl) (by simp [fin, finOn, dstAt, List.range, List.range.loop, Act.put]; rfl) (by kernel_rfl) ⟨K0.out.drew, HP.out.drew, HK.out.keep (below_drew (Below.refl _ _)), below_drew H0.out⟩ ?_ ?_
            · refine ⟨fun wq hI => ?_, fun wq hI => ?_, fun wq hI => ?_, fun wq hI => ?_, fun wq hI => ?_, fun wq hI => ?_, fun wq hI => ?_, fun wq hI => ?_, fun wq hI => ?_, fun wq hI => ?_, fun wq hI => ?_, fun wq hI => ?_, fun wq hI => ?_, fun wq hI => ?_, fun wq hI => ?_, fun wq hI => ?_, fun wq hI => ?_, fun wq hI => ?_, fun wq hI => ?_, fun wq hI => ?_, trivial⟩
              · exact Gives.value (v := .pointer (some ⟨w.heap.size, 3, none⟩)) (w' := wq) (by simp [execOp, Act.eval, go_sem]) ⟨rfl, hI⟩
              · have cJ := hI.1.out.cell 3
                exact Gives.value (v := .slice (some ad) ks.length cap2) (w' := wq) (by simp [execOp, Act.eval, go_sem, cJ]) ⟨rfl, hI⟩
              · exact Gives.value (v := .int .i64 j) (w' := wq) (by kernel_rfl) ⟨rfl, hI⟩
              · skip
                exact Gives.value (v := .pointer (some (ad.add (j * 4)))) (w' := wq) (by simp [execOp, Act.eval, go_sem, hlt]; try omega) ⟨rfl, hI⟩
              · exact Gives.value (v := .pointer (some (ad.add (j * 4)))) (w' := wq) (by simp [execOp, Act.eval, go_sem]) ⟨rfl, hI⟩
              · have cJ : wq.cell? (ad.add (j * 4)) = some (.int .i64 ky) := hI.2.1.out.kind
                exact Gives.value (v := .int .i64 ky) (w' := wq) (by simp [execOp, Act.eval, go_sem, cJ]) ⟨rfl, hI⟩
              · exact Gives.value (v := .bool (ky == 1)) (w' := wq) (by simp [execOp, Act.eval, go_sem]) ⟨rfl, hI⟩
              · exact Gives.value (v := .pointer (some ⟨w.heap.size, 0, none⟩)) (w' := wq) (by simp [execOp, Act.eval, go_sem]) ⟨rfl, hI⟩
              · have cJ := hI.1.out.cell 0
                exact Gives.value (v := .int .i64 k) (w' := wq) (by simp [execOp, Act.eval, go_sem, cJ]) ⟨rfl, hI⟩
              · exact Gives.value (v := .bool (k == 1)) (w' := wq) (by simp [execOp, Act.eval, go_sem]) ⟨rfl, hI⟩
              · skip
                exact Gives.value (v := .bool false) (w' := wq) (by simp [execOp, Act.eval, go_sem, hbp]) ⟨rfl, hI⟩
              · exact Gives.value (v := .bool false) (w' := wq) (by kernel_rfl) ⟨rfl, hI⟩
              · exact Gives.value (v := .pointer (some ⟨w.heap.size, 3, none⟩)) (w' := wq) (by simp [execOp, Act.eval, go_sem]) ⟨rfl, hI⟩
              · have cJ := hI.1.out.cell 3
                exact Gives.value (v := .slice (some ad) ks.length cap2) (w' := wq) (by simp [execOp, Act.eval, go_sem, cJ]) ⟨rfl, hI⟩
              · exact Gives.value (v := .int .i64 j) (w' := wq) (by kernel_rfl) ⟨rfl, hI⟩
              · skip
                exact Gives.value (v := .pointer (some (ad.add (j * 4)))) (w' := wq) (by simp [execOp, Act.eval, go_sem, hlt]; try omega) ⟨rfl, hI⟩
              · have hP := hI.2.1.out
                have c0 := hP.kind
                have c1 := hP.text
                have c2 := hP.cols
                have c3 := hP.kids
                dsimp only [Tre.kind, Tre.text, Tre.cols, Tre.kids] at c0 c1 c2 c3
                clear hP
                exact Gives.value (v := .agg (nodC ky sy cy A3 ksy.length cap3)) (w' := wq) (by simp [execOp, Act.eval, go_sem, c0, c1, c2, c3]) ⟨rfl, hI⟩
              · refine Gives.call (f := 44) (args := #[.agg (nodC ky sy cy A3 ksy.length cap3)]) (w' := wq) (by kernel_rfl) ((IH.out (.mk ky sy cy ksy) _ wq HCU.out (NodAt.of hI.2.1.out.size hI.2.1.out.len hI.2.1.out.capl hI.2.1.out.down)).mono ?_)
                rintro e wa ⟨rfl, hb5⟩
                exact ⟨_, rfl, by rw [HFV.out], keep hb5 hI.1.out, hI.2.1.out.keep hb5, hI.2.2.1.out.keep hb5, hI.2.2.2.out.trans (hb5.mono hI.2.2.2.out.size)⟩
              · exact Gives.value (v := .bool false) (w' := wq) (by simp [execOp, Act.eval, go_sem]) ⟨rfl, hI⟩
              · exact Gives.value (v := .bool false) (w' := wq) (by kernel_rfl) ⟨rfl, hI⟩
            · intro wq hI
              have HK := hI.2.2.1
              have K0 := hI.1
              have H0 := hI.2.2.2
              clear hI
              go_wp2_with fail
              go_roundw
              case rel => exact ⟨j + 1, by omega, by go_num, HS, K0, HK, H0⟩
              case measure => simp [intOf]; omega
        · rw [hbp] at HBP
          have HQ := Lib.hid (show formT (.mk k s cols ks) = false by
            rw [HQ0.out]
            refine formL_false (HSN.out.trans ?_)
            rw [tre_kind ky sy cy ksy, ← HBP.out]
            simp)
          refine region_list (by kernel_rfl) _ [.pointer (some ⟨w.heap.size, 3, none⟩), .slice (some ad) ks.length cap2, .int .i64 j, .pointer (some (ad.add (j * 4))), .pointer (some (ad.add (j * 4))), .int .i64 ky, .bool (ky == 1), .pointer (some ⟨w.heap.size, 0, none⟩), .int .i64 k, .bool (k == 1), .bool true, .bool true, undef, undef, undef, undef, undef, undef, undef, .bool true] [true, true, true, true, true, true, true, true, true, true, true, true, false, false, false, false, false, false, false, true] (fun wq => Hid (Blk wq w.heap.size 25 (nodC k s cols (some ad) ks.length cap2)) ∧ Hid (PtrAt wq (ad.add (j * 4)) (.mk ky sy cy ksy) A3 cap3) ∧ Hid (KidsAt wq (some ad) ks) ∧ Hid (Below w.heap.size w wq)) (by kernel_rfl) (by simp [fin, finOn, dstAt, List.range, List.range.loop, Act.put]; rfl) (by kernel_rfl) ⟨K0.out.drew, HP.out.drew, HK.out.keep (below_drew (Below.refl _ _)), below_drew H0.out⟩ ?_ ?_
          · refine ⟨fun wq hI => ?_, fun wq hI => ?_, fun wq hI => ?_, fun wq hI => ?_, fun wq hI => ?_, fun wq hI => ?_, fun wq hI => ?_, fun wq hI => ?_, fun wq hI => ?_, fun wq hI => ?_, fun wq hI => ?_, fun wq hI => ?_, rfl, rfl, rfl, rfl, rfl, rfl, rfl, fun wq hI => ?_, trivial⟩
            · exact Gives.value (v := .pointer (some ⟨w.heap.size, 3, none⟩)) (w' := wq) (by simp [execOp, Act.eval, go_sem]) ⟨rfl, hI⟩
            · have cJ := hI.1.out.cell 3
              exact Gives.value (v := .slice (some ad) ks.length cap2) (w' := wq) (by simp [execOp, Act.eval, go_sem, cJ]) ⟨rfl, hI⟩
            · exact Gives.value (v := .int .i64 j) (w' := wq) (by kernel_rfl) ⟨rfl, hI⟩
            · skip
              exact Gives.value (v := .pointer (some (ad.add (j * 4)))) (w' := wq) (by simp [execOp, Act.eval, go_sem, hlt]; try omega) ⟨rfl, hI⟩
            · exact Gives.value (v := .pointer (some (ad.add (j * 4)))) (w' := wq) (by simp [execOp, Act.eval, go_sem]) ⟨rfl, hI⟩
            · have cJ : wq.cell? (ad.add (j * 4)) = some (.int .i64 ky) := hI.2.1.out.kind
              exact Gives.value (v := .int .i64 ky) (w' := wq) (by simp [execOp, Act.eval, go_sem, cJ]) ⟨rfl, hI⟩
            · exact Gives.value (v := .bool (ky == 1)) (w' := wq) (by simp [execOp, Act.eval, go_sem]) ⟨rfl, hI⟩
            · exact Gives.value (v := .pointer (some ⟨w.heap.size, 0, none⟩)) (w' := wq) (by simp [execOp, Act.eval, go_sem]) ⟨rfl, hI⟩
            · have cJ := hI.1.out.cell 0
              exact Gives.value (v := .int .i64 k) (w' := wq) (by simp [execOp, Act.eval, go_sem, cJ]) ⟨rfl, hI⟩
            · exact Gives.value (v := .bool (k == 1)) (w' := wq) (by simp [execOp, Act.eval, go_sem]) ⟨rfl, hI⟩
            · skip
              exact Gives.value (v := .bool true) (w' := wq) (by simp [execOp, Act.eval, go_sem, hbp]) ⟨rfl, hI⟩
            · exact Gives.value (v := .bool true) (w' := wq) (by kernel_rfl) ⟨rfl, hI⟩
            · exact Gives.value (v := .bool true) (w' := wq) (by kernel_rfl) ⟨rfl, hI⟩
          · intro wq hI
            have HB := hI.2.2.2
            clear hI
            go_wp2_with fail
            go_ret
            exact ⟨ret_bool HQ.out.symm, HB.out⟩
      · obtain rfl : j = ks.length := by omega
        rw [List.take_length] at HX
        go_wp2_with fail
        go_ret
        exact ⟨ret_bool (by rw [HQ0.out, HX.out]), H0.out⟩
set_option maxRecDepth 100000 in
set_option maxHeartbeats 800000 in
theorem rvalid_any (t : Tre) (c : Array Value) (w : World) (hm : countT t ≤ 900000) (hN : NodAt w t c) : Calls Tryz.prog 22 #[.agg c] w fun e w' => e = .returned (.bool (validT t)) ∧ Below w.heap.size w w' := by
  obtain ⟨k, s, cols, ks⟩ := t
  have HQ := Lib.hid (show validT (.mk k s cols ks) = (decide (k = 1) && (formT (.mk k s cols ks) && (decide (countT (.mk k s cols ks) ≤ 1000) && decide (depthT (.mk k s cols ks) ≤ 24)))) from rfl)
  obtain ⟨A2, cap2, rfl, hs, hl, hc, hk⟩ := hN.form
  dsimp only [Tre.kind, Tre.text, Tre.cols, Tre.kids] at hs hl hc hk ⊢
  have HN := Lib.hid (hN.keep (bel_alloc w (.cells (nodC k s cols A2 ks.length cap2) 25)))
  have HF := Lib.hid (fun c w h => rform_any (countT (.mk k s cols ks) + 1) (.mk k s cols ks) c w (by omega) h)
  have HC := Lib.hid (fun c w h => rcount_any (countT (.mk k s cols ks) + 1) (.mk k s cols ks) c w (by omega) (by omega) h)
  have HD := Lib.hid (fun c w h => rdepth_any (countT (.mk k s cols ks) + 1) (.mk k s cols ks) c w (by omega) (by omega) h)
  clear hk hN
  have hb1 := depth_count (.mk k s cols ks)
  generalize hf : formT (.mk k s cols ks) = f at *
  generalize hct : countT (.mk k s cols ks) = n at *
  generalize hdp : depthT (.mk k s cols ks) = d at *
  clear hf hct hdp
  by_cases h1 : k = 1
  · subst h1
    rw [decide_eq_true rfl, Bool.true_and] at HQ
    go_enter Tryz.func22, Tryz.ntmps22
    go_wp2_with fail
    have K0 := Lib.hid (Blk.new w 25 (nodC 1 s cols A2 ks.length cap2))
    have H0 := Lib.hid (bel_alloc w (.cells (nodC 1 s cols A2 ks.length cap2) 25))
    dsimp only [nodC] at K0 H0 HN
    generalize w.alloc (.cells #[.int .i64 1, .string s, .int .i64 cols, .slice A2 ks.length cap2] 25) = w1 at *
    refine (HF.out _ _ HN.out).mono ?_
    rintro e w2 ⟨rfl, hb⟩
    have K0 := Lib.hid (keep hb K0.out)
    have HN := Lib.hid (HN.out.keep hb)
    have H0 := Lib.hid (H0.out.trans (hb.mono H0.out.size))
    clear hb
    cases f
    · rw [Bool.false_and] at HQ
      go_wp2_with fail
      go_ret
      exact ⟨ret_bool HQ.out.symm, H0.out⟩
    rw [Bool.true_and] at HQ
    have c0 := K0.out.cell 0
    have c1 := K0.out.cell 1
    have c2 := K0.out.cell 2
    have c3 := K0.out.cell 3
    go_wp2_with fail
    refine (HC.out _ _ HN.out).mono ?_
    rintro e w3 ⟨rfl, hb⟩
    have K0 := Lib.hid (keep hb K0.out)
    have HN := Lib.hid (HN.out.keep hb)
    have H0 := Lib.hid (H0.out.trans (hb.mono H0.out.size))
    clear hb c0 c1 c2 c3
    by_cases hn : n ≤ 1000
    · rw [decide_eq_true hn, Bool.true_and] at HQ
      have c0 := K0.out.cell 0
      have c1 := K0.out.cell 1
      have c2 := K0.out.cell 2
      have c3 := K0.out.cell 3
      go_wp2_with fail
      refine (HD.out _ _ HN.out).mono ?_
      rintro e w4 ⟨rfl, hb⟩
      have H0 := Lib.hid (H0.out.trans (hb.mono H0.out.size))
      clear hb c0 c1 c2 c3
      go_wp2_with fail
      go_ret
      exact ⟨ret_bool (by rw [HQ.out]; first | rfl | (rw [decide_eq_decide]; omega)), H0.out⟩
    · rw [decide_eq_false hn, Bool.false_and] at HQ
      go_wp2_with fail
      go_ret
      exact ⟨ret_bool HQ.out.symm, H0.out⟩
  · rw [decide_eq_false h1, Bool.false_and] at HQ
    have q1 : (k == 1) = false := beq_eq_false_iff_ne.2 h1
    clear h1
    go_enter Tryz.func22, Tryz.ntmps22
    go_wp2_with fail
    go_ret
    exact ⟨ret_bool HQ.out.symm, bel_alloc _ _⟩
end Go.Proofs.YthpioplpfmlgcaaGreatDoor.At
