/- The walk of AtomPrefix. -/
import Derived.Test.YtgoafobhhmeppaaLE
import Derived.Test.YtgoafobhhmeppaaC3
namespace Go.Proofs.Ytgoafobhhmeppaa
open Go.RowKit
theorem frml_take (k : Int) : ∀ (ts : List Tre) (n : Nat), formL k ts = true → formL k (ts.take n) = true
  | [], n, _ => by rw [List.take_nil, formL]
  | t :: ts, 0, _ => by rw [List.take_zero, formL]
  | t :: ts, n + 1, h => by
    rw [List.take_succ_cons]
    rw [formL] at h ⊢
    simp only [Bool.and_eq_true] at h ⊢
    exact ⟨h.1, h.2.1, frml_take k ts n h.2.2⟩
theorem cntl_take : ∀ (ts : List Tre) (n : Nat), countL (ts.take n) ≤ countL ts
  | [], n => by rw [List.take_nil]; exact Nat.le_refl _
  | t :: ts, 0 => by rw [List.take_zero, countL]; omega
  | t :: ts, n + 1 => by rw [List.take_succ_cons, countL, countL]; have := cntl_take ts n; omega
theorem dptl_take : ∀ (ts : List Tre) (n : Nat), depthL (ts.take n) ≤ depthL ts
  | [], n => by rw [List.take_nil]; exact Nat.le_refl _
  | t :: ts, 0 => by rw [List.take_zero, depthL]; omega
  | t :: ts, n + 1 => by rw [List.take_succ_cons, depthL, depthL]; have := dptl_take ts n; omega
theorem ok_take {es : List Ent} {ts : List Tre} (n : Nat) (h : okC es ts = true) : okC es (ts.take n) = true := by
  unfold okC at h ⊢
  rw [Bool.and_eq_true] at h ⊢
  refine ⟨h.1, ?_⟩
  have h2 := h.2
  unfold validT at h2 ⊢
  simp only [Bool.and_eq_true] at h2 ⊢
  obtain ⟨h3, h4, h5, h6⟩ := h2
  rw [formT] at h4
  rw [formT]
  simp only [Bool.and_eq_true] at h4 ⊢
  obtain ⟨h7, h8⟩ := h4
  refine ⟨h3, ⟨?_, frml_take 1 ts n h8⟩, ?_, ?_⟩
  · unfold ownT at h7 ⊢
    simp only [Bool.and_eq_true] at h7 ⊢
    refine ⟨h7.1, ?_⟩
    have h9 := h7.2
    unfold kidsB at h9 ⊢
    simp at h9 ⊢
    omega
  · have := of_decide_eq_true h5
    have := cntl_take ts n
    refine decide_eq_true ?_
    rw [countT] at *
    omega
  · have := of_decide_eq_true h6
    have := dptl_take ts n
    refine decide_eq_true ?_
    rw [depthT] at *
    omega
theorem KidsAt.take {w : World} {A : Option Addr} {ts : List Tre} (h : KidsAt w A ts) (n : Nat) : KidsAt w A (ts.take n) := fun i t hi => by
  rw [List.getElem?_take] at hi
  split at hi
  · exact h i t hi
  · cases hi
theorem IntsO.blk {w : World} {A : Option Addr} {xs : List Int} (h : IntsO w A xs) (hl : 0 < xs.length) : ∃ g : Nat, A = some ⟨g, 0, none⟩ := by
  obtain ⟨g, h1, _⟩ := h 0 xs[0] (List.getElem?_eq_getElem hl)
  exact ⟨g, h1⟩
set_option maxRecDepth 100000 in
set_option maxHeartbeats 4000000 in
theorem prefix_walk (A A2 : Option Addr) (cap cap2 : Nat) (es : List Ent) (ts : List Tre) (w : World) (hE : EntsAt w A es) (hK : KidsAt w A2 ts) (hc : ts.length ≤ cap2) (hc2 : cap2 ≤ 9223372036854775807) (kk : Nat) (hkk : kk ≤ 255) : Calls Try.prog 8 #[.agg #[.slice A es.length cap, .slice A2 ts.length cap2], .int .u8 kk] w fun e w' => e = .returned (.bool true) ∧ Below w.heap.size w w' := by
  have K0 := Lib.hid (Blk.new w 51 #[.slice A es.length cap, .slice A2 ts.length cap2])
  have H0 := Lib.hid (bel_alloc w (.cells #[.slice A es.length cap, .slice A2 ts.length cap2] 51))
  have HE := Lib.hid hE
  have HK := Lib.hid hK
  clear hE hK
  go_enter Try.func8, Try.ntmps8
  go_wp2_with fail
  generalize w.alloc (.cells #[.slice A es.length cap, .slice A2 ts.length cap2] 51) = w1 at *
  refine (awake_any w1).mono ?_
  rintro e w2 ⟨rfl, hb⟩
  have K0 := Lib.hid (keep hb K0.out)
  have H0 := Lib.hid (H0.out.trans (hb.mono H0.out.size))
  clear hb
  have c0 := K0.out.cell 0
  have c1 := K0.out.cell 1
  go_wp2_with fail
  refine (line_few A A2 cap cap2 es ts w2 (HK.out.keep H0.out) hc hc2).mono ?_
  rintro e w3 ⟨rfl, hb⟩
  have K0 := Lib.hid (keep hb K0.out)
  have H0 := Lib.hid (H0.out.trans (hb.mono H0.out.size))
  clear hb c0 c1
  by_cases hf : ¬ (es.length ≤ 300 ∧ countL ts + 1 ≤ 300)
  · rw [few_no hf]
    clear hf
    go_wp2_with fail
    go_ret
    exact ⟨rfl, H0.out⟩
  have hf := Classical.not_not.1 hf
  rw [few_yes hf]
  have hkl := kids_le ts
  obtain ⟨hn3, hf⟩ := hf
  have htl : ts.length ≤ 300 := by omega
  clear hf hkl
  have c0 := K0.out.cell 0
  have c1 := K0.out.cell 1
  go_wp2_with fail
  refine (aClasses_any A A2 cap cap2 es ts w3 (by omega) (by omega) hc hc2 (HE.out.keep H0.out) (HK.out.keep H0.out)).mono ?_
  rintro e w4 ⟨v, rfl, ho, hb⟩
  have HO := Lib.hid ho
  have K0 := Lib.hid (keep hb K0.out)
  have H0 := Lib.hid (H0.out.trans (hb.mono H0.out.size))
  clear ho hb c0 c1
  cases hok : okC es ts
  · have HER := Lib.hid (show errC es ts = 1 by unfold errC; rw [hok]; rfl)
    have HRS := Lib.hid (show resC es ts = [] by unfold resC; rw [hok]; rfl)
    clear hok
    rw [HER.out]
    rw [HRS.out] at HO
    obtain ⟨A5, cap5, rfl, _, hcap5, _⟩ := HO.out.form
    rw [show ([] : List Int).length = 0 from rfl]
    have c1 := K0.out.cell 1
    go_wp2_with fail
    go_ret
    exact ⟨rfl, H0.out⟩
  have HER := Lib.hid (show errC es ts = 0 by unfold errC; rw [hok]; rfl)
  have HRS := Lib.hid (show resC es ts = rowL (ts.map (classT es)) by unfold resC; rw [hok]; rfl)
  have HOK := Lib.hid hok
  have HRL := Lib.hid (show (rowL (ts.map (classT es))).length = ts.length by rw [rowL_len]; simp)
  clear hok
  rw [HER.out]
  rw [HRS.out] at HO
  obtain ⟨A5, cap5, rfl, hcl5, hcap5, hI⟩ := HO.out.form
  have HI := Lib.hid hI
  rw [HRL.out] at hcl5 ⊢
  clear hI
  have c1 := K0.out.cell 1
  have hk0 : (0 : Int) ≤ (kk : Int) := by omega
  have hk1 : (kk : Int) ≤ 255 := by omega
  obtain ⟨n, hn, hnl⟩ : ∃ n : Nat, (kk : Int) % ((ts.length : Int) + 1) = (n : Int) ∧ n ≤ ts.length := by
    have e0 := Int.emod_nonneg (kk : Int) (b := (ts.length : Int) + 1) (by omega)
    have e1 := Int.emod_lt_of_pos (kk : Int) (b := (ts.length : Int) + 1) (by omega)
    exact ⟨((kk : Int) % ((ts.length : Int) + 1)).toNat, by omega, by omega⟩
  have HOT := Lib.hid (ok_take n HOK.out)
  have HKL := Lib.hid (show (ts.take n).length = n by rw [List.length_take]; omega)
  have HER := Lib.hid (show errC es (ts.take n) = 0 by unfold errC; rw [HOT.out]; rfl)
  have HRS := Lib.hid (show resC es (ts.take n) = rowL ((ts.map (classT es)).take n) by unfold resC; rw [HOT.out, List.map_take]; rfl)
  go_upto_region 9 with (fail)
  rw [hn]
  clear hn c1
  refine region_ghost (X := Value) (by kernel_rfl) _ (fun gx => [.pointer (some ⟨w.heap.size, 0, none⟩), .slice A es.length cap, .pointer (some ⟨w.heap.size, 1, none⟩), .slice A2 ts.length cap2, .int .i64 n, .slice A2 n cap2, .tuple #[gx, .int .i64 0], .tuple #[gx, .int .i64 0], gx, .int .i64 0, gx, .int .i64 0]) [true, true, true, true, true, true, true, true, true, true, true, true] [6] (fun bl gx wq => Hid (Blk wq w.heap.size 51 #[.slice A es.length cap, .slice A2 ts.length cap2]) ∧ Hid (Below w.heap.size w wq) ∧ Hid (Below w4.heap.size w4 wq) ∧ Hid (bl = [true] → OwnI wq w.heap.size gx (rowL ((ts.map (classT es)).take n)))) .nilFunc (by kernel_rfl) (fun gx => by simp [fin, finOn, dstAt, List.range, List.range.loop, Act.put]; rfl) (fun _ => by kernel_rfl) (by kernel_rfl) ⟨K0.out.drew, below_drew H0.out, below_drew (Below.refl _ _), fun h => by cases h⟩ ?_ ?_
  · refine ⟨fun L gx wq hL hb ha hI => ?_, fun L gx wq hL hb ha hI => ?_, fun L gx wq hL hb ha hI => ?_, fun L gx wq hL hb ha hI => ?_, fun L gx wq hL hb ha hI => ?_, fun L gx wq hL hb ha hI => ?_, fun L gx wq hL hb ha hI => ?_, fun L gx wq hL hb ha hI => ?_, fun L gx wq hL hb ha hI => ?_, fun L gx wq hL hb ha hI => ?_, fun L gx wq hL hb ha hI => ?_, fun L gx wq hL hb ha hI => ?_, trivial⟩
    · exact Gives.plain (v := .pointer (some ⟨w.heap.size, 0, none⟩)) (w' := wq) (by simp [go_sem]) rfl hI
    · have cJ := hI.1.out.cell 0
      exact Gives.plain (v := .slice A es.length cap) (w' := wq) (by simp [go_sem, cJ]) rfl hI
    · exact Gives.plain (v := .pointer (some ⟨w.heap.size, 1, none⟩)) (w' := wq) (by simp [go_sem]) rfl hI
    · have cJ := hI.1.out.cell 1
      exact Gives.plain (v := .slice A2 ts.length cap2) (w' := wq) (by simp [go_sem, cJ]) rfl hI
    · exact Gives.plain (v := .int .i64 n) (w' := wq) (by kernel_rfl) rfl hI
    · have hsl : n ≤ cap2 := by omega
      exact Gives.plain (v := .slice A2 n cap2) (w' := wq) (by simp [go_sem, hsl]) rfl hI
    · refine Gives.call (f := 15) (args := #[.slice A es.length cap, .slice A2 n cap2]) (w' := wq) (by kernel_rfl) ?_
      have h := aClasses_any A A2 cap cap2 es (ts.take n) wq (by omega) (by rw [HKL.out]; omega) (by rw [HKL.out]; omega) hc2 (HE.out.keep hI.2.1.out) ((HK.out.keep hI.2.1.out).take n)
      rw [HKL.out] at h
      refine h.mono ?_
      clear h
      rintro e wa ⟨v, rfl, ho, hb⟩
      rw [HER.out]
      rw [HRS.out] at ho
      exact ⟨_, rfl, v, rfl, (KeepsV.of_same ⟨.inr (.inr rfl), .inr (.inr rfl), .inr (.inr rfl), .inr (.inr rfl), .inr (.inr rfl), .inr (.inr rfl), .inl rfl, .inr (.inl (by kernel_rfl)), .inr (.inl (by kernel_rfl)), .inr (.inr rfl), .inr (.inl (by kernel_rfl)), .inr (.inr rfl), trivial⟩), Lib.hid (keep hb hI.1.out), Lib.hid (hI.2.1.out.trans (hb.mono hI.2.1.out.size)), Lib.hid (hI.2.2.1.out.trans (hb.mono hI.2.2.1.out.size)), Lib.hid (fun _ => ho.more hI.2.1.out.size)⟩
    · exact Gives.plain (v := .tuple #[gx, .int .i64 0]) (w' := wq) (by kernel_rfl) rfl hI
    · exact Gives.plain (v := gx) (w' := wq) (by simp [go_sem]) rfl hI
    · exact Gives.plain (v := .int .i64 0) (w' := wq) (by simp [go_sem]) rfl hI
    · exact Gives.plain (v := gx) (w' := wq) (by kernel_rfl) rfl hI
    · exact Gives.plain (v := .int .i64 0) (w' := wq) (by kernel_rfl) rfl hI
  · intro gx wq hI
    have K0 := hI.1
    have H0 := hI.2.1
    have HO := Lib.hid (hI.2.2.2.out rfl)
    have HQB := hI.2.2.1
    clear hI
    obtain ⟨A6, cap6, rfl, hcl6, hcap6, hI⟩ := HO.out.form
    have HJ := Lib.hid hI
    have HJL := Lib.hid (show (rowL ((ts.map (classT es)).take n)).length = n by rw [rowL_len]; simp; omega)
    rw [HJL.out] at hcl6 ⊢
    have HI := Lib.hid (HI.out.keep HQB.out)
    clear hI HO
    have HML := Lib.hid (show (ts.map (classT es)).length = ts.length by simp)
    generalize ts.map (classT es) = own at *
    have c1 := K0.out.cell 1
    go_wp2_with fail
    go_loopw [10] (fun i wr => ∃ k : Nat, k ≤ n ∧ i = .int .i64 k ∧ Hid (Below wq.heap.size wq wr)) (fun i _ => n - (intOf i).toNat)
    case atStart => exact ⟨0, by omega, rfl, Below.refl _ _⟩
    case round =>
      obtain ⟨k, hk, rfl, HW⟩ := hrel
      by_cases hlt : k + 1 < n
      · obtain ⟨x, hx⟩ : ∃ x, (rowL own)[k]? = some x := ⟨_, List.getElem?_eq_getElem (by rw [HRL.out]; omega)⟩
        have hy : (rowL (own.take n))[k]? = some x := by rw [← row_begin own n k (by rw [HML.out]; exact hnl) hlt]; exact hx
        obtain ⟨g5, rfl, _, d5⟩ := (HI.out.keep HW.out) k x hx
        obtain ⟨g6, rfl, _, d6⟩ := (HJ.out.keep HW.out) k x hy
        have q1 : (x != x) = false := by simp
        have i1 : (k : Int) < (ts.length : Int) := by omega
        have i2 : (k : Int) < (n : Int) := by omega
        have i3 : (0 : Int) ≤ (k : Int) := by omega
        clear hx hy
        go_wp2_with fail
        go_quiet (fail)
        have HW := Lib.hid (below_drewN HW.out nq)
        go_wp2_with fail
        go_roundw
        case rel => exact ⟨k + 1, by omega, by go_num, HW⟩
        case measure => simp [intOf]; omega
      · go_wp2_with fail
        go_ret
        exact ⟨rfl, H0.out.trans (HW.out.mono H0.out.size)⟩
end Go.Proofs.Ytgoafobhhmeppaa
