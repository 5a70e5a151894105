/- The walk of AtomBinary. -/
import Derived.Test.YtgoafobhhmeppaaLD
namespace Go.Proofs.Ytgoafobhhmeppaa
open Go.RowKit
theorem ent_bd {es : List Ent} (h : dictB es = true) (s : List UInt8) : 0 ≤ clsOf es s ∧ clsOf es s ≤ 7 := by
  unfold dictB at h
  rw [Bool.and_eq_true, dict_all, Bool.and_eq_true] at h
  have ha := h.2.1
  unfold clsOf findE
  cases hf : es.find? (fun e => e.text.data.toList == s) with
  | none => simp
  | some e =>
    have hm := List.mem_of_find?_eq_some hf
    have he := List.all_eq_true.1 ha e hm
    unfold entB at he
    simp at he
    simp
    omega
theorem cls_bd {es : List Ent} (h : dictB es = true) : ∀ (m : Nat) (t : Tre), countT t < m → 0 ≤ classT es t ∧ classT es t ≤ 7 := by
  intro m
  induction m with
  | zero => intro t h; omega
  | succ m ih =>
    intro t hm
    obtain ⟨k, s, c, ks⟩ := t
    rw [classT.eq_def]
    dsimp only
    split
    · exact ent_bd h _
    · split
      · split
        · rename_i u _
          refine ih u ?_
          simp only [countT, countL] at hm
          omega
        · omega
      · split <;> omega
theorem row_bd {own : List Int} (h : ∀ x ∈ own, 0 ≤ x ∧ x ≤ 7) {i : Nat} {x : Int} (hx : (rowL own)[i]? = some x) : 0 ≤ x ∧ x ≤ 7 := by
  have hl := (List.getElem?_eq_some_iff.1 hx).1
  rw [rowL_len] at hl
  have ho : own[i]? = some own[i] := List.getElem?_eq_getElem hl
  rcases row_become own i own[i] ho with h1 | ⟨_, h1⟩
  · rw [hx] at h1
    obtain rfl := Option.some.inj h1
    exact h _ (List.getElem_mem _)
  · rw [hx] at h1
    obtain rfl := Option.some.inj h1
    omega
theorem before_set {x : Int} (h : 0 ≤ x ∧ x ≤ 7) (ho : opensB x = false) : x = 0 ∨ x = 5 ∨ x = 7 := by
  rw [opens_eq] at ho
  simp at ho
  omega
theorem behind_set {x : Int} (h : 0 ≤ x ∧ x ≤ 7) (ho : closesB x = false) (h2 : x ≠ 2) : x = 0 ∨ x = 1 ∨ x = 4 ∨ x = 7 := by
  rw [closes_eq] at ho
  simp at ho
  omega
set_option maxRecDepth 100000 in
set_option maxHeartbeats 4000000 in
theorem binary_walk (A A2 : Option Addr) (cap cap2 : Nat) (es : List Ent) (ts : List Tre) (w : World) (hE : EntsAt w A es) (hK : KidsAt w A2 ts) (hc : ts.length ≤ cap2) (hc2 : cap2 ≤ 9223372036854775807) : Calls Try.prog 6 #[.agg #[.slice A es.length cap, .slice A2 ts.length cap2]] w fun e w' => e = .returned (.bool true) ∧ Below w.heap.size w w' := by
  have K0 := Lib.hid (Blk.new w 51 #[.slice A es.length cap, .slice A2 ts.length cap2])
  have H0 := Lib.hid (bel_alloc w (.cells #[.slice A es.length cap, .slice A2 ts.length cap2] 51))
  have HE := Lib.hid hE
  have HK := Lib.hid hK
  clear hE hK
  go_enter Try.func6, Try.ntmps6
  go_wp2_with fail
  generalize w.alloc (.cells #[.slice A es.length cap, .slice A2 ts.length cap2] 51) = w1 at *
  refine (awake_any w1).mono ?_
  rintro e w2 ⟨rfl, hb⟩
  have K0 := Lib.hid (keep hb K0.out)
  have H0 := Lib.hid (H0.out.trans (hb.mono H0.out.size))
  clear hb
  have c0 := K0.out.cell 0
  have c1 := K0.out.cell 1
  go_wp2_with fail
  refine (line_few A A2 cap cap2 es ts w2 (HK.out.keep H0.out) hc hc2).mono ?_
  rintro e w3 ⟨rfl, hb⟩
  have K0 := Lib.hid (keep hb K0.out)
  have H0 := Lib.hid (H0.out.trans (hb.mono H0.out.size))
  clear hb c0 c1
  by_cases hf : ¬ (es.length ≤ 300 ∧ countL ts + 1 ≤ 300)
  · rw [few_no hf]
    clear hf
    go_wp2_with fail
    go_ret
    exact ⟨rfl, H0.out⟩
  have hf := Classical.not_not.1 hf
  rw [few_yes hf]
  have hkl := kids_le ts
  obtain ⟨hn3, hf⟩ := hf
  have htl : ts.length ≤ 300 := by omega
  clear hf hkl
  have c0 := K0.out.cell 0
  have c1 := K0.out.cell 1
  go_wp2_with fail
  refine (aClasses_any A A2 cap cap2 es ts w3 (by omega) (by omega) hc hc2 (HE.out.keep H0.out) (HK.out.keep H0.out)).mono ?_
  rintro e w4 ⟨v, rfl, ho, hb⟩
  have HO := Lib.hid ho
  have K0 := Lib.hid (keep hb K0.out)
  have H0 := Lib.hid (H0.out.trans (hb.mono H0.out.size))
  clear ho hb c0 c1
  cases hok : okC es ts
  · have HER := Lib.hid (show errC es ts = 1 by unfold errC; rw [hok]; rfl)
    have HRS := Lib.hid (show resC es ts = [] by unfold resC; rw [hok]; rfl)
    clear hok
    rw [HER.out]
    rw [HRS.out] at HO
    obtain ⟨A5, cap5, rfl, _, hcap5, _⟩ := HO.out.form
    rw [show ([] : List Int).length = 0 from rfl]
    have c1 := K0.out.cell 1
    go_wp2_with fail
    go_ret
    exact ⟨rfl, H0.out⟩
  have HER := Lib.hid (show errC es ts = 0 by unfold errC; rw [hok]; rfl)
  have HRS := Lib.hid (show resC es ts = rowL (ts.map (classT es)) by unfold resC; rw [hok]; rfl)
  have HOK := Lib.hid hok
  have HRL := Lib.hid (show (rowL (ts.map (classT es))).length = ts.length by rw [rowL_len]; simp)
  clear hok
  rw [HER.out]
  rw [HRS.out] at HO
  obtain ⟨A5, cap5, rfl, hcl5, hcap5, hI⟩ := HO.out.form
  have HI := Lib.hid hI
  rw [HRL.out] at hcl5 ⊢
  clear hI
  have HDB := Lib.hid (show ∀ x ∈ ts.map (classT es), 0 ≤ x ∧ x ≤ 7 by
    have h1 := HOK.out
    unfold okC at h1
    rw [Bool.and_eq_true] at h1
    intro x hx
    obtain ⟨t, _, rfl⟩ := List.mem_map.1 hx
    exact cls_bd h1.1 (countT t + 1) t (by omega))
  have HOL := Lib.hid (show (ts.map (classT es)).length = ts.length by simp)
  go_wp2_with fail
  have HB := H0
  clear H0
  generalize ts.map (classT es) = own at *
  go_loopw [5] (fun i wr => ∃ k : Nat, k ≤ ts.length ∧ i = .int .i64 k ∧ Hid (Blk wr w.heap.size 51 #[.slice A es.length cap, .slice A2 ts.length cap2]) ∧ Hid (Below w4.heap.size w4 wr) ∧ Hid (Below w.heap.size w wr)) (fun i _ => ts.length - (intOf i).toNat)
  case atStart => exact ⟨0, by omega, rfl, K0, Below.refl _ _, HB⟩
  case round =>
    clear K0 HB
    obtain ⟨k, hk, rfl, K0, HW, HB⟩ := hrel
    by_cases hlt : k < ts.length
    · obtain ⟨x, hx⟩ : ∃ x, (rowL own)[k]? = some x := ⟨_, List.getElem?_eq_getElem (by rw [HRL.out]; exact hlt)⟩
      obtain ⟨g5, rfl, _, d0⟩ := (HI.out.keep HW.out) k x hx
      have HX := Lib.hid hx
      clear hx
      by_cases h2 : x = 2
      · subst h2
        obtain ⟨r1, ⟨j, x1, rfl, r2, r3⟩, r4⟩ := row_between own k HX.out
        have hj1 : j + 1 + 1 < ts.length := by rw [HOL.out] at r1; omega
        obtain ⟨y, hy⟩ : ∃ y, (rowL own)[j + 1 + 1]? = some y := ⟨_, List.getElem?_eq_getElem (by rw [HRL.out]; exact hj1)⟩
        obtain ⟨r5, r6⟩ := r4 y hy
        obtain ⟨g6, hg6, _, d1⟩ := (HI.out.keep HW.out) j x1 r2
        obtain ⟨g7, hg7, _, d2⟩ := (HI.out.keep HW.out) (j + 1 + 1) y hy
        obtain rfl : g5 = g6 := by simpa using hg6
        obtain rfl : g5 = g7 := by simpa using hg7
        have HBS := Lib.hid (before_set (row_bd HDB.out r2) r3)
        have HAS := Lib.hid (behind_set (row_bd HDB.out hy) r5 r6)
        have q0 : (((j + 1 : Nat) : Int) == 0) = false := by rw [beq_eq_false_iff_ne]; omega
        have q1 : (((j + 1 : Nat) : Int) == (ts.length : Int) - 1) = false := by rw [beq_eq_false_iff_ne]; omega
        have q0' : ((j : Int) + 1 == 0) = false := by rw [beq_eq_false_iff_ne]; omega
        have q1' : ((j : Int) + 1 == (ts.length : Int) - 1) = false := by rw [beq_eq_false_iff_ne]; omega
        clear r1 r2 r3 r4 r5 r6 hy hg6 hg7
        go_wp2_with fail
        have i1 : (0 : Int) ≤ (j : Int) := by omega
        have i2 : (j : Int) < (ts.length : Int) := by omega
        have i3 : (0 : Int) ≤ (j : Int) + 1 + 1 := by omega
        have i4 : (j : Int) + 1 + 1 < (ts.length : Int) := by omega
        have w1' : IntKind.i64.wrap ((j : Int) + 1 + 1) = (j : Int) + 1 + 1 := IntWalk.i64_in _ (by omega)
        have w2' : IntKind.i64.wrap ((j : Int) + 1 - 1) = (j : Int) := by rw [show (j : Int) + 1 - 1 = j by omega]; exact IntWalk.i64_in _ (by omega)
        have w3' : ((j : Int) + 1 + 1).toNat = j + 1 + 1 := by omega
        go_quiet (fail)
        have K0 := Lib.hid (Blk.drewN K0.out nq)
        have HW := Lib.hid (below_drewN HW.out nq)
        have HB := Lib.hid (below_drewN HB.out nq)
        clear d0 d1 d2 q0 q1 q0' q1' w1' w2' w3' i1 i2 i3 i4
        rcases HBS.out with rfl | rfl | rfl <;> rcases HAS.out with rfl | rfl | rfl | rfl
        all_goals
          go_wp2_with fail
          go_roundw
          case rel => exact ⟨j + 1 + 1, by omega, by go_num, K0, HW, HB⟩
          case measure => simp [intOf]; omega
      · have q2 : (x == 2) = false := beq_eq_false_iff_ne.2 h2
        have q3 : (x != 2) = true := by rw [bne, q2]; rfl
        clear h2
        go_wp2_with fail
        go_roundw
        case rel => exact ⟨k + 1, by omega, by go_num, K0, HW, HB⟩
        case measure => simp [intOf]; omega
    · obtain rfl : k = ts.length := by omega
      have c1 := K0.out.cell 1
      go_wp2_with fail
      go_ret
      exact ⟨rfl, HB.out⟩
end Go.Proofs.Ytgoafobhhmeppaa
