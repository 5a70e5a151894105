/- Row of the reference. -/
import Derived.Test.YtgoafobhhmeppaaGreatK3
namespace Go.Proofs.YtgoafobhhmeppaaGreat
open Go.RowKit
theorem reads_ints {w : World} {A : Option Addr} {xs : List Int} (h : IntsO w A xs) : Reads w w.heap.size 1 A xs.length (xs.map (Value.int .i64)) :=
  ⟨by simp, fun hn => by
    obtain ⟨g, rfl, hg, _⟩ := h 0 xs[0] (List.getElem?_eq_getElem hn)
    refine ⟨⟨g, 0, none⟩, rfl, hg, fun j u hu => ?_⟩
    rw [List.getElem?_map] at hu
    cases hx : xs[j]? with
    | none => rw [hx] at hu; cases hu
    | some x =>
      rw [hx] at hu
      obtain rfl := Option.some.inj hu
      obtain ⟨g', h1, _, h2⟩ := h j x hx
      obtain rfl : g = g' := by simpa using h1
      have e : (⟨g, 0, none⟩ : Addr).add j = ⟨g, j, none⟩ := by unfold Addr.add; split <;> simp_all
      rw [e]
      exact h2⟩
theorem ints_one (xs : List Int) : ∀ u ∈ xs.map (Value.int .i64), u.oneCell' = true := by
  intro u hu
  obtain ⟨x, _, rfl⟩ := List.mem_map.1 hu
  rfl
set_option maxRecDepth 100000 in
set_option maxHeartbeats 4000000 in
theorem row_any (A : Option Addr) (cap : Nat) (xs : List Int) (w : World) (hI : IntsO w A xs) (hn : xs.length ≤ 1000000) : Calls Tryz.prog 46 #[.slice A xs.length cap] w (IntsP (rowL xs) w) := by
  obtain ⟨i0, hi, hz0, hz1, hz2⟩ := info_parts info_int
  have H1 := Lib.hid (bel_alloc w (.cells #[] 3))
  have hr := ((reads_ints hI).below H1.out)
  have h1 := ints_one xs
  have hown0 : (w.alloc (.cells #[] 3)).ownsRow w.heap.size 3 1 (.slice (some ⟨w.heap.size, 0, none⟩) 0 0) 0 [] :=
    ⟨by simp, .inr ⟨w.heap.size, 0, #[], rfl, Nat.le_refl _, heap_alloc_new w _, Nat.le_refl _, by unfold maxLen; omega, rfl, rfl⟩⟩
  go_enter Tryz.func46, Tryz.ntmps46
  go_wp2_with (at_builtin; refine wpList_append_any _ rfl (.tmp 6) (.tmp 7) 37 rfl w.heap.size 3 i0 (.int .i64 0) 1 8 Tryz.underlying37 hi hz0 hz1 hz2 rfl (by decide) _ 0 [] rfl hown0 w.heap.size A xs.length cap _ rfl hr h1 (by unfold maxLen; omega) (by omega) (by simp) ?_)
  intro v' w1 hown hgrow _
  have HB1 := Lib.hid (H1.out.grown hgrow (by simp) (fun k hk => by simp [Value.ownBlock] at hk; omega))
  clear hr h1 hown0 hgrow H1 hI
  rcases Nat.eq_zero_or_pos xs.length with h0 | h0
  · obtain rfl : xs = [] := List.length_eq_zero_iff.1 h0
    have HO := Lib.hid (show OwnI w1 w.heap.size v' [] from hown)
    obtain ⟨A1, cap1, rfl, _, hcp, _⟩ := HO.out.form
    clear hown h0
    rw [show ([] : List Int).length = 0 from rfl] at *
    go_wp2_with fail
    go_loopw [4] (fun i wr => i = .int .i64 0 ∧ Hid (OwnI wr w.heap.size (.slice A1 0 cap1) []) ∧ Hid (Below w.heap.size w wr)) (fun _ _ => 0)
    case atStart => exact ⟨rfl, HO, HB1⟩
    case round =>
      clear HO HB1
      obtain ⟨rfl, HO, HB⟩ := hrel
      go_wp2_with fail
      refine bodyPost_ret (v := .slice A1 0 cap1) (by simp [results, Tryz.results46, go_sem]) rfl ⟨_, rfl, HO.out, HB.out⟩
  · obtain ⟨g, cap1, rfl, hge, hglt⟩ := hown.form h0
    have HR := Lib.hid (show ROW w1 w.heap.size g xs.length cap1 xs from hown)
    have hcp : xs.length ≤ cap1 ∧ cap1 ≤ 9223372036854775807 := by
      rcases hown.2 with ⟨h, _⟩ | ⟨g', cap', cur, h, _, _, h3, h4, _⟩
      · simp at h
      · obtain ⟨_, _, rfl⟩ : g = g' ∧ True ∧ cap1 = cap' := by simpa using h
        exact ⟨h3, h4⟩
    obtain ⟨hcp1, hcp2⟩ := hcp
    clear hown
    go_wp2_with fail
    go_loopw [4] (fun i wr => ∃ (k : Nat), k ≤ xs.length ∧ i = .int .i64 k ∧ Hid (ROW wr w.heap.size g xs.length cap1 (rowsOf (xs.take k) ++ xs.drop k)) ∧ Hid (Below w.heap.size w wr)) (fun i _ => xs.length - (intOf i).toNat)
    case atStart => exact ⟨0, by omega, rfl, HR, HB1⟩
    case round =>
      clear HR HB1
      obtain ⟨k, hk, rfl, HR, HB⟩ := hrel
      by_cases hlt : k < xs.length
      · obtain ⟨c, hx⟩ : ∃ c, xs[k]? = some c := ⟨_, List.getElem?_eq_getElem hlt⟩
        have HST := Lib.hid (show rowsOf (xs.take (k + 1)) = rowStep (rowsOf (xs.take k)) c by rw [List.take_add_one, hx]; exact rowsOf_snoc _ _)
        have HLN := Lib.hid (show (rowsOf (xs.take k)).length = k by rw [rowsOf_len]; simp; omega)
        have hdr : xs.drop k = c :: xs.drop (k + 1) := by
          rw [List.drop_eq_getElem_cons hlt, (List.getElem?_eq_some_iff.1 hx).2]
        rw [hdr] at HR
        have HDR := Lib.hid (rfl : xs.drop (k + 1) = xs.drop (k + 1))
        clear hx hdr
        generalize rowsOf (xs.take k) = acc at *
        generalize hzs : xs.drop (k + 1) = zs at *
        have HZ := Lib.hid hzs
        clear hzs HDR
        have e0 := row_cell HR.out (j := k) (x := c) (by rw [show k = acc.length from HLN.out.symm]; exact get_mid _ _ _)
        have f0 := fun j => World.ownsRow.frozenAt HR.out j
        rcases Nat.eq_zero_or_pos k with hk0 | hpos
        · subst hk0
          obtain rfl : acc = [] := List.length_eq_zero_iff.1 HLN.out
          by_cases h2 : c = 2
          · subst h2
            have HR5 := Lib.hid (row_store HR.out 0 0)
            have HB5 := Lib.hid (HB.out.setCell (p := ⟨g, 0, none⟩) hge (.int .i64 0))
            go_wp2_with fail
            go_roundw
            case rel => exact ⟨1, by omega, rfl, Lib.hid (by rw [HST.out, step_r1, HZ.out]; exact HR5.out), HB5⟩
            case measure => simp [intOf]; omega
          · have q2 : (c == 2) = false := beq_eq_false_iff_ne.2 h2
            have HS6 := Lib.hid (step_r6 h2)
            clear h2
            go_wp2_with fail
            refine (closes_any c _).mono ?_
            rintro e w5 ⟨rfl, rfl⟩
            cases closesB c
            all_goals
              go_wp2_with fail
              go_roundw
              case rel => exact ⟨1, by omega, rfl, Lib.hid (by rw [HST.out, HS6.out, HZ.out]; exact HR.out), HB⟩
              case measure => simp [intOf]; omega
        · obtain ⟨n, rfl⟩ : ∃ n, k = n + 1 := ⟨k - 1, by omega⟩
          obtain ⟨pre, l, rfl, hpre⟩ := split_last HLN.out
          have e5 : wr.cell? ⟨g, n, none⟩ = some (.int .i64 l) := row_cell HR.out (by rw [← hpre]; exact get_prev _ _ _ _)
          have HPRE := Lib.hid hpre
          have hk1 : ((n + 1 : Nat) : Int) = (n : Int) + 1 := by omega
          clear hpre hpos
          by_cases h2 : c = 2
          · subst h2
            cases hop : opensB l
            · have HS3 := Lib.hid (step_r3 (pre := pre) hop)
              have HOP := Lib.hid hop
              clear hop
              go_wp2_with fail
              refine (opens_any l _).mono ?_
              rw [HOP.out]
              rintro e w5 ⟨rfl, rfl⟩
              go_wp2_with fail
              refine (closes_any 2 _).mono ?_
              rw [closes_two]
              rintro e w5 ⟨rfl, rfl⟩
              go_wp2_with fail
              go_roundw
              case rel => exact ⟨n + 1 + 1, by omega, by go_num, Lib.hid (by rw [HST.out, HS3.out, HZ.out, List.append_assoc (pre ++ [l]), List.singleton_append]; exact HR.out), HB⟩
              case measure => simp [intOf]; omega
            · have HS2 := Lib.hid (step_r2 (pre := pre) hop)
              have HOP := Lib.hid hop
              clear hop
              have HR5 := Lib.hid (row_store HR.out (n + 1) 0)
              have hln := HLN.out
              rw [← hln, set_mid, hln] at HR5
              clear hln
              have HB5 := Lib.hid (HB.out.setCell (p := ⟨g, n + 1, none⟩) hge (.int .i64 0))
              go_wp2_with fail
              refine (opens_any l _).mono ?_
              rw [HOP.out]
              rintro e w5 ⟨rfl, rfl⟩
              go_wp2_with fail
              go_roundw
              case rel => exact ⟨n + 1 + 1, by omega, by go_num, Lib.hid (by rw [HST.out, HS2.out, HZ.out, List.append_assoc (pre ++ [l]), List.singleton_append]; exact HR5.out), HB5⟩
              case measure => simp [intOf]; omega
          · have q2 : (c == 2) = false := beq_eq_false_iff_ne.2 h2
            have HC2 := Lib.hid h2
            clear h2
            cases hcl : closesB c
            · have HCL := Lib.hid hcl
              have HS := Lib.hid (step_r7 (acc := pre ++ [l]) HC2.out hcl)
              clear hcl
              go_wp2_with fail
              refine (closes_any c _).mono ?_
              rw [HCL.out]
              rintro e w5 ⟨rfl, rfl⟩
              go_wp2_with fail
              go_roundw
              case rel => exact ⟨n + 1 + 1, by omega, by go_num, Lib.hid (by rw [HST.out, HS.out, HZ.out, List.append_assoc (pre ++ [l]), List.singleton_append]; exact HR.out), HB⟩
              case measure => simp [intOf]; omega
            · have HCL := Lib.hid hcl
              by_cases hl2 : l = 2
              · subst hl2
                have HS := Lib.hid (step_r4 (pre := pre) hcl)
                clear hcl
                have HR5 := Lib.hid (row_store HR.out n 0)
                have hln := HPRE.out
                rw [← hln, set_prev, hln] at HR5
                clear hln
                have HB5 := Lib.hid (HB.out.setCell (p := ⟨g, n, none⟩) hge (.int .i64 0))
                go_wp2_with fail
                refine (closes_any c _).mono ?_
                rw [HCL.out]
                rintro e w5 ⟨rfl, rfl⟩
                go_wp2_with fail
                go_roundw
                case rel => exact ⟨n + 1 + 1, by omega, by go_num, Lib.hid (by rw [HST.out, HS.out, HZ.out, List.append_assoc (pre ++ [0]), List.singleton_append]; exact HR5.out), HB5⟩
                case measure => simp [intOf]; omega
              · have ql : (l == 2) = false := beq_eq_false_iff_ne.2 hl2
                have HS := Lib.hid (step_r5 (pre := pre) HC2.out hl2)
                clear hl2 hcl
                go_wp2_with fail
                refine (closes_any c _).mono ?_
                rw [HCL.out]
                rintro e w5 ⟨rfl, rfl⟩
                go_wp2_with fail
                go_roundw
                case rel => exact ⟨n + 1 + 1, by omega, by go_num, Lib.hid (by rw [HST.out, HS.out, HZ.out, List.append_assoc (pre ++ [l]), List.singleton_append]; exact HR.out), HB⟩
                case measure => simp [intOf]; omega
      · obtain rfl : k = xs.length := by omega
        rw [List.take_length, List.drop_length, List.append_nil] at HR
        have HQ := Lib.hid (show rowL xs = lastStep (rowsOf xs) from rfl)
        have HLQ := Lib.hid (show (rowL xs).length = xs.length from rowL_len xs)
        have HLN := Lib.hid (show (rowsOf xs).length = xs.length from rowsOf_len xs)
        generalize rowL xs = res at *
        generalize rowsOf xs = acc at *
        have f4 := fun j => World.ownsRow.frozenAt HR.out j
        obtain ⟨n, hn1⟩ : ∃ n, xs.length = n + 1 := ⟨xs.length - 1, by omega⟩
        obtain ⟨pre, l, rfl, hpre⟩ := split_last (HLN.out.trans hn1)
        have e5 : wr.cell? ⟨g, n, none⟩ = some (.int .i64 l) := row_cell HR.out (by rw [← hpre]; simp)
        have HPRE := Lib.hid hpre
        have hk1 : (xs.length : Int) - 1 = (n : Int) := by omega
        have hk2 : IntKind.i64.wrap ((xs.length : Int) - 1) = (n : Int) := by rw [hk1]; exact IntWalk.i64_in _ (by omega)
        have hk3 : n < xs.length := by omega
        have H1 := Lib.hid hn1
        clear hpre h0 hn1
        by_cases hl2 : l = 2
        · subst hl2
          have HR5 := Lib.hid (row_store HR.out n 0)
          have HB5 := Lib.hid (HB.out.setCell (p := ⟨g, n, none⟩) hge (.int .i64 0))
          have HQ2 := Lib.hid (show (pre ++ [2]).set n 0 = res by rw [HQ.out, ← HPRE.out, last_r1, List.set_append_right _ _ (Nat.le_refl _)]; simp)
          rw [HQ2.out] at HR5
          go_wp2_with fail
          refine bodyPost_ret (v := .slice (some ⟨g, 0, none⟩) xs.length cap1) (by simp [results, Tryz.results46, go_sem]) rfl ⟨_, rfl, ?_, HB5.out⟩
          unfold OwnI
          rw [HLQ.out]
          exact HR5.out
        · have ql : (l == 2) = false := beq_eq_false_iff_ne.2 hl2
          have HQ2 := Lib.hid (show pre ++ [l] = res by rw [HQ.out, last_r2 hl2])
          rw [HQ2.out] at HR
          clear hl2
          go_wp2_with fail
          refine bodyPost_ret (v := .slice (some ⟨g, 0, none⟩) xs.length cap1) (by simp [results, Tryz.results46, go_sem]) rfl ⟨_, rfl, ?_, HB.out⟩
          unfold OwnI
          rw [HLQ.out]
          exact HR.out
end Go.Proofs.YtgoafobhhmeppaaGreat
