/- Classes of the items of a row: the program's classes, the reference's Row. -/
import Derived.Test.YtgoafobhhmeppaaGreatK1
import Derived.Test.YtgoafobhhmeppaaGreatAS
import Derived.OwnWalk
namespace Go.Proofs.YtgoafobhhmeppaaGreat
open Go.RowKit
theorem info_int : (Tryz.prog.info? 3).map (fun i => (i.zero, i.size, i.bytes)) = some (some (.int .i64 0), 1, 8) := by kernel_rfl
theorem made_ints (n : Nat) : (madeCells #[Value.int .i64 0] n).toList = (List.replicate n (0 : Int)).map (Value.int .i64) := by
  rw [List.map_replicate]
  unfold madeCells
  rw [Array.toList_map]
  refine List.ext_getElem (by simp) fun i h1 h2 => ?_
  simp [Nat.mod_one]
abbrev ROW (w : World) (B g n cap : Nat) (xs : List Int) : Prop := w.ownsRow B 3 1 (.slice (some ⟨g, 0, none⟩) n cap) n (xs.map (Value.int .i64))
theorem row_store {w : World} {B g n cap : Nat} {xs : List Int} (h : ROW w B g n cap xs) (j : Nat) (u : Int) : ROW (w.setCell ⟨g, j, none⟩ (.int .i64 u)) B g n cap (xs.set j u) := by
  have := (h.stored j (.int .i64 u)).1
  unfold ROW
  rw [List.map_set]
  exact this
theorem row_len {w : World} {B g n cap : Nat} {xs : List Int} (h : ROW w B g n cap xs) : xs.length = n := by
  have := h.1
  simpa using this
theorem row_cell {w : World} {B g n cap : Nat} {xs : List Int} (h : ROW w B g n cap xs) {j : Nat} {x : Int} (hx : xs[j]? = some x) : w.cell? ⟨g, j, none⟩ = some (.int .i64 x) := by
  have hl := row_len h
  have hj := (List.getElem?_eq_some_iff.1 hx).1
  have := h.cellAt j (by omega)
  rw [this, List.getElem?_map, hx]
  rfl
theorem row_keep {w w' : World} {B g n cap : Nat} {xs : List Int} (h : ROW w B g n cap xs) (hb : Below w.heap.size w w') : ROW w' B g n cap xs := own_below h hb
theorem row_lo {w : World} {B g n cap : Nat} {xs : List Int} (h : ROW w B g n cap xs) : B ≤ g ∧ g < w.heap.size := World.ownsRow.lt h g rfl
theorem set_mid (acc : List Int) (x c : Int) (zs : List Int) : (acc ++ x :: zs).set acc.length c = acc ++ c :: zs := by
  rw [List.set_append_right _ _ (Nat.le_refl _)]
  simp
theorem set_prev (pre : List Int) (l c d : Int) (zs : List Int) : (pre ++ [l] ++ c :: zs).set pre.length d = pre ++ [d] ++ c :: zs := by
  rw [List.append_assoc, List.set_append_right _ _ (Nat.le_refl _)]
  simp
theorem get_mid (acc : List Int) (c : Int) (zs : List Int) : (acc ++ c :: zs)[acc.length]? = some c := by simp
theorem get_prev (pre : List Int) (l c : Int) (zs : List Int) : (pre ++ [l] ++ c :: zs)[pre.length]? = some l := by simp
theorem step_r1 : rowStep [] 2 = [0] := rfl
theorem step_r2 {pre : List Int} {l : Int} (h : opensB l = true) : rowStep (pre ++ [l]) 2 = pre ++ [l] ++ [0] := by
  unfold rowStep; rw [if_pos ⟨rfl, .inr (by simpa using h)⟩]
theorem step_r3 {pre : List Int} {l : Int} (h : opensB l = false) : rowStep (pre ++ [l]) 2 = pre ++ [l] ++ [2] := by
  unfold rowStep
  rw [if_neg (by rintro ⟨_, h1 | h1⟩; simp at h1; rw [List.getLast?_append] at h1; simp [h] at h1), if_neg (by rintro ⟨h1, _⟩; simp [closesB] at h1)]
theorem step_r4 {pre : List Int} {c : Int} (h : closesB c = true) : rowStep (pre ++ [2]) c = pre ++ [0] ++ [c] := by
  unfold rowStep
  have h2 : c ≠ 2 := fun e => by rw [e, closes_two] at h; cases h
  rw [if_neg (fun e => h2 e.1), if_pos ⟨h, by simp⟩]
  simp
theorem step_r5 {pre : List Int} {l c : Int} (h2 : c ≠ 2) (h : l ≠ 2) : rowStep (pre ++ [l]) c = pre ++ [l] ++ [c] := by
  unfold rowStep
  rw [if_neg (fun e => h2 e.1), if_neg (by rintro ⟨_, e⟩; simp at e; exact h e)]
theorem step_r6 {c : Int} (h2 : c ≠ 2) : rowStep [] c = [c] := by
  unfold rowStep
  rw [if_neg (fun e => h2 e.1), if_neg (by rintro ⟨_, e⟩; simp at e)]
  rfl
theorem step_r7 {acc : List Int} {c : Int} (h2 : c ≠ 2) (h : closesB c = false) : rowStep acc c = acc ++ [c] := by
  unfold rowStep
  rw [if_neg (fun e => h2 e.1), if_neg (by rintro ⟨e, _⟩; rw [h] at e; cases e)]
theorem last_r1 (pre : List Int) : lastStep (pre ++ [2]) = pre ++ [0] := by unfold lastStep; simp
theorem last_r2 {pre : List Int} {l : Int} (h : l ≠ 2) : lastStep (pre ++ [l]) = pre ++ [l] := by unfold lastStep; rw [if_neg (by simp; exact h)]
theorem split_last {acc : List Int} {m : Nat} (h : acc.length = m + 1) : ∃ pre l, acc = pre ++ [l] ∧ pre.length = m := by
  have hne : acc ≠ [] := fun e => by rw [e] at h; simp at h
  exact ⟨acc.dropLast, acc.getLast hne, (List.dropLast_concat_getLast hne).symm, by simp [h]⟩
set_option maxRecDepth 100000 in
set_option maxHeartbeats 4000000 in
theorem aclasses_any (A A2 : Option Addr) (cap cap2 : Nat) (es : List Ent) (ts : List Tre) (w : World) (hn : es.length ≤ 1000000) (ht : ts.length ≤ 1000000) (hE : EntsAt w A es) (hK : KidsAt w A2 ts) : Calls Tryz.prog 21 #[.slice A es.length cap, .slice A2 ts.length cap2] w (IntsP (rowL (ts.map (classT es))) w) := by
  obtain ⟨i0, hi, hz0, hz1, hz2⟩ := info_parts info_int
  have HE := Lib.hid hE
  have HK := Lib.hid hK
  clear hE hK
  go_enter Tryz.func21, Tryz.ntmps21
  go_wp2_with (refine wpList_make_full _ rfl _ _ 37 rfl w.heap.size 3 i0 (.int .i64 0) 1 Tryz.underlying37 hi hz0 hz1 _ _ _ _ ts.length rfl rfl rfl rfl (by rw [hz2]; omega) (by unfold maxLen; omega) (Nat.le_refl _) ?_)
  intro w1 hown hgrow
  have H0 := Lib.hid ((Below.refl w.heap.size w).grown hgrow (Nat.le_refl _) (fun k hk => by cases hk))
  have HR := Lib.hid (show ROW w1 w.heap.size w.heap.size ts.length ts.length (List.replicate ts.length 0) by
    unfold ROW
    rw [show (List.replicate ts.length (0 : Int)).map (Value.int .i64) = (madeCells #[Value.int .i64 0] ts.length).toList from (made_ints _).symm]
    exact hown)
  clear hown hgrow
  go_wp2_with fail
  go_loopw [14] (fun i wr => ∃ (k : Nat), k ≤ ts.length ∧ i = .int .i64 k ∧ Hid (ROW wr w.heap.size w.heap.size ts.length ts.length (rowsOf ((ts.map (classT es)).take k) ++ List.replicate (ts.length - k) 0)) ∧ Hid (Below w.heap.size w wr)) (fun i _ => ts.length - (intOf i).toNat)
  case atStart => exact ⟨0, by omega, rfl, HR, H0⟩
  case round =>
    clear HR H0
    obtain ⟨k, hk, rfl, HR, HB⟩ := hrel
    by_cases hlt : k < ts.length
    · obtain ⟨t, hx⟩ : ∃ t, ts[k]? = some t := ⟨_, List.getElem?_eq_getElem hlt⟩
      obtain ⟨ad, A3, cap3, rfl, hadl, hs3, hl3, hc3, hk3, hN3, d0, d1, d2, d3⟩ := (HK.out.keep HB.out).at_ hx
      have HST := Lib.hid (show rowsOf ((ts.map (classT es)).take (k + 1)) = rowStep (rowsOf ((ts.map (classT es)).take k)) (classT es t) by rw [List.take_add_one, List.getElem?_map, hx]; exact rowsOf_snoc _ _)
      have HLN := Lib.hid (show (rowsOf ((ts.map (classT es)).take k)).length = k by rw [rowsOf_len]; simp; omega)
      obtain ⟨m, hm⟩ : ∃ m, ts.length - k = m + 1 := ⟨ts.length - k - 1, by omega⟩
      have hm2 : ts.length - (k + 1) = m := by omega
      have HM2 := Lib.hid hm2
      rw [hm, List.replicate_succ] at HR
      have HN3 := Lib.hid hN3
      clear hx hk3 hN3 hm hm2
      generalize rowsOf ((ts.map (classT es)).take k) = acc at *
      go_wp2_with fail
      have H2 := Lib.hid (bel_alloc wr (.cells (nodC t.kind t.text t.cols A3 t.kids.length cap3) 46))
      have HB2 := Lib.hid (HB.out.alloc HB.out.size (.cells (nodC t.kind t.text t.cols A3 t.kids.length cap3) 46))
      have HR2 := Lib.hid (row_keep HR.out H2.out)
      have HN2 := Lib.hid (HN3.out.keep H2.out)
      have HE2 := Lib.hid (HE.out.keep HB2.out)
      dsimp only [nodC] at H2 HB2 HR2 HN2 HE2
      generalize hg : wr.heap.size = gx at *
      have HG := Lib.hid hg
      clear hg d0 d1 d2 d3 H2 HR HB HN3
      generalize wr.alloc (.cells #[.int .i64 t.kind, .string t.text, .int .i64 t.cols, .slice A3 t.kids.length cap3] 46) = w2 at *
      refine (aclass_any A cap es t _ w2 hn HE2.out HN2.out).mono ?_
      rintro e w3 ⟨rfl, hb⟩
      have HR := Lib.hid (row_keep HR2.out hb)
      have HB := Lib.hid (HB2.out.trans (hb.mono HB2.out.size))
      clear hb HR2 HB2 HN2 HE2
      generalize classT es t = c at *
      have hlen := HLN.out
      have e0 := row_cell HR.out (j := k) (x := 0) (by rw [← hlen]; exact get_mid _ _ _)
      have f0 := fun j => World.ownsRow.frozenAt HR.out j
      have HR4 := Lib.hid (row_store HR.out k c)
      rw [← hlen, set_mid, hlen] at HR4
      have HB4 := Lib.hid (HB.out.setCell (p := ⟨w.heap.size, k, none⟩) (Nat.le_refl _) (.int .i64 c))
      clear hlen
      clear HR HB
      have e4 : (w3.setCell ⟨w.heap.size, k, none⟩ (.int .i64 c)).cell? ⟨w.heap.size, k, none⟩ = some (.int .i64 c) := row_cell HR4.out (by rw [show k = acc.length from HLN.out.symm]; exact get_mid _ _ _)
      have f4 := fun j => World.ownsRow.frozenAt HR4.out j
      rcases Nat.eq_zero_or_pos k with hk0 | hpos
      · subst hk0
        obtain rfl : acc = [] := List.length_eq_zero_iff.1 HLN.out
        by_cases h2 : c = 2
        · subst h2
          have HR5 := Lib.hid (row_store HR4.out 0 0)
          have HB5 := Lib.hid (HB4.out.setCell (p := ⟨w.heap.size, 0, none⟩) (Nat.le_refl _) (.int .i64 0))
          go_wp2_with fail
          go_roundw
          case rel => exact ⟨1, by omega, rfl, Lib.hid (by rw [HST.out, step_r1, HM2.out]; exact HR5.out), HB5⟩
          case measure => simp [intOf]; omega
        · have q2 : (c == 2) = false := beq_eq_false_iff_ne.2 h2
          have HS6 := Lib.hid (step_r6 h2)
          clear h2
          cases q3 : (c == 3)
          · cases q5 : (c == 5)
            · cases q6 : (c == 6)
              all_goals
                go_wp2_with fail
                go_roundw
                case rel => exact ⟨1, by omega, rfl, Lib.hid (by rw [HST.out, HS6.out, HM2.out]; exact HR4.out), HB4⟩
                case measure => simp [intOf]; omega
            · go_wp2_with fail
              go_roundw
              case rel => exact ⟨1, by omega, rfl, Lib.hid (by rw [HST.out, HS6.out, HM2.out]; exact HR4.out), HB4⟩
              case measure => simp [intOf]; omega
          · go_wp2_with fail
            go_roundw
            case rel => exact ⟨1, by omega, rfl, Lib.hid (by rw [HST.out, HS6.out, HM2.out]; exact HR4.out), HB4⟩
            case measure => simp [intOf]; omega
      · obtain ⟨n, rfl⟩ : ∃ n, k = n + 1 := ⟨k - 1, by omega⟩
        obtain ⟨pre, l, rfl, hpre⟩ := split_last HLN.out
        have e5 : (w3.setCell ⟨w.heap.size, n + 1, none⟩ (.int .i64 c)).cell? ⟨w.heap.size, n, none⟩ = some (.int .i64 l) := row_cell HR4.out (by rw [← hpre]; exact get_prev _ _ _ _)
        have HPRE := Lib.hid hpre
        have hk1 : ((n + 1 : Nat) : Int) = (n : Int) + 1 := by omega
        clear hpre hpos
        by_cases h2 : c = 2
        · subst h2
          cases hop : opensB l
          · have HS3 := Lib.hid (step_r3 (pre := pre) hop)
            have HOP := Lib.hid hop
            clear hop
            go_wp2_with fail
            refine (before_any l _).mono ?_
            rw [HOP.out]
            rintro e w5 ⟨rfl, rfl⟩
            go_wp2_with fail
            go_roundw
            case rel => exact ⟨n + 1 + 1, by omega, by go_num, Lib.hid (by rw [HST.out, HS3.out, HM2.out, List.append_assoc, List.singleton_append]; exact HR4.out), HB4⟩
            case measure => simp [intOf]; omega
          · have HS2 := Lib.hid (step_r2 (pre := pre) hop)
            have HOP := Lib.hid hop
            clear hop
            have HR5 := Lib.hid (row_store HR4.out (n + 1) 0)
            have hln := HLN.out
            rw [← hln, set_mid, hln] at HR5
            clear hln
            have HB5 := Lib.hid (HB4.out.setCell (p := ⟨w.heap.size, n + 1, none⟩) (Nat.le_refl _) (.int .i64 0))
            go_wp2_with fail
            refine (before_any l _).mono ?_
            rw [HOP.out]
            rintro e w5 ⟨rfl, rfl⟩
            go_wp2_with fail
            go_roundw
            case rel => exact ⟨n + 1 + 1, by omega, by go_num, Lib.hid (by rw [HST.out, HS2.out, HM2.out, List.append_assoc, List.singleton_append]; exact HR5.out), HB5⟩
            case measure => simp [intOf]; omega
        · have q2 : (c == 2) = false := beq_eq_false_iff_ne.2 h2
          have HC2 := Lib.hid h2
          clear h2
          have HCE := Lib.hid (closes_eq c)
          by_cases hl2 : l = 2
          · subst hl2
            have HR5 := Lib.hid (row_store HR4.out n 0)
            have hln := HPRE.out
            rw [← hln, set_prev, hln] at HR5
            clear hln
            have HB5 := Lib.hid (HB4.out.setCell (p := ⟨w.heap.size, n, none⟩) (Nat.le_refl _) (.int .i64 0))
            cases q3 : (c == 3)
            · cases q5 : (c == 5)
              · cases q6 : (c == 6)
                · rw [q3, q5, q6] at HCE
                  have HS := Lib.hid (step_r7 (acc := pre ++ [2]) HC2.out HCE.out)
                  go_wp2_with fail
                  go_roundw
                  case rel => exact ⟨n + 1 + 1, by omega, by go_num, Lib.hid (by rw [HST.out, HS.out, HM2.out, List.append_assoc (pre ++ [2]), List.singleton_append]; exact HR4.out), HB4⟩
                  case measure => simp [intOf]; omega
                · rw [q3, q5, q6] at HCE
                  have HS := Lib.hid (step_r4 (pre := pre) HCE.out)
                  go_wp2_with fail
                  go_roundw
                  case rel => exact ⟨n + 1 + 1, by omega, by go_num, Lib.hid (by rw [HST.out, HS.out, HM2.out, List.append_assoc (pre ++ [0]), List.singleton_append]; exact HR5.out), HB5⟩
                  case measure => simp [intOf]; omega
              · rw [q3, q5] at HCE
                have HS := Lib.hid (step_r4 (pre := pre) HCE.out)
                go_wp2_with fail
                go_roundw
                case rel => exact ⟨n + 1 + 1, by omega, by go_num, Lib.hid (by rw [HST.out, HS.out, HM2.out, List.append_assoc (pre ++ [0]), List.singleton_append]; exact HR5.out), HB5⟩
                case measure => simp [intOf]; omega
            · rw [q3] at HCE
              have HS := Lib.hid (step_r4 (pre := pre) HCE.out)
              go_wp2_with fail
              go_roundw
              case rel => exact ⟨n + 1 + 1, by omega, by go_num, Lib.hid (by rw [HST.out, HS.out, HM2.out, List.append_assoc (pre ++ [0]), List.singleton_append]; exact HR5.out), HB5⟩
              case measure => simp [intOf]; omega
          · have ql : (l == 2) = false := beq_eq_false_iff_ne.2 hl2
            have HS := Lib.hid (step_r5 (pre := pre) HC2.out hl2)
            clear hl2
            cases q3 : (c == 3)
            · cases q5 : (c == 5)
              · cases q6 : (c == 6)
                all_goals
                  go_wp2_with fail
                  go_roundw
                  case rel => exact ⟨n + 1 + 1, by omega, by go_num, Lib.hid (by rw [HST.out, HS.out, HM2.out, List.append_assoc (pre ++ [l]), List.singleton_append]; exact HR4.out), HB4⟩
                  case measure => simp [intOf]; omega
              · go_wp2_with fail
                go_roundw
                case rel => exact ⟨n + 1 + 1, by omega, by go_num, Lib.hid (by rw [HST.out, HS.out, HM2.out, List.append_assoc (pre ++ [l]), List.singleton_append]; exact HR4.out), HB4⟩
                case measure => simp [intOf]; omega
            · go_wp2_with fail
              go_roundw
              case rel => exact ⟨n + 1 + 1, by omega, by go_num, Lib.hid (by rw [HST.out, HS.out, HM2.out, List.append_assoc (pre ++ [l]), List.singleton_append]; exact HR4.out), HB4⟩
              case measure => simp [intOf]; omega
    · obtain rfl : k = ts.length := by omega
      have HOW := Lib.hid (show (ts.map (classT es)).take ts.length = ts.map (classT es) from List.take_of_length_le (by simp))
      rw [HOW.out, Nat.sub_self, List.replicate_zero, List.append_nil] at HR
      have HQ := Lib.hid (show rowL (ts.map (classT es)) = lastStep (rowsOf (ts.map (classT es))) from rfl)
      have HLQ := Lib.hid (show (rowL (ts.map (classT es))).length = ts.length by rw [rowL_len]; simp)
      have HLN := Lib.hid (show (rowsOf (ts.map (classT es))).length = ts.length by rw [rowsOf_len]; simp)
      generalize rowL (ts.map (classT es)) = res at *
      generalize rowsOf (ts.map (classT es)) = acc at *
      have f4 := fun j => World.ownsRow.frozenAt HR.out j
      rcases Nat.eq_zero_or_pos ts.length with h0 | h0
      · have HR0 := Lib.hid (show ROW wr w.heap.size w.heap.size ts.length ts.length res by
          rw [HQ.out]
          obtain rfl : acc = [] := List.length_eq_zero_iff.1 (HLN.out.trans h0)
          exact HR.out)
        have hneg : ¬ (0 : Int) ≤ (ts.length : Int) - 1 := by omega
        have hneg2 : ¬ (1 : Int) ≤ (ts.length : Int) := by omega
        have H0 := Lib.hid h0
        clear h0
        go_wp2_with fail
        refine bodyPost_ret (v := .slice (some ⟨w.heap.size, 0, none⟩) ts.length ts.length) (by simp [results, Tryz.results21, go_sem]) rfl ⟨_, rfl, ?_, HB.out⟩
        unfold OwnI
        rw [HLQ.out]
        exact HR0.out
      · obtain ⟨n, hn1⟩ : ∃ n, ts.length = n + 1 := ⟨ts.length - 1, by omega⟩
        obtain ⟨pre, l, rfl, hpre⟩ := split_last (HLN.out.trans hn1)
        have e5 : wr.cell? ⟨w.heap.size, n, none⟩ = some (.int .i64 l) := row_cell HR.out (by rw [← hpre]; simp)
        have HPRE := Lib.hid hpre
        have hk1 : (ts.length : Int) - 1 = (n : Int) := by omega
        have hk2 : IntKind.i64.wrap ((ts.length : Int) - 1) = (n : Int) := by rw [hk1]; exact IntWalk.i64_in _ (by omega)
        have hk3 : n < ts.length := by omega
        have H1 := Lib.hid hn1
        clear hpre h0 hn1
        by_cases hl2 : l = 2
        · subst hl2
          have HR5 := Lib.hid (row_store HR.out n 0)
          have HB5 := Lib.hid (HB.out.setCell (p := ⟨w.heap.size, n, none⟩) (Nat.le_refl _) (.int .i64 0))
          have HQ2 := Lib.hid (show (pre ++ [2]).set n 0 = res by rw [HQ.out, ← HPRE.out, last_r1, List.set_append_right _ _ (Nat.le_refl _)]; simp)
          rw [HQ2.out] at HR5
          go_wp2_with fail
          refine bodyPost_ret (v := .slice (some ⟨w.heap.size, 0, none⟩) ts.length ts.length) (by simp [results, Tryz.results21, go_sem]) rfl ⟨_, rfl, ?_, HB5.out⟩
          unfold OwnI
          rw [HLQ.out]
          exact HR5.out
        · have ql : (l == 2) = false := beq_eq_false_iff_ne.2 hl2
          have HQ2 := Lib.hid (show pre ++ [l] = res by rw [HQ.out, last_r2 hl2])
          rw [HQ2.out] at HR
          clear hl2
          go_wp2_with fail
          refine bodyPost_ret (v := .slice (some ⟨w.heap.size, 0, none⟩) ts.length ts.length) (by simp [results, Tryz.results21, go_sem]) rfl ⟨_, rfl, ?_, HB.out⟩
          unfold OwnI
          rw [HLQ.out]
          exact HR.out
end Go.Proofs.YtgoafobhhmeppaaGreat
