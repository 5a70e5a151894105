/- SR, FT in one text. -/
import Derived.Test.YtgoafobhhmeppaaGreatL3
import Derived.Test.YtgoafobhhmeppaaGreatFS
import Derived.Test.YtgoafobhhmeppaaGreatFW
namespace Go.Proofs.YtgoafobhhmeppaaGreat
section
open Go.RowKit
theorem gives_row_ext {P : Program} {w : World} {F : Act} {o : Oper} {R : Value → World → Prop} (ty : TypeId) (x : Operand) (ho : o.op = .load ty x)
    (g : Nat) (hx : F.eval x = .pointer (some ⟨g, 0, none⟩)) (t : TypeId) (cs : Array Value) (fr : Nat × Nat) (d : TypeDesc) (hg : w.heap[g]? = some (.cells cs t fr))
    (hu : P.underlying ty = some d) (hd : (match d with | .struct _ | .array _ _ => true | _ => false) = true) (hi : (P.info? ty).map (·.size) = some cs.size)
    (h : R (.agg cs) w) : Gives P (execOp F.eval o) w R := by
  refine Gives.value (v := .agg cs) (w' := w) ?_ h
  unfold execOp
  simp only [ho, hx, Instr.loadAt, Instr.sureAddr, Sem.run_bind, Sem.run_pure, Result.andThen_ok, run_loadVar_row w g t ty cs fr d hg hu hd hi]
theorem rnd_eq {a b : Int} (hb : 1 ≤ b) : (2 * a + b) / (2 * b) = rndP a b := by
  have h := Int.mul_ediv_add_emod a b
  have r0 : 0 ≤ a % b := Int.emod_nonneg _ (by omega)
  have r1 : a % b < b := Int.emod_lt_of_pos _ (by omega)
  unfold rndP
  have e : 2 * a + b = (2 * (a % b) + b) + (2 * b) * (a / b) := by
    have : (2 * b) * (a / b) = 2 * (b * (a / b)) := Int.mul_assoc _ _ _
    omega
  rw [e, Int.add_mul_ediv_left _ _ (by omega)]
  generalize a / b = q at *
  generalize a % b = r at *
  split
  · rw [show 2 * r + b = (2 * r - b) + (2 * b) * 1 by omega, Int.add_mul_ediv_left _ _ (by omega), Int.ediv_eq_zero_of_lt (by omega) (by omega)]
    omega
  · rw [Int.ediv_eq_zero_of_lt (by omega) (by omega)]
    omega
set_option maxHeartbeats 400000 in
theorem rsize01_any (n : Int) (w : World) (h0 : 0 ≤ n) (h1 : n ≤ 4611686018427387904) : Calls Tryz.prog 82 #[.int .i64 n] w fun e w' => e = .returned (.int .i64 n) ∧ w = w' := by
  have hn : ¬ n < 0 := by omega
  go_enter Tryz.func82, Tryz.ntmps82
  go_wp2_with fail
  go_ret
  exact ⟨rfl, rfl⟩
set_option maxHeartbeats 400000 in
theorem rvalid01_any (n : Int) (w : World) (h0 : -1073741824 ≤ n) (h1 : n ≤ 1073741824) : Calls Tryz.prog 69 #[.int .i64 n] w fun e w' => e = .returned (.bool true) ∧ w = w' := by
  go_enter Tryz.func69, Tryz.ntmps69
  go_wp2_with fail
  go_ret
  exact ⟨rfl, rfl⟩
set_option maxHeartbeats 800000 in
theorem rround_any (a b : Int) (w : World) (ha : 0 ≤ a) (ha1 : a ≤ 2305843009213693951) (hb : 1 ≤ b) (hb1 : b ≤ 1000000) : Calls Tryz.prog 70 #[.int .i64 a, .int .i64 b] w fun e w' => e = .returned (.int .i64 (rndP a b)) ∧ w = w' := by
  have HQ := Lib.hid (rnd_eq (a := a) hb)
  have h1 : 0 ≤ (2 * a + b) / (2 * b) := Int.ediv_nonneg (by omega) (by omega)
  have h2 : (2 * a + b) / (2 * b) ≤ 2 * a + b := Int.ediv_le_self _ (by omega)
  have na : ¬ a < 0 := by omega
  have nb : ¬ b < 0 := by omega
  have hq : (decide (a < 0) == decide (b < 0)) = true := by rw [decide_eq_false na, decide_eq_false nb]; rfl
  have nz : (2 * b == 0) = false := by rw [beq_eq_false_iff_ne]; omega
  go_enter Tryz.func70, Tryz.ntmps70
  go_wp2_with fail
  refine (rsize01_any a w ha (by omega)).mono ?_
  rintro e w2 ⟨rfl, rfl⟩
  go_wp2_with fail
  refine (rsize01_any b w (by omega) (by omega)).mono ?_
  rintro e w2 ⟨rfl, rfl⟩
  go_wp2_with fail
  refine (rsize01_any b w (by omega) (by omega)).mono ?_
  rintro e w2 ⟨rfl, rfl⟩
  go_wp2_with fail
  go_ret
  exact ⟨ret_int HQ.out, rfl⟩
set_option maxHeartbeats 400000 in
theorem rscale01_any (n p : Int) (w : World) (h0 : 0 ≤ n) (h1 : n ≤ 1073741824) (p0 : 0 ≤ p) (p1 : p ≤ 10000) : Calls Tryz.prog 52 #[.int .i64 n, .int .i64 p] w fun e w' => e = .returned (.int .i64 (rndP (n * p) 100)) ∧ w = w' := by
  have m0 : 0 ≤ n * p := Int.mul_nonneg h0 p0
  have m1 : n * p ≤ 1073741824 * 10000 := Int.mul_le_mul h1 p1 p0 (by omega)
  have HW := Lib.hid (show IntKind.i64.wrap (n * p) = n * p from IntWalk.i64_in _ (by omega))
  go_enter Tryz.func52, Tryz.ntmps52
  go_wp2_with fail
  refine (rvalid01_any n _ (by omega) (by omega)).mono ?_
  rintro e w1 ⟨rfl, rfl⟩
  have hw := HW.out
  go_wp2_with fail
  refine (rround_any (n * p) 100 _ m0 (by omega) (by omega) (by omega)).mono ?_
  rintro e w1 ⟨rfl, rfl⟩
  go_wp2_with fail
  go_ret
  exact ⟨rfl, rfl⟩
set_option maxHeartbeats 400000 in
theorem rmuldiv01_any (n a : Int) (w : World) (h0 : 0 ≤ n) (h1 : n ≤ 1073741824) (a0 : 0 ≤ a) (a1 : a ≤ 1000) : Calls Tryz.prog 51 #[.int .i64 n, .int .i64 a, .int .i64 18] w fun e w' => e = .returned (.int .i64 (rndP (n * a) 18)) ∧ w = w' := by
  have m0 : 0 ≤ n * a := Int.mul_nonneg h0 a0
  have m1 : n * a ≤ 1073741824 * 1000 := Int.mul_le_mul h1 a1 a0 (by omega)
  have HW := Lib.hid (show IntKind.i64.wrap (n * a) = n * a from IntWalk.i64_in _ (by omega))
  go_enter Tryz.func51, Tryz.ntmps51
  go_wp2_with fail
  refine (rvalid01_any n _ (by omega) (by omega)).mono ?_
  rintro e w1 ⟨rfl, rfl⟩
  go_wp2_with fail
  refine (rvalid01_any a _ (by omega) (by omega)).mono ?_
  rintro e w1 ⟨rfl, rfl⟩
  go_wp2_with fail
  refine (rvalid01_any 18 _ (by omega) (by omega)).mono ?_
  rintro e w1 ⟨rfl, rfl⟩
  have hw := HW.out
  go_wp2_with fail
  refine (rround_any (n * a) 18 _ m0 (by omega) (by omega) (by omega)).mono ?_
  rintro e w1 ⟨rfl, rfl⟩
  go_wp2_with fail
  go_ret
  exact ⟨rfl, rfl⟩
set_option maxHeartbeats 400000 in
theorem rsvalid_any (level : Int) (cr : Bool) (w : World) : Calls Tryz.prog 25 #[.agg #[.int .i64 level, .bool cr]] w fun e w' => e = .returned (.bool (lvlB level)) ∧ Below w.heap.size w w' := by
  have HQ := Lib.hid (show lvlB level = (decide (0 ≤ level) && decide (level ≤ 3)) from rfl)
  by_cases h : 0 ≤ level
  · rw [decide_eq_true h, Bool.true_and] at HQ
    go_enter Tryz.func25, Tryz.ntmps25
    go_wp2_with fail
    go_ret
    exact ⟨ret_bool HQ.out.symm, bel_alloc _ _⟩
  · rw [decide_eq_false h, Bool.false_and] at HQ
    go_enter Tryz.func25, Tryz.ntmps25
    go_wp2_with fail
    go_ret
    exact ⟨ret_bool HQ.out.symm, bel_alloc _ _⟩
theorem tab_cell : ∀ l r : Nat, l < 8 → r < 8 → tabC[l * 8 + r]? = some (.int .i64 (tabAt l r)) := by
  intro l r hl hr
  match l, hl with
  | 0, _ => match r, hr with | 0, _ => rfl | 1, _ => rfl | 2, _ => rfl | 3, _ => rfl | 4, _ => rfl | 5, _ => rfl | 6, _ => rfl | 7, _ => rfl
  | 1, _ => match r, hr with | 0, _ => rfl | 1, _ => rfl | 2, _ => rfl | 3, _ => rfl | 4, _ => rfl | 5, _ => rfl | 6, _ => rfl | 7, _ => rfl
  | 2, _ => match r, hr with | 0, _ => rfl | 1, _ => rfl | 2, _ => rfl | 3, _ => rfl | 4, _ => rfl | 5, _ => rfl | 6, _ => rfl | 7, _ => rfl
  | 3, _ => match r, hr with | 0, _ => rfl | 1, _ => rfl | 2, _ => rfl | 3, _ => rfl | 4, _ => rfl | 5, _ => rfl | 6, _ => rfl | 7, _ => rfl
  | 4, _ => match r, hr with | 0, _ => rfl | 1, _ => rfl | 2, _ => rfl | 3, _ => rfl | 4, _ => rfl | 5, _ => rfl | 6, _ => rfl | 7, _ => rfl
  | 5, _ => match r, hr with | 0, _ => rfl | 1, _ => rfl | 2, _ => rfl | 3, _ => rfl | 4, _ => rfl | 5, _ => rfl | 6, _ => rfl | 7, _ => rfl
  | 6, _ => match r, hr with | 0, _ => rfl | 1, _ => rfl | 2, _ => rfl | 3, _ => rfl | 4, _ => rfl | 5, _ => rfl | 6, _ => rfl | 7, _ => rfl
  | 7, _ => match r, hr with | 0, _ => rfl | 1, _ => rfl | 2, _ => rfl | 3, _ => rfl | 4, _ => rfl | 5, _ => rfl | 6, _ => rfl | 7, _ => rfl
  | l + 8, h => omega
set_option maxRecDepth 100000 in
set_option maxHeartbeats 800000 in
theorem rspc_any (l r : Nat) (level : Int) (w : World) (hl : l < 8) (hr : r < 8) : Calls Tryz.prog 50 #[.int .i64 (l : Nat), .int .i64 (r : Nat), .int .i64 level] w fun e w' => e = .returned (.int .i64 (spc l r level)) ∧ Below w.heap.size w w' := by
  have HS := Lib.hid (show spc l r level = if tabAt l r < 0 then (if 1 < level then 0 else -tabAt l r) else tabAt l r from rfl)
  obtain ⟨b1, b2⟩ := tab_bd l r hl hr
  have HT := Lib.hid (tab_cell l r hl hr)
  have hli : (l : Int) < 8 := by omega
  have hri : (r : Int) < 8 := by omega
  generalize tabAt l r = t at *
  have HH := Lib.hid (bel_alloc w (.cells tabC 84))
  have K0 := Lib.hid (Blk.new w 84 tabC)
  go_enter Tryz.func50, Tryz.ntmps50
  go_upto_region 2 with (first
    | (refine wpList_build_to rfl 84 #[(0, .tmp 9), (1, .tmp 10), (2, .tmp 11), (3, .tmp 12), (4, .tmp 13), (5, .tmp 14), (6, .tmp 15), (7, .tmp 16)] rfl tabC (by kernel_rfl) ?_)
    | (refine wpList_store_row (by rfl) 84 (.tmp 7) (.tmp 17) (by rfl) w.heap.size tabC (by rfl) (by rfl) 84 _ (heap_alloc_new w _) (by kernel_rfl) (by rfl) (by kernel_rfl) ?_; rw [World.setRow_alloc_new]))
  generalize w.alloc (.cells tabC 84) = w1 at *
  have c0 : w1.cell? ⟨w.heap.size, l * 8 + r, none⟩ = some (.int .i64 t) := (K0.out.cell (l * 8 + r)).trans HT.out
  by_cases ht : t < 0
  · rw [if_pos ht] at HS
    by_cases hlv : 1 < level
    · rw [if_pos hlv] at HS
      go_wp2_with fail
      go_ret
      exact ⟨ret_int HS.out.symm, HH.out⟩
    · rw [if_neg hlv] at HS
      go_wp2_with fail
      go_ret
      exact ⟨ret_int (by rw [HS.out]; omega), HH.out⟩
  · rw [if_neg ht] at HS
    go_wp2_with fail
    go_ret
    exact ⟨ret_int (by rw [HS.out]; omega), HH.out⟩
theorem pctV_at {level s1 s2 : Int} (h0 : 0 ≤ level) (h3 : level ≤ 3) : (level = 0 ∧ pctV level s1 s2 = 100) ∨ (level = 1 ∧ pctV level s1 s2 = 100) ∨ (level = 2 ∧ pctV level s1 s2 = s1) ∨ (level = 3 ∧ pctV level s1 s2 = s2) := by
  unfold pctV
  by_cases e0 : level = 0
  · exact .inl ⟨e0, by rw [if_neg (by omega), if_neg (by omega)]⟩
  · by_cases e1 : level = 1
    · exact .inr (.inl ⟨e1, by rw [if_neg (by omega), if_neg (by omega)]⟩)
    · by_cases e2 : level = 2
      · exact .inr (.inr (.inl ⟨e2, by rw [if_pos e2]⟩))
      · exact .inr (.inr (.inr ⟨by omega, by rw [if_neg e2, if_pos (by omega)]⟩))
set_option maxRecDepth 100000 in
set_option maxHeartbeats 800000 in
theorem rsize25_any (cs : Array Value) (b : Bool) (q s1 s2 : Int) (FA : World → Prop) (F : FontIs cs b q s1 s2 FA) (level : Int) (cr : Bool) (w : World) (hlv : lvlB level = true) : Calls Tryz.prog 53 #[.agg cs, .agg #[.int .i64 level, .bool cr]] w fun e w' => e = .returned (.int .i64 (pctV level s1 s2)) ∧ Below w.heap.size w w' := by
  have HF := Lib.hid F
  have HL := Lib.hid hlv
  have K0 := Lib.hid ((Blk.new w 27 cs).alloc (.cells #[.int .i64 level, .bool cr] 33))
  have K1 := Lib.hid (Blk.new (w.alloc (.cells cs 27)) 33 #[.int .i64 level, .bool cr])
  have H0 := Lib.hid ((bel_alloc w (.cells cs 27)).alloc (by simp) (.cells #[.int .i64 level, .bool cr] 33))
  rw [show (w.alloc (.cells cs 27)).heap.size = w.heap.size + 1 by simp] at K1
  clear F hlv
  go_enter Tryz.func53, Tryz.ntmps53
  go_wp2_with fail
  generalize (w.alloc (.cells cs 27)).alloc (.cells #[.int .i64 level, .bool cr] 33) = w1 at *
  refine (rsvalid_any level cr w1).mono ?_
  rintro e w2 ⟨rfl, hb⟩
  have K0 := Lib.hid (keep hb K0.out)
  have K1 := Lib.hid (keep hb K1.out)
  have H0 := Lib.hid (H0.out.trans (hb.mono H0.out.size))
  clear hb
  rw [HL.out]
  have c0 := K1.out.cell 0
  have c17 : w2.cell? ⟨w.heap.size, 17, none⟩ = some (.int .i64 s1) := (K0.out.cell 17).trans HF.out.scr
  have c18 : w2.cell? ⟨w.heap.size, 18, none⟩ = some (.int .i64 s2) := (K0.out.cell 18).trans HF.out.scr2
  have HB := Lib.hid (H0.out.alloc H0.out.size (.cells #[.int .i64 100, .int .i64 100, .int .i64 s1, .int .i64 s2] 3))
  have hl2 := HL.out
  unfold lvlB at hl2
  rw [Bool.and_eq_true, decide_eq_true_eq, decide_eq_true_eq] at hl2
  obtain ⟨hl0, hl3⟩ := hl2
  rcases pctV_at (s1 := s1) (s2 := s2) hl0 hl3 with ⟨e, hp⟩ | ⟨e, hp⟩ | ⟨e, hp⟩ | ⟨e, hp⟩
  all_goals
    subst e
    have HP := Lib.hid hp
    have c0a := (K1.out.alloc (.cells #[.int .i64 100, .int .i64 100, .int .i64 s1, .int .i64 s2] 3)).cell 0
    have n0 := (Blk.new w2 3 #[.int .i64 100, .int .i64 100, .int .i64 s1, .int .i64 s2]).cell 0
    have n1 := (Blk.new w2 3 #[.int .i64 100, .int .i64 100, .int .i64 s1, .int .i64 s2]).cell 1
    have n2 := (Blk.new w2 3 #[.int .i64 100, .int .i64 100, .int .i64 s1, .int .i64 s2]).cell 2
    have n3 := (Blk.new w2 3 #[.int .i64 100, .int .i64 100, .int .i64 s1, .int .i64 s2]).cell 3
    clear hp
    go_wp2_with fail
    go_ret
    exact ⟨ret_int HP.out.symm, HB.out⟩
set_option maxRecDepth 100000 in
set_option maxHeartbeats 1600000 in
theorem rlength_any (cs : Array Value) (q s1 s2 : Int) (FA : World → Prop) (F : FontIs cs true q s1 s2 FA) (l r : Nat) (level : Int) (cr : Bool) (w : World) (hl : l < 8) (hr : r < 8) (hlv : lvlB level = true) : Calls Tryz.prog 26 #[.agg cs, .int .i64 (l : Nat), .int .i64 (r : Nat), .agg #[.int .i64 level, .bool cr]] w fun e w' => e = .returned (.int .i64 (lenP (rndP (q * pctV level s1 s2) 100) l r level)) ∧ Below w.heap.size w w' := by
  have HF := Lib.hid F
  have HL := Lib.hid hlv
  obtain ⟨⟨hq0, hq1⟩, hs1, hs2⟩ := F.fits rfl
  have hpb := pct_bd (level := level) hs1 hs2
  have HR := Lib.hid (rnd_bd ⟨hq0, hq1⟩ hpb)
  have HPB := Lib.hid hpb
  have HQ := Lib.hid (show lenP (rndP (q * pctV level s1 s2) 100) l r level = if spc l r level = 0 then 0 else rndP (rndP (q * pctV level s1 s2) 100 * (spc l r level + 2)) 18 from rfl)
  have hsb : 0 ≤ spc l r level ∧ spc l r level ≤ 3 := by
    have := tab_bd l r hl hr
    unfold spc
    split
    · split <;> omega
    · omega
  have HSB := Lib.hid hsb
  have K0 := Lib.hid ((Blk.new w 27 cs).alloc (.cells #[.int .i64 level, .bool cr] 33))
  have K1 := Lib.hid (Blk.new (w.alloc (.cells cs 27)) 33 #[.int .i64 level, .bool cr])
  have H0 := Lib.hid ((bel_alloc w (.cells cs 27)).alloc (by simp) (.cells #[.int .i64 level, .bool cr] 33))
  rw [show (w.alloc (.cells cs 27)).heap.size = w.heap.size + 1 by simp] at K1
  clear F hlv hpb hs1 hs2 hsb
  go_enter Tryz.func26, Tryz.ntmps26
  go_upto_region 1 with (fail)
  generalize (w.alloc (.cells cs 27)).alloc (.cells #[.int .i64 level, .bool cr] 33) = w1 at *
  have c0 := K1.out.cell 0
  go_wp2_with fail
  refine (rspc_any l r level w1 hl hr).mono ?_
  rintro e w2 ⟨rfl, hb⟩
  have K0 := Lib.hid (keep hb K0.out)
  have K1 := Lib.hid (keep hb K1.out)
  have H0 := Lib.hid (H0.out.trans (hb.mono H0.out.size))
  clear hb c0
  generalize spc l r level = k at *
  by_cases hk : k = 0
  · rw [if_pos hk] at HQ
    subst hk
    go_wp2_with fail
    go_ret
    exact ⟨ret_int HQ.out.symm, H0.out⟩
  · rw [if_neg hk] at HQ
    have hkb : (k == 0) = false := beq_eq_false_iff_ne.2 hk
    have HK2 := Lib.hid (show IntKind.i64.wrap (k + 2) = k + 2 from IntWalk.i64_in _ (by have := HSB.out; omega))
    clear hk
    go_upto_region 4 with (fail)
    refine region_list (by kernel_rfl) _ [.pointer (some ⟨w.heap.size, 2, none⟩), .pointer (some ⟨w.heap.size, 2, none⟩), .int .i64 q, .agg cs, .agg #[.int .i64 level, .bool cr], .int .i64 (pctV level s1 s2), .int .i64 (rndP (q * pctV level s1 s2) 100), .int .i64 k, .int .i64 (k + 2), .int .i64 (rndP (rndP (q * pctV level s1 s2) 100 * (k + 2)) 18), .int .i64 (rndP (rndP (q * pctV level s1 s2) 100 * (k + 2)) 18)] [true, true, true, true, true, true, true, true, true, true, true] (fun wq => Hid (Blk wq w.heap.size 27 cs) ∧ Hid (Blk wq (w.heap.size + 1) 33 #[.int .i64 level, .bool cr]) ∧ Hid (Below w.heap.size w wq)) (by kernel_rfl) (by simp [fin, finOn, dstAt, List.range, List.range.loop, Act.put]; rfl) (by kernel_rfl) ⟨K0.out.drew, K1.out.drew, below_drew H0.out⟩ ?_ ?_
    · refine ⟨fun wq hI => ?_, fun wq hI => ?_, fun wq hI => ?_, fun wq hI => ?_, fun wq hI => ?_, fun wq hI => ?_, fun wq hI => ?_, fun wq hI => ?_, fun wq hI => ?_, fun wq hI => ?_, fun wq hI => ?_, trivial⟩
      · exact Gives.value (v := .pointer (some ⟨w.heap.size, 2, none⟩)) (w' := wq) (by simp [go_sem]) ⟨rfl, hI⟩
      · exact Gives.value (v := .pointer (some ⟨w.heap.size, 2, none⟩)) (w' := wq) (by simp [go_sem]) ⟨rfl, hI⟩
      · have cJ : wq.cell? ⟨w.heap.size, 2, none⟩ = some (.int .i64 q) := (hI.1.out.cell 2).trans HF.out.quad
        exact Gives.value (v := .int .i64 q) (w' := wq) (by simp [go_sem, cJ]) ⟨rfl, hI⟩
      · exact gives_row_ext 27 (.tmp 4) rfl w.heap.size rfl 27 cs (0, 0) _ hI.1.out Tryz.underlying27 rfl HF.out.size ⟨rfl, hI⟩
      · have c0 := hI.2.1.out.cell 0
        have c1 := hI.2.1.out.cell 1
        exact Gives.value (v := .agg #[.int .i64 level, .bool cr]) (w' := wq) (by simp [go_sem, c0, c1]) ⟨rfl, hI⟩
      · refine Gives.call (f := 53) (args := #[.agg cs, .agg #[.int .i64 level, .bool cr]]) (w' := wq) (by kernel_rfl) ((rsize25_any cs true q s1 s2 FA HF.out level cr wq HL.out).mono ?_)
        rintro e wa ⟨rfl, hb5⟩
        exact ⟨_, rfl, rfl, keep hb5 hI.1.out, keep hb5 hI.2.1.out, hI.2.2.out.trans (hb5.mono hI.2.2.out.size)⟩
      · refine Gives.call (f := 52) (args := #[.int .i64 q, .int .i64 (pctV level s1 s2)]) (w' := wq) (by kernel_rfl) ((rscale01_any q (pctV level s1 s2) wq (by omega) (by omega) (by have := HPB.out; omega) (by have := HPB.out; omega)).mono ?_)
        rintro e wa ⟨rfl, rfl⟩
        exact ⟨_, rfl, rfl, hI⟩
      · exact Gives.value (v := .int .i64 k) (w' := wq) (by kernel_rfl) ⟨rfl, hI⟩
      · have hk2 := HK2.out
        exact Gives.value (v := .int .i64 (k + 2)) (w' := wq) (by simp [go_sem, hk2]) ⟨rfl, hI⟩
      · refine Gives.call (f := 51) (args := #[.int .i64 (rndP (q * pctV level s1 s2) 100), .int .i64 (k + 2), .int .i64 18]) (w' := wq) (by kernel_rfl) ((rmuldiv01_any (rndP (q * pctV level s1 s2) 100) (k + 2) wq HR.out.1 HR.out.2 (by have := HSB.out; omega) (by have := HSB.out; omega)).mono ?_)
        rintro e wa ⟨rfl, rfl⟩
        exact ⟨_, rfl, rfl, hI⟩
      · exact Gives.value (v := .int .i64 (rndP (rndP (q * pctV level s1 s2) 100 * (k + 2)) 18)) (w' := wq) (by kernel_rfl) ⟨rfl, hI⟩
    · intro wq hI
      have HB := hI.2.2
      clear hI
      go_wp2_with fail
      go_ret
      exact ⟨ret_int HQ.out.symm, HB.out⟩
set_option maxRecDepth 100000 in
set_option maxHeartbeats 8000000 in
theorem rfvalid_any (A1 : Option Addr) (c1 : Nat) (A2 : Option Addr) (c2 : Nat) (p : Nat → Int) (gs : List Gly) (ss : List Stc) (vb : Bool) (w : World) (hvb : vb = true ↔ FontOk gs ss p) (hF : FontAt A1 c1 A2 c2 gs ss w) : Calls Tryz.prog 24 #[.agg (fontC A1 gs.length c1 A2 ss.length c2 p)] w fun e w' => e = .returned (.bool vb) ∧ Below w.heap.size w w' := by
  have HV := Lib.hid hvb
  have HFA := Lib.hid hF
  have HN1 := Lib.hid hF.n1
  have HN2 := Lib.hid hF.n2
  have HST := Lib.hid (fun (s : Stc) (B1 : Option Addr) (e1 : Nat) (B2 : Option Addr) (e2 : Nat) (v2 : Bool) (w : World) (h1 : v2 = true ↔ StcOk gs s) (h2 : GlysOk gs) (h3 : gs.length ≤ 1000) (h4 : GlysAt w A1 gs) (h5 : StcIn w s B1 e1 B2 e2) => rstretch_any A1 c1 A2 ss.length c2 p gs s B1 e1 B2 e2 v2 w h1 h2 h3 h4 h5)
  have HSZ := Lib.hid (show (Tryz.prog.info? 27).map (·.size) = some (fontC A1 gs.length c1 A2 ss.length c2 p).size by kernel_rfl)
  have K0 := Lib.hid (Blk.new w 27 (fontC A1 gs.length c1 A2 ss.length c2 p))
  have H0 := Lib.hid (bel_alloc w (.cells (fontC A1 gs.length c1 A2 ss.length c2 p) 27))
  have HCS := Lib.hid (font_c0 A1 gs.length c1 A2 ss.length c2 p)
  have hr := Lib.hid (range_blk K0.out 2 (prmL p) (font_prm A1 gs.length c1 A2 ss.length c2 p))
  clear hvb hF
  generalize fontC A1 gs.length c1 A2 ss.length c2 p = cs at *
  go_enter Tryz.func24, Tryz.ntmps24
  go_upto_region 1 with (fail)
  generalize w.alloc (.cells cs 27) = w1 at *
  have c0 : w1.cell? ⟨w.heap.size, 0, none⟩ = some (.slice A1 gs.length c1) := (K0.out.cell 0).trans HCS.out.1
  have d1 : w1.cell? ⟨w.heap.size, 1, none⟩ = some (.slice A2 ss.length c2) := (K0.out.cell 1).trans HCS.out.2
  by_cases h400 : ¬ gs.length ≤ 400
  · have HQ := Lib.hid (no_of HV.out (fun h => h400 h.1))
    have g1 : (400 : Int) < (gs.length : Int) := by omega
    clear h400
    go_wp2_with fail
    go_ret
    exact ⟨ret_bool HQ.out.symm, H0.out⟩
  replace h400 := Classical.not_not.1 h400
  have g1 : ¬ (400 : Int) < (gs.length : Int) := by omega
  by_cases h40 : ¬ ss.length ≤ 40
  · have HQ := Lib.hid (no_of HV.out (fun h => h40 h.2.1))
    have g2 : (40 : Int) < (ss.length : Int) := by omega
    clear h40
    go_wp2_with fail
    go_ret
    exact ⟨ret_bool HQ.out.symm, H0.out⟩
  replace h40 := Classical.not_not.1 h40
  have g2 : ¬ (40 : Int) < (ss.length : Int) := by omega
  have HLN := Lib.hid (show gs.length ≤ 400 ∧ ss.length ≤ 40 from ⟨h400, h40⟩)
  go_wp2_with (refine wpList_load_midW (by rfl) 25 (.tmp 16) rfl w.heap.size 2 rfl (prmL p) _ hr.out Tryz.underlying25 rfl (by kernel_rfl) ?_)
  refine (rparams05_any p w1).mono ?_
  rintro e w2 ⟨rfl, hb⟩
  replace K0 := Lib.hid (keep hb K0.out)
  replace H0 := Lib.hid (H0.out.trans (hb.mono H0.out.size))
  clear hb c0 d1 hr
  generalize (prmL p).toArray = pc at *
  cases hp : paramsB p
  · have HQ := Lib.hid (no_of HV.out (fun h => by rw [h.2.2.1] at hp; cases hp))
    clear hp
    go_wp2_with fail
    go_ret
    exact ⟨ret_bool HQ.out.symm, H0.out⟩
  have HP := Lib.hid hp
  clear hp
  have c0 : w2.cell? ⟨w.heap.size, 0, none⟩ = some (.slice A1 gs.length c1) := (K0.out.cell 0).trans HCS.out.1
  obtain ⟨vg, hvg⟩ := bool_of (GlysOk gs)
  have HVG := Lib.hid hvg
  clear hvg
  go_wp2_with fail
  clear c0 g1 g2
  refine (rglyphs_any A1 c1 gs vg w2 HVG.out (by have := HLN.out.1; omega) (HFA.out.keep H0.out).k1).mono ?_
  rintro e w3 ⟨rfl, hb⟩
  replace K0 := Lib.hid (keep hb K0.out)
  replace H0 := Lib.hid (H0.out.trans (hb.mono H0.out.size))
  clear hb
  cases vg
  · have HQ := Lib.hid (no_of HV.out (fun h => by have := HVG.out.2 h.2.2.2.1; cases this))
    go_wp2_with fail
    go_ret
    exact ⟨ret_bool HQ.out.symm, H0.out⟩
  have HGY := Lib.hid (HVG.out.1 rfl)
  clear HVG
  go_wp2_with fail
  go_loopw [3] (fun i wr => ∃ k : Nat, k ≤ ss.length ∧ i = .int .i64 k ∧ Hid (Blk wr w.heap.size 27 cs) ∧ Hid (Below w.heap.size w wr) ∧ Hid (StcsOk gs (ss.take k))) (fun i _ => ss.length - (intOf i).toNat)
  case atStart => exact ⟨0, by omega, rfl, K0, H0, stcs_zero⟩
  case round =>
    clear K0 H0
    obtain ⟨k, hk, rfl, K0, H0, HSO⟩ := hrel
    have c1 : wr.cell? ⟨w.heap.size, 1, none⟩ = some (.slice A2 ss.length c2) := (K0.out.cell 1).trans HCS.out.2
    by_cases hlt : k < ss.length
    · obtain ⟨s, hs⟩ : ∃ s, ss[k]? = some s := ⟨_, List.getElem?_eq_getElem hlt⟩
      obtain ⟨ad, hA, B1, e1, B2, e2, hsa⟩ := (HFA.out.keep H0.out).k2.at_ hs
      subst hA
      have HSA := Lib.hid hsa
      have HS := Lib.hid hs
      have hki : (k : Int) < (ss.length : Int) := by omega
      clear hs hsa
      obtain ⟨v2, hv2⟩ := bool_of (StcOk gs s)
      have HV2 := Lib.hid hv2
      clear hv2
      go_upto_region 6 with (fail)
      clear c1
      refine region_list (by kernel_rfl) _ [.agg cs, .pointer (some ⟨w.heap.size, 1, none⟩), .slice (some ad) ss.length c2, .int .i64 (↑k), .pointer (some (ad.add (k * 4))), .agg (s.c B1 e1 B2 e2), .bool v2, .bool (!v2)] [true, true, true, true, true, true, true, true] (fun wq => Hid (Blk wq w.heap.size 27 cs) ∧ Hid (Below w.heap.size w wq) ∧ Hid (StcAt wq (ad.add (k * 4)) s B1 e1 B2 e2)) (by kernel_rfl) (by simp [fin, finOn, dstAt, List.range, List.range.loop, Act.put]; rfl) (by kernel_rfl) ⟨K0.out.drew, below_drew H0.out, HSA.out.keep (below_drew (Below.refl _ _))⟩ ?_ ?_
      · refine ⟨fun wq hI => ?_, fun wq hI => ?_, fun wq hI => ?_, fun wq hI => ?_, fun wq hI => ?_, fun wq hI => ?_, fun wq hI => ?_, fun wq hI => ?_, trivial⟩
        · exact gives_load_row 27 (.tmp 1) rfl w.heap.size rfl 27 cs (0, 0) _ hI.1.out Tryz.underlying27 rfl HSZ.out ⟨rfl, hI⟩
        · exact Gives.value (v := .pointer (some ⟨w.heap.size, 1, none⟩)) (w' := wq) (by simp [go_sem]) ⟨rfl, hI⟩
        · have cJ : wq.cell? ⟨w.heap.size, 1, none⟩ = some (.slice (some ad) ss.length c2) := (hI.1.out.cell 1).trans HCS.out.2
          exact Gives.value (v := .slice (some ad) ss.length c2) (w' := wq) (by simp [go_sem, cJ]) ⟨rfl, hI⟩
        · exact Gives.value (v := .int .i64 (↑k)) (w' := wq) (by kernel_rfl) ⟨rfl, hI⟩
        · exact Gives.value (v := .pointer (some (ad.add (k * 4)))) (w' := wq) (by simp [go_sem, hlt]; try omega) ⟨rfl, hI⟩
        · have d0 := hI.2.2.out.d0
          have d1 := hI.2.2.out.d1
          have d2 := hI.2.2.out.d2
          have d3 := hI.2.2.out.d3
          exact Gives.value (v := .agg (s.c B1 e1 B2 e2)) (w' := wq) (by simp [go_sem, d0, d1, d2, d3]) ⟨rfl, hI⟩
        · refine Gives.call (f := 49) (args := #[.agg cs, .agg (s.c B1 e1 B2 e2)]) (w' := wq) (by kernel_rfl) ((HST.out s B1 e1 B2 e2 v2 wq HV2.out HGY.out (by have := HLN.out.1; omega) (HFA.out.keep hI.2.1.out).k1 hI.2.2.out.inn).mono ?_)
          rintro e wa ⟨rfl, hb5⟩
          exact ⟨_, rfl, rfl, keep hb5 hI.1.out, hI.2.1.out.trans (hb5.mono hI.2.1.out.size), hI.2.2.out.keep hb5⟩
        · exact Gives.value (v := .bool (!v2)) (w' := wq) (by simp [go_sem]) ⟨rfl, hI⟩
      · intro wq hI
        obtain ⟨K1, H1, HSB⟩ := hI
        clear K0 H0 HSA
        cases v2
        · have HQ := Lib.hid (no_of HV.out (fun ho => stcs_bad HS.out (fun h => by have := HV2.out.2 h; cases this) ho.2.2.2.2))
          go_wp2_with fail
          go_ret
          exact ⟨ret_bool HQ.out.symm, H1.out⟩
        have HOK := Lib.hid (HV2.out.1 rfl)
        go_wp2_with fail
        go_loopw [4] (fun i wr => ∃ j : Nat, j ≤ k ∧ i = .int .i64 j ∧ Hid (Blk wr w.heap.size 27 cs) ∧ Hid (Below w.heap.size w wr) ∧ Hid (StcAt wr (ad.add (k * 4)) s B1 e1 B2 e2) ∧ Hid (∀ (i : Nat) (t : Stc), i < j → ss[i]? = some t → t.nm ≠ s.nm)) (fun i _ => k - (intOf i).toNat)
        case atStart => exact ⟨0, by omega, rfl, K1, H1, HSB, Lib.hid (fun i t hi => by omega)⟩
        case round =>
          clear K1 H1 HSB
          obtain ⟨j, hj, rfl, K1, H1, HSB, HD⟩ := hrel
          by_cases hlt2 : j < k
          · obtain ⟨t, ht⟩ : ∃ t, ss[j]? = some t := ⟨_, List.getElem?_eq_getElem (by omega)⟩
            obtain ⟨ad2, hA, C1, f1, C2, f2, hta⟩ := (HFA.out.keep H1.out).k2.at_ ht
            obtain rfl := Option.some.inj hA
            have HT := Lib.hid ht
            clear ht hA
            have c1 : wr.cell? ⟨w.heap.size, 1, none⟩ = some (.slice (some ad) ss.length c2) := (K1.out.cell 1).trans HCS.out.2
            have x0 := hta.d0
            have d0 := HSB.out.d0
            have hji : (j : Int) < (ss.length : Int) := by omega
            have hjn : j < ss.length := by omega
            clear hta
            by_cases hnm : t.nm = s.nm
            · have HQ := Lib.hid (no_of HV.out (fun ho => stcs_dup HS.out hlt2 HT.out hnm ho.2.2.2.2))
              have q := name_tt hnm
              clear hnm
              go_upto_region 11 with (fail)
              go_quiet (fail)
              go_wp2_with fail
              go_ret
              exact ⟨ret_bool HQ.out.symm, below_drewN H1.out _⟩
            · have HDN := Lib.hid (show ∀ (i : Nat) (x : Stc), i < j + 1 → ss[i]? = some x → x.nm ≠ s.nm from fun i x hi hx => by
                rcases Nat.lt_or_ge i j with h | h
                · exact HD.out i x h hx
                · obtain rfl : i = j := by omega
                  rw [HT.out] at hx
                  obtain rfl := Option.some.inj hx
                  exact hnm)
              have q := name_ff hnm
              clear hnm
              go_upto_region 11 with (fail)
              go_quiet (fail)
              have Hb := Lib.hid (below_drewN (Below.refl wr.heap.size wr) nq)
              have H2 := Lib.hid (below_drewN H1.out nq)
              have K2 := Lib.hid (keep Hb.out K1.out)
              have HS2 := Lib.hid (HSB.out.keep Hb.out)
              clear d0 x0 c1 K1 H1 HSB Hb
              generalize wr.drewN nq = wy at *
              go_wp2_with fail
              go_roundw
              case rel => exact ⟨j + 1, by omega, by go_num, K2, H2, HS2, HDN⟩
              case measure => simp [intOf]; omega
          · obtain rfl : j = k := by omega
            have HSN := Lib.hid (stcs_snoc HSO.out HS.out HOK.out HD.out)
            go_wp2_with fail
            go_roundw
            case rel => exact ⟨j + 1, by omega, by go_num, K1, H1, HSN⟩
            case measure => simp [intOf]; omega
    · obtain rfl : k = ss.length := by omega
      have HQ := Lib.hid (HV.out.2 ⟨HLN.out.1, HLN.out.2, HP.out, HGY.out, stcs_all HSO.out⟩)
      go_wp2_with fail
      go_ret
      exact ⟨ret_bool HQ.out.symm, H0.out⟩
def AnyB (e : Ending) : Prop := ∃ b : Bool, e = .returned (.bool b)
set_option maxRecDepth 100000 in
set_option maxHeartbeats 4000000 in
theorem rfew05_any (A1 : Option Addr) (c1 : Nat) (A2 : Option Addr) (c2 : Nat) (p : Nat → Int) (gs : List Gly) (ss : List Stc) (w : World) (hF : FontAt A1 c1 A2 c2 gs ss w) : Calls Tryz.prog 5 #[.agg (fontC A1 gs.length c1 A2 ss.length c2 p)] w fun e w' => AnyB e ∧ Below w.heap.size w w' := by
  have HFA := Lib.hid hF
  have K0 := Lib.hid (Blk.new w 27 (fontC A1 gs.length c1 A2 ss.length c2 p))
  have H0 := Lib.hid (bel_alloc w (.cells (fontC A1 gs.length c1 A2 ss.length c2 p) 27))
  have HCS := Lib.hid (font_c0 A1 gs.length c1 A2 ss.length c2 p)
  clear hF
  generalize fontC A1 gs.length c1 A2 ss.length c2 p = cs at *
  go_enter Tryz.func5, Tryz.ntmps5
  go_upto_region 1 with (fail)
  generalize w.alloc (.cells cs 27) = w1 at *
  have c0 : w1.cell? ⟨w.heap.size, 0, none⟩ = some (.slice A1 gs.length c1) := (K0.out.cell 0).trans HCS.out.1
  have d1 : w1.cell? ⟨w.heap.size, 1, none⟩ = some (.slice A2 ss.length c2) := (K0.out.cell 1).trans HCS.out.2
  by_cases h5 : (500 : Int) < (gs.length : Int)
  · go_wp2_with fail
    go_ret
    exact ⟨⟨_, rfl⟩, H0.out⟩
  by_cases h50 : (50 : Int) < (ss.length : Int)
  · go_wp2_with fail
    go_ret
    exact ⟨⟨_, rfl⟩, H0.out⟩
  have HLN := Lib.hid (show ss.length ≤ 50 by omega)
  go_wp2_with fail
  clear h5 h50
  go_loop [3] (fun i => ∃ k : Nat, k ≤ ss.length ∧ i = .int .i64 k) (fun i => ss.length - (intOf i).toNat)
  case atStart => exact ⟨0, by omega, rfl⟩
  case round =>
    obtain ⟨k, hk, rfl⟩ := hrel
    have hl50 := HLN.out
    by_cases hlt : k < ss.length
    · obtain ⟨s, hs⟩ : ∃ s, ss[k]? = some s := ⟨_, List.getElem?_eq_getElem hlt⟩
      obtain ⟨ad, hA, B1, e1, B2, e2, hsa⟩ := (HFA.out.keep H0.out).k2.at_ hs
      subst hA
      have hki : (k : Int) < (ss.length : Int) := by omega
      clear hs
      have x1 := hsa.d1
      have x2 := hsa.d2
      clear hsa
      by_cases hz : (50 : Int) < (s.sizes.length : Int)
      · go_wp2_with fail
        go_ret
        exact ⟨⟨_, rfl⟩, H0.out⟩
      by_cases hp : (50 : Int) < (s.parts.length : Int)
      · go_wp2_with fail
        go_ret
        exact ⟨⟨_, rfl⟩, H0.out⟩
      go_wp2_with fail
      go_round
      case rel => exact ⟨k + 1, by omega, by go_num⟩
      case measure => simp [intOf]; omega
    · go_wp2_with fail
      go_ret
      exact ⟨⟨_, rfl⟩, H0.out⟩
theorem params_bd {p : Nat → Int} (h : paramsB p = true) : (0 ≤ p 0 ∧ p 0 ≤ 20000) ∧ (1 ≤ p 15 ∧ p 15 ≤ 100) ∧ (1 ≤ p 16 ∧ p 16 ≤ 100) := by
  unfold paramsB inAll at h
  simp only [List.all_cons, List.all_nil, Bool.and_true, Bool.and_eq_true, decide_eq_true_eq] at h
  omega
/-- every font: what Space asks of it -/
theorem font_is (A1 : Option Addr) (c1 : Nat) (A2 : Option Addr) (c2 : Nat) (p : Nat → Int) (gs : List Gly) (ss : List Stc) (vb : Bool) (hvb : vb = true ↔ FontOk gs ss p) : FontIs (fontC A1 gs.length c1 A2 ss.length c2 p) vb (p 0) (p 15) (p 16) (FontAt A1 c1 A2 c2 gs ss) where
  keep := fun h hb => h.keep hb
  valid := fun w h => fvalid_any A1 c1 A2 c2 p gs ss vb w hvb h
  size := by kernel_rfl
  quad := rfl
  scr := rfl
  scr2 := rfl
  fits := fun h => params_bd (hvb.1 h).2.2.1
end
end Go.Proofs.YtgoafobhhmeppaaGreat
