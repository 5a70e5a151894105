/- The size of a style, Space: the program. -/
import Derived.Test.YtgoafobhhmeppaaGreatL2
namespace Go.Proofs.YtgoafobhhmeppaaGreat
open Go.RowKit
theorem wpList_load_rowW {P : Program} {ops : Array Oper} {rest : List Oper} {o : Oper} {a : Act} {w : World} {Q : Exit → Act → World → Prop} (hw : Region.wanted o (yielded ops a.tmps) = true) (ty : TypeId) (x : Operand) (ho : o.op = .load ty x)
    (g : Nat) (hx : a.eval x = .pointer (some ⟨g, 0, none⟩)) (t : TypeId) (cs : Array Value) (fr : Nat × Nat) (d : TypeDesc) (hg : w.heap[g]? = some (.cells cs t fr))
    (hu : P.underlying ty = some d) (hd : (match d with | .struct _ | .array _ _ => true | _ => false) = true) (hi : (P.info? ty).map (·.size) = some cs.size)
    (h : wpList P ops Q rest (a.put o.dst (.agg cs)) w) : wpList P ops Q (o :: rest) a w :=
  wpList_wanted hw fun _ hK => wp_load_row ty x ho g hx t cs fr d hg hu hd hi (hK _ _ h)
def lvlB (level : Int) : Bool := decide (0 ≤ level) && decide (level ≤ 3)
set_option maxHeartbeats 400000 in
theorem svalid_any (level : Int) (cr : Bool) (w : World) : Calls Tryz.prog 17 #[.agg #[.int .i64 level, .bool cr]] w fun e w' => e = .returned (.bool (lvlB level)) ∧ Below w.heap.size w w' := by
  have HQ := Lib.hid (show lvlB level = (decide (0 ≤ level) && decide (level ≤ 3)) from rfl)
  by_cases h : 0 ≤ level
  · rw [decide_eq_true h, Bool.true_and] at HQ
    go_enter Tryz.func17, Tryz.ntmps17
    go_wp2_with fail
    go_ret
    exact ⟨ret_bool HQ.out.symm, bel_alloc _ _⟩
  · rw [decide_eq_false h, Bool.false_and] at HQ
    go_enter Tryz.func17, Tryz.ntmps17
    go_wp2_with fail
    go_ret
    exact ⟨ret_bool HQ.out.symm, bel_alloc _ _⟩
/-- a font by value: what is asked of its cells and of the memory that they lead to -/
structure FontIs (cs : Array Value) (b : Bool) (q s1 s2 : Int) (FA : World → Prop) : Prop where
  keep : ∀ {w w' : World}, FA w → Below w.heap.size w w' → FA w'
  valid : ∀ w, FA w → Calls Tryz.prog 15 #[.agg cs] w fun e w' => e = .returned (.bool b) ∧ Below w.heap.size w w'
  size : (Tryz.prog.info? 27).map (·.size) = some cs.size
  quad : cs[2]? = some (.int .i64 q)
  scr : cs[17]? = some (.int .i64 s1)
  scr2 : cs[18]? = some (.int .i64 s2)
  fits : b = true → (0 ≤ q ∧ q ≤ 20000) ∧ (1 ≤ s1 ∧ s1 ≤ 100) ∧ (1 ≤ s2 ∧ s2 ≤ 100)
def pctV (level s1 s2 : Int) : Int := if level = 2 then s1 else if level = 3 then s2 else 100
def pctR (level : Int) (b : Bool) (s1 s2 : Int) : Value := if lvlB level && b then .tuple #[.int .i64 (pctV level s1 s2), .int .i64 0] else .tuple #[.int .i64 0, .int .i64 1]
theorem ret_val {a b : Value} (h : a = b) : Ending.returned a = .returned b := by rw [h]
set_option maxRecDepth 100000 in
set_option maxHeartbeats 800000 in
theorem percent_any (cs : Array Value) (b : Bool) (q s1 s2 : Int) (FA : World → Prop) (F : FontIs cs b q s1 s2 FA) (level : Int) (cr : Bool) (w : World) (hF : FA w) : Calls Tryz.prog 19 #[.agg cs, .agg #[.int .i64 level, .bool cr]] w fun e w' => e = .returned (pctR level b s1 s2) ∧ Below w.heap.size w w' := by
  have HF := Lib.hid F
  have HFA := Lib.hid hF
  have K0 := Lib.hid ((Blk.new w 27 cs).alloc (.cells #[.int .i64 level, .bool cr] 33))
  have K1 := Lib.hid (Blk.new (w.alloc (.cells cs 27)) 33 #[.int .i64 level, .bool cr])
  have H0 := Lib.hid ((bel_alloc w (.cells cs 27)).alloc (by simp) (.cells #[.int .i64 level, .bool cr] 33))
  rw [show (w.alloc (.cells cs 27)).heap.size = w.heap.size + 1 by simp] at K1
  clear F hF
  go_enter Tryz.func19, Tryz.ntmps19
  go_wp2_with fail
  generalize (w.alloc (.cells cs 27)).alloc (.cells #[.int .i64 level, .bool cr] 33) = w1 at *
  refine (svalid_any level cr w1).mono ?_
  rintro e w2 ⟨rfl, hb⟩
  have K0 := Lib.hid (keep hb K0.out)
  have K1 := Lib.hid (keep hb K1.out)
  have H0 := Lib.hid (H0.out.trans (hb.mono H0.out.size))
  clear hb
  cases hl : lvlB level
  · have HQ := Lib.hid (show pctR level b s1 s2 = .tuple #[.int .i64 0, .int .i64 1] by unfold pctR; rw [hl]; rfl)
    clear hl
    go_wp2_with fail
    go_ret2
    exact ⟨ret_val HQ.out.symm, H0.out⟩
  have HL := Lib.hid hl
  clear hl
  go_wp2_with (refine wpList_load_rowW (by rfl) 27 (.tmp 2) rfl w.heap.size rfl 27 cs (0, 0) _ K0.out Tryz.underlying27 rfl HF.out.size ?_)
  refine (HF.out.valid w2 (HF.out.keep HFA.out H0.out)).mono ?_
  rintro e w3 ⟨rfl, hb⟩
  have K0 := Lib.hid (keep hb K0.out)
  have K1 := Lib.hid (keep hb K1.out)
  have H0 := Lib.hid (H0.out.trans (hb.mono H0.out.size))
  clear hb
  cases b
  · have HQ := Lib.hid (show pctR level false s1 s2 = .tuple #[.int .i64 0, .int .i64 1] by unfold pctR; rw [HL.out]; rfl)
    go_wp2_with fail
    go_ret2
    exact ⟨ret_val HQ.out.symm, H0.out⟩
  have HQ := Lib.hid (show pctR level true s1 s2 = .tuple #[.int .i64 (pctV level s1 s2), .int .i64 0] by unfold pctR; rw [HL.out]; rfl)
  have c0 := K1.out.cell 0
  have c17 : w3.cell? ⟨w.heap.size, 17, none⟩ = some (.int .i64 s1) := (K0.out.cell 17).trans HF.out.scr
  have c18 : w3.cell? ⟨w.heap.size, 18, none⟩ = some (.int .i64 s2) := (K0.out.cell 18).trans HF.out.scr2
  by_cases h2 : level = 2
  · subst h2
    go_wp2_with fail
    go_ret2
    exact ⟨ret_val HQ.out.symm, H0.out⟩
  · by_cases h3 : level = 3
    · subst h3
      go_wp2_with fail
      go_ret2
      exact ⟨ret_val HQ.out.symm, H0.out⟩
    · have q2 : (level == 2) = false := beq_eq_false_iff_ne.2 h2
      have q3 : (level == 3) = false := beq_eq_false_iff_ne.2 h3
      have HP := Lib.hid (show pctV level s1 s2 = 100 by unfold pctV; rw [if_neg h2, if_neg h3])
      clear h2 h3
      go_wp2_with fail
      go_ret2
      exact ⟨ret_val (by rw [HQ.out, HP.out]; rfl), H0.out⟩
theorem pct_bd {level s1 s2 : Int} (h1 : 1 ≤ s1 ∧ s1 ≤ 100) (h2 : 1 ≤ s2 ∧ s2 ≤ 100) : 1 ≤ pctV level s1 s2 ∧ pctV level s1 s2 ≤ 100 := by
  unfold pctV
  split
  · exact h1
  · split
    · exact h2
    · omega
theorem rnd_bd {q p : Int} (h1 : 0 ≤ q ∧ q ≤ 20000) (h2 : 1 ≤ p ∧ p ≤ 100) : 0 ≤ rndP (q * p) 100 ∧ rndP (q * p) 100 ≤ 1073741824 := by
  have m0 : 0 ≤ q * p := Int.mul_nonneg h1.1 (by omega)
  have m1 : q * p ≤ 20000 * 100 := Int.mul_le_mul h1.2 h2.2 (by omega) (by omega)
  unfold rndP
  generalize q * p = m at *
  split <;> omega
def spaceR (b : Bool) (q s1 s2 : Int) (l r level : Int) : Value :=
  if lvlB level && b then (if l < 0 ∨ 7 < l ∨ r < 0 ∨ 7 < r then .tuple #[.int .i64 0, .int .i64 2] else .tuple #[.int .i64 (lenP (rndP (q * pctV level s1 s2) 100) l.toNat r.toNat level), .int .i64 0]) else .tuple #[.int .i64 0, .int .i64 1]
set_option maxRecDepth 100000 in
set_option maxHeartbeats 1600000 in
theorem aspace_any (cs : Array Value) (b : Bool) (q s1 s2 : Int) (FA : World → Prop) (F : FontIs cs b q s1 s2 FA) (l r level : Int) (cr : Bool) (w : World) (hF : FA w) : Calls Tryz.prog 13 #[.agg cs, .int .i64 l, .int .i64 r, .agg #[.int .i64 level, .bool cr]] w fun e w' => e = .returned (spaceR b q s1 s2 l r level) ∧ Below w.heap.size w w' := by
  have HF := Lib.hid F
  have HFA := Lib.hid hF
  have K0 := Lib.hid ((Blk.new w 27 cs).alloc (.cells #[.int .i64 level, .bool cr] 33))
  have K1 := Lib.hid (Blk.new (w.alloc (.cells cs 27)) 33 #[.int .i64 level, .bool cr])
  have H0 := Lib.hid ((bel_alloc w (.cells cs 27)).alloc (by simp) (.cells #[.int .i64 level, .bool cr] 33))
  rw [show (w.alloc (.cells cs 27)).heap.size = w.heap.size + 1 by simp] at K1
  clear F hF
  go_enter Tryz.func13, Tryz.ntmps13
  go_wp2_with (refine wpList_load_rowW (by rfl) 27 (.tmp 4) rfl w.heap.size rfl 27 cs (0, 0) _ K0.out Tryz.underlying27 rfl HF.out.size ?_)
  generalize (w.alloc (.cells cs 27)).alloc (.cells #[.int .i64 level, .bool cr] 33) = w1 at *
  refine (percent_any cs b q s1 s2 FA HF.out level cr w1 (HF.out.keep HFA.out H0.out)).mono ?_
  rintro e w2 ⟨rfl, hb⟩
  have K0 := Lib.hid (keep hb K0.out)
  have K1 := Lib.hid (keep hb K1.out)
  have H0 := Lib.hid (H0.out.trans (hb.mono H0.out.size))
  clear hb
  cases hg : (lvlB level && b)
  · have HQ := Lib.hid (show spaceR b q s1 s2 l r level = .tuple #[.int .i64 0, .int .i64 1] by unfold spaceR; rw [hg]; rfl)
    have HP := Lib.hid (show pctR level b s1 s2 = .tuple #[.int .i64 0, .int .i64 1] by unfold pctR; rw [hg]; rfl)
    clear hg
    rw [HP.out]
    go_wp2_with fail
    go_ret2
    exact ⟨ret_val HQ.out.symm, H0.out⟩
  have HP := Lib.hid (show pctR level b s1 s2 = .tuple #[.int .i64 (pctV level s1 s2), .int .i64 0] by unfold pctR; rw [hg]; rfl)
  have HQ := Lib.hid (show spaceR b q s1 s2 l r level = if l < 0 ∨ 7 < l ∨ r < 0 ∨ 7 < r then .tuple #[.int .i64 0, .int .i64 2] else .tuple #[.int .i64 (lenP (rndP (q * pctV level s1 s2) 100) l.toNat r.toNat level), .int .i64 0] by unfold spaceR; rw [hg]; rfl)
  obtain ⟨⟨hq0, hq1⟩, hs1, hs2⟩ := HF.out.fits (by rw [Bool.and_eq_true] at hg; exact hg.2)
  have hpb := pct_bd (level := level) hs1 hs2
  have HR := Lib.hid (rnd_bd ⟨hq0, hq1⟩ hpb)
  obtain ⟨hp0, hp1⟩ := hpb
  clear hg hs1 hs2
  rw [HP.out]
  generalize pctV level s1 s2 = pct at *
  by_cases hmn : min l r < 0
  · rw [if_pos (by omega)] at HQ
    go_wp2_with fail
    go_ret2
    exact ⟨ret_val HQ.out.symm, H0.out⟩
  · by_cases hmx : 7 < max l r
    · rw [if_pos (by omega)] at HQ
      go_wp2_with fail
      go_ret2
      exact ⟨ret_val HQ.out.symm, H0.out⟩
    · rw [if_neg (by omega)] at HQ
      obtain ⟨l, rfl⟩ : ∃ n : Nat, l = n := ⟨l.toNat, by omega⟩
      obtain ⟨r, rfl⟩ : ∃ n : Nat, r = n := ⟨r.toNat, by omega⟩
      rw [Int.toNat_natCast, Int.toNat_natCast] at HQ
      go_upto_region 6 with (fail)
      refine region_list (by kernel_rfl) _ [.pointer (some ⟨w.heap.size, 2, none⟩), .pointer (some ⟨w.heap.size, 2, none⟩), .int .i64 q, .int .i64 pct, .int .i64 (rndP (q * pct) 100), .int .i64 (l : Nat), .int .i64 (r : Nat), .agg #[.int .i64 level, .bool cr], .int .i64 (lenP (rndP (q * pct) 100) l r level), .int .i64 (lenP (rndP (q * pct) 100) l r level), .int .i64 0] [true, true, true, true, true, true, true, true, true, true, true] (fun wq => Hid (Blk wq w.heap.size 27 cs) ∧ Hid (Blk wq (w.heap.size + 1) 33 #[.int .i64 level, .bool cr]) ∧ Hid (Below w.heap.size w wq)) (by kernel_rfl) (by simp [fin, finOn, dstAt, List.range, List.range.loop, Act.put]; rfl) (by kernel_rfl) ⟨K0.out.drew, K1.out.drew, below_drew H0.out⟩ ?_ ?_
      · refine ⟨fun wq hI => ?_, fun wq hI => ?_, fun wq hI => ?_, fun wq hI => ?_, fun wq hI => ?_, fun wq hI => ?_, fun wq hI => ?_, fun wq hI => ?_, fun wq hI => ?_, fun wq hI => ?_, fun wq hI => ?_, trivial⟩
        · exact Gives.value (v := .pointer (some ⟨w.heap.size, 2, none⟩)) (w' := wq) (by simp [go_sem]) ⟨rfl, hI⟩
        · exact Gives.value (v := .pointer (some ⟨w.heap.size, 2, none⟩)) (w' := wq) (by simp [go_sem]) ⟨rfl, hI⟩
        · have cJ : wq.cell? ⟨w.heap.size, 2, none⟩ = some (.int .i64 q) := (hI.1.out.cell 2).trans HF.out.quad
          exact Gives.value (v := .int .i64 q) (w' := wq) (by simp [go_sem, cJ]) ⟨rfl, hI⟩
        · exact Gives.value (v := .int .i64 pct) (w' := wq) (by kernel_rfl) ⟨rfl, hI⟩
        · refine Gives.call (f := 20) (args := #[.int .i64 q, .int .i64 pct]) (w' := wq) (by kernel_rfl) ((scale_any q pct wq (by omega) (by omega) (by omega) (by omega)).mono ?_)
          rintro e wa ⟨rfl, hb5⟩
          exact ⟨_, rfl, rfl, keep hb5 hI.1.out, keep hb5 hI.2.1.out, hI.2.2.out.trans (hb5.mono hI.2.2.out.size)⟩
        · exact Gives.value (v := .int .i64 (l : Nat)) (w' := wq) (by kernel_rfl) ⟨rfl, hI⟩
        · exact Gives.value (v := .int .i64 (r : Nat)) (w' := wq) (by kernel_rfl) ⟨rfl, hI⟩
        · have c0 := hI.2.1.out.cell 0
          have c1 := hI.2.1.out.cell 1
          exact Gives.value (v := .agg #[.int .i64 level, .bool cr]) (w' := wq) (by simp [go_sem, c0, c1]) ⟨rfl, hI⟩
        · refine Gives.call (f := 22) (args := #[.int .i64 (rndP (q * pct) 100), .int .i64 (l : Nat), .int .i64 (r : Nat), .agg #[.int .i64 level, .bool cr]]) (w' := wq) (by kernel_rfl) ((space_any (rndP (q * pct) 100) l r level cr wq HR.out.1 HR.out.2 (by omega) (by omega)).mono ?_)
          rintro e wa ⟨rfl, hb5⟩
          exact ⟨_, rfl, rfl, keep hb5 hI.1.out, keep hb5 hI.2.1.out, hI.2.2.out.trans (hb5.mono hI.2.2.out.size)⟩
        · exact Gives.value (v := .int .i64 (lenP (rndP (q * pct) 100) l r level)) (w' := wq) (by kernel_rfl) ⟨rfl, hI⟩
        · exact Gives.value (v := .int .i64 0) (w' := wq) (by kernel_rfl) ⟨rfl, hI⟩
      · intro wq hI
        have HB := hI.2.2
        clear hI
        go_wp2_with fail
        go_ret2
        exact ⟨ret_val HQ.out.symm, HB.out⟩
end Go.Proofs.YtgoafobhhmeppaaGreat
