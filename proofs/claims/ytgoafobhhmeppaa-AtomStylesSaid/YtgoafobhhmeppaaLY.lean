/- The walk of AtomStyles. -/
import Derived.Test.YtgoafobhhmeppaaLW
import Derived.Test.YtgoafobhhmeppaaC3
import Derived.Test.YtgoafobhhmeppaaC1
namespace Go.Proofs.Ytgoafobhhmeppaa
open Go.RowKit
abbrev styC (n : Int) : Array Value := #[.int .i64 n, .bool false]
/-- while two styles are put into boxes -/
def InvY (w1 : World) (c d : Int) : List Bool → Nat × Nat → World → Prop
  | [a1, a2, s1, s2], gx, wq => Below w1.heap.size w1 wq ∧ w1.heap.size ≤ gx.1 ∧ w1.heap.size ≤ gx.2 ∧ (a1 = true → a2 = true → gx.1 ≠ gx.2) ∧ (a1 = true → Blk wq gx.1 45 (styC (if s1 = true then c else 0))) ∧ (a2 = true → Blk wq gx.2 45 (styC (if s2 = true then d else 0)))
  | _, _, _ => False
set_option maxRecDepth 100000 in
set_option maxHeartbeats 4000000 in
theorem styles_walk (A1 : Option Addr) (c1 : Nat) (A2 : Option Addr) (c2 : Nat) (p : Nat → Int) (gs : List Gly) (ss : List Stc) (m0 m1 n0 n1 : Nat) (w : World) (hm0 : m0 < 256) (hm1 : m1 < 256) (hn0 : n0 < 256) (hn1 : n1 < 256) (hF : FontAt A1 c1 A2 c2 gs ss w) : Calls Try.prog 9 #[.agg (fontC A1 gs.length c1 A2 ss.length c2 p), .agg #[.int .u8 m0, .int .u8 m1], .agg #[.int .u8 n0, .int .u8 n1]] w fun e w' => e = .returned (.bool true) ∧ Below w.heap.size w w' := by
  obtain ⟨vb, hvb⟩ := bool_of (FontOk gs ss p)
  have HA := Lib.hid (fun (l r level : Int) (cr : Bool) (w : World) (h : FontAt A1 c1 A2 c2 gs ss w) => aspace_any _ vb (p 0) (p 15) (p 16) _ (font_is A1 c1 A2 c2 p gs ss vb hvb) l r level cr w h)
  have HR := Lib.hid (fun (l r level : Int) (cr : Bool) (w : World) (h : FontAt A1 c1 A2 c2 gs ss w) => rspace_any _ vb (p 0) (p 15) (p 16) _ (font_is A1 c1 A2 c2 p gs ss vb hvb) (fun w h => rfvalid_any A1 c1 A2 c2 p gs ss vb w hvb h) l r level cr w h)
  have HVL := Lib.hid (fun (w : World) (h : FontAt A1 c1 A2 c2 gs ss w) => rfvalid_any A1 c1 A2 c2 p gs ss vb w hvb h)
  have HFW := Lib.hid (fun (w : World) (h : FontAt A1 c1 A2 c2 gs ss w) => rfew05_any A1 c1 A2 c2 p gs ss w h)
  have HSZ := Lib.hid (show (Try.prog.info? 42).map (·.size) = some (fontC A1 gs.length c1 A2 ss.length c2 p).size by kernel_rfl)
  have HBD := Lib.hid (show vb = true → (0 ≤ p 0 ∧ p 0 ≤ 20000) ∧ (1 ≤ p 15 ∧ p 15 ≤ 100) ∧ (1 ≤ p 16 ∧ p 16 ≤ 100) from fun h => params_bd (hvb.1 h).2.2.1)
  clear hvb
  generalize fontC A1 gs.length c1 A2 ss.length c2 p = cs at *
  have hb1 := bel_alloc w (.cells cs 42)
  have hb2 := bel_alloc (w.alloc (.cells cs 42)) (.cells #[.int .u8 m0, .int .u8 m1] 54)
  have hb3 := bel_alloc ((w.alloc (.cells cs 42)).alloc (.cells #[.int .u8 m0, .int .u8 m1] 54)) (.cells #[.int .u8 n0, .int .u8 n1] 54)
  have K0 := Lib.hid (keep hb3 (keep hb2 (Blk.new w 42 cs)))
  have K1 := Lib.hid (keep hb3 (Blk.new (w.alloc (.cells cs 42)) 54 #[.int .u8 m0, .int .u8 m1]))
  have K2 := Lib.hid (Blk.new ((w.alloc (.cells cs 42)).alloc (.cells #[.int .u8 m0, .int .u8 m1] 54)) 54 #[.int .u8 n0, .int .u8 n1])
  have H0 := Lib.hid ((hb1.trans (hb2.mono hb1.size)).trans (hb3.mono (hb1.trans (hb2.mono hb1.size)).size))
  rw [show (w.alloc (.cells cs 42)).heap.size = w.heap.size + 1 by simp] at K1
  rw [show ((w.alloc (.cells cs 42)).alloc (.cells #[.int .u8 m0, .int .u8 m1] 54)).heap.size = w.heap.size + 2 by simp] at K2
  have HFA := Lib.hid hF
  clear hb1 hb2 hb3 hF
  go_enter Try.func9, Try.ntmps9
  go_upto_region 1 with (fail)
  generalize ((w.alloc (.cells cs 42)).alloc (.cells #[.int .u8 m0, .int .u8 m1] 54)).alloc (.cells #[.int .u8 n0, .int .u8 n1] 54) = w1 at *
  go_wp2_with fail
  refine (awake_any w1).mono ?_
  rintro e w2 ⟨rfl, hb⟩
  replace K0 := Lib.hid (keep hb K0.out)
  replace K1 := Lib.hid (keep hb K1.out)
  replace K2 := Lib.hid (keep hb K2.out)
  replace H0 := Lib.hid (H0.out.trans (hb.mono H0.out.size))
  clear hb
  go_wp2_with (refine wpList_load_rowW (by rfl) 42 (.tmp 3) rfl w.heap.size rfl 42 cs (0, 0) _ K0.out Try.underlying42 rfl HSZ.out ?_)
  refine (HFW.out w2 (HFA.out.keep H0.out)).mono ?_
  rintro e w3 ⟨⟨b, rfl⟩, hb⟩
  replace K0 := Lib.hid (keep hb K0.out)
  replace K1 := Lib.hid (keep hb K1.out)
  replace K2 := Lib.hid (keep hb K2.out)
  replace H0 := Lib.hid (H0.out.trans (hb.mono H0.out.size))
  clear hb
  cases b
  · go_wp2_with fail
    go_ret
    exact ⟨rfl, H0.out⟩
  go_wp2_with (refine wpList_load_rowW (by rfl) 42 (.tmp 3) rfl w.heap.size rfl 42 cs (0, 0) _ K0.out Try.underlying42 rfl HSZ.out ?_)
  refine (HVL.out w3 (HFA.out.keep H0.out)).mono ?_
  rintro e w4 ⟨rfl, hb⟩
  replace K0 := Lib.hid (keep hb K0.out)
  replace K1 := Lib.hid (keep hb K1.out)
  replace K2 := Lib.hid (keep hb K2.out)
  replace H0 := Lib.hid (H0.out.trans (hb.mono H0.out.size))
  clear hb
  cases vb
  · go_wp2_with fail
    go_ret
    exact ⟨rfl, H0.out⟩
  have HQ := Lib.hid (HBD.out rfl)
  have HOK := Lib.hid (fun (l r level : Int) (h1 : 0 ≤ l ∧ l ≤ 7) (h2 : 0 ≤ r ∧ r ≤ 7) (h3 : 0 ≤ level ∧ level ≤ 3) => spaceR_ok (q := p 0) (s1 := p 15) (s2 := p 16) h1 h2 h3)
  clear HBD
  go_upto_region 5 with (fail)
  refine region_list (by kernel_rfl) _ [.pointer (some ⟨w.heap.size + 1, 0, none⟩), .int .u8 m0, .int .u8 ((m0 : Int) % 8), .int .i64 ((m0 : Int) % 8), .pointer (some ⟨w.heap.size + 1, 1, none⟩), .int .u8 m1, .int .u8 ((m1 : Int) % 8), .int .i64 ((m1 : Int) % 8), .int .i64 ((m0 : Int) % 8), .int .i64 ((m1 : Int) % 8)] [true, true, true, true, true, true, true, true, true, true] (fun wq => Hid (Blk wq w.heap.size 42 cs) ∧ Hid (Blk wq (w.heap.size + 1) 54 #[.int .u8 m0, .int .u8 m1]) ∧ Hid (Blk wq (w.heap.size + 2) 54 #[.int .u8 n0, .int .u8 n1]) ∧ Hid (Below w.heap.size w wq)) (by kernel_rfl) (by simp [fin, finOn, dstAt, List.range, List.range.loop, Act.put]; rfl) (by kernel_rfl) ⟨K0.out.drew, K1.out.drew, K2.out.drew, below_drew H0.out⟩ ?_ ?_
  · refine ⟨fun wq hI => ?_, fun wq hI => ?_, fun wq hI => ?_, fun wq hI => ?_, fun wq hI => ?_, fun wq hI => ?_, fun wq hI => ?_, fun wq hI => ?_, fun wq hI => ?_, fun wq hI => ?_, trivial⟩
    · exact Gives.value (v := .pointer (some ⟨w.heap.size + 1, 0, none⟩)) (w' := wq) (by simp [go_sem]) ⟨rfl, hI⟩
    · have cJ := hI.2.1.out.cell 0
      exact Gives.value (v := .int .u8 m0) (w' := wq) (by simp [go_sem, cJ]) ⟨rfl, hI⟩
    · exact Gives.value (v := .int .u8 ((m0 : Int) % 8)) (w' := wq) (by simp [go_sem]; exact Int.tmod_eq_emod_of_nonneg (by omega)) ⟨rfl, hI⟩
    · exact Gives.value (v := .int .i64 ((m0 : Int) % 8)) (w' := wq) (by simp [go_sem]; exact IntWalk.i64_in _ (by omega)) ⟨rfl, hI⟩
    · exact Gives.value (v := .pointer (some ⟨w.heap.size + 1, 1, none⟩)) (w' := wq) (by simp [go_sem]) ⟨rfl, hI⟩
    · have cJ := hI.2.1.out.cell 1
      exact Gives.value (v := .int .u8 m1) (w' := wq) (by simp [go_sem, cJ]) ⟨rfl, hI⟩
    · exact Gives.value (v := .int .u8 ((m1 : Int) % 8)) (w' := wq) (by simp [go_sem]; exact Int.tmod_eq_emod_of_nonneg (by omega)) ⟨rfl, hI⟩
    · exact Gives.value (v := .int .i64 ((m1 : Int) % 8)) (w' := wq) (by simp [go_sem]; exact IntWalk.i64_in _ (by omega)) ⟨rfl, hI⟩
    · exact Gives.value (v := .int .i64 ((m0 : Int) % 8)) (w' := wq) (by kernel_rfl) ⟨rfl, hI⟩
    · exact Gives.value (v := .int .i64 ((m1 : Int) % 8)) (w' := wq) (by kernel_rfl) ⟨rfl, hI⟩
  intro wr hI
  clear K0 K1 K2 H0
  obtain ⟨K0, K1, K2, H0⟩ := hI
  go_upto_region 6 with (fail)
  refine region_ghost (X := Nat × Nat) (by kernel_rfl) _ (fun gx => [.pointer (some ⟨w.heap.size + 2, 0, none⟩), .int .u8 n0, .int .u8 ((n0 : Int) % 2), .int .i64 ((n0 : Int) % 2), .agg (styC ((n0 : Int) % 2)), .pointer (some ⟨w.heap.size + 2, 1, none⟩), .int .u8 n1, .int .u8 ((n1 : Int) % 2), .int .i64 ((n1 : Int) % 2), .int .i64 (2 + ((n1 : Int) % 2)), .agg (styC (2 + ((n1 : Int) % 2))), .pointer (some ⟨gx.1, 0, none⟩), .pointer (some ⟨gx.2, 0, none⟩), undef, undef]) [true, true, true, true, true, true, true, true, true, true, true, true, true, true, true] [11, 12, 13, 14] (InvY wr ((n0 : Int) % 2) (2 + ((n1 : Int) % 2))) (wr.heap.size, wr.heap.size) (by kernel_rfl) (fun gx => by simp [fin, finOn, dstAt, List.range, List.range.loop, Act.put]; rfl) (fun _ => by kernel_rfl) (by kernel_rfl) ⟨below_drew (Below.refl _ _), Nat.le_refl _, Nat.le_refl _, (fun e => by cases e), (fun e => by cases e), fun e => by cases e⟩ ?_ ?_
  · refine ⟨fun L gx wq hL hb ha hI => ?_, fun L gx wq hL hb ha hI => ?_, fun L gx wq hL hb ha hI => ?_, fun L gx wq hL hb ha hI => ?_, fun L gx wq hL hb ha hI => ?_, fun L gx wq hL hb ha hI => ?_, fun L gx wq hL hb ha hI => ?_, fun L gx wq hL hb ha hI => ?_, fun L gx wq hL hb ha hI => ?_, fun L gx wq hL hb ha hI => ?_, fun L gx wq hL hb ha hI => ?_, fun L gx wq hL hb ha hI => ?_, fun L gx wq hL hb ha hI => ?_, fun L gx wq hL hb ha hI => ?_, fun L gx wq hL hb ha hI => ?_, trivial⟩
    · exact Gives.plain (v := .pointer (some ⟨w.heap.size + 2, 0, none⟩)) (w' := wq) (by simp [go_sem]) rfl hI
    · have cJ := (keep (hI.1) K2.out).cell 0
      exact Gives.plain (v := .int .u8 n0) (w' := wq) (by simp [go_sem, cJ]) rfl hI
    · exact Gives.plain (v := .int .u8 ((n0 : Int) % 2)) (w' := wq) (by simp [go_sem]; exact Int.tmod_eq_emod_of_nonneg (by omega)) rfl hI
    · exact Gives.plain (v := .int .i64 ((n0 : Int) % 2)) (w' := wq) (by simp [go_sem]; exact IntWalk.i64_in _ (by omega)) rfl hI
    · exact Gives.plain (v := .agg (styC ((n0 : Int) % 2))) (w' := wq) (by simp [go_sem]) rfl hI
    · exact Gives.plain (v := .pointer (some ⟨w.heap.size + 2, 1, none⟩)) (w' := wq) (by simp [go_sem]) rfl hI
    · have cJ := (keep (hI.1) K2.out).cell 1
      exact Gives.plain (v := .int .u8 n1) (w' := wq) (by simp [go_sem, cJ]) rfl hI
    · exact Gives.plain (v := .int .u8 ((n1 : Int) % 2)) (w' := wq) (by simp [go_sem]; exact Int.tmod_eq_emod_of_nonneg (by omega)) rfl hI
    · exact Gives.plain (v := .int .i64 ((n1 : Int) % 2)) (w' := wq) (by simp [go_sem]; exact IntWalk.i64_in _ (by omega)) rfl hI
    · exact Gives.plain (v := .int .i64 (2 + ((n1 : Int) % 2))) (w' := wq) (by simp [go_sem]; exact IntWalk.i64_in _ (by omega)) rfl hI
    · exact Gives.plain (v := .agg (styC (2 + ((n1 : Int) % 2)))) (w' := wq) (by simp [go_sem]) rfl hI
    · have ei : L 11 = false := hL
      have es : L 13 = false := ha 13 (by kernel_rfl)
      cases eo : L 12 <;> cases et : L 14
      all_goals
        simp only [List.map, ei, es, eo, et] at hI ⊢
        obtain ⟨h1, h2, h3, h4, h5, h6⟩ := hI
        exact Gives.value (v := .pointer (some ⟨wq.heap.size, 0, none⟩)) (w' := wq.alloc (.cells (styC 0) 45)) (by simp [go_sem]) ⟨(wq.heap.size, gx.2), rfl, (KeepsV.of_same ⟨.inr (.inr rfl), .inr (.inr rfl), .inr (.inr rfl), .inr (.inr rfl), .inr (.inr rfl), .inr (.inr rfl), .inr (.inr rfl), .inr (.inr rfl), .inr (.inr rfl), .inr (.inr rfl), .inr (.inr rfl), .inl rfl, (by first | exact .inr (.inr rfl) | exact .inr (.inl (by kernel_rfl))), .inr (.inr rfl), .inr (.inr rfl), trivial⟩), h1.trans ((bel_alloc wq (.cells (styC 0) 45)).mono h1.size), h1.size, h3, (fun _ e => Nat.ne_of_gt (h6 e).lt), (fun _ => Blk.new _ _ _), fun e => (h6 e).alloc _⟩
    · have ei : L 12 = false := hL
      have es : L 14 = false := ha 14 (by kernel_rfl)
      cases eo : L 11 <;> cases et : L 13
      all_goals
        simp only [List.map, ei, es, eo, et] at hI ⊢
        obtain ⟨h1, h2, h3, h4, h5, h6⟩ := hI
        exact Gives.value (v := .pointer (some ⟨wq.heap.size, 0, none⟩)) (w' := wq.alloc (.cells (styC 0) 45)) (by simp [go_sem]) ⟨(gx.1, wq.heap.size), rfl, (KeepsV.of_same ⟨.inr (.inr rfl), .inr (.inr rfl), .inr (.inr rfl), .inr (.inr rfl), .inr (.inr rfl), .inr (.inr rfl), .inr (.inr rfl), .inr (.inr rfl), .inr (.inr rfl), .inr (.inr rfl), .inr (.inr rfl), (by first | exact .inr (.inr rfl) | exact .inr (.inl (by kernel_rfl))), .inl rfl, .inr (.inr rfl), .inr (.inr rfl), trivial⟩), h1.trans ((bel_alloc wq (.cells (styC 0) 45)).mono h1.size), h2, h1.size, (fun e _ => Nat.ne_of_lt (h5 e).lt), (fun e => (h5 e).alloc _), fun _ => Blk.new _ _ _⟩
    · have ea : L 11 = true := hb 11 (by kernel_rfl)
      have ei : L 13 = false := hL
      cases eo : L 12 <;> cases et : L 14
      all_goals
        simp only [List.map, ei, ea, eo, et] at hI ⊢
        obtain ⟨h1, h2, h3, h4, h5, h6⟩ := hI
        have cJ := fun i => (h5 rfl).cell i
        have fJ := fun i => (h5 rfl).frozen i
        exact Gives.skip (w' := (wq.setCell ⟨gx.1, 0, none⟩ (.int .i64 ((n0 : Int) % 2))).setCell ⟨gx.1, 1, none⟩ (.bool false)) (by simp [go_sem, cJ, fJ]) ⟨_, rfl, KeepsV.same, (h1.setCell (p := ⟨gx.1, 0, none⟩) h2 _).setCell (p := ⟨gx.1, 1, none⟩) h2 _, h2, h3, h4, (fun _ => (((h5 rfl).set_ 0 (.int .i64 ((n0 : Int) % 2))).set_ 1 (.bool false))), fun e => ((h6 e).far (Ne.symm (h4 rfl e)) _).far (Ne.symm (h4 rfl e)) _⟩
    · have ea : L 12 = true := hb 12 (by kernel_rfl)
      have ei : L 14 = false := hL
      cases eo : L 11 <;> cases et : L 13
      all_goals
        simp only [List.map, ei, ea, eo, et] at hI ⊢
        obtain ⟨h1, h2, h3, h4, h5, h6⟩ := hI
        have cJ := fun i => (h6 rfl).cell i
        have fJ := fun i => (h6 rfl).frozen i
        exact Gives.skip (w' := (wq.setCell ⟨gx.2, 0, none⟩ (.int .i64 (2 + ((n1 : Int) % 2)))).setCell ⟨gx.2, 1, none⟩ (.bool false)) (by simp [go_sem, cJ, fJ]) ⟨_, rfl, KeepsV.same, (h1.setCell (p := ⟨gx.2, 0, none⟩) h3 _).setCell (p := ⟨gx.2, 1, none⟩) h3 _, h2, h3, h4, (fun e => ((h5 e).far (h4 e rfl) _).far (h4 e rfl) _), fun _ => (((h6 rfl).set_ 0 (.int .i64 (2 + ((n1 : Int) % 2)))).set_ 1 (.bool false))⟩
  intro gx wy hI
  have hb := hI.1
  have Y1 := Lib.hid (hI.2.2.2.2.1 rfl)
  have Y2 := Lib.hid (hI.2.2.2.2.2 rfl)
  clear hI K1 K2
  rw [if_pos rfl] at Y1 Y2
  replace K0 := Lib.hid (keep hb K0.out)
  replace H0 := Lib.hid (H0.out.trans (hb.mono H0.out.size))
  clear hb
  generalize gx.1 = ga at *
  generalize gx.2 = gb at *
  have HLV := Lib.hid (show (0 ≤ ((n0 : Int) % 2) ∧ ((n0 : Int) % 2) ≤ 1) ∧ (2 ≤ 2 + ((n1 : Int) % 2) ∧ 2 + ((n1 : Int) % 2) ≤ 3) by omega)
  have HCL := Lib.hid (show (0 ≤ ((m0 : Int) % 8) ∧ ((m0 : Int) % 8) ≤ 7) ∧ (0 ≤ ((m1 : Int) % 8) ∧ ((m1 : Int) % 8) ≤ 7) by omega)
  clear hn0 hn1 hm0 hm1
  generalize ((m0 : Int) % 8) = l at *
  generalize ((m1 : Int) % 8) = r at *
  generalize ((n0 : Int) % 2) = t at *
  generalize 2 + ((n1 : Int) % 2) = s at *
  have HM := Lib.hid (len_mono HQ.out.1.1 HQ.out.2.1 HQ.out.2.2 (l := l.toNat) (r := r.toNat) (by have := HCL.out; omega) (by have := HCL.out; omega) HLV.out.1 HLV.out.2)
  clear HQ
  have d0 := Y1.out.cell 0
  have d1 := Y1.out.cell 1
  go_wp2_with (refine wpList_load_rowW (by rfl) 42 (.tmp 3) rfl w.heap.size rfl 42 cs (0, 0) _ K0.out Try.underlying42 rfl HSZ.out ?_)
  refine (HA.out l r t false wy (HFA.out.keep H0.out)).mono ?_
  rintro e w5 ⟨rfl, hb⟩
  rw [HOK.out l r t HCL.out.1 HCL.out.2 (by have := HLV.out; omega)]
  clear d0 d1
  replace K0 := Lib.hid (keep hb K0.out)
  replace Y1 := Lib.hid (keep hb Y1.out)
  replace Y2 := Lib.hid (keep hb Y2.out)
  replace H0 := Lib.hid (H0.out.trans (hb.mono H0.out.size))
  clear hb
  have d0 := Y2.out.cell 0
  have d1 := Y2.out.cell 1
  go_wp2_with (refine wpList_load_rowW (by rfl) 42 (.tmp 3) rfl w.heap.size rfl 42 cs (0, 0) _ K0.out Try.underlying42 rfl HSZ.out ?_)
  refine (HA.out l r s false w5 (HFA.out.keep H0.out)).mono ?_
  rintro e w6 ⟨rfl, hb⟩
  rw [HOK.out l r s HCL.out.1 HCL.out.2 (by have := HLV.out; omega)]
  clear d0 d1
  replace K0 := Lib.hid (keep hb K0.out)
  replace Y1 := Lib.hid (keep hb Y1.out)
  replace H0 := Lib.hid (H0.out.trans (hb.mono H0.out.size))
  clear hb
  have d0 := Y1.out.cell 0
  have d1 := Y1.out.cell 1
  go_wp2_with (refine wpList_load_rowW (by rfl) 42 (.tmp 3) rfl w.heap.size rfl 42 cs (0, 0) _ K0.out Try.underlying42 rfl HSZ.out ?_)
  refine (HA.out l r t true w6 (HFA.out.keep H0.out)).mono ?_
  rintro e w7 ⟨rfl, hb⟩
  rw [HOK.out l r t HCL.out.1 HCL.out.2 (by have := HLV.out; omega)]
  replace H0 := Lib.hid (H0.out.trans (hb.mono H0.out.size))
  clear hb d0 d1
  obtain ⟨hm1, hm2⟩ := HM.out
  generalize lenP (rndP (p 0 * pctV s (p 15) (p 16)) 100) l.toNat r.toNat s = b at *
  generalize lenP (rndP (p 0 * pctV t (p 15) (p 16)) 100) l.toNat r.toNat t = a at *
  go_wp2_with fail
  go_ret
  exact ⟨rfl, H0.out⟩
end Go.Proofs.Ytgoafobhhmeppaa
