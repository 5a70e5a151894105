/- UnitInverse returns true for every value and scaling, if awake does. -/
import Derived.Test.YtlfapncbkgpclaaDoorI0
namespace Go.Proofs.YtlfapncbkgpclaaDoor
open Go.RowKit
def mx (f : F7) (k : Nat) : Array Value := (F7.mix k F7.zero f).c
theorem mx_zero (f : F7) : mx f 0 = F7.zero.c := by unfold mx; rw [fmix0]
theorem mx_seven (f : F7) (k : Nat) (h : ¬ k < 7) : mx f k = f.c := by unfold mx; rw [fmix7 _ _ k h]
theorem mx_set (f : F7) (k : Nat) (hk : k < 7) : ((mx f k).setIfInBounds (k * 2) (.int .i64 (f.n k))).setIfInBounds (k * 2 + 1) (.int .i64 (f.d k)) = mx f (k + 1) := fmix_set _ _ k hk
theorem mx_some (f : F7) (k : Nat) (hk : k < 7) : ∃ x y, (mx f k)[k * 2]? = some (.int .i64 x) ∧ (mx f k)[k * 2 + 1]? = some (.int .i64 y) := ⟨_, _, cell_fn _ k hk, cell_fd _ k hk⟩
theorem far4 {w : World} {g g1 g2 : Nat} {t : TypeId} {cs : Array Value} (i j k l : Nat) (a b c d : Value) (h : Blk w g t cs) (h1 : g ≠ g1) (h2 : g ≠ g2) : Blk ((((w.setCell ⟨g1, i, none⟩ a).setCell ⟨g1, j, none⟩ b).setCell ⟨g2, k, none⟩ c).setCell ⟨g2, l, none⟩ d).drew g t cs :=
  blk_farij k l c d (blk_farij i j a b h h1) h2
set_option maxRecDepth 100000 in
set_option maxHeartbeats 4000000 in
theorem inverse_bad (x : V9) (s : F7) (w : World) (haw : Awake w) (hx : x.ok = false) : Calls Tryd.prog 8 #[x.v, .agg s.u] w fun e w' => e = .returned (.bool true) ∧ Below w.heap.size w w' := by
  have HX := Lib.hid hx
  clear hx
  go_enter Tryd.func8, Tryd.ntmps8
  go_wp2_with fail
  refine (haw _ ((((Below.refl _ _).alloc (Nat.le_refl _) _).alloc (by simp) _))).mono ?_
  rintro e w1 ⟨rfl, hb⟩
  clear haw
  have H0 := Lib.hid (below2 hb)
  have K0 := Lib.hid (keep hb ((Blk.new w 35 x.c).alloc _))
  clear hb
  have c0 := fun i => K0.out.cell i
  have f0 := fun i => K0.out.frozen i
  have l0 := K0.out.lt
  go_wp2_with fail
  refine (rvv_any x _).mono ?_
  rintro e w2 ⟨rfl, hb⟩
  rw [HX.out]
  have NB := Lib.hid (H0.out.trans (hb.mono H0.out.size))
  clear c0 f0 l0 K0 H0 hb
  go_wp2_with fail
  go_ret
  exact ⟨rfl, NB.out⟩
set_option maxRecDepth 100000 in
set_option maxHeartbeats 4000000 in
theorem inverse_ok (x : V9) (s : F7) (w : World) (haw : Awake w) (hs : s.bytes) (hx : x.ok = true) : Calls Tryd.prog 8 #[x.v, .agg s.u] w fun e w' => e = .returned (.bool true) ∧ Below w.heap.size w w' := by
  have heq := eq_dim9
  have hself := beq_self
  have HX := Lib.hid hx
  have HS := Lib.hid hs
  have HP := Lib.hid (numQ_pos s hs)
  have HO := Lib.hid (resc_ones hx)
  clear hx hs
  go_enter Tryd.func8, Tryd.ntmps8
  go_wp2_with fail
  refine (haw _ ((((Below.refl _ _).alloc (Nat.le_refl _) _).alloc (by simp) _))).mono ?_
  rintro e w1 ⟨rfl, hb⟩
  clear haw
  have H0 := Lib.hid (below2 hb)
  have K0 := Lib.hid (keep hb ((Blk.new w 35 x.c).alloc _))
  have K1 := Lib.hid (keep hb (Blk.new (w.alloc _) 49 s.u))
  rw [World.size_alloc] at K1
  clear hb
  have c0 := fun i => K0.out.cell i
  have f0 := fun i => K0.out.frozen i
  have l0 := K0.out.lt
  have c1 := fun i => K1.out.cell i
  have f1 := fun i => K1.out.frozen i
  have l1 := K1.out.lt
  go_wp2_with fail
  refine (rvv_any x _).mono ?_
  rintro e w2 ⟨rfl, hb⟩
  rw [HX.out]
  have N0 := Lib.hid (keep hb K0.out)
  have N1 := Lib.hid (keep hb K1.out)
  have NB := Lib.hid (H0.out.trans (hb.mono H0.out.size))
  clear c0 f0 l0 c1 f1 l1 K0 K1 H0 hb
  have K0 := N0
  have K1 := N1
  have H0 := NB
  clear N0 N1 NB
  have c0 := fun i => K0.out.cell i
  have f0 := fun i => K0.out.frozen i
  have l0 := K0.out.lt
  have c1 := fun i => K1.out.cell i
  have f1 := fun i => K1.out.frozen i
  have l1 := K1.out.lt
  go_wp2_with fail
  refine (numbers_any s _ HS.out).mono ?_
  rintro e w3 ⟨rfl, hb⟩
  generalize numQ s = F at *
  have N0 := Lib.hid (keep hb K0.out)
  have NB := Lib.hid (H0.out.trans (hb.mono H0.out.size))
  clear c0 f0 l0 c1 f1 l1 K0 K1 H0 hb
  have K0 := Lib.hid ((((N0.out.alloc (Obj.cells F.c 52)).alloc (Obj.cells F.c 54)).alloc (Obj.cells F7.zero.c 52)).alloc (Obj.cells F7.zero.c 52))
  have K2 := Lib.hid ((((Blk.new w3 52 F.c).alloc (Obj.cells F.c 54)).alloc (Obj.cells F7.zero.c 52)).alloc (Obj.cells F7.zero.c 52))
  have K4 := Lib.hid ((Blk.new ((w3.alloc (Obj.cells F.c 52)).alloc (Obj.cells F.c 54)) 52 F7.zero.c).alloc (Obj.cells F7.zero.c 52))
  have K5 := Lib.hid (Blk.new (((w3.alloc (Obj.cells F.c 52)).alloc (Obj.cells F.c 54)).alloc (Obj.cells F7.zero.c 52)) 52 F7.zero.c)
  have HW : Hid (w.heap.size < w3.heap.size) := N0.out.lt
  have H0 := Lib.hid ((((NB.out.alloc NB.out.size (.cells F.c 52)).alloc (by have := NB.out.size; simp; omega) (.cells F.c 54)).alloc (by have := NB.out.size; simp; omega) (.cells F7.zero.c 52)).alloc (by have := NB.out.size; simp; omega) (.cells F7.zero.c 52))
  simp only [World.size_alloc] at K2 K4 K5
  clear N0 NB
  go_wp2_with fail
  generalize w3.heap.size = g2 at *
  go_loopw [9] (fun i wr => ∃ k : Nat, k ≤ 7 ∧ i = .int .i64 k ∧ Hid (Blk wr w.heap.size 35 x.c) ∧ Hid (Blk wr g2 52 F.c) ∧ Hid (Blk wr (g2 + 1 + 1) 52 (mx F7.ones k)) ∧ Hid (Blk wr (g2 + 1 + 1 + 1) 52 (mx F.inv k)) ∧ Hid (Below w.heap.size w wr)) (fun i _ => 7 - (intOf i).toNat)
  case atStart => exact ⟨0, by omega, rfl, K0, K2, by rw [mx_zero]; exact K4, by rw [mx_zero]; exact K5, H0⟩
  case round =>
    clear K0 K2 K4 K5 H0
    obtain ⟨k, hk, rfl, K0, K2, K4, K5, H0⟩ := hrel
    by_cases hlt : k < 7
    · have y1 := K2.out.cell (k * 2)
      have y2 := K2.out.cell (k * 2 + 1)
      rw [cell_fn F k hlt] at y1
      rw [cell_fd F k hlt] at y2
      obtain ⟨ox, oy, o1, o2⟩ := mx_some F7.ones k hlt
      obtain ⟨px, py, p1, p2⟩ := mx_some F.inv k hlt
      have z1 := K4.out.cell (k * 2)
      have z2 := K4.out.cell (k * 2 + 1)
      rw [o1] at z1
      rw [o2] at z2
      have z3 := K5.out.cell (k * 2)
      have z4 := K5.out.cell (k * 2 + 1)
      rw [p1] at z3
      rw [p2] at z4
      clear o1 o2 p1 p2
      have f4 := fun i => K4.out.frozen i
      have f5 := fun i => K5.out.frozen i
      have l5 := K5.out.lt
      have HM1 := Lib.hid (mx_set F7.ones k hlt)
      have HM2 := Lib.hid (mx_set F.inv k hlt)
      rw [(ones_at k hlt).1, (ones_at k hlt).2] at HM1
      rw [inv_n F k hlt, inv_d F k hlt] at HM2
      generalize F.n k = p at *
      generalize F.d k = q at *
      go_upto_region 10 with (fail)
      go_region
      all_goals (go_wp2_with fail; go_roundw)
      case rel => exact ⟨k + 1, by omega, by go_num, far4 _ _ _ _ _ _ _ _ K0.out (by have := HW.out; omega) (by have := HW.out; omega), far4 _ _ _ _ _ _ _ _ K2.out (by omega) (by omega), by rw [← HM1.out]; exact blk_farij _ _ _ _ (blk_two _ _ _ _ K4.out) (by omega), by rw [← HM2.out]; exact blk_two _ _ _ _ (blk_farij _ _ _ _ K5.out (by omega)), by have hg := HW.out; exact Below.drew ((((H0.out.setCell (by simp; omega) _).setCell (by simp; omega) _).setCell (by simp; omega) _).setCell (by simp; omega) _)⟩
      case measure => simp [intOf]; omega
    · rw [mx_seven _ k hlt] at K4 K5
      have c0 := fun i => K0.out.cell i
      have f0 := fun i => K0.out.frozen i
      have l0 := K0.out.lt
      have c2 := fun i => K2.out.cell i
      have f2 := fun i => K2.out.frozen i
      have l2 := K2.out.lt
      have c4 := fun i => K4.out.cell i
      have f4 := fun i => K4.out.frozen i
      have l4 := K4.out.lt
      go_wp2_with fail
      refine (resc_any x F7.ones _).mono ?_
      rintro e w4 ⟨rfl, hb⟩
      rw [HO.out]
      have N0 := Lib.hid (keep hb K0.out)
      have N2 := Lib.hid (keep hb K2.out)
      have N5 := Lib.hid (keep hb K5.out)
      have NB := Lib.hid (H0.out.trans (hb.mono H0.out.size))
      clear c0 f0 l0 c2 f2 l2 c4 f4 l4 K0 K2 K4 K5 H0 hb
      have K0 := N0
      have K2 := N2
      have K5 := N5
      have H0 := NB
      clear N0 N2 N5 NB
      unfold v2V
      have c0 := fun i => K0.out.cell i
      have f0 := fun i => K0.out.frozen i
      have l0 := K0.out.lt
      have c2 := fun i => K2.out.cell i
      have f2 := fun i => K2.out.frozen i
      have l2 := K2.out.lt
      obtain ⟨X, E, hXE⟩ := resc_parts x F
      have HXE := Lib.hid hXE
      clear hXE
      go_wp2_with fail
      refine (resc_any x F _).mono ?_
      rintro e w5 ⟨rfl, hb⟩
      have N0 := Lib.hid (keep hb (K0.out.alloc _))
      have N5 := Lib.hid (keep hb (K5.out.alloc _))
      have NB := Lib.hid ((H0.out.alloc H0.out.size _).trans (hb.mono (by have := H0.out.size; simp; omega)))
      clear c0 f0 l0 c2 f2 l2 K0 K2 K5 H0 hb
      have K0 := N0
      have K5 := N5
      have H0 := NB
      clear N0 N5 NB
      by_cases hE : E = 0
      · subst hE
        have HI := Lib.hid (inverse HX.out HP.out HXE.out)
        rw [HXE.out]
        unfold v2V
        have c0 := fun i => K0.out.cell i
        have f0 := fun i => K0.out.frozen i
        have l0 := K0.out.lt
        have c5 := fun i => K5.out.cell i
        have f5 := fun i => K5.out.frozen i
        have l5 := K5.out.lt
        go_wp2_with fail
        refine (resc_any X F.inv _).mono ?_
        rintro e w6 ⟨rfl, hb⟩
        rw [HI.out]
        have N0 := Lib.hid (keep hb (K0.out.alloc _))
        have NB := Lib.hid ((H0.out.alloc H0.out.size _).trans (hb.mono (by have := H0.out.size; simp; omega)))
        clear c0 f0 l0 c5 f5 l5 K0 K5 H0 hb
        have K0 := N0
        have H0 := NB
        clear N0 NB
        unfold v2V
        have c0 := fun i => K0.out.cell i
        have f0 := fun i => K0.out.frozen i
        have l0 := K0.out.lt
        go_wp2_with fail
        go_ret
        exact ⟨rfl, by repeat' (first | (with_reducible exact H0.out) | (with_reducible refine Below.setCell ?_ ?_ _) | (with_reducible refine Below.alloc ?_ ?_ _) | (with_reducible refine below_drewN ?_ _) | (with_reducible refine Below.drew ?_) | (have := H0.out.size; go_size))⟩
      · rw [HXE.out]
        unfold v2V
        have hE' : (E == 0) = false := by simpa using hE
        have hE2 : (E != 0) = true := by simpa using hE
        go_wp2_with fail
        go_ret
        exact ⟨rfl, by repeat' (first | (with_reducible exact H0.out) | (with_reducible refine Below.setCell ?_ ?_ _) | (with_reducible refine Below.alloc ?_ ?_ _) | (with_reducible refine below_drewN ?_ _) | (with_reducible refine Below.drew ?_) | (have := H0.out.size; go_size))⟩
theorem inverse_walk (x : V9) (s : F7) (w : World) (haw : Awake w) (hs : s.bytes) : Calls Tryd.prog 8 #[x.v, .agg s.u] w fun e w' => e = .returned (.bool true) ∧ Below w.heap.size w w' := by
  cases hx : x.ok
  · exact inverse_bad x s w haw hx
  · exact inverse_ok x s w haw hs hx
end Go.Proofs.YtlfapncbkgpclaaDoor
