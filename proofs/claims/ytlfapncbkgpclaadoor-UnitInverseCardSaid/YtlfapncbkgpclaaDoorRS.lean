/- UnitRescale returns true for every value, scaling and byte, if awake does. -/
import Derived.Test.YtlfapncbkgpclaaDoorN
import Derived.Test.YtlfapncbkgpclaaDoorG
namespace Go.Proofs.YtlfapncbkgpclaaDoor
open Go.RowKit
def rescR (x : V9) (f : F7) : Value := if x.ok && f.pos then rescV x f else v2V V9.zero 1
theorem resc_any (x : V9) (f : F7) (w : World) : Calls Tryd.prog 26 #[x.v, f.v] w fun e w' => e = .returned (rescR x f) ∧ Below w.heap.size w w' := by
  unfold rescR
  cases hx : x.ok
  · exact resc_inv x f w hx
  · cases hp : f.pos
    · exact resc_bad x f w hx hp
    · exact resc_ok x f w hx hp
theorem rresc_any (x : V9) (f : F7) (w : World) : Calls Tryd.prog 27 #[x.v, f.v] w fun e w' => e = .returned (rescR x f) ∧ Below w.heap.size w w' := by
  unfold rescR
  cases h : x.ok && f.pos
  · exact rresc_bad x f w h
  · have h' := Bool.and_eq_true_iff.1 h
    exact rresc_ok x f w h'.1 h'.2
theorem resc_parts (x : V9) (f : F7) : ∃ X E, rescR x f = v2V X E := by
  unfold rescR rescV
  split
  · split
    · split
      · exact ⟨_, _, rfl⟩
      · split
        · exact ⟨_, _, rfl⟩
        · exact ⟨_, _, rfl⟩
    · exact ⟨_, _, rfl⟩
  · exact ⟨_, _, rfl⟩
/-- two dimensions compared one level down, as the walk meets it within a value -/
theorem eq_dim9 (x0 x1 x2 x3 x4 x5 x6 y0 y1 y2 y3 y4 y5 y6 : Int) (w : World) : (Op.equalIn 9999 23 (.agg #[.int .i64 x0, .int .i64 x1, .int .i64 x2, .int .i64 x3, .int .i64 x4, .int .i64 x5, .int .i64 x6]) (.agg #[.int .i64 y0, .int .i64 y1, .int .i64 y2, .int .i64 y3, .int .i64 y4, .int .i64 y5, .int .i64 y6])).run Tryd.prog w = .ok (D7.beq ⟨x0, x1, x2, x3, x4, x5, x6⟩ ⟨y0, y1, y2, y3, y4, y5, y6⟩) w :=
  eq_dim0 9997 ⟨x0, x1, x2, x3, x4, x5, x6⟩ ⟨y0, y1, y2, y3, y4, y5, y6⟩ w
/-- one number replaced by 0 / 1 -/
def F7.put (f : F7) (j : Nat) : F7 := ⟨if j = 0 then 0 else f.n0, if j = 0 then 1 else f.d0, if j = 1 then 0 else f.n1, if j = 1 then 1 else f.d1, if j = 2 then 0 else f.n2, if j = 2 then 1 else f.d2, if j = 3 then 0 else f.n3, if j = 3 then 1 else f.d3, if j = 4 then 0 else f.n4, if j = 4 then 1 else f.d4, if j = 5 then 0 else f.n5, if j = 5 then 1 else f.d5, if j = 6 then 0 else f.n6, if j = 6 then 1 else f.d6⟩
theorem put_c (f : F7) (j : Nat) (hj : j < 7) : (f.c.setIfInBounds (j * 2) (.int .i64 0)).setIfInBounds (j * 2 + 1) (.int .i64 1) = (f.put j).c := by
  match j, hj with
  | 0, _ => simp [F7.put]
  | 1, _ => simp [F7.put]
  | 2, _ => simp [F7.put]
  | 3, _ => simp [F7.put]
  | 4, _ => simp [F7.put]
  | 5, _ => simp [F7.put]
  | 6, _ => simp [F7.put]
theorem put_pos (f : F7) (j : Nat) (hj : j < 7) : (f.put j).pos = false := by
  refine not_pos _ j hj ?_
  match j, hj with
  | 0, _ => simp [F7.put, F7.n, F7.d, posB]
  | 1, _ => simp [F7.put, F7.n, F7.d, posB]
  | 2, _ => simp [F7.put, F7.n, F7.d, posB]
  | 3, _ => simp [F7.put, F7.n, F7.d, posB]
  | 4, _ => simp [F7.put, F7.n, F7.d, posB]
  | 5, _ => simp [F7.put, F7.n, F7.d, posB]
  | 6, _ => simp [F7.put, F7.n, F7.d, posB]

set_option maxRecDepth 100000 in
set_option maxHeartbeats 4000000 in
theorem rescale_walk (x : V9) (s : F7) (n : Int) (w : World) (haw : Awake w) (hs : s.bytes) (hn1 : 0 ≤ n) (hn2 : n ≤ 255) : Calls Tryd.prog 7 #[x.v, .agg s.u, .int .u8 n] w fun e w' => e = .returned (.bool true) ∧ Below w.heap.size w w' := by
  have heq := eq_dim9
  have hself := beq_self
  obtain ⟨X, E, hXE⟩ := resc_parts x (numQ s)
  have HXE := Lib.hid hXE
  have HS := Lib.hid hs
  clear hXE hs
  go_enter Tryd.func7, Tryd.ntmps7
  go_wp2_with fail
  refine (haw _ ((((Below.refl _ _).alloc (Nat.le_refl _) _).alloc (by simp) _))).mono ?_
  rintro e w1 ⟨rfl, hb⟩
  clear haw
  have H0 := Lib.hid (below2 hb)
  have K0 := Lib.hid (keep hb ((Blk.new w 35 x.c).alloc _))
  have K1 := Lib.hid (keep hb (Blk.new (w.alloc _) 49 s.u))
  rw [World.size_alloc] at K1
  clear hb
  have c0 := fun i => K0.out.cell i
  have f0 := fun i => K0.out.frozen i
  have l0 := K0.out.lt
  have c1 := fun i => K1.out.cell i
  have f1 := fun i => K1.out.frozen i
  have l1 := K1.out.lt
  go_wp2_with fail
  refine (numbers_any s _ HS.out).mono ?_
  rintro e w2 ⟨rfl, hb⟩
  generalize numQ s = F at *
  have N0 := Lib.hid (keep hb K0.out)
  have NB := Lib.hid (H0.out.trans (hb.mono H0.out.size))
  clear c0 f0 l0 c1 f1 l1 K0 K1 H0 hb
  have K0 := N0
  have H0 := NB
  clear N0 NB
  have HW1 : Hid (w.heap.size < w2.heap.size) := K0.out.lt
  have c0 := fun i => K0.out.cell i
  have f0 := fun i => K0.out.frozen i
  have l0 := K0.out.lt
  go_wp2_with fail
  refine (resc_any x F _).mono ?_
  rintro e w3 ⟨rfl, hb⟩
  rw [HXE.out]
  have N0 := Lib.hid (keep hb ((K0.out.alloc _).alloc _))
  have N2 := Lib.hid (keep hb ((Blk.new w2 52 F.c).alloc _))
  have N3 := Lib.hid (keep hb (Blk.new (w2.alloc _) 54 F.c))
  rw [World.size_alloc] at N3
  have NB := Lib.hid (((H0.out.alloc H0.out.size _).alloc (by have := H0.out.size; simp; omega) _).trans (hb.mono (by have := H0.out.size; simp; omega)))
  clear c0 f0 l0 K0 H0 hb
  have K0 := N0
  have K2 := N2
  have K3 := N3
  have H0 := NB
  clear N0 N2 N3 NB
  have HW0 : Hid (w.heap.size < w2.heap.size) := HW1
  generalize w2.heap.size = g2 at *
  unfold v2V
  have c0 := fun i => K0.out.cell i
  have f0 := fun i => K0.out.frozen i
  have l0 := K0.out.lt
  have c2 := fun i => K2.out.cell i
  have f2 := fun i => K2.out.frozen i
  have l2 := K2.out.lt
  have c3 := fun i => K3.out.cell i
  have f3 := fun i => K3.out.frozen i
  have l3 := K3.out.lt
  go_wp2_with fail
  refine (rresc_any x F _).mono ?_
  rintro e w4 ⟨rfl, hb⟩
  rw [HXE.out]
  have N0 := Lib.hid (keep hb (K0.out.alloc _))
  have N2 := Lib.hid (keep hb (K2.out.alloc _))
  have N4 := Lib.hid (keep hb (Blk.new w3 35 X.c))
  have NB := Lib.hid ((H0.out.alloc H0.out.size _).trans (hb.mono (by have := H0.out.size; simp; omega)))
  have HG : Hid (g2 < w3.heap.size) := K2.out.lt
  have HW : Hid (w.heap.size < g2) := HW0
  clear c0 f0 l0 c2 f2 l2 c3 f3 l3 K0 K2 K3 H0 hb
  have K0 := N0
  have K2 := N2
  have K4 := N4
  have H0 := NB
  clear N0 N2 N4 NB
  generalize w3.heap.size = g3 at *
  unfold v2V
  have c0 := fun i => K0.out.cell i
  have f0 := fun i => K0.out.frozen i
  have l0 := K0.out.lt
  have c2 := fun i => K2.out.cell i
  have f2 := fun i => K2.out.frozen i
  have l2 := K2.out.lt
  have c4 := fun i => K4.out.cell i
  have f4 := fun i => K4.out.frozen i
  have l4 := K4.out.lt
  go_upto_region 6 with (fail)
  have N0 := Lib.hid (K0.out.alloc (.cells X.c 35))
  have N2 := Lib.hid (K2.out.alloc (.cells X.c 35))
  have N4 := Lib.hid (K4.out.alloc (.cells X.c 35))
  have N5 := Lib.hid (Blk.new w4 35 X.c)
  have NB := Lib.hid (H0.out.alloc H0.out.size (.cells X.c 35))
  clear c0 f0 l0 c2 f2 l2 c4 f4 l4 K0 K2 K4 H0
  have K0 := N0
  have K2 := N2
  have K4 := N4
  have K5 := N5
  have H0 := NB
  clear N0 N2 N4 N5 NB
  generalize w4.alloc (.cells #[.int .i64 X.n, .int .i64 X.d, .int .i64 X.m.a0, .int .i64 X.m.a1, .int .i64 X.m.a2, .int .i64 X.m.a3, .int .i64 X.m.a4, .int .i64 X.m.a5, .int .i64 X.m.a6] 35) = w5 at *
  generalize w4.heap.size = g4 at *
  have c0 := fun i => K0.out.cell i
  have f0 := fun i => K0.out.frozen i
  have l0 := K0.out.lt
  have c4 := fun i => K4.out.cell i
  have f4 := fun i => K4.out.frozen i
  have l4 := K4.out.lt
  have c5 := fun i => K5.out.cell i
  have f5 := fun i => K5.out.frozen i
  have l5 := K5.out.lt
  generalize hok : x.ok = o
  have HOK := Lib.hid hok
  clear hok
  go_cut [46] (fun b wc => b = .bool false ∧ Hid (Blk wc w.heap.size 35 x.c) ∧ Hid (Blk wc g2 52 F.c) ∧ Hid (Blk wc g3 35 X.c) ∧ Hid (Below w.heap.size w wc))
  case first =>
    go_region_with (first | (go_at_call 24; refine (vv_any x _).mono ?_; rintro e wa ⟨rfl, hbq⟩; have waK0 := Lib.hid (keep hbq K0.out.drew); have waK2 := Lib.hid (keep hbq K2.out.drew); have waK4 := Lib.hid (keep hbq K4.out.drew); have waK5 := Lib.hid (keep hbq K5.out.drew); have waB := Lib.hid (H0.out.drew.trans (hbq.mono (by have := H0.out.size; simp; omega))); clear hbq; have wac0 := fun i => waK0.out.cell i; have wal0 := waK0.out.lt; have wac4 := fun i => waK4.out.cell i; have wal4 := waK4.out.lt; have wac5 := fun i => waK5.out.cell i; have wal5 := waK5.out.lt; rw [HOK.out]) | (go_at_call 28; refine (rvv_any x _).mono ?_; rintro e wb ⟨rfl, hbq⟩; have wbK0 := Lib.hid (keep hbq K0.out.drew); have wbK2 := Lib.hid (keep hbq K2.out.drew); have wbK4 := Lib.hid (keep hbq K4.out.drew); have wbK5 := Lib.hid (keep hbq K5.out.drew); have wbB := Lib.hid (H0.out.drew.trans (hbq.mono (by have := H0.out.size; simp; omega))); clear hbq; have wbc0 := fun i => wbK0.out.cell i; have wbl0 := wbK0.out.lt; have wbc4 := fun i => wbK4.out.cell i; have wbl4 := wbK4.out.lt; have wbc5 := fun i => wbK5.out.cell i; have wbl5 := wbK5.out.lt; rw [HOK.out]) | (go_at_call 28; refine (rvv_any x _).mono ?_; rintro e wc1 ⟨rfl, hbq⟩; have wc1K0 := Lib.hid (keep hbq waK0.out); have wc1K2 := Lib.hid (keep hbq waK2.out); have wc1K4 := Lib.hid (keep hbq waK4.out); have wc1K5 := Lib.hid (keep hbq waK5.out); have wc1B := Lib.hid (waB.out.trans (hbq.mono (by have := H0.out.size; exact waB.out.size))); clear hbq; have wc1c0 := fun i => wc1K0.out.cell i; have wc1l0 := wc1K0.out.lt; have wc1c4 := fun i => wc1K4.out.cell i; have wc1l4 := wc1K4.out.lt; have wc1c5 := fun i => wc1K5.out.cell i; have wc1l5 := wc1K5.out.lt; rw [HOK.out]) | (go_at_call 24; refine (vv_any x _).mono ?_; rintro e wd1 ⟨rfl, hbq⟩; have wd1K0 := Lib.hid (keep hbq wbK0.out); have wd1K2 := Lib.hid (keep hbq wbK2.out); have wd1K4 := Lib.hid (keep hbq wbK4.out); have wd1K5 := Lib.hid (keep hbq wbK5.out); have wd1B := Lib.hid (wbB.out.trans (hbq.mono (by have := H0.out.size; exact wbB.out.size))); clear hbq; have wd1c0 := fun i => wd1K0.out.cell i; have wd1l0 := wd1K0.out.lt; have wd1c4 := fun i => wd1K4.out.cell i; have wd1l4 := wd1K4.out.lt; have wd1c5 := fun i => wd1K5.out.cell i; have wd1l5 := wd1K5.out.lt; rw [HOK.out]))
    all_goals (go_wp2_with fail; go_meet; first | exact ⟨by simp, wc1K0, wc1K2, wc1K4, wc1B⟩ | exact ⟨by simp, wd1K0, wd1K2, wd1K4, wd1B⟩)
  case rest =>
    clear c0 f0 l0 c4 f4 l4 c5 f5 l5 K0 K2 K4 K5 H0
    obtain ⟨rfl, K0, K2, K4, H0⟩ := hcut
    have c0 := fun i => K0.out.cell i
    have f0 := fun i => K0.out.frozen i
    have l0 := K0.out.lt
    have c2 := fun i => K2.out.cell i
    have f2 := fun i => K2.out.frozen i
    have l2 := K2.out.lt
    have c4 := fun i => K4.out.cell i
    have f4 := fun i => K4.out.frozen i
    have l4 := K4.out.lt
    obtain ⟨j, hj, hj7⟩ : ∃ j : Nat, n % 7 = (j : Int) ∧ j < 7 := ⟨(n % 7).toNat, by omega, by omega⟩
    have y1 := K2.out.cell (j * 2)
    have y2 := K2.out.cell (j * 2 + 1)
    rw [cell_fn F j hj7] at y1
    rw [cell_fd F j hj7] at y2
    have N0 := Lib.hid (blk_farij (j * 2) (j * 2 + 1) (.int .i64 0) (.int .i64 1) K0.out (g' := g2) (by intro e; rw [e] at K0; exact absurd (K0.out.symm.trans K2.out) (by simp)))
    have N4 := Lib.hid (blk_farij (j * 2) (j * 2 + 1) (.int .i64 0) (.int .i64 1) K4.out (g' := g2) (by have := HG.out; omega))
    have N2 := Lib.hid (blk_two (j * 2) (j * 2 + 1) (.int .i64 0) (.int .i64 1) K2.out)
    rw [put_c F j hj7] at N2
    have NB := Lib.hid ((H0.out.setCell (p := ⟨g2, j * 2, none⟩) (Nat.le_of_lt (by have := HW.out; simpa using this)) (.int .i64 0)).setCell (p := ⟨g2, j * 2 + 1, none⟩) (Nat.le_of_lt (by have := HW.out; simpa using this)) (.int .i64 1))
    clear c2 l2
    go_upto_region 9 with (fail)
    have HP := Lib.hid (show rescR x (F.put j) = v2V V9.zero 1 by unfold rescR; rw [put_pos F j hj7, Bool.and_false]; rfl)
    clear c0 f0 l0 f2 c4 f4 l4 K0 K2 K4 H0 y1 y2 hj
    have K0 := N0
    have K2 := N2
    have K4 := N4
    have H0 := NB
    clear N0 N2 N4 NB
    generalize (wc.setCell ⟨g2, j * 2, none⟩ (.int .i64 0)).setCell ⟨g2, j * 2 + 1, none⟩ (.int .i64 1) = w6 at *
    generalize F.put j = F' at *
    have c0 := fun i => K0.out.cell i
    have f0 := fun i => K0.out.frozen i
    have l0 := K0.out.lt
    have c2 := fun i => K2.out.cell i
    have f2 := fun i => K2.out.frozen i
    have l2 := K2.out.lt
    have c4 := fun i => K4.out.cell i
    have f4 := fun i => K4.out.frozen i
    have l4 := K4.out.lt
    go_wp2_with fail
    refine (resc_any x F' _).mono ?_
    rintro e w7 ⟨rfl, hb⟩
    rw [HP.out]
    have N4 := Lib.hid (keep hb K4.out)
    have NB := Lib.hid (H0.out.trans (hb.mono H0.out.size))
    clear c0 f0 l0 c2 f2 l2 c4 f4 l4 K0 K2 K4 H0 hb
    have K4 := N4
    have H0 := NB
    clear N4 NB
    unfold v2V
    have c4 := fun i => K4.out.cell i
    have f4 := fun i => K4.out.frozen i
    have l4 := K4.out.lt
    go_wp2_with fail
    go_ret
    have hle : w.heap.size ≤ g3 := by have := HG.out; have := HW.out; omega
    exact ⟨rfl, by repeat' (first | (with_reducible exact H0.out) | (with_reducible refine Below.setCell ?_ ?_ _) | (with_reducible refine Below.alloc ?_ ?_ _) | (with_reducible refine below_drewN ?_ _) | (with_reducible refine Below.drew ?_) | (have := H0.out.size; go_size))⟩
end Go.Proofs.YtlfapncbkgpclaaDoor
