/- numbers: seven fractions of bytes, each made one greater, in lowest terms. -/
import Derived.Test.YtlfapncbkgpclaaDoorQ10
namespace Go.Proofs.YtlfapncbkgpclaaDoor
open Go.RowKit
abbrev F7.u (f : F7) : Array Value := #[.int .u8 f.n0, .int .u8 f.d0, .int .u8 f.n1, .int .u8 f.d1, .int .u8 f.n2, .int .u8 f.d2, .int .u8 f.n3, .int .u8 f.d3, .int .u8 f.n4, .int .u8 f.d4, .int .u8 f.n5, .int .u8 f.d5, .int .u8 f.n6, .int .u8 f.d6]
abbrev F7.zero : F7 := ⟨0, 0, 0, 0, 0, 0, 0, 0, 0, 0, 0, 0, 0, 0⟩
theorem cell_un (f : F7) (k : Nat) (hk : k < 7) : f.u[k * 2]? = some (.int .u8 (f.n k)) := by
  match k, hk with
  | 0, _ => rfl
  | 1, _ => rfl
  | 2, _ => rfl
  | 3, _ => rfl
  | 4, _ => rfl
  | 5, _ => rfl
  | 6, _ => rfl
theorem cell_ud (f : F7) (k : Nat) (hk : k < 7) : f.u[k * 2 + 1]? = some (.int .u8 (f.d k)) := by
  match k, hk with
  | 0, _ => rfl
  | 1, _ => rfl
  | 2, _ => rfl
  | 3, _ => rfl
  | 4, _ => rfl
  | 5, _ => rfl
  | 6, _ => rfl
/-- the first k numbers of c, the others of a -/
def F7.mix (k : Nat) (a c : F7) : F7 := ⟨if 0 < k then c.n0 else a.n0, if 0 < k then c.d0 else a.d0, if 1 < k then c.n1 else a.n1, if 1 < k then c.d1 else a.d1, if 2 < k then c.n2 else a.n2, if 2 < k then c.d2 else a.d2, if 3 < k then c.n3 else a.n3, if 3 < k then c.d3 else a.d3, if 4 < k then c.n4 else a.n4, if 4 < k then c.d4 else a.d4, if 5 < k then c.n5 else a.n5, if 5 < k then c.d5 else a.d5, if 6 < k then c.n6 else a.n6, if 6 < k then c.d6 else a.d6⟩
theorem fmix0 (a c : F7) : F7.mix 0 a c = a := by simp [F7.mix]
theorem fmix7 (a c : F7) (k : Nat) (h : ¬ k < 7) : F7.mix k a c = c := by
  simp [F7.mix, show 0 < k by omega, show 1 < k by omega, show 2 < k by omega, show 3 < k by omega, show 4 < k by omega, show 5 < k by omega, show 6 < k by omega]
theorem fmix_set (a c : F7) (k : Nat) (hk : k < 7) : ((F7.mix k a c).c.setIfInBounds (k * 2) (.int .i64 (c.n k))).setIfInBounds (k * 2 + 1) (.int .i64 (c.d k)) = (F7.mix (k + 1) a c).c := by
  match k, hk with
  | 0, _ => simp [F7.mix, F7.n, F7.d]
  | 1, _ => simp [F7.mix, F7.n, F7.d]
  | 2, _ => simp [F7.mix, F7.n, F7.d]
  | 3, _ => simp [F7.mix, F7.n, F7.d]
  | 4, _ => simp [F7.mix, F7.n, F7.d]
  | 5, _ => simp [F7.mix, F7.n, F7.d]
  | 6, _ => simp [F7.mix, F7.n, F7.d]
theorem fmix_n (a c : F7) (k : Nat) (hk : k < 7) : (F7.mix (k + 1) a c).n k = c.n k := by
  match k, hk with
  | 0, _ => simp [F7.mix, F7.n]
  | 1, _ => simp [F7.mix, F7.n]
  | 2, _ => simp [F7.mix, F7.n]
  | 3, _ => simp [F7.mix, F7.n]
  | 4, _ => simp [F7.mix, F7.n]
  | 5, _ => simp [F7.mix, F7.n]
  | 6, _ => simp [F7.mix, F7.n]
theorem fmix_d (a c : F7) (k : Nat) (hk : k < 7) : (F7.mix (k + 1) a c).d k = c.d k := by
  match k, hk with
  | 0, _ => simp [F7.mix, F7.d]
  | 1, _ => simp [F7.mix, F7.d]
  | 2, _ => simp [F7.mix, F7.d]
  | 3, _ => simp [F7.mix, F7.d]
  | 4, _ => simp [F7.mix, F7.d]
  | 5, _ => simp [F7.mix, F7.d]
  | 6, _ => simp [F7.mix, F7.d]
/-- what numbers makes -/
def numQ (s : F7) : F7 := ⟨(makeQ (1 + s.n0) (1 + s.d0)).1, (makeQ (1 + s.n0) (1 + s.d0)).2.1, (makeQ (1 + s.n1) (1 + s.d1)).1, (makeQ (1 + s.n1) (1 + s.d1)).2.1, (makeQ (1 + s.n2) (1 + s.d2)).1, (makeQ (1 + s.n2) (1 + s.d2)).2.1, (makeQ (1 + s.n3) (1 + s.d3)).1, (makeQ (1 + s.n3) (1 + s.d3)).2.1, (makeQ (1 + s.n4) (1 + s.d4)).1, (makeQ (1 + s.n4) (1 + s.d4)).2.1, (makeQ (1 + s.n5) (1 + s.d5)).1, (makeQ (1 + s.n5) (1 + s.d5)).2.1, (makeQ (1 + s.n6) (1 + s.d6)).1, (makeQ (1 + s.n6) (1 + s.d6)).2.1⟩
theorem numQ_n (s : F7) (k : Nat) (hk : k < 7) : (numQ s).n k = (makeQ (1 + s.n k) (1 + s.d k)).1 := by
  match k, hk with
  | 0, _ => rfl
  | 1, _ => rfl
  | 2, _ => rfl
  | 3, _ => rfl
  | 4, _ => rfl
  | 5, _ => rfl
  | 6, _ => rfl
theorem numQ_d (s : F7) (k : Nat) (hk : k < 7) : (numQ s).d k = (makeQ (1 + s.n k) (1 + s.d k)).2.1 := by
  match k, hk with
  | 0, _ => rfl
  | 1, _ => rfl
  | 2, _ => rfl
  | 3, _ => rfl
  | 4, _ => rfl
  | 5, _ => rfl
  | 6, _ => rfl
def mixC (s : F7) (k : Nat) : Array Value := (F7.mix k F7.zero (numQ s)).c
def zF : Array Value := F7.zero.c
theorem mixC_zero (s : F7) : mixC s 0 = F7.zero.c := by unfold mixC; rw [fmix0]
theorem mixC_seven (s : F7) (k : Nat) (h : ¬ k < 7) : mixC s k = (numQ s).c := by unfold mixC; rw [fmix7 _ _ k h]
theorem mixC_set (s : F7) (k : Nat) (hk : k < 7) : ((mixC s k).setIfInBounds (k * 2) (.int .i64 ((numQ s).n k))).setIfInBounds (k * 2 + 1) (.int .i64 ((numQ s).d k)) = mixC s (k + 1) := fmix_set _ _ k hk
theorem mixC_n (s : F7) (k : Nat) (hk : k < 7) : (mixC s (k + 1))[k * 2]? = some (.int .i64 ((numQ s).n k)) := by
  unfold mixC; rw [cell_fn _ k hk, fmix_n _ _ k hk]
theorem mixC_d (s : F7) (k : Nat) (hk : k < 7) : (mixC s (k + 1))[k * 2 + 1]? = some (.int .i64 ((numQ s).d k)) := by
  unfold mixC; rw [cell_fd _ k hk, fmix_d _ _ k hk]
theorem mixC_some (s : F7) (k : Nat) (hk : k < 7) : ∃ x y, (mixC s k)[k * 2]? = some (.int .i64 x) ∧ (mixC s k)[k * 2 + 1]? = some (.int .i64 y) := ⟨_, _, cell_fn _ k hk, cell_fd _ k hk⟩
def F7.bytes (s : F7) : Prop := ∀ i, i < 7 → 0 ≤ s.n i ∧ s.n i ≤ 255 ∧ 0 ≤ s.d i ∧ s.d i ≤ 255
theorem make_small {a b : Int} (ha : 1 ≤ a ∧ a ≤ 256) (hb : 1 ≤ b ∧ b ≤ 256) : posB (makeQ a b).1 (makeQ a b).2.1 = true := by
  obtain ⟨x, rfl⟩ := Int.eq_ofNat_of_zero_le (show 0 ≤ a by omega)
  obtain ⟨y, rfl⟩ := Int.eq_ofNat_of_zero_le (show 0 ≤ b by omega)
  unfold makeQ
  rw [if_neg (by omega), show (!(decide ((x : Int) < 0) == decide ((y : Int) < 0))) = false by simp; omega]
  simp only [Int.natAbs_natCast]
  have hg : 0 < Nat.gcd x y := Nat.gcd_pos_of_pos_left _ (by omega)
  have h1 : x / Nat.gcd x y ≤ x := Nat.div_le_self _ _
  have h2 : y / Nat.gcd x y ≤ y := Nat.div_le_self _ _
  have h3 : 0 < x / Nat.gcd x y := Nat.div_pos (Nat.le_of_dvd (by omega) (Nat.gcd_dvd_left _ _)) hg
  have h4 : 0 < y / Nat.gcd x y := Nat.div_pos (Nat.le_of_dvd (by omega) (Nat.gcd_dvd_right _ _)) hg
  have h5 : Nat.gcd (x / Nat.gcd x y) (y / Nat.gcd x y) = 1 := Nat.gcd_div_gcd_div_gcd_of_pos_left (by omega)
  unfold redQ
  generalize x / Nat.gcd x y = u at *
  generalize y / Nat.gcd x y = v at *
  rw [if_neg (by omega)]
  simp [posB, valQ, inB, h5]
  omega
theorem numQ_pos (s : F7) (h : s.bytes) : (numQ s).pos = true := by
  rw [pos_iff]
  intro i hi
  rw [numQ_n s i hi, numQ_d s i hi]
  have := h i hi
  exact make_small (by omega) (by omega)
theorem blk_two {w : World} {g : Nat} {t : TypeId} {cs : Array Value} (i j : Nat) (u v : Value) (h : Blk w g t cs) : Blk ((w.setCell ⟨g, i, none⟩ u).setCell ⟨g, j, none⟩ v) g t ((cs.setIfInBounds i u).setIfInBounds j v) := (h.set_ i u).set_ j v
theorem blk_farij {w : World} {g g' : Nat} {t : TypeId} {cs : Array Value} (i j : Nat) (u v : Value) (h : Blk w g t cs) (hne : g ≠ g') : Blk ((w.setCell ⟨g', i, none⟩ u).setCell ⟨g', j, none⟩ v) g t cs :=
  (h.far (p := ⟨g', i, none⟩) hne u).far (p := ⟨g', j, none⟩) hne v

set_option maxRecDepth 100000 in
set_option maxHeartbeats 4000000 in
theorem numbers_any (s : F7) (w : World) (hs : s.bytes) : Calls Tryd.prog 25 #[.agg s.u] w fun e w' => e = .returned (.tuple #[(numQ s).v, (numQ s).v]) ∧ Below w.heap.size w w' := by
  have HS := Lib.hid hs
  clear hs
  have K0 := Lib.hid (((((Blk.new w 49 s.u).alloc (Obj.cells F7.zero.c 52)).alloc (Obj.cells F7.zero.c 54)).alloc (Obj.cells F7.zero.c 52)).alloc (Obj.cells F7.zero.c 54))
  have K1 := Lib.hid ((((Blk.new (w.alloc (Obj.cells s.u 49)) 52 F7.zero.c).alloc (Obj.cells F7.zero.c 54)).alloc (Obj.cells F7.zero.c 52)).alloc (Obj.cells F7.zero.c 54))
  have K2 := Lib.hid (((Blk.new ((w.alloc (Obj.cells s.u 49)).alloc (Obj.cells F7.zero.c 52)) 54 F7.zero.c).alloc (Obj.cells F7.zero.c 52)).alloc (Obj.cells F7.zero.c 54))
  have K3 := Lib.hid ((Blk.new (((w.alloc (Obj.cells s.u 49)).alloc (Obj.cells F7.zero.c 52)).alloc (Obj.cells F7.zero.c 54)) 52 F7.zero.c).alloc (Obj.cells F7.zero.c 54))
  have K4 := Lib.hid (Blk.new ((((w.alloc (Obj.cells s.u 49)).alloc (Obj.cells F7.zero.c 52)).alloc (Obj.cells F7.zero.c 54)).alloc (Obj.cells F7.zero.c 52)) 54 F7.zero.c)
  have H0 := Lib.hid ((((((Below.refl w.heap.size w).alloc (Nat.le_refl _) (.cells s.u 49)).alloc (by simp) (.cells F7.zero.c 52)).alloc (by simp; omega) (.cells F7.zero.c 54)).alloc (by simp; omega) (.cells F7.zero.c 52)).alloc (by simp; omega) (.cells F7.zero.c 54))
  simp only [World.size_alloc] at K1 K2 K3 K4
  go_enter Tryd.func25, Tryd.ntmps25
  go_wp2_with fail
  go_loopw [6] (fun i wr => ∃ k : Nat, k ≤ 7 ∧ i = .int .i64 k ∧ Hid (Blk wr w.heap.size 49 s.u) ∧ Hid (Blk wr (w.heap.size + 1) 52 zF) ∧ Hid (Blk wr (w.heap.size + 1 + 1) 54 zF) ∧ Hid (Blk wr (w.heap.size + 1 + 1 + 1) 52 (mixC s k)) ∧ Hid (Blk wr (w.heap.size + 1 + 1 + 1 + 1) 54 (mixC s k)) ∧ Hid (Below w.heap.size w wr)) (fun i _ => 7 - (intOf i).toNat)
  case atStart => exact ⟨0, by omega, rfl, K0, K1, K2, by rw [mixC_zero]; exact K3, by rw [mixC_zero]; exact K4, H0⟩
  case round =>
    clear K0 K1 K2 K3 K4 H0
    obtain ⟨k, hk, rfl, K0, K1, K2, K3, K4, H0⟩ := hrel
    by_cases hlt : k < 7
    · have h1 := K0.out.cell (k * 2)
      have h2 := K0.out.cell (k * 2 + 1)
      rw [cell_un s k hlt] at h1
      rw [cell_ud s k hlt] at h2
      have hb := HS.out k hlt
      have HM3 := Lib.hid (mixC_set s k hlt)
      obtain ⟨ox, oy, ho1, ho2⟩ := mixC_some s k hlt
      have HO1 := Lib.hid ho1
      have HO2 := Lib.hid ho2
      clear ho1 ho2
      have HNX := Lib.hid (mixC_n s k hlt)
      have HNY := Lib.hid (mixC_d s k hlt)
      rw [numQ_n s k hlt, numQ_d s k hlt] at HM3
      generalize s.n k = p at *
      generalize s.d k = q at *
      obtain ⟨hp1, hp2, hq1, hq2⟩ := hb
      have hw1 : IntKind.i64.wrap p = p := IntWalk.i64_in _ (by omega)
      have hw2 : IntKind.i64.wrap q = q := IntWalk.i64_in _ (by omega)
      have hw3 : IntKind.i64.wrap (1 + p) = 1 + p := IntWalk.i64_in _ (by omega)
      have hw4 : IntKind.i64.wrap (1 + q) = 1 + q := IntWalk.i64_in _ (by omega)
      go_upto_region 6 with (fail)
      go_cut [26] (fun _ wc => Hid (Blk wc w.heap.size 49 s.u) ∧ Hid (Blk wc (w.heap.size + 1) 52 zF) ∧ Hid (Blk wc (w.heap.size + 1 + 1) 54 zF) ∧ Hid (Blk wc (w.heap.size + 1 + 1 + 1) 52 (mixC s k)) ∧ Hid (Blk wc (w.heap.size + 1 + 1 + 1 + 1) 54 (mixC s (k + 1))) ∧ Hid (Below w.heap.size w wc))
      case first =>
        go_region_with (go_at_call 44; clear hw1 hw2 hw3 hw4; refine (rmake_any (1 + p) (1 + q) _ (by omega) (by omega) (by omega) (by omega)).mono ?_; rintro e w2 ⟨rfl, hb5⟩; have M0 := Lib.hid (keep hb5 K0.out.drew); have M1 := Lib.hid (keep hb5 K1.out.drew); have M2 := Lib.hid (keep hb5 K2.out.drew); have M3 := Lib.hid (keep hb5 K3.out.drew); have M4 := Lib.hid (keep hb5 K4.out.drew); have MB := Lib.hid (H0.out.drew.trans (hb5.mono (by have := H0.out.size; simp; omega))); clear hb5; have x1 := M4.out.cell (k * 2); rw [HO1.out] at x1; have x2 := M4.out.cell (k * 2 + 1); rw [HO2.out] at x2; have f4 := fun i => M4.out.frozen i; unfold q3V)
        all_goals (go_wp2_with fail; go_meet; exact ⟨blk_farij _ _ _ _ M0.out (by omega), blk_farij _ _ _ _ M1.out (by omega), blk_farij _ _ _ _ M2.out (by omega), blk_farij _ _ _ _ M3.out (by omega), by rw [← HM3.out]; exact blk_two _ _ _ _ M4.out, (MB.out.setCell (by simp; omega) _).setCell (by simp; omega) _⟩)
      case rest =>
        clear K0 K1 K2 K3 K4 H0 h1 h2 hw1 hw2 hw3 hw4
        obtain ⟨K0, K1, K2, K3, K4, H0⟩ := hcut
        have y1 := K4.out.cell (k * 2)
        have y2 := K4.out.cell (k * 2 + 1)
        rw [HNX.out] at y1
        rw [HNY.out] at y2
        have z1 := K3.out.cell (k * 2)
        have z2 := K3.out.cell (k * 2 + 1)
        rw [HO1.out] at z1
        rw [HO2.out] at z2
        have f3 := fun i => K3.out.frozen i
        have HM := Lib.hid (mixC_set s k hlt)
        clear HM3
        go_wp2_with fail
        go_roundw
        case rel => exact ⟨k + 1, by omega, by go_num, blk_farij _ _ _ _ K0.out (by omega), blk_farij _ _ _ _ K1.out (by omega), blk_farij _ _ _ _ K2.out (by omega), by rw [← HM.out]; exact blk_two _ _ _ _ K3.out, blk_farij _ _ _ _ K4.out (by omega), (H0.out.setCell (by simp; omega) _).setCell (by simp; omega) _⟩
        case measure => simp [intOf]; omega
    · rw [mixC_seven s k hlt] at K3 K4
      generalize hf : numQ s = f at K3 K4
      have HF := Lib.hid hf
      clear hf
      unfold zF at K1 K2
      have c1 := fun i => K1.out.cell i
      have f1 := fun i => K1.out.frozen i
      have l1 := K1.out.lt
      have c2 := fun i => K2.out.cell i
      have f2 := fun i => K2.out.frozen i
      have l2 := K2.out.lt
      have c3 := fun i => K3.out.cell i
      have f3 := fun i => K3.out.frozen i
      have l3 := K3.out.lt
      have c4 := fun i => K4.out.cell i
      have f4 := fun i => K4.out.frozen i
      have l4 := K4.out.lt
      go_upto_region 8 with (fail)
      go_region
      go_wp2_with fail
      refine bodyPost_ret (v := .tuple #[f.v, f.v]) (by simp [results, Tryd.results25, go_sem, c1, c2]) rfl ⟨by rw [HF.out], by repeat' (first | (with_reducible exact H0.out) | (with_reducible refine Below.setCell ?_ ?_ _) | (with_reducible refine Below.alloc ?_ ?_ _) | (with_reducible refine below_drewN ?_ _) | (with_reducible refine Below.drew ?_) | (have := H0.out.size; go_size))⟩
end Go.Proofs.YtlfapncbkgpclaaDoor
