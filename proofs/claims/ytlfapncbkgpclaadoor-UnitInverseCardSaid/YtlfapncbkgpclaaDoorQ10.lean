/- Rescale: the reference; for every value and every seven numbers. -/
import Derived.Test.YtlfapncbkgpclaaDoorQ9
namespace Go.Proofs.YtlfapncbkgpclaaDoor
open Go.RowKit
def okK (x : V9) (f : F7) (k : Nat) : Bool := x.ok && (List.range k).all fun i => posB (f.n i) (f.d i)
theorem okK_succ (x : V9) (f : F7) (k : Nat) : okK x f (k + 1) = (okK x f k && posB (f.n k) (f.d k)) := by
  simp [okK, List.range_succ, Bool.and_assoc]
theorem number_b (x : V9) (w : World) : Calls Tryd.prog 52 #[x.v] w fun e w' => e = .returned (ratV x.n x.d) ∧ Below w.heap.size w w' :=
  (number_any x w).mono fun _ _ ⟨he, hw⟩ => ⟨he, by rw [← hw]; exact ((Below.refl _ _).alloc (Nat.le_refl _) _).alloc (by simp) _⟩
theorem okK_zero (x : V9) (f : F7) : okK x f 0 = x.ok := by simp [okK]
theorem okK_seven (x : V9) (f : F7) : okK x f 7 = (x.ok && f.pos) := rfl

set_option maxRecDepth 100000 in
set_option maxHeartbeats 2000000 in
theorem rresc_bad (x : V9) (f : F7) (w : World) (hx : (x.ok && f.pos) = false) : Calls Tryd.prog 27 #[x.v, f.v] w fun e w' => e = .returned (v2V V9.zero 1) ∧ Below w.heap.size w w' := by
  have HX := Lib.hid hx
  clear hx
  go_enter Tryd.func27, Tryd.ntmps27
  go_wp2_with fail
  refine (rvv_any x _).mono ?_
  rintro e w1 ⟨rfl, hb⟩
  have H0 := Lib.hid (below3 hb)
  have K0 := Lib.hid (keep hb (((Blk.new w 35 x.c).alloc _).alloc _))
  have K1 := Lib.hid (keep hb ((Blk.new (w.alloc _) 54 f.c).alloc _))
  have K2 := Lib.hid (keep hb (Blk.new ((w.alloc _).alloc _) 35 V9.zero.c))
  rw [World.size_alloc] at K1 K2
  rw [World.size_alloc] at K2
  clear hb
  go_wp2_with fail
  go_loopw [6, 7] (fun o i wr => ∃ k : Nat, k ≤ 7 ∧ i = .int .i64 k ∧ o = .bool (okK x f k) ∧ Hid (Blk wr w.heap.size 35 x.c) ∧ Hid (Blk wr (w.heap.size + 1) 54 f.c) ∧ Hid (Blk wr (w.heap.size + 1 + 1) 35 V9.zero.c) ∧ Hid (Below w.heap.size w wr)) (fun _ i _ => 7 - (intOf i).toNat)
  case atStart => exact ⟨0, by omega, rfl, by rw [okK_zero], K0, K1, K2, H0⟩
  case round =>
    clear K0 K1 K2 H0
    obtain ⟨k, hk, rfl, rfl, K0, K1, K2, H0⟩ := hrel
    by_cases hlt : k < 7
    · have HS := Lib.hid (okK_succ x f k)
      have h1 := K1.out.cell (k * 2)
      have h2 := K1.out.cell (k * 2 + 1)
      have l1 := K1.out.lt
      rw [cell_fn f k hlt] at h1
      rw [cell_fd f k hlt] at h2
      generalize hn : f.n k = n at h1 HS
      generalize hd : f.d k = d at h2 HS
      clear hn hd
      generalize okK x f k = o at HS
      cases o
      · go_wp2_with fail
        go_roundw
        case rel => exact ⟨k + 1, by omega, by go_num, by rw [HS.out]; rfl, K0, K1, K2, H0⟩
        case measure => simp [intOf]; omega
      · go_wp2_with fail
        refine (rqvalid_b n d _).mono ?_
        rintro e w2 ⟨rfl, hb⟩
        have N0 := Lib.hid (keep hb K0.out)
        have N1 := Lib.hid (keep hb K1.out)
        have N2 := Lib.hid (keep hb K2.out)
        have NB := Lib.hid (H0.out.trans (hb.mono H0.out.size))
        have h1' := (hb.cell (p := ⟨w.heap.size + 1, k * 2, none⟩) l1).trans h1
        clear hb h1 h2 l1 K0 K1 K2 H0
        unfold posB at HS
        generalize valQ n d = q at HS
        cases q
        · go_wp2_with fail
          go_roundw
          case rel => exact ⟨k + 1, by omega, by go_num, by rw [HS.out]; rfl, N0, N1, N2, NB⟩
          case measure => simp [intOf]; omega
        · go_wp2_with fail
          go_roundw
          case rel => exact ⟨k + 1, by omega, by go_num, by rw [HS.out]; simp, N0, N1, N2, NB⟩
          case measure => simp [intOf]; omega
    · obtain rfl : k = 7 := by omega
      rw [okK_seven, HX.out]
      have c2 := fun i => K2.out.cell i
      have f2 := fun i => K2.out.frozen i
      have l2 := K2.out.lt
      go_wp2_with fail
      refine bodyPost_ret (v := v2V V9.zero 1) (by simp [v2V, results, Tryd.results27, go_sem, c2]) rfl ⟨rfl, by repeat' (first | (with_reducible exact H0.out) | (with_reducible refine Below.setCell ?_ ?_ _) | (with_reducible refine Below.alloc ?_ ?_ _) | (with_reducible refine below_drewN ?_ _) | (with_reducible refine Below.drew ?_) | (have := H0.out.size; go_size))⟩

set_option maxRecDepth 100000 in
set_option maxHeartbeats 12000000 in
theorem rresc_ok (x : V9) (f : F7) (w : World) (hx : x.ok = true) (hp : f.pos = true) : Calls Tryd.prog 27 #[x.v, f.v] w fun e w' => e = .returned (rescV x f) ∧ Below w.heap.size w w' := by
  have HP := Lib.hid hp
  clear hp
  have HX := Lib.hid hx
  clear hx
  go_enter Tryd.func27, Tryd.ntmps27
  go_wp2_with fail
  refine (rvv_any x _).mono ?_
  rintro e w1 ⟨rfl, hb⟩
  have H0 := Lib.hid (below3 hb)
  have K0 := Lib.hid (keep hb (((Blk.new w 35 x.c).alloc _).alloc _))
  have K1 := Lib.hid (keep hb ((Blk.new (w.alloc _) 54 f.c).alloc _))
  have K2 := Lib.hid (keep hb (Blk.new ((w.alloc _).alloc _) 35 V9.zero.c))
  rw [World.size_alloc] at K1 K2
  rw [World.size_alloc] at K2
  clear hb
  go_wp2_with fail
  go_loopw [6, 7] (fun o i wr => ∃ k : Nat, k ≤ 7 ∧ i = .int .i64 k ∧ o = .bool (okK x f k) ∧ Hid (Blk wr w.heap.size 35 x.c) ∧ Hid (Blk wr (w.heap.size + 1) 54 f.c) ∧ Hid (Blk wr (w.heap.size + 1 + 1) 35 V9.zero.c) ∧ Hid (Below w.heap.size w wr)) (fun _ i _ => 7 - (intOf i).toNat)
  case atStart => exact ⟨0, by omega, rfl, by rw [okK_zero], K0, K1, K2, H0⟩
  case round =>
    clear K0 K1 K2 H0
    obtain ⟨k, hk, rfl, rfl, K0, K1, K2, H0⟩ := hrel
    by_cases hlt : k < 7
    · have HS := Lib.hid (okK_succ x f k)
      have h1 := K1.out.cell (k * 2)
      have h2 := K1.out.cell (k * 2 + 1)
      have l1 := K1.out.lt
      rw [cell_fn f k hlt] at h1
      rw [cell_fd f k hlt] at h2
      generalize hn : f.n k = n at h1 HS
      generalize hd : f.d k = d at h2 HS
      clear hn hd
      generalize okK x f k = o at HS
      cases o
      · go_wp2_with fail
        go_roundw
        case rel => exact ⟨k + 1, by omega, by go_num, by rw [HS.out]; rfl, K0, K1, K2, H0⟩
        case measure => simp [intOf]; omega
      · go_wp2_with fail
        refine (rqvalid_b n d _).mono ?_
        rintro e w2 ⟨rfl, hb⟩
        have N0 := Lib.hid (keep hb K0.out)
        have N1 := Lib.hid (keep hb K1.out)
        have N2 := Lib.hid (keep hb K2.out)
        have NB := Lib.hid (H0.out.trans (hb.mono H0.out.size))
        have h1' := (hb.cell (p := ⟨w.heap.size + 1, k * 2, none⟩) l1).trans h1
        clear hb h1 h2 l1 K0 K1 K2 H0
        unfold posB at HS
        generalize valQ n d = q at HS
        cases q
        · go_wp2_with fail
          go_roundw
          case rel => exact ⟨k + 1, by omega, by go_num, by rw [HS.out]; rfl, N0, N1, N2, NB⟩
          case measure => simp [intOf]; omega
        · go_wp2_with fail
          go_roundw
          case rel => exact ⟨k + 1, by omega, by go_num, by rw [HS.out]; simp, N0, N1, N2, NB⟩
          case measure => simp [intOf]; omega
    · obtain rfl : k = 7 := by omega
      rw [okK_seven, HX.out, HP.out]
      clear hlt hk
      obtain ⟨wo, hwo⟩ : ∃ wo : World, wo = wr := ⟨_, rfl⟩
      subst hwo
      have c0 := fun i => K0.out.cell i
      have f0 := fun i => K0.out.frozen i
      have l0 := K0.out.lt
      have c1 := fun i => K1.out.cell i
      have f1 := fun i => K1.out.frozen i
      have l1 := K1.out.lt
      have c2 := fun i => K2.out.cell i
      have f2 := fun i => K2.out.frozen i
      have l2 := K2.out.lt
      have KP := Lib.hid (Blk.new wo 53 (ratC 1 1))
      have N0 := Lib.hid (K0.out.alloc (.cells (ratC 1 1) 53))
      have N1 := Lib.hid (K1.out.alloc (.cells (ratC 1 1) 53))
      have N2 := Lib.hid (K2.out.alloc (.cells (ratC 1 1) 53))
      have NB := Lib.hid (H0.out.alloc H0.out.size (.cells (ratC 1 1) 53))
      go_wp2_with fail
      go_loopw [9, 10, 11] (fun i _ _ wr => ∃ (k : Nat) (p : Int × Int), k ≤ 7 ∧ i = .int .i64 k ∧ Hid (Blk wr w.heap.size 35 x.c) ∧ Hid (Blk wr (w.heap.size + 1) 54 f.c) ∧ Hid (Blk wr (w.heap.size + 1 + 1) 35 V9.zero.c) ∧ Hid (Blk wr wo.heap.size 53 (ratC p.1 p.2)) ∧ Hid (Below w.heap.size w wr) ∧ Hid (foldP f x.m k = some p)) (fun i _ _ _ => 7 - (intOf i).toNat)
      case atStart => exact ⟨0, (1, 1), by omega, rfl, N0, N1, N2, KP, NB, rfl⟩
      case round =>
        have HG : Hid (w.heap.size + 1 + 1 < wo.heap.size) := K2.out.lt
        clear c0 f0 l0 c1 f1 l1 c2 f2 l2 K0 K1 K2 H0 N0 N1 N2 KP NB
        obtain ⟨k, p, hk, rfl, K0, K1, K2, K3, H0, HF⟩ := hrel
        have c0 := fun i => K0.out.cell i
        have f0 := fun i => K0.out.frozen i
        have l0 := K0.out.lt
        have c1 := fun i => K1.out.cell i
        have f1 := fun i => K1.out.frozen i
        have l1 := K1.out.lt
        have c2 := fun i => K2.out.cell i
        have f2 := fun i => K2.out.frozen i
        have l2 := K2.out.lt
        have c3 := fun i => K3.out.cell i
        have f3 := fun i => K3.out.frozen i
        have l3 := K3.out.lt
        by_cases hlt : k < 7
        · have hm := K0.out.cell (2 + k)
          rw [cell_v9 x k hlt] at hm
          have h1 := K1.out.cell (k * 2)
          have h2 := K1.out.cell (k * 2 + 1)
          rw [cell_fn f k hlt] at h1
          rw [cell_fd f k hlt] at h2
          obtain ⟨a, b, ea, eb, hab, ha, hb, ha2, hb2⟩ := pos_nat ((pos_iff f).1 HP.out k hlt)
          have hmk := ok_at (show x.m.ok = true by have := HX.out; unfold V9.ok at this; simp at this; exact this.2) k hlt
          rw [ea] at h1
          rw [eb] at h2
          have HS : Hid (foldP f x.m (k + 1) = stepP f x.m k p) := by show (foldP f x.m k).bind (stepP f x.m k) = _; rw [HF.out]; rfl
          unfold stepP at HS
          rw [ea, eb, Int.natAbs_natCast, Int.natAbs_natCast] at HS
          have Hab := Lib.hid hab
          clear ea eb hab
          generalize x.m.at k = m at hm hmk HS
          clear c0 c1
          go_upto_region 12 with (fail)
          go_cut [10, 11] (fun p12 e12 wc => ∃ g : Nat, p12 = .pointer (some ⟨g, 0, none⟩) ∧ e12 = .int .i64 (powQ a b m).2.2 ∧ Hid (Blk wc w.heap.size 35 x.c) ∧ Hid (Blk wc (w.heap.size + 1) 54 f.c) ∧ Hid (Blk wc (w.heap.size + 1 + 1) 35 V9.zero.c) ∧ Hid (Blk wc wo.heap.size 53 (ratC p.1 p.2)) ∧ Hid (Blk wc g 53 (ratC (powQ a b m).1 (powQ a b m).2.1)) ∧ Hid (Below w.heap.size w wc))
          case first =>
            go_region_with (first | (go_at_call 49; refine (rqpow_any a b m _ Hab.out ha hb ha2 hb2 hmk.1 hmk.2).mono ?_; rintro e w2 ⟨rfl, hb5⟩; have KZ := keep hb5 ((Blk.new wr 53 zrat).drew); have M0 := Lib.hid (keep hb5 (K0.out.alloc _).drew); have M1 := Lib.hid (keep hb5 (K1.out.alloc _).drew); have M2 := Lib.hid (keep hb5 (K2.out.alloc _).drew); have M3 := Lib.hid (keep hb5 (K3.out.alloc _).drew); have MZ := Lib.hid KZ; have MB := Lib.hid ((H0.out.alloc H0.out.size _).drew.trans (hb5.mono (by have := H0.out.size; simp; omega))); clear hb5; have cz := fun i => KZ.cell i; have fz := fun i => KZ.frozen i; have lz := KZ.lt; clear KZ; unfold q3V) | (go_at_call 49; refine (rqpow_any a b m _ Hab.out ha hb ha2 hb2 hmk.1 hmk.2).mono ?_; rintro e w2 ⟨rfl, hb5⟩; have M0 := Lib.hid (keep hb5 (K0.out).drew); have M1 := Lib.hid (keep hb5 (K1.out).drew); have M2 := Lib.hid (keep hb5 (K2.out).drew); have M3 := Lib.hid (keep hb5 (K3.out).drew); have MB := Lib.hid (H0.out.drew.trans (hb5.mono (by have := H0.out.size; simp; omega))); clear hb5; unfold q3V))
            all_goals (go_wp2_with fail; go_meet; first | exact ⟨w2.heap.size, rfl, rfl, M0.out.alloc _, M1.out.alloc _, M2.out.alloc _, M3.out.alloc _, Blk.new w2 53 _, MB.out.alloc MB.out.size _⟩ | exact ⟨wr.heap.size, rfl, rfl, blk_far2 _ _ M0.out (by omega), blk_far2 _ _ M1.out (by omega), blk_far2 _ _ M2.out (by omega), blk_far2 _ _ M3.out (by omega), blk_set2 MZ.out, (MB.out.setCell (by simp; omega) _).setCell (by simp; omega) _⟩)
          case rest =>
            clear K0 K1 K2 K3 H0 f0 l0 f1 l1 c2 f2 l2 c3 f3 l3 hm h1 h2
            obtain ⟨g, rfl, rfl, K0, K1, K2, K3, K4, H0⟩ := hcut
            have c0 := fun i => K0.out.cell i
            have f0 := fun i => K0.out.frozen i
            have l0 := K0.out.lt
            have c1 := fun i => K1.out.cell i
            have f1 := fun i => K1.out.frozen i
            have l1 := K1.out.lt
            have c2 := fun i => K2.out.cell i
            have f2 := fun i => K2.out.frozen i
            have l2 := K2.out.lt
            have c3 := fun i => K3.out.cell i
            have f3 := fun i => K3.out.frozen i
            have l3 := K3.out.lt
            have c4 := fun i => K4.out.cell i
            have f4 := fun i => K4.out.frozen i
            have l4 := K4.out.lt
            generalize (powQ a b m).2.2 = E at *
            generalize (powQ a b m).1 = rn at *
            generalize (powQ a b m).2.1 = rd at *
            by_cases hE : E = 0
            · have HS1 := Lib.hid (HS.out.trans (if_pos hE))
              subst hE
              clear HS
              go_wp2_with fail
              refine (rqmul_any p.1 p.2 rn rd _).mono ?_
              rintro e w3 ⟨rfl, hb6⟩
              have N0 := Lib.hid (keep hb6 K0.out)
              have N1 := Lib.hid (keep hb6 K1.out)
              have N2 := Lib.hid (keep hb6 K2.out)
              have N3 := Lib.hid (keep hb6 K3.out)
              have NB := Lib.hid (H0.out.trans (hb6.mono H0.out.size))
              clear hb6 K0 K1 K2 K3 K4 H0 c0 f0 l0 c1 f1 l1 c2 f2 l2 c3 f3 l3 c4 f4 l4
              have K0 := N0
              have K1 := N1
              have K2 := N2
              have K3 := N3
              have H0 := NB
              clear N0 N1 N2 N3 NB
              have c0 := fun i => K0.out.cell i
              have f0 := fun i => K0.out.frozen i
              have l0 := K0.out.lt
              have c1 := fun i => K1.out.cell i
              have f1 := fun i => K1.out.frozen i
              have l1 := K1.out.lt
              have c2 := fun i => K2.out.cell i
              have f2 := fun i => K2.out.frozen i
              have l2 := K2.out.lt
              have c3 := fun i => K3.out.cell i
              have f3 := fun i => K3.out.frozen i
              have l3 := K3.out.lt
              generalize mulQ p.1 p.2 rn rd = R at *
              obtain ⟨R1, R2, R3⟩ := R
              simp only at HS1
              unfold q3V
              simp only
              by_cases hR : R3 = 0
              · have HS2 := Lib.hid (HS1.out.trans (if_pos hR))
                clear HS1
                subst hR
                have Hg0 : Hid (w.heap.size ≠ wo.heap.size) := by show w.heap.size ≠ wo.heap.size; have := HG.out; omega
                have Hg1 : Hid (w.heap.size + 1 ≠ wo.heap.size) := by show w.heap.size + 1 ≠ wo.heap.size; have := HG.out; omega
                have Hg2 : Hid (w.heap.size + 1 + 1 ≠ wo.heap.size) := by show w.heap.size + 1 + 1 ≠ wo.heap.size; have := HG.out; omega
                go_wp2_with fail
                go_roundw
                case rel => exact ⟨k + 1, (R1, R2), by omega, by go_num, blk_far2 _ _ K0.out Hg0.out, blk_far2 _ _ K1.out Hg1.out, blk_far2 _ _ K2.out Hg2.out, blk_set2 K3.out, (H0.out.setCell (by have := HG.out; simp; omega) _).setCell (by have := HG.out; simp; omega) _, HS2.out⟩
                case measure => simp [intOf]; omega
              · have HT := Lib.hid (resc_none HX.out (fold_none (HS1.out.trans (if_neg hR)) (show k + 1 ≤ 7 by omega)))
                have hR' : (R3 != 0) = true := by simpa using hR
                have hg := HG.out
                clear hR HS1
                go_wp2_with fail
                refine bodyPost_ret (v := v2V V9.zero 2) (by simp [v2V, results, Tryd.results27, go_sem, c2]) rfl ⟨by rw [HT.out], by repeat' (first | (with_reducible exact H0.out) | (with_reducible refine Below.setCell ?_ ?_ _) | (with_reducible refine Below.alloc ?_ ?_ _) | (with_reducible refine below_drewN ?_ _) | (with_reducible refine Below.drew ?_) | (have := H0.out.size; go_size))⟩
            · have HT := Lib.hid (resc_none HX.out (fold_none (HS.out.trans (if_neg hE)) (show k + 1 ≤ 7 by omega)))
              have hE' : (E != 0) = true := by simpa using hE
              clear hE HS
              go_wp2_with fail
              refine bodyPost_ret (v := v2V V9.zero 2) (by simp [v2V, results, Tryd.results27, go_sem, c2]) rfl ⟨by rw [HT.out], by repeat' (first | (with_reducible exact H0.out) | (with_reducible refine Below.setCell ?_ ?_ _) | (with_reducible refine Below.alloc ?_ ?_ _) | (with_reducible refine below_drewN ?_ _) | (with_reducible refine Below.drew ?_) | (have := H0.out.size; go_size))⟩
        · obtain rfl : k = 7 := by omega
          have HT := Lib.hid (resc_some HX.out HF.out)
          clear HF
          go_upto_region 18 with (fail)
          go_cut [12, 13] (fun p12 e12 wc => ∃ g : Nat, p12 = .pointer (some ⟨g, 0, none⟩) ∧ e12 = .int .i64 (divQ x.n x.d p.1 p.2).2.2 ∧ Hid (Blk wc w.heap.size 35 x.c) ∧ Hid (Blk wc (w.heap.size + 1 + 1) 35 V9.zero.c) ∧ Hid (Blk wc g 53 (ratC (divQ x.n x.d p.1 p.2).1 (divQ x.n x.d p.1 p.2).2.1)) ∧ Hid (Below w.heap.size w wc))
          case first =>
            go_region_with (first | (go_at_call 52; refine (number_b x _).mono ?_; rintro e w4 ⟨rfl, hb4⟩; have QZ := Lib.hid (keep hb4 (Blk.new wr 53 zrat).drew); have Q0 := Lib.hid (keep hb4 (K0.out.alloc _).drew); have Q2 := Lib.hid (keep hb4 (K2.out.alloc _).drew); have Q3 := Lib.hid (keep hb4 (K3.out.alloc _).drew); have QB := Lib.hid ((H0.out.alloc H0.out.size _).drew.trans (hb4.mono (by have := H0.out.size; simp; omega))); clear hb4; have q3 := fun i => Q3.out.cell i; have lq := Q3.out.lt) | (go_at_call 52; refine (number_b x _).mono ?_; rintro e w4 ⟨rfl, hb4⟩; have Q0 := Lib.hid (keep hb4 K0.out.drew); have Q2 := Lib.hid (keep hb4 K2.out.drew); have Q3 := Lib.hid (keep hb4 K3.out.drew); have QB := Lib.hid (H0.out.drew.trans (hb4.mono (by have := H0.out.size; simp; omega))); clear hb4; have q3 := fun i => Q3.out.cell i; have lq := Q3.out.lt) | (go_at_call 51; refine (rqdiv_any x.n x.d p.1 p.2 _).mono ?_; rintro e w2 ⟨rfl, hb5⟩; have KZ := keep hb5 QZ.out; have M0 := Lib.hid (keep hb5 Q0.out); have M2 := Lib.hid (keep hb5 Q2.out); have MB := Lib.hid (QB.out.trans (hb5.mono QB.out.size)); clear hb5; have MZ := Lib.hid KZ; have cz := fun i => KZ.cell i; have fz := fun i => KZ.frozen i; have lz := KZ.lt; clear KZ; unfold q3V) | (go_at_call 51; refine (rqdiv_any x.n x.d p.1 p.2 _).mono ?_; rintro e w2 ⟨rfl, hb5⟩; have KZ := keep hb5 (Blk.new w4 53 zrat); have M0 := Lib.hid (keep hb5 (Q0.out.alloc _)); have M2 := Lib.hid (keep hb5 (Q2.out.alloc _)); have MB := Lib.hid ((QB.out.alloc QB.out.size _).trans (hb5.mono (by have := QB.out.size; simp; omega))); clear hb5; have MZ := Lib.hid KZ; have cz := fun i => KZ.cell i; have fz := fun i => KZ.frozen i; have lz := KZ.lt; clear KZ; unfold q3V) | (go_at_call 51; refine (rqdiv_any x.n x.d p.1 p.2 _).mono ?_; rintro e w2 ⟨rfl, hb5⟩; have M0 := Lib.hid (keep hb5 Q0.out); have M2 := Lib.hid (keep hb5 Q2.out); have MB := Lib.hid (QB.out.trans (hb5.mono QB.out.size)); clear hb5; unfold q3V))
            all_goals (go_wp2_with fail; go_meet; first | exact ⟨w2.heap.size, rfl, rfl, M0.out.alloc _, M2.out.alloc _, Blk.new w2 53 _, MB.out.alloc MB.out.size _⟩ | exact ⟨wr.heap.size, rfl, rfl, blk_far2 _ _ M0.out (by omega), blk_far2 _ _ M2.out (by omega), blk_set2 MZ.out, (MB.out.setCell (by simp; omega) _).setCell (by simp; omega) _⟩ | exact ⟨w4.heap.size, rfl, rfl, blk_far2 _ _ M0.out (by have := Q0.out.lt; omega), blk_far2 _ _ M2.out (by have := Q2.out.lt; omega), blk_set2 MZ.out, (MB.out.setCell (by have := QB.out.size; simp; omega) _).setCell (by have := QB.out.size; simp; omega) _⟩)
          case rest =>
            clear K0 K1 K2 K3 H0 c0 f0 l0 c1 f1 l1 c2 f2 l2 c3 f3 l3
            obtain ⟨g, rfl, rfl, K0, K2, K4, H0⟩ := hcut
            have c0 := fun i => K0.out.cell i
            have f0 := fun i => K0.out.frozen i
            have l0 := K0.out.lt
            have c2 := fun i => K2.out.cell i
            have f2 := fun i => K2.out.frozen i
            have l2 := K2.out.lt
            have c4 := fun i => K4.out.cell i
            have f4 := fun i => K4.out.frozen i
            have l4 := K4.out.lt
            generalize divQ x.n x.d p.1 p.2 = R at *
            obtain ⟨R1, R2, R3⟩ := R
            simp only at HT c4 ⊢
            by_cases hR : R3 = 0
            · have HT2 := Lib.hid (HT.out.trans (if_pos hR))
              subst hR
              clear HT
              go_wp2_with fail
              refine (rmk_any R1 R2 x.m _).mono ?_
              rintro e w5 ⟨rfl, hw5⟩
              have P2 := Lib.hid (((K2.out.alloc (.cells (ratC R1 R2) 53)).alloc (.cells x.m.c 23)).alloc (.cells (V9.c ⟨R1, R2, x.m⟩) 35))
              have PB := Lib.hid (((H0.out.alloc H0.out.size (.cells (ratC R1 R2) 53)).alloc (by have := H0.out.size; simp; omega) (.cells x.m.c 23)).alloc (by have := H0.out.size; simp; omega) (.cells (V9.c ⟨R1, R2, x.m⟩) 35))
              rw [hw5] at P2 PB
              clear hw5 c0 f0 l0 c2 f2 l2 c4 f4 l4 K0 K2 K4 H0
              have K2 := P2
              have H0 := PB
              clear P2 PB
              have c2 := fun i => K2.out.cell i
              have f2 := fun i => K2.out.frozen i
              have l2 := K2.out.lt
              go_wp2_with fail
              refine bodyPost_ret (v := v2V ⟨R1, R2, x.m⟩ 0) (by simp [v2V, results, Tryd.results27, go_sem, c2]) rfl ⟨by rw [HT2.out], by repeat' (first | (with_reducible exact H0.out) | (with_reducible refine Below.setCell ?_ ?_ _) | (with_reducible refine Below.alloc ?_ ?_ _) | (with_reducible refine below_drewN ?_ _) | (with_reducible refine Below.drew ?_) | (have := H0.out.size; go_size))⟩
            · have HT2 := Lib.hid (HT.out.trans (if_neg hR))
              have hR' : (R3 != 0) = true := by simpa using hR
              clear hR HT
              go_wp2_with fail
              refine bodyPost_ret (v := v2V V9.zero 2) (by simp [v2V, results, Tryd.results27, go_sem, c2]) rfl ⟨by rw [HT2.out], by repeat' (first | (with_reducible exact H0.out) | (with_reducible refine Below.setCell ?_ ?_ _) | (with_reducible refine Below.alloc ?_ ?_ _) | (with_reducible refine below_drewN ?_ _) | (with_reducible refine Below.drew ?_) | (have := H0.out.size; go_size))⟩
end Go.Proofs.YtlfapncbkgpclaaDoor
