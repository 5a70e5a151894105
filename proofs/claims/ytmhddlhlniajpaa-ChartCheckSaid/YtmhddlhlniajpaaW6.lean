/- ChartCheck: the walk. -/
import Derived.Test.YtmhddlhlniajpaaCK
import Derived.Test.YtmhddlhlniajpaaCP
import Derived.Test.YtmhddlhlniajpaaLR
namespace Go.Proofs.Ytmhddlhlniajpaa
open Go.RowKit
theorem chk_same {rs : List Rul} {ts : List ByteArray} {x : Rd} : pchkB rs ts x = rchkB rs ts x := by
  rw [Bool.eq_iff_iff, rchk_mem]
  unfold pchkB
  rw [Bool.and_eq_true]
  constructor
  · rintro ⟨h1, h2⟩
    have hv : validB rs = true := by rw [Bool.and_eq_true] at h1; exact h1.1
    exact ⟨h1, (chk_all hv x).1 h2⟩
  · rintro ⟨h1, h2⟩
    have hv : validB rs = true := by rw [Bool.and_eq_true] at h1; exact h1.1
    exact ⟨h1, (chk_all hv x).2 h2⟩
theorem read_mem (rs : List Rul) (ts : List ByteArray) (k : Nat) (y : Rd) (h : (readL rs ts)[k]? = some y) : okI rs ts = 0 ∧ rchkB rs ts y = true ∧ pchkB rs ts y = true := by
  have hy : y ∈ allL rs ts := by
    rw [readL_all] at h
    exact List.mem_of_mem_take (List.mem_of_getElem? h)
  have h1 := rchk_all.2 hy
  have h2 := (rchk_mem.1 h1).1
  exact ⟨read_ok h2, h1, by rw [chk_same]; exact h1⟩
set_option maxRecDepth 100000 in
set_option maxHeartbeats 8000000 in
theorem check_walk (A T : Option Addr) (cap cT : Nat) (rs : List Rul) (ts : List ByteArray) (x : Rd) (c : Array Value) (w : World) (hR : RulsAt w A rs) (hT : ToksAt w T ts) (hX : RdAt (fun _ => True) w x c) (hl0 : rs.length ≤ cap) (hm0 : cap ≤ 9223372036854775807) (hl1 : ts.length ≤ cT) (hm1 : cT ≤ 9223372036854775807) : Calls Try.prog 6 #[.slice A rs.length cap, .slice T ts.length cT, .agg c] w fun e w' => e = .returned (.bool true) ∧ Below w.heap.size w w' := by
  obtain ⟨A', cap', rfl, hl, hc, hk⟩ := hX.form
  have hba := bel_alloc w (.cells (rdC x.rule x.at_ A' x.kids.length cap') 34)
  have HX := Lib.hid (hX.keep hba)
  have HR := Lib.hid (hR.keep hba)
  have HT := Lib.hid (hT.keep hba)
  have HB := Lib.hid hba
  have K1 := Lib.hid (Blk.new w 34 (rdC x.rule x.at_ A' x.kids.length cap'))
  have hrl : rs.length ≤ 9223372036854775807 := by omega
  have htl : ts.length ≤ 9223372036854775807 := by omega
  clear hX hba hR hT hk hl hc
  go_enter Try.func6, Try.ntmps6
  go_wp2_with fail
  refine (awake_any _).mono ?_
  rintro e w1 ⟨rfl, hb⟩
  have HB := Lib.hid (HB.out.trans (hb.mono HB.out.size))
  have HR := Lib.hid (HR.out.keep hb)
  have HT := Lib.hid (HT.out.keep hb)
  have HX := Lib.hid (HX.out.keep hb)
  have K1 := Lib.hid (keep hb K1.out)
  clear hb
  go_wp2_with fail
  refine (short_any A T cap cT rs ts 30 _ HR.out HT.out hrl htl).mono ?_
  rintro e w2 ⟨rfl, rfl⟩
  cases q1 : shortB rs ts 30
  · go_wp2_with fail
    go_ret
    exact ⟨rfl, HB.out⟩
  have L1 := Lib.hid (short_of q1)
  clear q1
  have c0 := K1.out.cell 0
  have c1 := K1.out.cell 1
  have c2 := K1.out.cell 2
  go_wp2_with fail
  refine (few_any (fun _ => True) x _ 50 _ HX.out (by omega) (by omega)).mono ?_
  rintro e w2 ⟨rfl, hb⟩
  have HB := Lib.hid (HB.out.trans (hb.mono HB.out.size))
  have HR := Lib.hid (HR.out.keep hb)
  have HT := Lib.hid (HT.out.keep hb)
  have HX := Lib.hid (HX.out.keep hb)
  have K1 := Lib.hid (keep hb K1.out)
  clear hb c0 c1 c2
  cases q2 : decide ((sizeR x : Int) ≤ 50)
  · go_wp2_with fail
    go_ret
    exact ⟨rfl, HB.out⟩
  clear q2
  go_wp2_with fail
  refine (read_any A T cap cT rs ts _ HR.out HT.out hl0 hm0).mono ?_
  rintro e w3 ⟨L, cl, rfl, k1, k2, hrd, hb⟩
  have HRM := Lib.hid (read_mem rs ts)
  have HL := Lib.hid (RdsAt.any hrd fun _ _ _ => trivial : RdsAt (fun _ => True) w3 L (readL rs ts))
  have HB := Lib.hid (HB.out.trans (hb.mono HB.out.size))
  have HR := Lib.hid (HR.out.keep hb)
  have HT := Lib.hid (HT.out.keep hb)
  have HX := Lib.hid (HX.out.keep hb)
  have K1 := Lib.hid (keep hb K1.out)
  have hxl := @read_len rs ts
  have HSM := Lib.hid (@chk_same rs ts x)
  clear hb hrd
  generalize readL rs ts = X at *
  generalize okI rs ts = o at *
  go_wp2_with fail
  go_loopw [10] (fun v wr => ∃ k : Nat, k ≤ X.length ∧ v = .int .i64 k ∧ Hid (RdsAt (fun _ => True) wr L X) ∧ Hid (RulsAt wr A rs) ∧ Hid (ToksAt wr T ts) ∧ Hid (RdAt (fun _ => True) wr x (rdC x.rule x.at_ A' x.kids.length cap')) ∧ Hid (Blk wr w.heap.size 34 (rdC x.rule x.at_ A' x.kids.length cap')) ∧ Hid (Below w.heap.size w wr)) (fun v _ => X.length - (intOf v).toNat)
  case atStart => exact ⟨0, by omega, rfl, HL, HR, HT, HX, K1, HB⟩
  case round =>
    clear HL HR HT HX K1 HB
    obtain ⟨k, hk, rfl, HL, HR, HT, HX, K1, HB⟩ := hrel
    by_cases hlt : k < X.length
    · obtain ⟨y, hy⟩ : ∃ y, X[k]? = some y := ⟨_, List.getElem?_eq_getElem hlt⟩
      obtain ⟨ho, hr1, hp1⟩ := HRM.out k y hy
      obtain ⟨ad, A1, k3, rfl, had, hyc, _, _, _, d0, d1, d2⟩ := HL.out.at_ hy
      have HYC := Lib.hid hyc
      have HYK := Lib.hid hy
      have HRY := Lib.hid hr1
      have HPY := Lib.hid hp1
      subst ho
      have j1 : (0 : Int) ≤ (k : Int) := by omega
      have j2 : (k : Int) < (X.length : Int) := by omega
      clear hy hyc had hr1 hp1
      go_wp2_with fail
      refine (pcheck_any A T cap cT rs ts (fun _ => True) y _ _ HR.out HT.out HYC.out hl0 hm0 (by have := L1.out.2; omega)).mono ?_
      rintro e w4 ⟨rfl, hb⟩
      rw [HPY.out]
      have HL := Lib.hid (HL.out.keep hb)
      have HB := Lib.hid (HB.out.trans (hb.mono HB.out.size))
      have HR := Lib.hid (HR.out.keep hb)
      have HT := Lib.hid (HT.out.keep hb)
      have HX := Lib.hid (HX.out.keep hb)
      have K1 := Lib.hid (keep hb K1.out)
      clear hb d0 d1 d2 HYC
      obtain ⟨_, A2, k4, e9, had, hyc, _, _, _, d0, d1, d2⟩ := HL.out.at_ HYK.out
      obtain rfl := Option.some.inj e9
      have HYC := Lib.hid hyc
      clear e9 hyc had
      go_wp2_with fail
      refine (rcheck_any A T cap cT rs ts (fun _ => True) y _ _ HR.out HT.out HYC.out (by have := L1.out.1; omega) (by have := L1.out.2; omega)).mono ?_
      rintro e w5 ⟨rfl, hb⟩
      rw [HRY.out]
      have HL := Lib.hid (HL.out.keep hb)
      have HB := Lib.hid (HB.out.trans (hb.mono HB.out.size))
      have HR := Lib.hid (HR.out.keep hb)
      have HT := Lib.hid (HT.out.keep hb)
      have HX := Lib.hid (HX.out.keep hb)
      have K1 := Lib.hid (keep hb K1.out)
      clear hb d0 d1 d2 HYC
      go_wp2_with fail
      go_roundw
      case rel => exact ⟨k + 1, by omega, by go_num, HL, HR, HT, HX, K1, HB⟩
      case measure => simp [intOf]; omega
    · obtain rfl : k = X.length := by omega
      go_upto_region 11 with (fail)
      refine wp_region_ext (by kernel_rfl) (by kernel_rfl) ?_
      have E0 := fun e : Ext wr => (keep e.bel K1.out).cell 0
      have E1 := fun e : Ext wr => (keep e.bel K1.out).cell 1
      have E2 := fun e : Ext wr => (keep e.bel K1.out).cell 2
      have HC0 := Lib.hid (fun e : Ext wr => Calls.ext (pcheck_any A T cap cT rs ts (fun _ => True) x _ e.val (HR.out.keep e.bel) (HT.out.keep e.bel) (HX.out.keep e.bel) hl0 hm0 (by have := L1.out.2; omega)))
      have HC1 := Lib.hid (fun e : Ext wr => Calls.ext (rcheck_any A T cap cT rs ts (fun _ => True) x _ e.val (HR.out.keep e.bel) (HT.out.keep e.bel) (HX.out.keep e.bel) (by have := L1.out.1; omega) (by have := L1.out.2; omega)))
      repeat (go_big_quiet_step (fail))
      go_big_quiet_step ((rename_i e; exact HC0.out e))
      repeat (go_big_quiet_step (fail))
      go_big_quiet_step ((rename_i e; exact HC1.out e))
      repeat (go_big_quiet_step (fail))
      refine wpQuiet_nil ?_
      intro wq hwq
      obtain ⟨⟨w9, hb⟩, e9⟩ := hwq
      dsimp only at e9
      subst e9
      have HB := Lib.hid (HB.out.trans (hb.mono HB.out.size))
      go_wp2_with fail
      go_ret
      exact ⟨ret_bool (by rw [HSM.out]; exact beq_self_eq_true _), HB.out⟩
end Go.Proofs.Ytmhddlhlniajpaa
