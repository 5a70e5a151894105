/- The walks of AtomSpace and AtomStyles. -/
import Derived.Test.YtgoafobhhmeppaaFT
import Derived.Test.YtgoafobhhmeppaaL5
namespace Go.Proofs.Ytgoafobhhmeppaa
open Go.RowKit
theorem spaceR_form (b : Bool) (q s1 s2 l r level : Int) : ∃ x er : Int, spaceR b q s1 s2 l r level = .tuple #[.int .i64 x, .int .i64 er] := by
  unfold spaceR
  split
  · split
    · exact ⟨_, _, rfl⟩
    · exact ⟨_, _, rfl⟩
  · exact ⟨_, _, rfl⟩
set_option maxRecDepth 100000 in
set_option maxHeartbeats 4000000 in
theorem space_walk (A1 : Option Addr) (c1 : Nat) (A2 : Option Addr) (c2 : Nat) (p : Nat → Int) (gs : List Gly) (ss : List Stc) (l r level : Int) (cr : Bool) (w : World) (hF : FontAt A1 c1 A2 c2 gs ss w) : Calls Try.prog 5 #[.agg (fontC A1 gs.length c1 A2 ss.length c2 p), .agg #[.int .i64 l, .int .i64 r], .agg #[.int .i64 level, .bool cr]] w fun e w' => e = .returned (.bool true) ∧ Below w.heap.size w w' := by
  obtain ⟨vb, hvb⟩ := bool_of (FontOk gs ss p)
  have HA := Lib.hid (fun (l r level : Int) (cr : Bool) (w : World) (h : FontAt A1 c1 A2 c2 gs ss w) => aspace_any _ vb (p 0) (p 15) (p 16) _ (font_is A1 c1 A2 c2 p gs ss vb hvb) l r level cr w h)
  have HR := Lib.hid (fun (l r level : Int) (cr : Bool) (w : World) (h : FontAt A1 c1 A2 c2 gs ss w) => rspace_any _ vb (p 0) (p 15) (p 16) _ (font_is A1 c1 A2 c2 p gs ss vb hvb) (fun w h => rfvalid_any A1 c1 A2 c2 p gs ss vb w hvb h) l r level cr w h)
  have HVL := Lib.hid (fun (w : World) (h : FontAt A1 c1 A2 c2 gs ss w) => rfvalid_any A1 c1 A2 c2 p gs ss vb w hvb h)
  have HFW := Lib.hid (fun (w : World) (h : FontAt A1 c1 A2 c2 gs ss w) => rfew05_any A1 c1 A2 c2 p gs ss w h)
  have HSZ := Lib.hid (show (Try.prog.info? 42).map (·.size) = some (fontC A1 gs.length c1 A2 ss.length c2 p).size by kernel_rfl)
  have HBD := Lib.hid (show vb = true → (0 ≤ p 0 ∧ p 0 ≤ 20000) ∧ (1 ≤ p 15 ∧ p 15 ≤ 100) ∧ (1 ≤ p 16 ∧ p 16 ≤ 100) from fun h => params_bd (hvb.1 h).2.2.1)
  clear hvb
  generalize fontC A1 gs.length c1 A2 ss.length c2 p = cs at *
  have hb1 := bel_alloc w (.cells cs 42)
  have hb2 := bel_alloc (w.alloc (.cells cs 42)) (.cells #[.int .i64 l, .int .i64 r] 43)
  have hb3 := bel_alloc ((w.alloc (.cells cs 42)).alloc (.cells #[.int .i64 l, .int .i64 r] 43)) (.cells #[.int .i64 level, .bool cr] 45)
  have K0 := Lib.hid (keep hb3 (keep hb2 (Blk.new w 42 cs)))
  have K1 := Lib.hid (keep hb3 (Blk.new (w.alloc (.cells cs 42)) 43 #[.int .i64 l, .int .i64 r]))
  have K2 := Lib.hid (Blk.new ((w.alloc (.cells cs 42)).alloc (.cells #[.int .i64 l, .int .i64 r] 43)) 45 #[.int .i64 level, .bool cr])
  have H0 := Lib.hid ((hb1.trans (hb2.mono hb1.size)).trans (hb3.mono (hb1.trans (hb2.mono hb1.size)).size))
  rw [show (w.alloc (.cells cs 42)).heap.size = w.heap.size + 1 by simp] at K1
  rw [show ((w.alloc (.cells cs 42)).alloc (.cells #[.int .i64 l, .int .i64 r] 43)).heap.size = w.heap.size + 2 by simp] at K2
  have HFA := Lib.hid hF
  clear hb1 hb2 hb3 hF
  obtain ⟨x, er, hx⟩ := spaceR_form vb (p 0) (p 15) (p 16) l r level
  have HX := Lib.hid hx
  clear hx
  go_enter Try.func5, Try.ntmps5
  go_upto_region 1 with (fail)
  generalize ((w.alloc (.cells cs 42)).alloc (.cells #[.int .i64 l, .int .i64 r] 43)).alloc (.cells #[.int .i64 level, .bool cr] 45) = w1 at *
  go_wp2_with fail
  refine (awake_any w1).mono ?_
  rintro e w2 ⟨rfl, hb⟩
  replace K0 := Lib.hid (keep hb K0.out)
  replace K1 := Lib.hid (keep hb K1.out)
  replace K2 := Lib.hid (keep hb K2.out)
  replace H0 := Lib.hid (H0.out.trans (hb.mono H0.out.size))
  clear hb
  go_wp2_with (refine wpList_load_rowW (by rfl) 42 (.tmp 3) rfl w.heap.size rfl 42 cs (0, 0) _ K0.out Try.underlying42 rfl HSZ.out ?_)
  refine (HFW.out w2 (HFA.out.keep H0.out)).mono ?_
  rintro e w3 ⟨⟨b, rfl⟩, hb⟩
  replace K0 := Lib.hid (keep hb K0.out)
  replace K1 := Lib.hid (keep hb K1.out)
  replace K2 := Lib.hid (keep hb K2.out)
  replace H0 := Lib.hid (H0.out.trans (hb.mono H0.out.size))
  clear hb
  cases b
  · go_wp2_with fail
    go_ret
    exact ⟨rfl, H0.out⟩
  have c0 := K1.out.cell 0
  have c1' := K1.out.cell 1
  have d0 := K2.out.cell 0
  have d1 := K2.out.cell 1
  go_wp2_with (refine wpList_load_rowW (by rfl) 42 (.tmp 3) rfl w.heap.size rfl 42 cs (0, 0) _ K0.out Try.underlying42 rfl HSZ.out ?_)
  refine (HA.out l r level cr w3 (HFA.out.keep H0.out)).mono ?_
  rintro e w4 ⟨rfl, hb⟩
  rw [HX.out]
  clear c0 c1' d0 d1
  replace K0 := Lib.hid (keep hb K0.out)
  replace K1 := Lib.hid (keep hb K1.out)
  replace K2 := Lib.hid (keep hb K2.out)
  replace H0 := Lib.hid (H0.out.trans (hb.mono H0.out.size))
  clear hb
  have c0 := K1.out.cell 0
  have c1' := K1.out.cell 1
  have d0 := K2.out.cell 0
  have d1 := K2.out.cell 1
  go_wp2_with (refine wpList_load_rowW (by rfl) 42 (.tmp 3) rfl w.heap.size rfl 42 cs (0, 0) _ K0.out Try.underlying42 rfl HSZ.out ?_)
  refine (HR.out l r level cr w4 (HFA.out.keep H0.out)).mono ?_
  rintro e w5 ⟨rfl, hb⟩
  rw [HX.out]
  clear c0 c1' d0 d1
  replace K0 := Lib.hid (keep hb K0.out)
  replace K1 := Lib.hid (keep hb K1.out)
  replace K2 := Lib.hid (keep hb K2.out)
  replace H0 := Lib.hid (H0.out.trans (hb.mono H0.out.size))
  clear hb
  go_wp2_with fail
  go_ret
  exact ⟨rfl, H0.out⟩
theorem rnd_mono {a b c : Int} (hc : 1 ≤ c) (h : a ≤ b) : rndP a c ≤ rndP b c := by
  rw [← rnd_eq hc, ← rnd_eq hc]
  exact Int.ediv_le_ediv (by omega) (by omega)
theorem rnd_pos {a c : Int} (hc : 1 ≤ c) (h : 0 ≤ a) : 0 ≤ rndP a c := by
  rw [← rnd_eq hc]
  exact Int.ediv_nonneg (by omega) (by omega)
/-- no space in a script style is greater than that in a text style -/
theorem len_mono {q s1 s2 : Int} (hq : 0 ≤ q) (h1 : 1 ≤ s1 ∧ s1 ≤ 100) (h2 : 1 ≤ s2 ∧ s2 ≤ 100) {l r : Nat} (hl : l < 8) (hr : r < 8) {t s : Int} (ht : 0 ≤ t ∧ t ≤ 1) (hs : 2 ≤ s ∧ s ≤ 3) :
    lenP (rndP (q * pctV s s1 s2) 100) l r s ≤ lenP (rndP (q * pctV t s1 s2) 100) l r t ∧ 0 ≤ lenP (rndP (q * pctV s s1 s2) 100) l r s := by
  have hp : pctV t s1 s2 = 100 := by unfold pctV; rw [if_neg (by omega), if_neg (by omega)]
  have hb := pct_bd (level := s) h1 h2
  rw [hp]
  have hm : rndP (q * pctV s s1 s2) 100 ≤ rndP (q * 100) 100 := rnd_mono (by omega) (Int.mul_le_mul_of_nonneg_left hb.2 hq)
  have hz : 0 ≤ rndP (q * pctV s s1 s2) 100 := rnd_pos (by omega) (Int.mul_nonneg hq (by omega))
  generalize rndP (q * pctV s s1 s2) 100 = a at *
  generalize rndP (q * 100) 100 = b at *
  have ht := tab_bd l r hl hr
  have hk : spc l r s = 0 ∨ (spc l r s = spc l r t ∧ 0 < spc l r t) := by
    unfold spc
    split
    · left; rw [if_pos (by omega)]
    · by_cases e : tabAt l r = 0
      · exact .inl e
      · exact .inr ⟨rfl, by omega⟩
  have h0 : 0 ≤ spc l r t := by
    unfold spc
    split
    · split <;> omega
    · omega
  have hgen : ∀ (c k : Int), 0 ≤ c → 0 ≤ k → 0 ≤ rndP (c * (k + 2)) 18 := fun c k hc hk => rnd_pos (by omega) (Int.mul_nonneg hc (by omega))
  unfold lenP
  rcases hk with e | ⟨e, hp⟩
  · rw [if_pos e]
    refine ⟨?_, Int.le_refl _⟩
    split
    · exact Int.le_refl _
    · exact hgen _ _ (by omega) h0
  · rw [e, if_neg (by omega), if_neg (by omega)]
    exact ⟨rnd_mono (by omega) (Int.mul_le_mul_of_nonneg_right hm (by omega)), hgen _ _ hz h0⟩
theorem spaceR_ok {q s1 s2 : Int} {l r level : Int} (hl : 0 ≤ l ∧ l ≤ 7) (hr : 0 ≤ r ∧ r ≤ 7) (hv : 0 ≤ level ∧ level ≤ 3) : spaceR true q s1 s2 l r level = .tuple #[.int .i64 (lenP (rndP (q * pctV level s1 s2) 100) l.toNat r.toNat level), .int .i64 0] := by
  unfold spaceR
  rw [show (lvlB level && true) = true by unfold lvlB; rw [decide_eq_true hv.1, decide_eq_true hv.2]; rfl, if_pos rfl, if_neg (by omega)]
end Go.Proofs.Ytgoafobhhmeppaa
