/- SpeechDiffers's law returns true. -/
import Derived.Test.YtpokelkneblafaaDoorTX
import Derived.Test.YtpokelkneblafaaDoorEQ
import Derived.Test.YtpokelkneblafaaDoorRE
namespace Go.Proofs.YtpokelkneblafaaDoor
open Go.RowKit
theorem text_eq {t u : Trm} (ht : validM t = true) (hu : validM u = true) : ((bys (textM t)).toList == (bys (textM u)).toList) = eqM t u := by
  rw [Bool.eq_iff_iff, beq_iff_eq, ByteArray.toList_eq, ByteArray.toList_eq, bys_data, bys_data, eqM_iff]
  exact ⟨text_inj ht hu, fun e => by rw [e]⟩
/-- two terms in boxes of the law's own -/
structure DSt (w : World) (t u : Trm) (c d : Array Value) (x : World) : Prop where
  bel : Below w.heap.size w x
  k0 : Blk x w.heap.size 24 c
  k1 : Blk x (w.heap.size + 1) 24 d
  m0 : MAt x t c
  m1 : MAt x u d
  glb : Glb w.heap.size x
theorem DSt.next {w x y : World} {t u : Trm} {c d : Array Value} (h : DSt w t u c d x) (hb : Below x.heap.size x y) : DSt w t u c d y :=
  ⟨h.bel.trans (hb.mono h.bel.size), keep hb h.k0, keep hb h.k1, h.m0.keep hb, h.m1.keep hb, h.glb.keep h.bel.size hb⟩
theorem DSt.start {w : World} {t u : Trm} {c d : Array Value} (hG : Glb w.heap.size w) (hM : MAt w t c) (hN : MAt w u d) : DSt w t u c d ((w.alloc (.cells c 24)).alloc (.cells d 24)) := by
  have B1 := bel_alloc w (.cells c 24)
  have B2 := bel_alloc (w.alloc (.cells c 24)) (.cells d 24)
  have hb := B1.trans (B2.mono B1.size)
  refine ⟨hb, keep B2 (Blk.new w _ c), ?_, hM.keep hb, hN.keep hb, hG.keep (Nat.le_refl _) hb⟩
  have hw : (w.alloc (.cells c 24)).heap.size = w.heap.size + 1 := by simp
  rw [← hw]
  exact Blk.new _ _ _
set_option maxRecDepth 100000 in
set_option maxHeartbeats 1600000 in
theorem differs_walk (t u : Trm) (c d : Array Value) (w : World) (hG : Glb w.heap.size w) (hM : MAt w t c) (hN : MAt w u d) : Calls Tryd.prog 3 #[.agg c, .agg d] w fun e w' => e = .returned (.bool true) ∧ Below w.heap.size w w' := by
  obtain ⟨A, cap, rfl, -⟩ := hM.form
  obtain ⟨A', cap', rfl, -⟩ := hN.form
  have S := Lib.hid (DSt.start hG hM hN)
  clear hG hM hN
  dsimp only [trmC] at S
  go_enter Tryd.func3, Tryd.ntmps3
  go_wp2_with fail
  generalize (w.alloc (.cells #[.int .i64 t.kind, .string t.nam, .string t.vr, .slice A t.args.length cap, .string t.form] 24)).alloc (.cells #[.int .i64 u.kind, .string u.nam, .string u.vr, .slice A' u.args.length cap', .string u.form] 24) = w1 at *
  refine (awake_any w.heap.size w1 S.out.glb S.out.bel.size).mono ?_
  rintro e w2 ⟨rfl, hb⟩
  replace S := Lib.hid (S.out.next hb)
  clear hb
  have k0 := fun i => S.out.k0.cell i
  have k1 := fun i => S.out.k1.cell i
  go_wp2_with fail
  refine (few_any t _ w2 S.out.m0).mono ?_
  rintro e w3 ⟨b1, rfl, hf1, hb⟩
  replace S := Lib.hid (S.out.next hb)
  clear hb k0 k1
  cases b1
  · go_wp2_with fail
    go_ret
    exact ⟨rfl, S.out.bel⟩
  have HC1 := Lib.hid (hf1 rfl)
  clear hf1
  have k0 := fun i => S.out.k0.cell i
  have k1 := fun i => S.out.k1.cell i
  go_wp2_with fail
  refine (few_any u _ w3 S.out.m1).mono ?_
  rintro e w4 ⟨b2, rfl, hf2, hb⟩
  replace S := Lib.hid (S.out.next hb)
  clear hb k0 k1
  cases b2
  · go_wp2_with fail
    go_ret
    exact ⟨rfl, S.out.bel⟩
  have HC2 := Lib.hid (hf2 rfl)
  clear hf2
  have k0 := fun i => S.out.k0.cell i
  have k1 := fun i => S.out.k1.cell i
  go_wp2_with fail
  refine (rvalid_any t _ w4 (by have := HC1.out; omega) S.out.m0).mono ?_
  rintro e w5 ⟨rfl, hb⟩
  replace S := Lib.hid (S.out.next hb)
  clear hb k0 k1
  cases hv1 : validM t
  · go_wp2_with fail
    go_ret
    exact ⟨rfl, S.out.bel⟩
  have HV1 := Lib.hid hv1
  clear hv1
  have k0 := fun i => S.out.k0.cell i
  have k1 := fun i => S.out.k1.cell i
  go_wp2_with fail
  refine (rvalid_any u _ w5 (by have := HC2.out; omega) S.out.m1).mono ?_
  rintro e w6 ⟨rfl, hb⟩
  replace S := Lib.hid (S.out.next hb)
  clear hb k0 k1
  cases hv2 : validM u
  · go_wp2_with fail
    go_ret
    exact ⟨rfl, S.out.bel⟩
  have HV2 := Lib.hid hv2
  clear hv2
  have HT1 := Lib.hid (show textV t = .tuple #[.string (bys (textM t)), .int .i64 0] by unfold textV; rw [if_pos HV1.out])
  have HT2 := Lib.hid (show textV u = .tuple #[.string (bys (textM u)), .int .i64 0] by unfold textV; rw [if_pos HV2.out])
  have HEQ := Lib.hid (text_eq HV1.out HV2.out)
  generalize bys (textM t) = x1 at *
  generalize bys (textM u) = x2 at *
  have k0 := fun i => S.out.k0.cell i
  have k1 := fun i => S.out.k1.cell i
  go_wp2_with fail
  refine (text_any w.heap.size t _ w6 S.out.glb S.out.bel.size S.out.m0).mono ?_
  rw [HT1.out]
  rintro e w7 ⟨rfl, hb⟩
  replace S := Lib.hid (S.out.next hb)
  clear hb k0 k1
  have k0 := fun i => S.out.k0.cell i
  have k1 := fun i => S.out.k1.cell i
  go_wp2_with fail
  refine (text_any w.heap.size u _ w7 S.out.glb S.out.bel.size S.out.m1).mono ?_
  rw [HT2.out]
  rintro e w8 ⟨rfl, hb⟩
  replace S := Lib.hid (S.out.next hb)
  clear hb k0 k1
  have k0 := fun i => S.out.k0.cell i
  have k1 := fun i => S.out.k1.cell i
  go_wp2_with fail
  refine (requal_any (cntM t) t u _ _ w8 (Nat.le_refl _) S.out.m0 S.out.m1).mono ?_
  rintro e w9 ⟨rfl, hb⟩
  have HB := Lib.hid (S.out.next hb).bel
  clear hb k0 k1 S
  have hq := HEQ.out
  clear HEQ
  cases hr : eqM t u
  · rw [hr] at hq
    clear hr
    go_wp2_with fail
    go_ret
    exact ⟨ret_bool (by first | rfl | (rw [hq]; rfl) | (simp [hq]; done)), HB.out⟩
  · rw [hr] at hq
    clear hr
    go_wp2_with fail
    go_ret
    exact ⟨ret_bool (by first | rfl | (rw [hq]; rfl) | (simp [hq]; done)), HB.out⟩
end Go.Proofs.YtpokelkneblafaaDoor
