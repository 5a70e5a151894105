/- ChartCompare: the walk. -/
import Derived.Test.YtmhddlhlniajpaaCC
namespace Go.Proofs.Ytmhddlhlniajpaa
open Go.RowKit
theorem sign_range (a b : Int) : -1 ≤ signI a b ∧ signI a b ≤ 1 := by
  unfold signI
  split
  · omega
  · split <;> omega
theorem head_range (x y : Rd) : -1 ≤ headR x y ∧ headR x y ≤ 1 := by
  unfold headR
  split
  · exact sign_range _ _
  · split
    · exact sign_range _ _
    · split
      · exact sign_range _ _
      · omega
mutual
theorem cmp_range : ∀ x y : Rd, -1 ≤ cmpR x y ∧ cmpR x y ≤ 1
  | .mk r a ks, .mk r' a' ks' => by
    rw [cmpR]
    split
    · exact head_range _ _
    · exact cmpL_range ks ks'
theorem cmpL_range : ∀ l m : List Rd, -1 ≤ cmpL l m ∧ cmpL l m ≤ 1
  | [], [] => by simp [cmpL]
  | [], _ :: _ => by simp [cmpL]
  | _ :: _, [] => by simp [cmpL]
  | x :: l, y :: m => by
    rw [cmpL]
    split
    · exact cmp_range x y
    · exact cmpL_range l m
end
set_option maxRecDepth 100000 in
set_option maxHeartbeats 4000000 in
theorem compare_walk (x y : Rd) (c d : Array Value) (w : World) (hR : RdAt (fun _ => True) w x c) (hS : RdAt (fun _ => True) w y d) : Calls Try.prog 8 #[.agg c, .agg d] w fun e w' => e = .returned (.bool true) ∧ Below w.heap.size w w' := by
  obtain ⟨A, cap, rfl, hl, hc, hk⟩ := hR.form
  obtain ⟨B, cap2, rfl, hm, hd, hk2⟩ := hS.form
  have hb1 := bel_alloc w (.cells (rdC x.rule x.at_ A x.kids.length cap) 34)
  have hb2 := bel_alloc (w.alloc (.cells (rdC x.rule x.at_ A x.kids.length cap) 34)) (.cells (rdC y.rule y.at_ B y.kids.length cap2) 34)
  have K1 := Lib.hid (keep hb2 (Blk.new w 34 (rdC x.rule x.at_ A x.kids.length cap)))
  have K2 := Lib.hid (show Blk _ (w.heap.size + 1) _ _ by have := Blk.new (w.alloc (.cells (rdC x.rule x.at_ A x.kids.length cap) 34)) 34 (rdC y.rule y.at_ B y.kids.length cap2); rw [World.size_alloc] at this; exact this)
  have HX := Lib.hid ((hR.keep hb1).keep hb2)
  have HY := Lib.hid ((hS.keep hb1).keep hb2)
  have HB := Lib.hid (hb1.trans (hb2.mono hb1.size))
  have HSW := Lib.hid (cmp_swap x y)
  have HSF := Lib.hid (cmp_self x)
  have HNEG := Lib.hid (show IntKind.i64.wrap (-cmpR x y) = -cmpR x y by have := cmp_range x y; exact IntWalk.i64_in _ (by omega))
  clear hR hS hk hk2 hb1 hb2 hl hc hm hd
  go_enter Try.func8, Try.ntmps8
  go_wp2_with fail
  generalize (w.alloc (.cells #[.int .i64 x.rule, .int .i64 x.at_, .slice A x.kids.length cap] 34)).alloc (.cells #[.int .i64 y.rule, .int .i64 y.at_, .slice B y.kids.length cap2] 34) = w1 at *
  refine (awake_any _).mono ?_
  rintro e w2 ⟨rfl, hb⟩
  have K1 := Lib.hid (keep hb K1.out)
  have K2 := Lib.hid (keep hb K2.out)
  have HX := Lib.hid (HX.out.keep hb)
  have HY := Lib.hid (HY.out.keep hb)
  have HB := Lib.hid (HB.out.trans (hb.mono HB.out.size))
  clear hb
  have c0 := fun i => K1.out.cell i
  go_wp2_with fail
  refine (few_any _ x _ 50 _ HX.out (by omega) (by omega)).mono ?_
  rintro e w3 ⟨rfl, hb⟩
  have K1 := Lib.hid (keep hb K1.out)
  have K2 := Lib.hid (keep hb K2.out)
  have HX := Lib.hid (HX.out.keep hb)
  have HY := Lib.hid (HY.out.keep hb)
  have HB := Lib.hid (HB.out.trans (hb.mono HB.out.size))
  clear hb c0
  by_cases h1 : (sizeR x : Int) ≤ 50
  · have HSX := Lib.hid (show sizeR x ≤ 1000000 by omega)
    rw [decide_eq_true h1]
    clear h1
    have c0 := fun i => K2.out.cell i
    go_wp2_with fail
    refine (few_any _ y _ 50 _ HY.out (by omega) (by omega)).mono ?_
    rintro e wr ⟨rfl, hb⟩
    have K1 := Lib.hid (keep hb K1.out)
    have K2 := Lib.hid (keep hb K2.out)
    have HX := Lib.hid (HX.out.keep hb)
    have HY := Lib.hid (HY.out.keep hb)
    have HB := Lib.hid (HB.out.trans (hb.mono HB.out.size))
    clear hb c0
    by_cases h2 : (sizeR y : Int) ≤ 50
    · have HSY := Lib.hid (show sizeR y ≤ 1000000 by omega)
      rw [decide_eq_true h2]
      clear h2
      go_wp2_with fail
      refine region_ghost (X := Unit) (by kernel_rfl) _ (fun gx => [.agg (rdC x.rule x.at_ A x.kids.length cap), .agg (rdC y.rule y.at_ B y.kids.length cap2), .int .i64 (cmpR x y), .agg (rdC x.rule x.at_ A x.kids.length cap), .agg (rdC y.rule y.at_ B y.kids.length cap2), .int .i64 (cmpR x y), .bool true, .bool true, .agg (rdC y.rule y.at_ B y.kids.length cap2), .agg (rdC x.rule x.at_ A x.kids.length cap), .int .i64 (cmpR y x), .agg (rdC x.rule x.at_ A x.kids.length cap), .agg (rdC y.rule y.at_ B y.kids.length cap2), .int .i64 (cmpR x y), .int .i64 (-cmpR x y), .bool true, .bool true, .bool true, .agg (rdC x.rule x.at_ A x.kids.length cap), .agg (rdC x.rule x.at_ A x.kids.length cap), .int .i64 (cmpR x x), .bool true, .bool true, .bool true]) [true, true, true, true, true, true, true, true, true, true, true, true, true, true, true, true, true, true, true, true, true, true, true, true] [] (InvB wr) () (by kernel_rfl) (fun gx => by simp [fin, finOn, dstAt, List.range, List.range.loop, Act.put]; rfl) (fun _ => by kernel_rfl) (by kernel_rfl) (below_drew (Below.refl _ _)) ?_ ?_
      · refine ⟨fun L gx wq hL hb ha hI => ?_, fun L gx wq hL hb ha hI => ?_, fun L gx wq hL hb ha hI => ?_, fun L gx wq hL hb ha hI => ?_, fun L gx wq hL hb ha hI => ?_, fun L gx wq hL hb ha hI => ?_, fun L gx wq hL hb ha hI => ?_, fun L gx wq hL hb ha hI => ?_, fun L gx wq hL hb ha hI => ?_, fun L gx wq hL hb ha hI => ?_, fun L gx wq hL hb ha hI => ?_, fun L gx wq hL hb ha hI => ?_, fun L gx wq hL hb ha hI => ?_, fun L gx wq hL hb ha hI => ?_, fun L gx wq hL hb ha hI => ?_, fun L gx wq hL hb ha hI => ?_, fun L gx wq hL hb ha hI => ?_, fun L gx wq hL hb ha hI => ?_, fun L gx wq hL hb ha hI => ?_, fun L gx wq hL hb ha hI => ?_, fun L gx wq hL hb ha hI => ?_, fun L gx wq hL hb ha hI => ?_, fun L gx wq hL hb ha hI => ?_, fun L gx wq hL hb ha hI => ?_, trivial⟩
        · have hW : Below wr.heap.size wr wq := hI
          have cJ := fun i => (keep hW K1.out).cell i
          exact Gives.plain (v := .agg (rdC x.rule x.at_ A x.kids.length cap)) (w' := wq) (by simp [go_sem, cJ]) rfl hI
        · have hW : Below wr.heap.size wr wq := hI
          have cJ := fun i => (keep hW K2.out).cell i
          exact Gives.plain (v := .agg (rdC y.rule y.at_ B y.kids.length cap2)) (w' := wq) (by simp [go_sem, cJ]) rfl hI
        · have hW : Below wr.heap.size wr wq := hI
          refine Gives.call (f := 23) (args := #[.agg (rdC x.rule x.at_ A x.kids.length cap), .agg (rdC y.rule y.at_ B y.kids.length cap2)]) (w' := wq) (by kernel_rfl) ((pcmp_any _ _ x y _ _ wq HSX.out (HX.out.keep hW) (HY.out.keep hW)).mono ?_)
          rintro e wa ⟨rfl, hb5⟩
          exact ⟨_, rfl, (), rfl, KeepsV.same, Below.trans hW (hb5.mono (Below.size hW))⟩
        · have hW : Below wr.heap.size wr wq := hI
          have cJ := fun i => (keep hW K1.out).cell i
          exact Gives.plain (v := .agg (rdC x.rule x.at_ A x.kids.length cap)) (w' := wq) (by simp [go_sem, cJ]) rfl hI
        · have hW : Below wr.heap.size wr wq := hI
          have cJ := fun i => (keep hW K2.out).cell i
          exact Gives.plain (v := .agg (rdC y.rule y.at_ B y.kids.length cap2)) (w' := wq) (by simp [go_sem, cJ]) rfl hI
        · have hW : Below wr.heap.size wr wq := hI
          refine Gives.call (f := 17) (args := #[.agg (rdC x.rule x.at_ A x.kids.length cap), .agg (rdC y.rule y.at_ B y.kids.length cap2)]) (w' := wq) (by kernel_rfl) ((rcmp_any _ _ _ x y _ _ wq (Nat.le_refl _) (HX.out.keep hW) (HY.out.keep hW)).mono ?_)
          rintro e wa ⟨rfl, hb5⟩
          exact ⟨_, rfl, (), rfl, KeepsV.same, Below.trans hW (hb5.mono (Below.size hW))⟩
        · skip
          exact Gives.plain (v := .bool true) (w' := wq) (by simp [go_sem]) rfl hI
        · exact Gives.plain (v := .bool true) (w' := wq) (by kernel_rfl) rfl hI
        · have hW : Below wr.heap.size wr wq := hI
          have cJ := fun i => (keep hW K2.out).cell i
          exact Gives.plain (v := .agg (rdC y.rule y.at_ B y.kids.length cap2)) (w' := wq) (by simp [go_sem, cJ]) rfl hI
        · have hW : Below wr.heap.size wr wq := hI
          have cJ := fun i => (keep hW K1.out).cell i
          exact Gives.plain (v := .agg (rdC x.rule x.at_ A x.kids.length cap)) (w' := wq) (by simp [go_sem, cJ]) rfl hI
        · have hW : Below wr.heap.size wr wq := hI
          refine Gives.call (f := 23) (args := #[.agg (rdC y.rule y.at_ B y.kids.length cap2), .agg (rdC x.rule x.at_ A x.kids.length cap)]) (w' := wq) (by kernel_rfl) ((pcmp_any _ _ y x _ _ wq HSY.out (HY.out.keep hW) (HX.out.keep hW)).mono ?_)
          rintro e wa ⟨rfl, hb5⟩
          exact ⟨_, rfl, (), rfl, KeepsV.same, Below.trans hW (hb5.mono (Below.size hW))⟩
        · have hW : Below wr.heap.size wr wq := hI
          have cJ := fun i => (keep hW K1.out).cell i
          exact Gives.plain (v := .agg (rdC x.rule x.at_ A x.kids.length cap)) (w' := wq) (by simp [go_sem, cJ]) rfl hI
        · have hW : Below wr.heap.size wr wq := hI
          have cJ := fun i => (keep hW K2.out).cell i
          exact Gives.plain (v := .agg (rdC y.rule y.at_ B y.kids.length cap2)) (w' := wq) (by simp [go_sem, cJ]) rfl hI
        · have hW : Below wr.heap.size wr wq := hI
          refine Gives.call (f := 23) (args := #[.agg (rdC x.rule x.at_ A x.kids.length cap), .agg (rdC y.rule y.at_ B y.kids.length cap2)]) (w' := wq) (by kernel_rfl) ((pcmp_any _ _ x y _ _ wq HSX.out (HX.out.keep hW) (HY.out.keep hW)).mono ?_)
          rintro e wa ⟨rfl, hb5⟩
          exact ⟨_, rfl, (), rfl, KeepsV.same, Below.trans hW (hb5.mono (Below.size hW))⟩
        · have hn := HNEG.out
          exact Gives.plain (v := .int .i64 (-cmpR x y)) (w' := wq) (by simp [go_sem, hn]) rfl hI
        · have hs := HSW.out
          exact Gives.plain (v := .bool true) (w' := wq) (by simp [go_sem, hs]) rfl hI
        · exact Gives.plain (v := .bool true) (w' := wq) (by kernel_rfl) rfl hI
        · exact Gives.plain (v := .bool true) (w' := wq) (by kernel_rfl) rfl hI
        · have hW : Below wr.heap.size wr wq := hI
          have cJ := fun i => (keep hW K1.out).cell i
          exact Gives.plain (v := .agg (rdC x.rule x.at_ A x.kids.length cap)) (w' := wq) (by simp [go_sem, cJ]) rfl hI
        · have hW : Below wr.heap.size wr wq := hI
          have cJ := fun i => (keep hW K1.out).cell i
          exact Gives.plain (v := .agg (rdC x.rule x.at_ A x.kids.length cap)) (w' := wq) (by simp [go_sem, cJ]) rfl hI
        · have hW : Below wr.heap.size wr wq := hI
          refine Gives.call (f := 23) (args := #[.agg (rdC x.rule x.at_ A x.kids.length cap), .agg (rdC x.rule x.at_ A x.kids.length cap)]) (w' := wq) (by kernel_rfl) ((pcmp_any _ _ x x _ _ wq HSX.out (HX.out.keep hW) (HX.out.keep hW)).mono ?_)
          rintro e wa ⟨rfl, hb5⟩
          exact ⟨_, rfl, (), rfl, KeepsV.same, Below.trans hW (hb5.mono (Below.size hW))⟩
        · have hs := HSF.out
          exact Gives.plain (v := .bool true) (w' := wq) (by simp [go_sem, hs]) rfl hI
        · exact Gives.plain (v := .bool true) (w' := wq) (by kernel_rfl) rfl hI
        · exact Gives.plain (v := .bool true) (w' := wq) (by kernel_rfl) rfl hI
      · intro gx wq hI
        have hW : Below wr.heap.size wr wq := hI
        have HB := Lib.hid (HB.out.trans (hW.mono HB.out.size))
        clear hI hW
        go_wp2_with fail
        go_ret
        exact ⟨rfl, HB.out⟩
    · rw [decide_eq_false h2]
      go_wp2_with fail
      go_ret
      exact ⟨rfl, HB.out⟩
  · rw [decide_eq_false h1]
    go_wp2_with fail
    go_ret
    exact ⟨rfl, HB.out⟩
end Go.Proofs.Ytmhddlhlniajpaa
