/- All returns the 27 units in a new row. -/
import Derived.Test.YtlfapncbkgpclaaDoorF0
import Derived.Test.YtlfapncbkgpclaaDoorU4
import Derived.Laws.EntriesVeiled
import Derived.Test.YtlfapncbkgpclaaDoorC3
namespace Go.Proofs.YtlfapncbkgpclaaDoor
open Go.RowKit
set_option maxRecDepth 100000 in
set_option maxHeartbeats 400000 in
theorem mk37 (n d : Int) (m : D7) (w : World) : Calls Tryd.prog 37 #[.int .i64 n, .int .i64 d, m.v] w fun e w' => e = .returned (V9.v ⟨n, d, m⟩) ∧ Below w.heap.size w w' := by
  go_enter Tryd.func37, Tryd.ntmps37
  go_wp2_with fail
  go_returns
  exact ⟨rfl, by repeat' (first | (with_reducible exact Below.refl _ _) | (with_reducible refine Below.setCell ?_ ?_ _) | (with_reducible refine Below.alloc ?_ ?_ _) | go_size)⟩
theorem bel_al (w : World) (o : Obj) : Below w.heap.size w (w.alloc o) := (Below.refl _ _).alloc (Nat.le_refl _) o
abbrev fun37 : Value := .func (.func 37) #[] #[]
set_option maxRecDepth 100000 in
set_option maxHeartbeats 400000 in
theorem mk38 (n d : Int) (g : Nat) (w : World) (hF : Blk w g 67 #[fun37]) : Calls Tryd.prog 38 #[.int .i64 n, .int .i64 d, .pointer (some ⟨g, 0, none⟩)] w fun e w' => e = .returned (V9.v ⟨n, d, ⟨0, 1, 0, 0, 0, 0, 0⟩⟩) ∧ Below w.heap.size w w' := by
  have cF := fun i => hF.cell i
  have lF := hF.lt
  go_enter Tryd.func38, Tryd.ntmps38
  go_wp2_with fail
  refine (mk37 n d ⟨0, 1, 0, 0, 0, 0, 0⟩ _).mono ?_
  rintro e w1 ⟨rfl, hb⟩
  have K := keep hb (Blk.new w 35 V9.zero.c)
  have H0 := Lib.hid ((bel_al w _).trans (hb.mono (by simp)))
  have c0 := fun i => K.cell i
  have f0 := fun i => K.frozen i
  have l0 := K.lt
  clear hb hF cF lF
  go_wp2_with fail
  refine bodyPost_ret (v := V9.v ⟨n, d, ⟨0, 1, 0, 0, 0, 0, 0⟩⟩) (by simp [results, Tryd.results38, go_sem, c0]) rfl ?_
  exact ⟨rfl, by repeat' (first | (with_reducible exact H0.out) | (with_reducible refine Below.setCell ?_ ?_ _) | (with_reducible refine Below.alloc ?_ ?_ _) | go_size)⟩
set_option maxRecDepth 100000 in
set_option maxHeartbeats 400000 in
theorem mk39 (n d : Int) (g : Nat) (w : World) (hF : Blk w g 67 #[fun37]) : Calls Tryd.prog 39 #[.int .i64 n, .int .i64 d, .pointer (some ⟨g, 0, none⟩)] w fun e w' => e = .returned (V9.v ⟨n, d, ⟨1, 0, 0, 0, 0, 0, 0⟩⟩) ∧ Below w.heap.size w w' := by
  have cF := fun i => hF.cell i
  have lF := hF.lt
  go_enter Tryd.func39, Tryd.ntmps39
  go_wp2_with fail
  refine (mk37 n d ⟨1, 0, 0, 0, 0, 0, 0⟩ _).mono ?_
  rintro e w1 ⟨rfl, hb⟩
  have K := keep hb (Blk.new w 35 V9.zero.c)
  have H0 := Lib.hid ((bel_al w _).trans (hb.mono (by simp)))
  have c0 := fun i => K.cell i
  have f0 := fun i => K.frozen i
  have l0 := K.lt
  clear hb hF cF lF
  go_wp2_with fail
  refine bodyPost_ret (v := V9.v ⟨n, d, ⟨1, 0, 0, 0, 0, 0, 0⟩⟩) (by simp [results, Tryd.results39, go_sem, c0]) rfl ?_
  exact ⟨rfl, by repeat' (first | (with_reducible exact H0.out) | (with_reducible refine Below.setCell ?_ ?_ _) | (with_reducible refine Below.alloc ?_ ?_ _) | go_size)⟩
set_option maxRecDepth 100000 in
set_option maxHeartbeats 400000 in
theorem mk40 (n d : Int) (g : Nat) (w : World) (hF : Blk w g 67 #[fun37]) : Calls Tryd.prog 40 #[.int .i64 n, .int .i64 d, .pointer (some ⟨g, 0, none⟩)] w fun e w' => e = .returned (V9.v ⟨n, d, ⟨0, 0, 1, 0, 0, 0, 0⟩⟩) ∧ Below w.heap.size w w' := by
  have cF := fun i => hF.cell i
  have lF := hF.lt
  go_enter Tryd.func40, Tryd.ntmps40
  go_wp2_with fail
  refine (mk37 n d ⟨0, 0, 1, 0, 0, 0, 0⟩ _).mono ?_
  rintro e w1 ⟨rfl, hb⟩
  have K := keep hb (Blk.new w 35 V9.zero.c)
  have H0 := Lib.hid ((bel_al w _).trans (hb.mono (by simp)))
  have c0 := fun i => K.cell i
  have f0 := fun i => K.frozen i
  have l0 := K.lt
  clear hb hF cF lF
  go_wp2_with fail
  refine bodyPost_ret (v := V9.v ⟨n, d, ⟨0, 0, 1, 0, 0, 0, 0⟩⟩) (by simp [results, Tryd.results40, go_sem, c0]) rfl ?_
  exact ⟨rfl, by repeat' (first | (with_reducible exact H0.out) | (with_reducible refine Below.setCell ?_ ?_ _) | (with_reducible refine Below.alloc ?_ ?_ _) | go_size)⟩
theorem below_drew0 {B : Nat} {a w : World} (h : Below B a w) : Below B a w.drew := ⟨h.os, h.tape, h.output, h.size, h.block⟩
/-- the world while the units are laid -/
def InvA (w : World) : List Bool → Nat → World → Prop
  | [b], gx, wq => Hid (Blk wq w.heap.size 67 #[fun37]) ∧ Hid (Blk wq (w.heap.size + 1) 23 (D7.c ⟨2, 1, -2, 0, 0, 0, 0⟩)) ∧ Hid (Below w.heap.size w wq) ∧ (b = true → Hid (UnAt wq gx units))
  | _, _, _ => False
theorem InvA.kept {w wq w' : World} {b : Bool} {gx : Nat} (h : InvA w [b] gx wq) (hb : Below wq.heap.size wq w') : InvA w [b] gx w' :=
  ⟨keep hb h.1.out, keep hb h.2.1.out, h.2.2.1.out.trans (hb.mono h.2.2.1.out.size), fun e => (h.2.2.2 e).out.keep hb⟩
theorem InvA.build {w wq : World} {b : Bool} {gx : Nat} (h : InvA w [b] gx wq) : InvA w [true] wq.heap.size (wq.alloc (.cells unitsL.toArray 43)) := by
  have hb := bel_al wq (.cells unitsL.toArray 43)
  exact ⟨keep hb h.1.out, keep hb h.2.1.out, h.2.2.1.out.trans (hb.mono h.2.2.1.out.size), fun _ => UnAt.of_blk (heap_alloc_new _ _) rfl⟩
set_option maxRecDepth 100000 in
set_option maxHeartbeats 8000000 in
theorem all_any (w : World) : Calls Tryd.prog 22 #[] w (AllPost w) := by
  have KF := Lib.hid ((Blk.new w 67 #[fun37]).alloc (.cells (D7.c ⟨2, 1, -2, 0, 0, 0, 0⟩) 23))
  have KE := Lib.hid (Blk.new (w.alloc (.cells #[fun37] 67)) 23 (D7.c ⟨2, 1, -2, 0, 0, 0, 0⟩))
  have H0 := Lib.hid ((bel_al w (.cells #[fun37] 67)).trans ((bel_al (w.alloc (.cells #[fun37] 67)) (.cells (D7.c ⟨2, 1, -2, 0, 0, 0, 0⟩) 23)).mono (by simp)))
  rw [World.size_alloc] at KE
  have hmf : ∀ (fn : Fn) (first cap : Array Value) (w : World), (Instr.makeFunc fn first cap).run Tryd.prog w = .ok (.func fn first cap) w := fun _ _ _ _ => rfl
  go_enter Tryd.func22, Tryd.ntmps22
  go_wp2_with fail
  generalize (w.alloc (.cells #[fun37] 67)).alloc (.cells _ 23) = w1 at *
  refine region_ghost (X := Nat) (by kernel_rfl) _ (fun gx => [.func (.func 39) #[] #[.pointer (some ⟨w.heap.size, 0, none⟩)], V9.v ⟨1, 1, ⟨1, 0, 0, 0, 0, 0, 0⟩⟩, .agg (Un.c ⟨⟨#[109]⟩, ⟨1, 1, ⟨1, 0, 0, 0, 0, 0, 0⟩⟩⟩), .func (.func 38) #[] #[.pointer (some ⟨w.heap.size, 0, none⟩)], V9.v ⟨1, 1, ⟨0, 1, 0, 0, 0, 0, 0⟩⟩, .agg (Un.c ⟨⟨#[107, 103]⟩, ⟨1, 1, ⟨0, 1, 0, 0, 0, 0, 0⟩⟩⟩), .func (.func 40) #[] #[.pointer (some ⟨w.heap.size, 0, none⟩)], V9.v ⟨1, 1, ⟨0, 0, 1, 0, 0, 0, 0⟩⟩, .agg (Un.c ⟨⟨#[115]⟩, ⟨1, 1, ⟨0, 0, 1, 0, 0, 0, 0⟩⟩⟩), fun37, D7.v ⟨0, 0, 0, 1, 0, 0, 0⟩, V9.v ⟨1, 1, ⟨0, 0, 0, 1, 0, 0, 0⟩⟩, .agg (Un.c ⟨⟨#[65]⟩, ⟨1, 1, ⟨0, 0, 0, 1, 0, 0, 0⟩⟩⟩), fun37, D7.v ⟨0, 0, 0, 0, 1, 0, 0⟩, V9.v ⟨1, 1, ⟨0, 0, 0, 0, 1, 0, 0⟩⟩, .agg (Un.c ⟨⟨#[75]⟩, ⟨1, 1, ⟨0, 0, 0, 0, 1, 0, 0⟩⟩⟩), fun37, D7.v ⟨0, 0, 0, 0, 0, 1, 0⟩, V9.v ⟨1, 1, ⟨0, 0, 0, 0, 0, 1, 0⟩⟩, .agg (Un.c ⟨⟨#[109, 111, 108]⟩, ⟨1, 1, ⟨0, 0, 0, 0, 0, 1, 0⟩⟩⟩), fun37, D7.v ⟨0, 0, 0, 0, 0, 0, 1⟩, V9.v ⟨1, 1, ⟨0, 0, 0, 0, 0, 0, 1⟩⟩, .agg (Un.c ⟨⟨#[99, 100]⟩, ⟨1, 1, ⟨0, 0, 0, 0, 0, 0, 1⟩⟩⟩), .func (.func 39) #[] #[.pointer (some ⟨w.heap.size, 0, none⟩)], V9.v ⟨1000, 1, ⟨1, 0, 0, 0, 0, 0, 0⟩⟩, .agg (Un.c ⟨⟨#[107, 109]⟩, ⟨1000, 1, ⟨1, 0, 0, 0, 0, 0, 0⟩⟩⟩), .func (.func 39) #[] #[.pointer (some ⟨w.heap.size, 0, none⟩)], V9.v ⟨1, 100, ⟨1, 0, 0, 0, 0, 0, 0⟩⟩, .agg (Un.c ⟨⟨#[99, 109]⟩, ⟨1, 100, ⟨1, 0, 0, 0, 0, 0, 0⟩⟩⟩), .func (.func 39) #[] #[.pointer (some ⟨w.heap.size, 0, none⟩)], V9.v ⟨1, 1000, ⟨1, 0, 0, 0, 0, 0, 0⟩⟩, .agg (Un.c ⟨⟨#[109, 109]⟩, ⟨1, 1000, ⟨1, 0, 0, 0, 0, 0, 0⟩⟩⟩), .func (.func 38) #[] #[.pointer (some ⟨w.heap.size, 0, none⟩)], V9.v ⟨1, 1000, ⟨0, 1, 0, 0, 0, 0, 0⟩⟩, .agg (Un.c ⟨⟨#[103]⟩, ⟨1, 1000, ⟨0, 1, 0, 0, 0, 0, 0⟩⟩⟩), .func (.func 38) #[] #[.pointer (some ⟨w.heap.size, 0, none⟩)], V9.v ⟨1000, 1, ⟨0, 1, 0, 0, 0, 0, 0⟩⟩, .agg (Un.c ⟨⟨#[116]⟩, ⟨1000, 1, ⟨0, 1, 0, 0, 0, 0, 0⟩⟩⟩), .func (.func 40) #[] #[.pointer (some ⟨w.heap.size, 0, none⟩)], V9.v ⟨1, 1000, ⟨0, 0, 1, 0, 0, 0, 0⟩⟩, .agg (Un.c ⟨⟨#[109, 115]⟩, ⟨1, 1000, ⟨0, 0, 1, 0, 0, 0, 0⟩⟩⟩), .func (.func 40) #[] #[.pointer (some ⟨w.heap.size, 0, none⟩)], V9.v ⟨60, 1, ⟨0, 0, 1, 0, 0, 0, 0⟩⟩, .agg (Un.c ⟨⟨#[109, 105, 110]⟩, ⟨60, 1, ⟨0, 0, 1, 0, 0, 0, 0⟩⟩⟩), .func (.func 40) #[] #[.pointer (some ⟨w.heap.size, 0, none⟩)], V9.v ⟨3600, 1, ⟨0, 0, 1, 0, 0, 0, 0⟩⟩, .agg (Un.c ⟨⟨#[104]⟩, ⟨3600, 1, ⟨0, 0, 1, 0, 0, 0, 0⟩⟩⟩), .func (.func 40) #[] #[.pointer (some ⟨w.heap.size, 0, none⟩)], V9.v ⟨86400, 1, ⟨0, 0, 1, 0, 0, 0, 0⟩⟩, .agg (Un.c ⟨⟨#[100]⟩, ⟨86400, 1, ⟨0, 0, 1, 0, 0, 0, 0⟩⟩⟩), fun37, D7.v ⟨0, 0, -1, 0, 0, 0, 0⟩, V9.v ⟨1, 1, ⟨0, 0, -1, 0, 0, 0, 0⟩⟩, .agg (Un.c ⟨⟨#[72, 122]⟩, ⟨1, 1, ⟨0, 0, -1, 0, 0, 0, 0⟩⟩⟩), fun37, D7.v ⟨1, 1, -2, 0, 0, 0, 0⟩, V9.v ⟨1, 1, ⟨1, 1, -2, 0, 0, 0, 0⟩⟩, .agg (Un.c ⟨⟨#[78]⟩, ⟨1, 1, ⟨1, 1, -2, 0, 0, 0, 0⟩⟩⟩), fun37, D7.v ⟨-1, 1, -2, 0, 0, 0, 0⟩, V9.v ⟨1, 1, ⟨-1, 1, -2, 0, 0, 0, 0⟩⟩, .agg (Un.c ⟨⟨#[80, 97]⟩, ⟨1, 1, ⟨-1, 1, -2, 0, 0, 0, 0⟩⟩⟩), fun37, D7.v ⟨2, 1, -2, 0, 0, 0, 0⟩, V9.v ⟨1, 1, ⟨2, 1, -2, 0, 0, 0, 0⟩⟩, .agg (Un.c ⟨⟨#[74]⟩, ⟨1, 1, ⟨2, 1, -2, 0, 0, 0, 0⟩⟩⟩), fun37, D7.v ⟨2, 1, -3, 0, 0, 0, 0⟩, V9.v ⟨1, 1, ⟨2, 1, -3, 0, 0, 0, 0⟩⟩, .agg (Un.c ⟨⟨#[87]⟩, ⟨1, 1, ⟨2, 1, -3, 0, 0, 0, 0⟩⟩⟩), fun37, D7.v ⟨0, 0, 1, 1, 0, 0, 0⟩, V9.v ⟨1, 1, ⟨0, 0, 1, 1, 0, 0, 0⟩⟩, .agg (Un.c ⟨⟨#[67]⟩, ⟨1, 1, ⟨0, 0, 1, 1, 0, 0, 0⟩⟩⟩), fun37, D7.v ⟨2, 1, -3, -1, 0, 0, 0⟩, V9.v ⟨1, 1, ⟨2, 1, -3, -1, 0, 0, 0⟩⟩, .agg (Un.c ⟨⟨#[86]⟩, ⟨1, 1, ⟨2, 1, -3, -1, 0, 0, 0⟩⟩⟩), fun37, D7.v ⟨2, 1, -3, -2, 0, 0, 0⟩, V9.v ⟨1, 1, ⟨2, 1, -3, -2, 0, 0, 0⟩⟩, .agg (Un.c ⟨⟨#[111, 104, 109]⟩, ⟨1, 1, ⟨2, 1, -3, -2, 0, 0, 0⟩⟩⟩), fun37, D7.v ⟨2, 1, -2, 0, 0, 0, 0⟩, V9.v ⟨3600000, 1, ⟨2, 1, -2, 0, 0, 0, 0⟩⟩, .agg (Un.c ⟨⟨#[107, 87, 104]⟩, ⟨3600000, 1, ⟨2, 1, -2, 0, 0, 0, 0⟩⟩⟩), fun37, D7.v ⟨3, 0, 0, 0, 0, 0, 0⟩, V9.v ⟨1, 1000, ⟨3, 0, 0, 0, 0, 0, 0⟩⟩, .agg (Un.c ⟨⟨#[108]⟩, ⟨1, 1000, ⟨3, 0, 0, 0, 0, 0, 0⟩⟩⟩), fun37, D7.v ⟨0, 0, 0, 0, 0, 0, 0⟩, V9.v ⟨1, 100, ⟨0, 0, 0, 0, 0, 0, 0⟩⟩, .agg (Un.c ⟨⟨#[37]⟩, ⟨1, 100, ⟨0, 0, 0, 0, 0, 0, 0⟩⟩⟩), .slice (some ⟨gx, 0, none⟩) 27 27, .slice (some ⟨gx, 0, none⟩) 27 27]) [true, true, true, true, true, true, true, true, true, true, true, true, true, true, true, true, true, true, true, true, true, true, true, true, true, true, true, true, true, true, true, true, true, true, true, true, true, true, true, true, true, true, true, true, true, true, true, true, true, true, true, true, true, true, true, true, true, true, true, true, true, true, true, true, true, true, true, true, true, true, true, true, true, true, true, true, true, true, true, true, true, true, true, true, true, true, true, true, true, true, true, true, true, true, true, true, true, true] [96] (InvA w) 0 (by kernel_rfl) (fun gx => by simp [fin, finOn, dstAt, List.range, List.range.loop, Act.put]; rfl) (fun _ => by kernel_rfl) (by kernel_rfl) ⟨KF.out.drew, KE.out.drew, below_drew0 H0.out, fun h => by cases h⟩ ?_ ?_
  · refine ⟨fun L gx wq hL hb ha hI => ?_, fun L gx wq hL hb ha hI => ?_, fun L gx wq hL hb ha hI => ?_, fun L gx wq hL hb ha hI => ?_, fun L gx wq hL hb ha hI => ?_, fun L gx wq hL hb ha hI => ?_, fun L gx wq hL hb ha hI => ?_, fun L gx wq hL hb ha hI => ?_, fun L gx wq hL hb ha hI => ?_, fun L gx wq hL hb ha hI => ?_, fun L gx wq hL hb ha hI => ?_, fun L gx wq hL hb ha hI => ?_, fun L gx wq hL hb ha hI => ?_, fun L gx wq hL hb ha hI => ?_, fun L gx wq hL hb ha hI => ?_, fun L gx wq hL hb ha hI => ?_, fun L gx wq hL hb ha hI => ?_, fun L gx wq hL hb ha hI => ?_, fun L gx wq hL hb ha hI => ?_, fun L gx wq hL hb ha hI => ?_, fun L gx wq hL hb ha hI => ?_, fun L gx wq hL hb ha hI => ?_, fun L gx wq hL hb ha hI => ?_, fun L gx wq hL hb ha hI => ?_, fun L gx wq hL hb ha hI => ?_, fun L gx wq hL hb ha hI => ?_, fun L gx wq hL hb ha hI => ?_, fun L gx wq hL hb ha hI => ?_, fun L gx wq hL hb ha hI => ?_, fun L gx wq hL hb ha hI => ?_, fun L gx wq hL hb ha hI => ?_, fun L gx wq hL hb ha hI => ?_, fun L gx wq hL hb ha hI => ?_, fun L gx wq hL hb ha hI => ?_, fun L gx wq hL hb ha hI => ?_, fun L gx wq hL hb ha hI => ?_, fun L gx wq hL hb ha hI => ?_, fun L gx wq hL hb ha hI => ?_, fun L gx wq hL hb ha hI => ?_, fun L gx wq hL hb ha hI => ?_, fun L gx wq hL hb ha hI => ?_, fun L gx wq hL hb ha hI => ?_, fun L gx wq hL hb ha hI => ?_, fun L gx wq hL hb ha hI => ?_, fun L gx wq hL hb ha hI => ?_, fun L gx wq hL hb ha hI => ?_, fun L gx wq hL hb ha hI => ?_, fun L gx wq hL hb ha hI => ?_, fun L gx wq hL hb ha hI => ?_, fun L gx wq hL hb ha hI => ?_, fun L gx wq hL hb ha hI => ?_, fun L gx wq hL hb ha hI => ?_, fun L gx wq hL hb ha hI => ?_, fun L gx wq hL hb ha hI => ?_, fun L gx wq hL hb ha hI => ?_, fun L gx wq hL hb ha hI => ?_, fun L gx wq hL hb ha hI => ?_, fun L gx wq hL hb ha hI => ?_, fun L gx wq hL hb ha hI => ?_, fun L gx wq hL hb ha hI => ?_, fun L gx wq hL hb ha hI => ?_, fun L gx wq hL hb ha hI => ?_, fun L gx wq hL hb ha hI => ?_, fun L gx wq hL hb ha hI => ?_, fun L gx wq hL hb ha hI => ?_, fun L gx wq hL hb ha hI => ?_, fun L gx wq hL hb ha hI => ?_, fun L gx wq hL hb ha hI => ?_, fun L gx wq hL hb ha hI => ?_, fun L gx wq hL hb ha hI => ?_, fun L gx wq hL hb ha hI => ?_, fun L gx wq hL hb ha hI => ?_, fun L gx wq hL hb ha hI => ?_, fun L gx wq hL hb ha hI => ?_, fun L gx wq hL hb ha hI => ?_, fun L gx wq hL hb ha hI => ?_, fun L gx wq hL hb ha hI => ?_, fun L gx wq hL hb ha hI => ?_, fun L gx wq hL hb ha hI => ?_, fun L gx wq hL hb ha hI => ?_, fun L gx wq hL hb ha hI => ?_, fun L gx wq hL hb ha hI => ?_, fun L gx wq hL hb ha hI => ?_, fun L gx wq hL hb ha hI => ?_, fun L gx wq hL hb ha hI => ?_, fun L gx wq hL hb ha hI => ?_, fun L gx wq hL hb ha hI => ?_, fun L gx wq hL hb ha hI => ?_, fun L gx wq hL hb ha hI => ?_, fun L gx wq hL hb ha hI => ?_, fun L gx wq hL hb ha hI => ?_, fun L gx wq hL hb ha hI => ?_, fun L gx wq hL hb ha hI => ?_, fun L gx wq hL hb ha hI => ?_, fun L gx wq hL hb ha hI => ?_, fun L gx wq hL hb ha hI => ?_, fun L gx wq hL hb ha hI => ?_, fun L gx wq hL hb ha hI => ?_, trivial⟩
    · exact Gives.plain (v := .func (.func 39) #[] #[.pointer (some ⟨w.heap.size, 0, none⟩)]) (w' := wq) (by kernel_rfl) rfl hI
    · refine Gives.call (f := 39) (args := #[.int .i64 1, .int .i64 1, .pointer (some ⟨w.heap.size, 0, none⟩)]) (w' := wq) (by kernel_rfl) ((mk39 1 1 w.heap.size wq hI.1.out).mono ?_)
      rintro e wa ⟨rfl, hb5⟩
      exact ⟨_, rfl, gx, rfl, KeepsV.same, InvA.kept hI hb5⟩
    · exact Gives.plain (v := .agg (Un.c ⟨⟨#[109]⟩, ⟨1, 1, ⟨1, 0, 0, 0, 0, 0, 0⟩⟩⟩)) (w' := wq) (by kernel_rfl) rfl hI
    · exact Gives.plain (v := .func (.func 38) #[] #[.pointer (some ⟨w.heap.size, 0, none⟩)]) (w' := wq) (by kernel_rfl) rfl hI
    · refine Gives.call (f := 38) (args := #[.int .i64 1, .int .i64 1, .pointer (some ⟨w.heap.size, 0, none⟩)]) (w' := wq) (by kernel_rfl) ((mk38 1 1 w.heap.size wq hI.1.out).mono ?_)
      rintro e wa ⟨rfl, hb5⟩
      exact ⟨_, rfl, gx, rfl, KeepsV.same, InvA.kept hI hb5⟩
    · exact Gives.plain (v := .agg (Un.c ⟨⟨#[107, 103]⟩, ⟨1, 1, ⟨0, 1, 0, 0, 0, 0, 0⟩⟩⟩)) (w' := wq) (by kernel_rfl) rfl hI
    · exact Gives.plain (v := .func (.func 40) #[] #[.pointer (some ⟨w.heap.size, 0, none⟩)]) (w' := wq) (by kernel_rfl) rfl hI
    · refine Gives.call (f := 40) (args := #[.int .i64 1, .int .i64 1, .pointer (some ⟨w.heap.size, 0, none⟩)]) (w' := wq) (by kernel_rfl) ((mk40 1 1 w.heap.size wq hI.1.out).mono ?_)
      rintro e wa ⟨rfl, hb5⟩
      exact ⟨_, rfl, gx, rfl, KeepsV.same, InvA.kept hI hb5⟩
    · exact Gives.plain (v := .agg (Un.c ⟨⟨#[115]⟩, ⟨1, 1, ⟨0, 0, 1, 0, 0, 0, 0⟩⟩⟩)) (w' := wq) (by kernel_rfl) rfl hI
    · have cJ := hI.1.out.cell 0
      exact Gives.plain (v := fun37) (w' := wq) (by simp [go_sem, cJ]) rfl hI
    · exact Gives.plain (v := D7.v ⟨0, 0, 0, 1, 0, 0, 0⟩) (w' := wq) (by kernel_rfl) rfl hI
    · refine Gives.call (f := 37) (args := #[.int .i64 1, .int .i64 1, D7.v ⟨0, 0, 0, 1, 0, 0, 0⟩]) (w' := wq) (by kernel_rfl) ((mk37 1 1 ⟨0, 0, 0, 1, 0, 0, 0⟩ wq).mono ?_)
      rintro e wa ⟨rfl, hb5⟩
      exact ⟨_, rfl, gx, rfl, KeepsV.same, InvA.kept hI hb5⟩
    · exact Gives.plain (v := .agg (Un.c ⟨⟨#[65]⟩, ⟨1, 1, ⟨0, 0, 0, 1, 0, 0, 0⟩⟩⟩)) (w' := wq) (by kernel_rfl) rfl hI
    · have cJ := hI.1.out.cell 0
      exact Gives.plain (v := fun37) (w' := wq) (by simp [go_sem, cJ]) rfl hI
    · exact Gives.plain (v := D7.v ⟨0, 0, 0, 0, 1, 0, 0⟩) (w' := wq) (by kernel_rfl) rfl hI
    · refine Gives.call (f := 37) (args := #[.int .i64 1, .int .i64 1, D7.v ⟨0, 0, 0, 0, 1, 0, 0⟩]) (w' := wq) (by kernel_rfl) ((mk37 1 1 ⟨0, 0, 0, 0, 1, 0, 0⟩ wq).mono ?_)
      rintro e wa ⟨rfl, hb5⟩
      exact ⟨_, rfl, gx, rfl, KeepsV.same, InvA.kept hI hb5⟩
    · exact Gives.plain (v := .agg (Un.c ⟨⟨#[75]⟩, ⟨1, 1, ⟨0, 0, 0, 0, 1, 0, 0⟩⟩⟩)) (w' := wq) (by kernel_rfl) rfl hI
    · have cJ := hI.1.out.cell 0
      exact Gives.plain (v := fun37) (w' := wq) (by simp [go_sem, cJ]) rfl hI
    · exact Gives.plain (v := D7.v ⟨0, 0, 0, 0, 0, 1, 0⟩) (w' := wq) (by kernel_rfl) rfl hI
    · refine Gives.call (f := 37) (args := #[.int .i64 1, .int .i64 1, D7.v ⟨0, 0, 0, 0, 0, 1, 0⟩]) (w' := wq) (by kernel_rfl) ((mk37 1 1 ⟨0, 0, 0, 0, 0, 1, 0⟩ wq).mono ?_)
      rintro e wa ⟨rfl, hb5⟩
      exact ⟨_, rfl, gx, rfl, KeepsV.same, InvA.kept hI hb5⟩
    · exact Gives.plain (v := .agg (Un.c ⟨⟨#[109, 111, 108]⟩, ⟨1, 1, ⟨0, 0, 0, 0, 0, 1, 0⟩⟩⟩)) (w' := wq) (by kernel_rfl) rfl hI
    · have cJ := hI.1.out.cell 0
      exact Gives.plain (v := fun37) (w' := wq) (by simp [go_sem, cJ]) rfl hI
    · exact Gives.plain (v := D7.v ⟨0, 0, 0, 0, 0, 0, 1⟩) (w' := wq) (by kernel_rfl) rfl hI
    · refine Gives.call (f := 37) (args := #[.int .i64 1, .int .i64 1, D7.v ⟨0, 0, 0, 0, 0, 0, 1⟩]) (w' := wq) (by kernel_rfl) ((mk37 1 1 ⟨0, 0, 0, 0, 0, 0, 1⟩ wq).mono ?_)
      rintro e wa ⟨rfl, hb5⟩
      exact ⟨_, rfl, gx, rfl, KeepsV.same, InvA.kept hI hb5⟩
    · exact Gives.plain (v := .agg (Un.c ⟨⟨#[99, 100]⟩, ⟨1, 1, ⟨0, 0, 0, 0, 0, 0, 1⟩⟩⟩)) (w' := wq) (by kernel_rfl) rfl hI
    · exact Gives.plain (v := .func (.func 39) #[] #[.pointer (some ⟨w.heap.size, 0, none⟩)]) (w' := wq) (by kernel_rfl) rfl hI
    · refine Gives.call (f := 39) (args := #[.int .i64 1000, .int .i64 1, .pointer (some ⟨w.heap.size, 0, none⟩)]) (w' := wq) (by kernel_rfl) ((mk39 1000 1 w.heap.size wq hI.1.out).mono ?_)
      rintro e wa ⟨rfl, hb5⟩
      exact ⟨_, rfl, gx, rfl, KeepsV.same, InvA.kept hI hb5⟩
    · exact Gives.plain (v := .agg (Un.c ⟨⟨#[107, 109]⟩, ⟨1000, 1, ⟨1, 0, 0, 0, 0, 0, 0⟩⟩⟩)) (w' := wq) (by kernel_rfl) rfl hI
    · exact Gives.plain (v := .func (.func 39) #[] #[.pointer (some ⟨w.heap.size, 0, none⟩)]) (w' := wq) (by kernel_rfl) rfl hI
    · refine Gives.call (f := 39) (args := #[.int .i64 1, .int .i64 100, .pointer (some ⟨w.heap.size, 0, none⟩)]) (w' := wq) (by kernel_rfl) ((mk39 1 100 w.heap.size wq hI.1.out).mono ?_)
      rintro e wa ⟨rfl, hb5⟩
      exact ⟨_, rfl, gx, rfl, KeepsV.same, InvA.kept hI hb5⟩
    · exact Gives.plain (v := .agg (Un.c ⟨⟨#[99, 109]⟩, ⟨1, 100, ⟨1, 0, 0, 0, 0, 0, 0⟩⟩⟩)) (w' := wq) (by kernel_rfl) rfl hI
    · exact Gives.plain (v := .func (.func 39) #[] #[.pointer (some ⟨w.heap.size, 0, none⟩)]) (w' := wq) (by kernel_rfl) rfl hI
    · refine Gives.call (f := 39) (args := #[.int .i64 1, .int .i64 1000, .pointer (some ⟨w.heap.size, 0, none⟩)]) (w' := wq) (by kernel_rfl) ((mk39 1 1000 w.heap.size wq hI.1.out).mono ?_)
      rintro e wa ⟨rfl, hb5⟩
      exact ⟨_, rfl, gx, rfl, KeepsV.same, InvA.kept hI hb5⟩
    · exact Gives.plain (v := .agg (Un.c ⟨⟨#[109, 109]⟩, ⟨1, 1000, ⟨1, 0, 0, 0, 0, 0, 0⟩⟩⟩)) (w' := wq) (by kernel_rfl) rfl hI
    · exact Gives.plain (v := .func (.func 38) #[] #[.pointer (some ⟨w.heap.size, 0, none⟩)]) (w' := wq) (by kernel_rfl) rfl hI
    · refine Gives.call (f := 38) (args := #[.int .i64 1, .int .i64 1000, .pointer (some ⟨w.heap.size, 0, none⟩)]) (w' := wq) (by kernel_rfl) ((mk38 1 1000 w.heap.size wq hI.1.out).mono ?_)
      rintro e wa ⟨rfl, hb5⟩
      exact ⟨_, rfl, gx, rfl, KeepsV.same, InvA.kept hI hb5⟩
    · exact Gives.plain (v := .agg (Un.c ⟨⟨#[103]⟩, ⟨1, 1000, ⟨0, 1, 0, 0, 0, 0, 0⟩⟩⟩)) (w' := wq) (by kernel_rfl) rfl hI
    · exact Gives.plain (v := .func (.func 38) #[] #[.pointer (some ⟨w.heap.size, 0, none⟩)]) (w' := wq) (by kernel_rfl) rfl hI
    · refine Gives.call (f := 38) (args := #[.int .i64 1000, .int .i64 1, .pointer (some ⟨w.heap.size, 0, none⟩)]) (w' := wq) (by kernel_rfl) ((mk38 1000 1 w.heap.size wq hI.1.out).mono ?_)
      rintro e wa ⟨rfl, hb5⟩
      exact ⟨_, rfl, gx, rfl, KeepsV.same, InvA.kept hI hb5⟩
    · exact Gives.plain (v := .agg (Un.c ⟨⟨#[116]⟩, ⟨1000, 1, ⟨0, 1, 0, 0, 0, 0, 0⟩⟩⟩)) (w' := wq) (by kernel_rfl) rfl hI
    · exact Gives.plain (v := .func (.func 40) #[] #[.pointer (some ⟨w.heap.size, 0, none⟩)]) (w' := wq) (by kernel_rfl) rfl hI
    · refine Gives.call (f := 40) (args := #[.int .i64 1, .int .i64 1000, .pointer (some ⟨w.heap.size, 0, none⟩)]) (w' := wq) (by kernel_rfl) ((mk40 1 1000 w.heap.size wq hI.1.out).mono ?_)
      rintro e wa ⟨rfl, hb5⟩
      exact ⟨_, rfl, gx, rfl, KeepsV.same, InvA.kept hI hb5⟩
    · exact Gives.plain (v := .agg (Un.c ⟨⟨#[109, 115]⟩, ⟨1, 1000, ⟨0, 0, 1, 0, 0, 0, 0⟩⟩⟩)) (w' := wq) (by kernel_rfl) rfl hI
    · exact Gives.plain (v := .func (.func 40) #[] #[.pointer (some ⟨w.heap.size, 0, none⟩)]) (w' := wq) (by kernel_rfl) rfl hI
    · refine Gives.call (f := 40) (args := #[.int .i64 60, .int .i64 1, .pointer (some ⟨w.heap.size, 0, none⟩)]) (w' := wq) (by kernel_rfl) ((mk40 60 1 w.heap.size wq hI.1.out).mono ?_)
      rintro e wa ⟨rfl, hb5⟩
      exact ⟨_, rfl, gx, rfl, KeepsV.same, InvA.kept hI hb5⟩
    · exact Gives.plain (v := .agg (Un.c ⟨⟨#[109, 105, 110]⟩, ⟨60, 1, ⟨0, 0, 1, 0, 0, 0, 0⟩⟩⟩)) (w' := wq) (by kernel_rfl) rfl hI
    · exact Gives.plain (v := .func (.func 40) #[] #[.pointer (some ⟨w.heap.size, 0, none⟩)]) (w' := wq) (by kernel_rfl) rfl hI
    · refine Gives.call (f := 40) (args := #[.int .i64 3600, .int .i64 1, .pointer (some ⟨w.heap.size, 0, none⟩)]) (w' := wq) (by kernel_rfl) ((mk40 3600 1 w.heap.size wq hI.1.out).mono ?_)
      rintro e wa ⟨rfl, hb5⟩
      exact ⟨_, rfl, gx, rfl, KeepsV.same, InvA.kept hI hb5⟩
    · exact Gives.plain (v := .agg (Un.c ⟨⟨#[104]⟩, ⟨3600, 1, ⟨0, 0, 1, 0, 0, 0, 0⟩⟩⟩)) (w' := wq) (by kernel_rfl) rfl hI
    · exact Gives.plain (v := .func (.func 40) #[] #[.pointer (some ⟨w.heap.size, 0, none⟩)]) (w' := wq) (by kernel_rfl) rfl hI
    · refine Gives.call (f := 40) (args := #[.int .i64 86400, .int .i64 1, .pointer (some ⟨w.heap.size, 0, none⟩)]) (w' := wq) (by kernel_rfl) ((mk40 86400 1 w.heap.size wq hI.1.out).mono ?_)
      rintro e wa ⟨rfl, hb5⟩
      exact ⟨_, rfl, gx, rfl, KeepsV.same, InvA.kept hI hb5⟩
    · exact Gives.plain (v := .agg (Un.c ⟨⟨#[100]⟩, ⟨86400, 1, ⟨0, 0, 1, 0, 0, 0, 0⟩⟩⟩)) (w' := wq) (by kernel_rfl) rfl hI
    · have cJ := hI.1.out.cell 0
      exact Gives.plain (v := fun37) (w' := wq) (by simp [go_sem, cJ]) rfl hI
    · exact Gives.plain (v := D7.v ⟨0, 0, -1, 0, 0, 0, 0⟩) (w' := wq) (by kernel_rfl) rfl hI
    · refine Gives.call (f := 37) (args := #[.int .i64 1, .int .i64 1, D7.v ⟨0, 0, -1, 0, 0, 0, 0⟩]) (w' := wq) (by kernel_rfl) ((mk37 1 1 ⟨0, 0, -1, 0, 0, 0, 0⟩ wq).mono ?_)
      rintro e wa ⟨rfl, hb5⟩
      exact ⟨_, rfl, gx, rfl, KeepsV.same, InvA.kept hI hb5⟩
    · exact Gives.plain (v := .agg (Un.c ⟨⟨#[72, 122]⟩, ⟨1, 1, ⟨0, 0, -1, 0, 0, 0, 0⟩⟩⟩)) (w' := wq) (by kernel_rfl) rfl hI
    · have cJ := hI.1.out.cell 0
      exact Gives.plain (v := fun37) (w' := wq) (by simp [go_sem, cJ]) rfl hI
    · exact Gives.plain (v := D7.v ⟨1, 1, -2, 0, 0, 0, 0⟩) (w' := wq) (by kernel_rfl) rfl hI
    · refine Gives.call (f := 37) (args := #[.int .i64 1, .int .i64 1, D7.v ⟨1, 1, -2, 0, 0, 0, 0⟩]) (w' := wq) (by kernel_rfl) ((mk37 1 1 ⟨1, 1, -2, 0, 0, 0, 0⟩ wq).mono ?_)
      rintro e wa ⟨rfl, hb5⟩
      exact ⟨_, rfl, gx, rfl, KeepsV.same, InvA.kept hI hb5⟩
    · exact Gives.plain (v := .agg (Un.c ⟨⟨#[78]⟩, ⟨1, 1, ⟨1, 1, -2, 0, 0, 0, 0⟩⟩⟩)) (w' := wq) (by kernel_rfl) rfl hI
    · have cJ := hI.1.out.cell 0
      exact Gives.plain (v := fun37) (w' := wq) (by simp [go_sem, cJ]) rfl hI
    · exact Gives.plain (v := D7.v ⟨-1, 1, -2, 0, 0, 0, 0⟩) (w' := wq) (by kernel_rfl) rfl hI
    · refine Gives.call (f := 37) (args := #[.int .i64 1, .int .i64 1, D7.v ⟨-1, 1, -2, 0, 0, 0, 0⟩]) (w' := wq) (by kernel_rfl) ((mk37 1 1 ⟨-1, 1, -2, 0, 0, 0, 0⟩ wq).mono ?_)
      rintro e wa ⟨rfl, hb5⟩
      exact ⟨_, rfl, gx, rfl, KeepsV.same, InvA.kept hI hb5⟩
    · exact Gives.plain (v := .agg (Un.c ⟨⟨#[80, 97]⟩, ⟨1, 1, ⟨-1, 1, -2, 0, 0, 0, 0⟩⟩⟩)) (w' := wq) (by kernel_rfl) rfl hI
    · have cJ := hI.1.out.cell 0
      exact Gives.plain (v := fun37) (w' := wq) (by simp [go_sem, cJ]) rfl hI
    · have cJ := fun i => hI.2.1.out.cell i
      exact Gives.plain (v := D7.v ⟨2, 1, -2, 0, 0, 0, 0⟩) (w' := wq) (by simp [go_sem, cJ]) rfl hI
    · refine Gives.call (f := 37) (args := #[.int .i64 1, .int .i64 1, D7.v ⟨2, 1, -2, 0, 0, 0, 0⟩]) (w' := wq) (by kernel_rfl) ((mk37 1 1 ⟨2, 1, -2, 0, 0, 0, 0⟩ wq).mono ?_)
      rintro e wa ⟨rfl, hb5⟩
      exact ⟨_, rfl, gx, rfl, KeepsV.same, InvA.kept hI hb5⟩
    · exact Gives.plain (v := .agg (Un.c ⟨⟨#[74]⟩, ⟨1, 1, ⟨2, 1, -2, 0, 0, 0, 0⟩⟩⟩)) (w' := wq) (by kernel_rfl) rfl hI
    · have cJ := hI.1.out.cell 0
      exact Gives.plain (v := fun37) (w' := wq) (by simp [go_sem, cJ]) rfl hI
    · exact Gives.plain (v := D7.v ⟨2, 1, -3, 0, 0, 0, 0⟩) (w' := wq) (by kernel_rfl) rfl hI
    · refine Gives.call (f := 37) (args := #[.int .i64 1, .int .i64 1, D7.v ⟨2, 1, -3, 0, 0, 0, 0⟩]) (w' := wq) (by kernel_rfl) ((mk37 1 1 ⟨2, 1, -3, 0, 0, 0, 0⟩ wq).mono ?_)
      rintro e wa ⟨rfl, hb5⟩
      exact ⟨_, rfl, gx, rfl, KeepsV.same, InvA.kept hI hb5⟩
    · exact Gives.plain (v := .agg (Un.c ⟨⟨#[87]⟩, ⟨1, 1, ⟨2, 1, -3, 0, 0, 0, 0⟩⟩⟩)) (w' := wq) (by kernel_rfl) rfl hI
    · have cJ := hI.1.out.cell 0
      exact Gives.plain (v := fun37) (w' := wq) (by simp [go_sem, cJ]) rfl hI
    · exact Gives.plain (v := D7.v ⟨0, 0, 1, 1, 0, 0, 0⟩) (w' := wq) (by kernel_rfl) rfl hI
    · refine Gives.call (f := 37) (args := #[.int .i64 1, .int .i64 1, D7.v ⟨0, 0, 1, 1, 0, 0, 0⟩]) (w' := wq) (by kernel_rfl) ((mk37 1 1 ⟨0, 0, 1, 1, 0, 0, 0⟩ wq).mono ?_)
      rintro e wa ⟨rfl, hb5⟩
      exact ⟨_, rfl, gx, rfl, KeepsV.same, InvA.kept hI hb5⟩
    · exact Gives.plain (v := .agg (Un.c ⟨⟨#[67]⟩, ⟨1, 1, ⟨0, 0, 1, 1, 0, 0, 0⟩⟩⟩)) (w' := wq) (by kernel_rfl) rfl hI
    · have cJ := hI.1.out.cell 0
      exact Gives.plain (v := fun37) (w' := wq) (by simp [go_sem, cJ]) rfl hI
    · exact Gives.plain (v := D7.v ⟨2, 1, -3, -1, 0, 0, 0⟩) (w' := wq) (by kernel_rfl) rfl hI
    · refine Gives.call (f := 37) (args := #[.int .i64 1, .int .i64 1, D7.v ⟨2, 1, -3, -1, 0, 0, 0⟩]) (w' := wq) (by kernel_rfl) ((mk37 1 1 ⟨2, 1, -3, -1, 0, 0, 0⟩ wq).mono ?_)
      rintro e wa ⟨rfl, hb5⟩
      exact ⟨_, rfl, gx, rfl, KeepsV.same, InvA.kept hI hb5⟩
    · exact Gives.plain (v := .agg (Un.c ⟨⟨#[86]⟩, ⟨1, 1, ⟨2, 1, -3, -1, 0, 0, 0⟩⟩⟩)) (w' := wq) (by kernel_rfl) rfl hI
    · have cJ := hI.1.out.cell 0
      exact Gives.plain (v := fun37) (w' := wq) (by simp [go_sem, cJ]) rfl hI
    · exact Gives.plain (v := D7.v ⟨2, 1, -3, -2, 0, 0, 0⟩) (w' := wq) (by kernel_rfl) rfl hI
    · refine Gives.call (f := 37) (args := #[.int .i64 1, .int .i64 1, D7.v ⟨2, 1, -3, -2, 0, 0, 0⟩]) (w' := wq) (by kernel_rfl) ((mk37 1 1 ⟨2, 1, -3, -2, 0, 0, 0⟩ wq).mono ?_)
      rintro e wa ⟨rfl, hb5⟩
      exact ⟨_, rfl, gx, rfl, KeepsV.same, InvA.kept hI hb5⟩
    · exact Gives.plain (v := .agg (Un.c ⟨⟨#[111, 104, 109]⟩, ⟨1, 1, ⟨2, 1, -3, -2, 0, 0, 0⟩⟩⟩)) (w' := wq) (by kernel_rfl) rfl hI
    · have cJ := hI.1.out.cell 0
      exact Gives.plain (v := fun37) (w' := wq) (by simp [go_sem, cJ]) rfl hI
    · have cJ := fun i => hI.2.1.out.cell i
      exact Gives.plain (v := D7.v ⟨2, 1, -2, 0, 0, 0, 0⟩) (w' := wq) (by simp [go_sem, cJ]) rfl hI
    · refine Gives.call (f := 37) (args := #[.int .i64 3600000, .int .i64 1, D7.v ⟨2, 1, -2, 0, 0, 0, 0⟩]) (w' := wq) (by kernel_rfl) ((mk37 3600000 1 ⟨2, 1, -2, 0, 0, 0, 0⟩ wq).mono ?_)
      rintro e wa ⟨rfl, hb5⟩
      exact ⟨_, rfl, gx, rfl, KeepsV.same, InvA.kept hI hb5⟩
    · exact Gives.plain (v := .agg (Un.c ⟨⟨#[107, 87, 104]⟩, ⟨3600000, 1, ⟨2, 1, -2, 0, 0, 0, 0⟩⟩⟩)) (w' := wq) (by kernel_rfl) rfl hI
    · have cJ := hI.1.out.cell 0
      exact Gives.plain (v := fun37) (w' := wq) (by simp [go_sem, cJ]) rfl hI
    · exact Gives.plain (v := D7.v ⟨3, 0, 0, 0, 0, 0, 0⟩) (w' := wq) (by kernel_rfl) rfl hI
    · refine Gives.call (f := 37) (args := #[.int .i64 1, .int .i64 1000, D7.v ⟨3, 0, 0, 0, 0, 0, 0⟩]) (w' := wq) (by kernel_rfl) ((mk37 1 1000 ⟨3, 0, 0, 0, 0, 0, 0⟩ wq).mono ?_)
      rintro e wa ⟨rfl, hb5⟩
      exact ⟨_, rfl, gx, rfl, KeepsV.same, InvA.kept hI hb5⟩
    · exact Gives.plain (v := .agg (Un.c ⟨⟨#[108]⟩, ⟨1, 1000, ⟨3, 0, 0, 0, 0, 0, 0⟩⟩⟩)) (w' := wq) (by kernel_rfl) rfl hI
    · have cJ := hI.1.out.cell 0
      exact Gives.plain (v := fun37) (w' := wq) (by simp [go_sem, cJ]) rfl hI
    · exact Gives.plain (v := D7.v ⟨0, 0, 0, 0, 0, 0, 0⟩) (w' := wq) (by kernel_rfl) rfl hI
    · refine Gives.call (f := 37) (args := #[.int .i64 1, .int .i64 100, D7.v ⟨0, 0, 0, 0, 0, 0, 0⟩]) (w' := wq) (by kernel_rfl) ((mk37 1 100 ⟨0, 0, 0, 0, 0, 0, 0⟩ wq).mono ?_)
      rintro e wa ⟨rfl, hb5⟩
      exact ⟨_, rfl, gx, rfl, KeepsV.same, InvA.kept hI hb5⟩
    · exact Gives.plain (v := .agg (Un.c ⟨⟨#[37]⟩, ⟨1, 100, ⟨0, 0, 0, 0, 0, 0, 0⟩⟩⟩)) (w' := wq) (by kernel_rfl) rfl hI
    · exact Gives.value (v := .slice (some ⟨wq.heap.size, 0, none⟩) 27 27) (w' := wq.alloc (.cells unitsL.toArray 43)) (by kernel_rfl) ⟨wq.heap.size, rfl, (KeepsV.of_same ⟨.inr (.inr rfl), .inr (.inr rfl), .inr (.inr rfl), .inr (.inr rfl), .inr (.inr rfl), .inr (.inr rfl), .inr (.inr rfl), .inr (.inr rfl), .inr (.inr rfl), .inr (.inr rfl), .inr (.inr rfl), .inr (.inr rfl), .inr (.inr rfl), .inr (.inr rfl), .inr (.inr rfl), .inr (.inr rfl), .inr (.inr rfl), .inr (.inr rfl), .inr (.inr rfl), .inr (.inr rfl), .inr (.inr rfl), .inr (.inr rfl), .inr (.inr rfl), .inr (.inr rfl), .inr (.inr rfl), .inr (.inr rfl), .inr (.inr rfl), .inr (.inr rfl), .inr (.inr rfl), .inr (.inr rfl), .inr (.inr rfl), .inr (.inr rfl), .inr (.inr rfl), .inr (.inr rfl), .inr (.inr rfl), .inr (.inr rfl), .inr (.inr rfl), .inr (.inr rfl), .inr (.inr rfl), .inr (.inr rfl), .inr (.inr rfl), .inr (.inr rfl), .inr (.inr rfl), .inr (.inr rfl), .inr (.inr rfl), .inr (.inr rfl), .inr (.inr rfl), .inr (.inr rfl), .inr (.inr rfl), .inr (.inr rfl), .inr (.inr rfl), .inr (.inr rfl), .inr (.inr rfl), .inr (.inr rfl), .inr (.inr rfl), .inr (.inr rfl), .inr (.inr rfl), .inr (.inr rfl), .inr (.inr rfl), .inr (.inr rfl), .inr (.inr rfl), .inr (.inr rfl), .inr (.inr rfl), .inr (.inr rfl), .inr (.inr rfl), .inr (.inr rfl), .inr (.inr rfl), .inr (.inr rfl), .inr (.inr rfl), .inr (.inr rfl), .inr (.inr rfl), .inr (.inr rfl), .inr (.inr rfl), .inr (.inr rfl), .inr (.inr rfl), .inr (.inr rfl), .inr (.inr rfl), .inr (.inr rfl), .inr (.inr rfl), .inr (.inr rfl), .inr (.inr rfl), .inr (.inr rfl), .inr (.inr rfl), .inr (.inr rfl), .inr (.inr rfl), .inr (.inr rfl), .inr (.inr rfl), .inr (.inr rfl), .inr (.inr rfl), .inr (.inr rfl), .inr (.inr rfl), .inr (.inr rfl), .inr (.inr rfl), .inr (.inr rfl), .inr (.inr rfl), .inr (.inr rfl), .inl rfl, .inr (.inl (by kernel_rfl)), trivial⟩), InvA.build hI⟩
    · exact Gives.plain (v := .slice (some ⟨gx, 0, none⟩) 27 27) (w' := wq) (by kernel_rfl) rfl hI
  · intro gx wq hI
    obtain ⟨i0, i1, i2, i3⟩ := hI
    have I3 := (i3 (by first | trivial | rfl))
    have I4 := Lib.hid I3.out
    clear i3 I3
    go_wp2_with fail
    go_ret
    exact ⟨_, _, rfl, Nat.le_refl _, I4.out, i2.out⟩
end Go.Proofs.YtlfapncbkgpclaaDoor
