/- Comparing: numbers, and the heads of two readings. -/
import Derived.Test.YtmhddlhlniajpaaLA
import Derived.Deep.QuietTactic
import Derived.BigQuiet
namespace Go.Proofs.Ytmhddlhlniajpaa
open Go.RowKit
theorem sign_any (a b : Int) (w : World) : Calls Try.prog 35 #[.int .i64 a, .int .i64 b] w fun e w' => e = .returned (.int .i64 (signI a b)) ∧ w = w' := by
  by_cases h1 : a < b
  · have HQ := Lib.hid (show signI a b = -1 by unfold signI; rw [if_pos h1])
    go_enter Try.func35, Try.ntmps35
    go_wp2_with fail
    go_ret
    exact ⟨ret_int HQ.out.symm, rfl⟩
  · by_cases h2 : b < a
    · have HQ := Lib.hid (show signI a b = 1 by unfold signI; rw [if_neg h1, if_pos h2])
      go_enter Try.func35, Try.ntmps35
      go_wp2_with fail
      go_ret
      exact ⟨ret_int HQ.out.symm, rfl⟩
    · have HQ := Lib.hid (show signI a b = 0 by unfold signI; rw [if_neg h1, if_neg h2])
      go_enter Try.func35, Try.ntmps35
      go_wp2_with fail
      go_ret
      exact ⟨ret_int HQ.out.symm, rfl⟩
theorem nan_any (a : Int) (w : World) : Calls Try.prog 79 #[.int .i64 a] w fun e w' => e = .returned (.bool false) ∧ w = w' := by
  go_enter Try.func79, Try.ntmps79
  go_wp2_with fail
  go_ret
  exact ⟨rfl, rfl⟩
theorem cmp_any (a b : Int) (w : World) : Calls Try.prog 64 #[.int .i64 a, .int .i64 b] w fun e w' => e = .returned (.int .i64 (signI a b)) ∧ w = w' := by
  by_cases h1 : a < b
  · have HQ := Lib.hid (show signI a b = -1 by unfold signI; rw [if_pos h1])
    go_enter Try.func64, Try.ntmps64
    go_wp2_with fail
    refine (nan_any a _).mono ?_
    rintro e w1 ⟨rfl, rfl⟩
    go_wp2_with fail
    refine (nan_any b _).mono ?_
    rintro e w1 ⟨rfl, rfl⟩
    go_wp2_with fail
    go_ret
    exact ⟨ret_int HQ.out.symm, rfl⟩
  · by_cases h2 : b < a
    · have HQ := Lib.hid (show signI a b = 1 by unfold signI; rw [if_neg h1, if_pos h2])
      go_enter Try.func64, Try.ntmps64
      go_wp2_with fail
      refine (nan_any a _).mono ?_
      rintro e w1 ⟨rfl, rfl⟩
      go_wp2_with fail
      refine (nan_any b _).mono ?_
      rintro e w1 ⟨rfl, rfl⟩
      go_wp2_with fail
      go_ret
      exact ⟨ret_int HQ.out.symm, rfl⟩
    · have HQ := Lib.hid (show signI a b = 0 by unfold signI; rw [if_neg h1, if_neg h2])
      go_enter Try.func64, Try.ntmps64
      go_wp2_with fail
      refine (nan_any a _).mono ?_
      rintro e w1 ⟨rfl, rfl⟩
      go_wp2_with fail
      refine (nan_any b _).mono ?_
      rintro e w1 ⟨rfl, rfl⟩
      go_wp2_with fail
      go_ret
      exact ⟨ret_int HQ.out.symm, rfl⟩
/-- a reading at an address -/
def PtAt (ok : Nat → Prop) (w : World) (p : Addr) (x : Rd) : Prop := p.block < w.heap.size ∧ ∃ A cap, w.cell? p = some (.int .i64 x.rule) ∧ w.cell? ⟨p.block, p.off + 1, none⟩ = some (.int .i64 x.at_) ∧ w.cell? ⟨p.block, p.off + 2, none⟩ = some (.slice A x.kids.length cap) ∧ x.kids.length ≤ cap ∧ cap ≤ 9223372036854775807 ∧ RdsAt ok w A x.kids
theorem RdsAt.pt {ok : Nat → Prop} {w : World} {A : Option Addr} {ks : List Rd} (h : RdsAt ok w A ks) {k : Nat} {x : Rd} (hk : ks[k]? = some x) : ∃ ad, A = some ad ∧ PtAt ok w (ad.add (k * 3)) x := by
  obtain ⟨ad, A', cap', hA, hlt, _, h1, h2, h3, d0, d1, d2⟩ := h.at_ hk
  exact ⟨ad, hA, by rw [add_block]; exact hlt, A', cap', d0, d1, d2, h1, h2, h3⟩
theorem PtAt.keep {ok : Nat → Prop} {w w' : World} {p : Addr} {x : Rd} (h : PtAt ok w p x) (hb : Below w.heap.size w w') : PtAt ok w' p x := by
  obtain ⟨h0, A, cap, d0, d1, d2, h1, h2, h3⟩ := h
  exact ⟨Nat.lt_of_lt_of_le h0 hb.size, A, cap, (hb.cell h0).trans d0, (hb.cell (p := ⟨p.block, p.off + 1, none⟩) h0).trans d1, (hb.cell (p := ⟨p.block, p.off + 2, none⟩) h0).trans d2, h1, h2, h3.keep hb⟩
theorem last_at {ks : List Rd} {y : Rd} (h : ks[ks.length - 1]? = some y) : ks.getLast? = some y := by rw [List.getLast?_eq_getElem?]; exact h
theorem head_rule {x y : Rd} (h : signI x.rule y.rule ≠ 0) : headR x y = signI x.rule y.rule := by unfold headR; rw [if_pos h]
theorem head_len {x y : Rd} (h0 : signI x.rule y.rule = 0) (h : signI x.kids.length y.kids.length ≠ 0) : headR x y = signI x.kids.length y.kids.length := by
  unfold headR; rw [if_neg (fun h => h h0), if_pos h]
theorem sign_zero {a b : Int} (h : signI a b = 0) : a = b := by
  unfold signI at h
  split at h
  · omega
  · split at h <;> omega
theorem head_none {x y : Rd} (h0 : signI x.rule y.rule = 0) (h1 : signI x.kids.length y.kids.length = 0) (h : x.kids.length = 0) : headR x y = 0 := by
  unfold headR
  rw [if_neg (fun h => h h0), if_neg (fun h => h h1)]
  obtain ⟨r, a, ks⟩ := x
  obtain rfl : ks = [] := List.length_eq_zero_iff.1 h
  rfl
theorem head_last {x y : Rd} (h0 : signI x.rule y.rule = 0) (h1 : signI x.kids.length y.kids.length = 0) {a b : Rd} (ha : x.kids[x.kids.length - 1]? = some a) (hb : y.kids[x.kids.length - 1]? = some b) : headR x y = signI a.at_ b.at_ := by
  have e := sign_zero h1
  have e : x.kids.length = y.kids.length := by omega
  unfold headR
  rw [if_neg (fun h => h h0), if_neg (fun h => h h1), last_at ha, last_at (by rw [← e]; exact hb)]
theorem quiet_l {P : Program} {f : FuncId} {args : Array Value} {w : World} {n : Nat} {v : Value} (h : Calls P f args (w.drewN n) fun e w' => e = .returned v ∧ w.drewN n = w') : Calls P f args (w.drewN n) fun e w'' => e = .returned v ∧ ∃ m, w'' = w.drewN m := h.mono fun _ _ ⟨he, hm⟩ => ⟨he, n, hm.symm⟩
theorem PtAt.drewN {ok : Nat → Prop} {w : World} {p : Addr} {x : Rd} (h : PtAt ok w p x) (n : Nat) : PtAt ok (w.drewN n) p x := h.keep (below_drewN (Below.refl _ _) n)
/-- what a walk needs of a reading at an address -/
theorem PtAt.cells {ok : Nat → Prop} {w : World} {p : Addr} {x : Rd} (h : PtAt ok w p x) : ∃ A cap, w.cell? p = some (.int .i64 x.rule) ∧ w.cell? ⟨p.block, p.off + 1, none⟩ = some (.int .i64 x.at_) ∧ w.cell? ⟨p.block, p.off + 2, none⟩ = some (.slice A x.kids.length cap) ∧ x.kids.length ≤ 9223372036854775807 ∧ RdsAt ok w A x.kids := by
  obtain ⟨h0, A, cap, d0, d1, d2, h1, h2, h3⟩ := h
  exact ⟨A, cap, d0, d1, d2, by omega, h3⟩
set_option maxRecDepth 100000 in
set_option maxHeartbeats 1600000 in
theorem head_any (ok ok' : Nat → Prop) (p q : Addr) (x y : Rd) (w : World) (hp : PtAt ok w p x) (hq : PtAt ok' w q y) : Calls Try.prog 42 #[.pointer (some p), .pointer (some q)] w fun e w' => e = .returned (.int .i64 (headR x y)) ∧ Below w.heap.size w w' := by
  have HP := Lib.hid hp
  have HQ := Lib.hid hq
  have E0 := Lib.hid (@head_rule x y)
  have E1 := Lib.hid (@head_len x y)
  have E2 := Lib.hid (@head_none x y)
  have E3 := Lib.hid (@head_last x y)
  have Z1 := Lib.hid (@sign_zero x.kids.length y.kids.length)
  clear hp hq
  obtain ⟨A, cap, c0, c1, c2, hx, _⟩ := HP.out.cells
  obtain ⟨B, cap', d0, d1, d2, hy, _⟩ := HQ.out.cells
  go_enter Try.func42, Try.ntmps42
  go_wp2_with fail
  go_quiet ((go_at_call 64; exact quiet_l (cmp_any _ _ _)))
  have HP := Lib.hid (HP.out.drewN nq)
  have HQ := Lib.hid (HQ.out.drewN nq)
  have HB := Lib.hid (below_drewN (Below.refl w.heap.size w) nq)
  clear c0 c1 c2 d0 d1 d2
  generalize w.drewN nq = w1 at *
  by_cases s0 : signI x.rule y.rule = 0
  · obtain ⟨A, cap, c0, c1, c2, hx, _⟩ := HP.out.cells
    obtain ⟨B, cap', d0, d1, d2, hy, _⟩ := HQ.out.cells
    have S0 := Lib.hid s0
    go_wp2_with fail
    go_quiet ((go_at_call 64; exact quiet_l (cmp_any _ _ _)))
    have HP := Lib.hid (HP.out.drewN nq)
    have HQ := Lib.hid (HQ.out.drewN nq)
    have HB := Lib.hid (below_drewN HB.out nq)
    clear c0 c1 c2 d0 d1 d2 s0
    generalize w1.drewN nq = w2 at *
    by_cases s1 : signI x.kids.length y.kids.length = 0
    · obtain ⟨A, cap, c0, c1, c2, hx, hR⟩ := HP.out.cells
      obtain ⟨B, cap', d0, d1, d2, hy, hS⟩ := HQ.out.cells
      have S1 := Lib.hid s1
      by_cases h0 : x.kids.length = 0
      · have HE := Lib.hid (E2.out S0.out S1.out h0)
        have hn0 : (x.kids.length : Int) - 1 < 0 := by omega
        clear h0
        go_wp2_with fail
        go_ret
        exact ⟨ret_int HE.out.symm, HB.out⟩
      · have hl := sign_zero s1
        obtain ⟨a, ha⟩ : ∃ a, x.kids[x.kids.length - 1]? = some a := ⟨_, List.getElem?_eq_getElem (by omega)⟩
        obtain ⟨b, hb⟩ : ∃ b, y.kids[x.kids.length - 1]? = some b := ⟨_, List.getElem?_eq_getElem (by omega)⟩
        obtain ⟨a1, A', k1, rfl, _, _, _, _, _, u0, u1, u2⟩ := hR.at_ ha
        obtain ⟨b1, B', k2, rfl, _, _, _, _, _, v0, v1, v2⟩ := hS.at_ hb
        have HE := Lib.hid (E3.out S0.out S1.out ha hb)
        have hle : x.kids.length ≤ y.kids.length := by omega
        clear hR hS ha hb hl
        generalize hn : x.kids.length - 1 = n at *
        have i0 : (x.kids.length : Int) - 1 = (n : Int) := by omega
        have i1 : (0 : Int) ≤ (n : Int) := by omega
        have i2 : (n : Int) < (x.kids.length : Int) := by omega
        have i3 : (n : Int) < (y.kids.length : Int) := by omega
        go_wp2_with fail
        go_quiet ((go_at_call 64; exact quiet_l (cmp_any _ _ _)))
        have HB := Lib.hid (below_drewN HB.out nq)
        clear c0 c1 c2 d0 d1 d2 u0 u1 u2 v0 v1 v2
        go_wp2_with fail
        go_ret
        exact ⟨ret_int HE.out.symm, HB.out⟩
    · have HE := Lib.hid (E1.out S0.out s1)
      go_wp2_with fail
      go_ret
      exact ⟨ret_int HE.out.symm, HB.out⟩
  · have HE := Lib.hid (E0.out s0)
    go_wp2_with fail
    go_ret
    exact ⟨ret_int HE.out.symm, HB.out⟩
end Go.Proofs.Ytmhddlhlniajpaa
