/- The counter in memory: of the tokens from i to j - 1, the numbers of readings with each precedence; their sums. -/
import Derived.Test.YtmhddlhlniajpaaPC
import Derived.Test.YtmhddlhlniajpaaTF
import Derived.Maps.RangeWalk
namespace Go.Proofs.Ytmhddlhlniajpaa
open Go.RowKit
/-- a map of the numbers of readings with each precedence, cut at a limit -/
structure NumS (w : World) (bm n : Nat) (rs : List Rul) (l : List Rd) (D : DataW Unit) : Prop where
  own : w.ownsMap Try.prog 3 (plainElem Try.prog 3) bm n D
  at_ : ∀ p : Int, D.atKey (.int .i64 p) (.lit (.int .i64 0)) = .lit (.int .i64 ((min (atP rs l p) 1000000000 : Nat) : Int))
def NumO (w : World) (bm : Nat) (rs : List Rul) (l : List Rd) : Prop := ∃ n D, n ≤ 3000000 ∧ NumS w bm n rs l D
theorem NumS.keep {w w' : World} {bm n : Nat} {rs : List Rul} {l : List Rd} {D : DataW Unit} (h : NumS w bm n rs l D) (hb : Below w.heap.size w w') : NumS w' bm n rs l D :=
  ⟨h.own.kept (row := none) ⟨hb.os, hb.tape, hb.output, hb.size, fun i hi _ => hb.block i hi⟩ (by simp), h.at_⟩
theorem NumO.keep {w w' : World} {bm : Nat} {rs : List Rul} {l : List Rd} (h : NumO w bm rs l) (hb : Below w.heap.size w w') : NumO w' bm rs l := by
  obtain ⟨n, D, h1, h2⟩ := h
  exact ⟨n, D, h1, h2.keep hb⟩
theorem NumO.lt {w : World} {bm : Nat} {rs : List Rul} {l : List Rd} (h : NumO w bm rs l) : bm < w.heap.size := by
  obtain ⟨n, D, h1, h2⟩ := h
  exact h2.own.lt
theorem num_no_cells {w : World} {bm n : Nat} {rs : List Rul} {l : List Rd} {D : DataW Unit} (h : NumS w bm n rs l D) {t : TypeId} {cs : Array Value} : ¬ Blk w bm t cs := by
  obtain ⟨es, clock, hb, _⟩ := h.own
  unfold Blk
  rw [hb]
  simp
theorem NumO.set_ {w : World} {bm : Nat} {rs : List Rul} {l : List Rd} (h : NumO w bm rs l) {p : Addr} (hp : bm ≠ p.block) (u : Value) : NumO (w.setCell p u) bm rs l := by
  obtain ⟨n, D, h1, h2⟩ := h
  exact ⟨n, D, h1, h2.own.setCell hp u, h2.at_⟩
theorem NumS.same {w : World} {bm n : Nat} {rs : List Rul} {l l' : List Rd} {D : DataW Unit} (h : NumS w bm n rs l D) (he : ∀ p, atP rs l p = atP rs l' p) : NumS w bm n rs l' D :=
  ⟨h.own, fun p => by rw [h.at_ p, he p]⟩
/-- the counter: its maps, where they are filled -/
structure CouAt (w : World) (g : Nat) (F : Fin) (rs : List Rul) (ts : List ByteArray) (gc : Nat) (rows : Nat → Nat) (fill : Nat → Nat → Bool) : Prop where
  blk : Blk w g 97 #[.slice F.R rs.length F.cR, .slice F.T ts.length F.cT, .slice F.I ts.length F.cI, .slice F.P ts.length F.cP, .slice F.Q ts.length F.cQ, .int .i64 (findI rs 4 []), .slice (some ⟨gc, 0, none⟩) ts.length ts.length]
  fin : FinAt w F rs ts
  outer : ∃ cs, Blk w gc 98 cs ∧ ∀ i, i < ts.length → cs[i]? = some (.slice (some ⟨rows i, 0, none⟩) (ts.length + 1) (ts.length + 1))
  row : ∀ i, i < ts.length → ∃ cs, Blk w (rows i) 99 cs ∧ cs.size = ts.length + 1 ∧ ∀ j, fill i j = true → ∃ bm, cs[j]? = some (.map (some bm)) ∧ NumO w bm rs (allR rs ts i j)
section
variable {w : World} {g : Nat} {F : Fin} {rs : List Rul} {ts : List ByteArray} {gc : Nat} {rows : Nat → Nat} {fill : Nat → Nat → Bool}
theorem CouAt.keep {w' : World} (h : CouAt w g F rs ts gc rows fill) (hb : Below w.heap.size w w') : CouAt w' g F rs ts gc rows fill := by
  obtain ⟨h1, h2, ⟨cs, h3, h4⟩, h5⟩ := h
  refine ⟨_root_.Go.Proofs.Ytmhddlhlniajpaa.keep hb h1, h2.keep hb, ⟨cs, _root_.Go.Proofs.Ytmhddlhlniajpaa.keep hb h3, h4⟩, fun i hi => ?_⟩
  obtain ⟨cs, h6, h7, h8⟩ := h5 i hi
  refine ⟨cs, _root_.Go.Proofs.Ytmhddlhlniajpaa.keep hb h6, h7, fun j hj => ?_⟩
  obtain ⟨bm, h9, ha⟩ := h8 j hj
  exact ⟨bm, h9, ha.keep hb⟩
theorem CouAt.drew (h : CouAt w g F rs ts gc rows fill) : CouAt w.drew g F rs ts gc rows fill := h.keep (below_drew (Below.refl _ _))
theorem CouAt.at_ (h : CouAt w g F rs ts gc rows fill) {i j : Nat} (hi : i < ts.length) (hf : fill i j = true) :
    w.cell? ⟨g, 6, none⟩ = some (.slice (some ⟨gc, 0, none⟩) ts.length ts.length) ∧ w.cell? ⟨gc, i, none⟩ = some (.slice (some ⟨rows i, 0, none⟩) (ts.length + 1) (ts.length + 1)) ∧ ∃ bm, w.cell? ⟨rows i, j, none⟩ = some (.map (some bm)) ∧ NumO w bm rs (allR rs ts i j) := by
  obtain ⟨h1, _, ⟨cs, h3, h4⟩, h5⟩ := h
  obtain ⟨cs', h6, _, h8⟩ := h5 i hi
  obtain ⟨bm, h9, ha⟩ := h8 j hf
  exact ⟨(h1.cell 6).trans rfl, (h3.cell i).trans (h4 i hi), bm, (h6.cell j).trans h9, ha⟩
end
/-- the state of the sum: what has come -/
def SumOk (rs : List Rul) (l : List Rd) (p : Int) (left : Lit → Bool) (cnt s : Nat) : Prop := min s 1000000000 = min (metN rs l p (fun q => left (.int .i64 q))) 1000000000 ∧ s + 1000000000 * cnt ≤ 3000000000000000
theorem SumOk.start {w : World} {bm n : Nat} {rs : List Rul} {l : List Rd} {D : DataW Unit} (h : NumS w bm n rs l D) (hn : n ≤ 3000000) (p : Int) : SumOk rs l p (Maps.has D) (Maps.size D) 0 := by
  refine ⟨?_, ?_⟩
  · rw [met_none]
    intro q hq
    cases hh : Maps.has D (.int .i64 q)
    · have h1 := h.at_ q
      rw [Maps.atKey_of_not_has hh] at h1
      have h2 : (0 : Int) = ((min (atP rs l q) 1000000000 : Nat) : Int) := by simpa using h1
      omega
    · rfl
  · have := h.own.size_le
    omega
theorem key_same (left : Lit → Bool) (x : Int) : (fun q : Int => left (.int .i64 q) && !(Lit.int IntKind.i64 q).sameKey (.int .i64 x)) = fun q => left (.int .i64 q) && !(decide (q = x)) := by
  funext q
  congr 2
  by_cases h : q = x
  · subst h
    rw [decide_eq_true rfl]
    exact WideAt.sameKey_self (by trivial)
  · rw [decide_eq_false h]
    cases hh : (Lit.int IntKind.i64 q).sameKey (.int .i64 x)
    · rfl
    · exact absurd (by have := WideAt.sameKey_eq hh; simpa using this) h
theorem SumOk.step {rs : List Rul} {l : List Rd} {p x : Int} {left : Lit → Bool} {cnt cnt' s : Nat} (h : SumOk rs l p left cnt s) (hl : left (.int .i64 x) = true) (hc : cnt' < cnt) : SumOk rs l p (fun z => left z && !z.sameKey (.int .i64 x)) cnt' (if p ≤ x then s + min (atP rs l x) 1000000000 else s) := by
  obtain ⟨h1, h2⟩ := h
  refine ⟨?_, ?_⟩
  · rw [key_same, met_step hl]
    split <;> omega
  · have : 1000000000 * cnt' + 1000000000 ≤ 1000000000 * cnt := by omega
    split <;> omega
theorem SumOk.done {rs : List Rul} {l : List Rd} {p : Int} {left : Lit → Bool} {cnt s : Nat} (h : SumOk rs l p left cnt s) (hl : ∀ kl, left kl = false) : min s 1000000000 = min (leastR rs l p).length 1000000000 := by
  rw [h.1, met_all (fun q => hl _)]
set_option maxRecDepth 100000 in
set_option maxHeartbeats 1600000 in
theorem total_any (g : Nat) (F : Fin) (rs : List Rul) (ts : List ByteArray) (gc : Nat) (rows : Nat → Nat) (fill : Nat → Nat → Bool) (i j : Nat) (p : Int) (w : World) (hT : CouAt w g F rs ts gc rows fill) (hij : i < j) (hj : j ≤ ts.length) (hf : fill i j = true) : Calls Try.prog 39 #[ptrV g, .int .i64 i, .int .i64 j, .int .i64 p] w fun e w' => e = .returned (.int .i64 ((min (leastR rs (allR rs ts i j) p).length 1000000000 : Nat) : Int)) ∧ Below w.heap.size w w' := by
  obtain ⟨c6, ci, bm, cj, n, D, hn, hS⟩ := hT.at_ (show i < ts.length by omega) hf
  have HS := Lib.hid hS
  have HS0 := Lib.hid (SumOk.start hS hn p)
  clear hS hT hf
  generalize allR rs ts i j = l at *
  have j1 : (i : Int) < (ts.length : Int) := by omega
  have j2 : (j : Int) < (ts.length : Int) + 1 := by omega
  go_enter Try.func39, Try.ntmps39
  go_wp2_with (first | (at_range; refine wpList_range_own _ rfl _ 99 rfl 3 3 lawI Try.underlying99 _ bm n _ rfl HS.out.own ?_; intro w0 hrg0 hg0 hs0) | fail)
  clear c6 ci cj
  have HG0 := Lib.hid hrg0
  have HB0 := Lib.hid ((Below.refl w.heap.size w).grown hg0 (Nat.le_refl _) (fun k hk => by cases hk))
  clear hrg0 hg0 hs0
  go_frame
  go_loopw [9] (fun t wr => ∃ (s : Nat) (left : Lit → Bool) (cnt : Nat), t = .int .i64 s ∧ Hid (wr.ranges Try.prog 3 (plainElem Try.prog 3) bm w.heap.size n D left cnt) ∧ Hid (SumOk rs l p left cnt s) ∧ Hid (Below w.heap.size w wr)) (fun _ wr => wr.rangeLeft bm w.heap.size)
  case atStart => exact ⟨0, _, _, rfl, HG0, HS0, HB0⟩
  case round =>
    clear HG0 HS0 HB0
    obtain ⟨s, left, cnt, rfl, HG, HO, HB⟩ := hrel
    have hsb : s ≤ 3000000000000000 := by have := HO.out.2; omega
    go_wp2_with (first | (at_next; refine wpList_next_ranges_ii _ rfl _ rfl 3 3 .i64 .i64 lawI Try.underlying3 Try.underlying3 bm w.heap.size n _ _ _ rfl HG.out ?_ ?_) | fail)
    · intro _ hl0
      have HD := Lib.hid (HO.out.done hl0)
      clear hl0 HO
      go_wp2_with fail
      go_ret
      exact ⟨ret_int (by rw [← HD.out]; omega), HB.out⟩
    · intro x c w1 cnt1 hwx hwc hlx hat hrg1 hlt hg1 hs1 hen
      have hc : c = ((min (atP rs l x) 1000000000 : Nat) : Int) := by
        have h1 := hat (.lit (.int .i64 0))
        rw [HS.out.at_ x] at h1
        simpa using h1.symm
      have HG1 := Lib.hid hrg1
      have HB1 := Lib.hid (HB.out.grown hg1 HB.out.size (fun k hk => by cases hk; exact Nat.le_refl _))
      have HO1 := Lib.hid (HO.out.step hlx hlt)
      have HM := Lib.hid (show w1.rangeLeft bm w.heap.size < wr.rangeLeft bm w.heap.size by rw [hrg1.left_eq, HG.out.left_eq]; exact hlt)
      clear hwx hwc hlx hat hrg1 hlt hg1 hs1 HO HB HG
      have hm : min (atP rs l x) 1000000000 ≤ 1000000000 := Nat.min_le_right _ _
      generalize min (atP rs l x) 1000000000 = m at *
      subst hc
      by_cases hp : p ≤ x
      · rw [if_pos hp] at HO1
        go_wp2_with fail
        go_roundw
        case rel => exact ⟨s + m, _, _, by go_num, HG1, HO1, HB1⟩
        case measure => exact HM.out
      · rw [if_neg hp] at HO1
        go_wp2_with fail
        go_roundw
        case rel => exact ⟨s, _, _, rfl, HG1, HO1, HB1⟩
        case measure => exact HM.out
end Go.Proofs.Ytmhddlhlniajpaa
