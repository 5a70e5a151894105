/- The two closures of parse: take and least. -/
import Derived.Test.YtgkfmeagpmjcoaaDoorW1
import Derived.Test.YtgkfmeagpmjcoaaDoorC2
namespace Go.Proofs.YtgkfmeagpmjcoaaDoor
open Go.RowKit
/-- only the block g has changed -/
structure Only (g : Nat) (w w' : World) : Prop where
  bel : Below g w w'
  size : w'.heap.size = w.heap.size
  far : ∀ k, k ≠ g → w'.heap[k]? = w.heap[k]?
theorem Only.refl (g : Nat) (w : World) : Only g w w := ⟨Below.refl _ _, rfl, fun _ _ => rfl⟩
theorem Only.trans {g : Nat} {a b c : World} (h : Only g a b) (h2 : Only g b c) : Only g a c := ⟨h.bel.trans h2.bel, h2.size.trans h.size, fun k hk => (h2.far k hk).trans (h.far k hk)⟩
theorem Only.set (g i : Nat) (w : World) (u : Value) : Only g w (w.setCell ⟨g, i, none⟩ u) :=
  ⟨(Below.refl _ _).setCell (p := ⟨g, i, none⟩) (Nat.le_refl _) u, by simp, fun k hk => Below.heap_setCell w ⟨g, i, none⟩ u k hk⟩
theorem Only.blk {g k : Nat} {w w' : World} {t : TypeId} {cs : Array Value} (h : Only g w w') (hk : k ≠ g) (hb : Blk w k t cs) : Blk w' k t cs := (h.far k hk).trans hb
theorem Only.cell {g : Nat} {w w' : World} (h : Only g w w') {p : Addr} (hk : p.block ≠ g) : w'.cell? p = w.cell? p := by
  unfold World.cell?
  rw [h.far p.block hk]
/-- a row of strings -/
def RowAt (w : World) (ad : Addr) (ps : List (List UInt8)) : Prop := ∀ (j : Nat) (p : List UInt8), ps[j]? = some p → w.cell? (ad.add j) = some (.string (bys p))
/-- the words that are left, in the box g -/
structure Rest (w : World) (g gw : Nat) (ps : List (List UInt8)) : Prop where
  ex : ∃ ad : Addr, Blk w g 27 #[.slice (some ad) ps.length ps.length] ∧ ad.block = gw ∧ RowAt w ad ps
  lt : gw < g
  len : ps.length ≤ 1000000
  fits : ∀ p ∈ ps, p.length ≤ 1000000
theorem RowAt.tail {w : World} {ad : Addr} {p : List UInt8} {ps : List (List UInt8)} (h : RowAt w ad (p :: ps)) : RowAt w (ad.add 1) ps := fun j q hj => by
  rw [Addr.add_add]
  have := h (j + 1) q (by simpa using hj)
  rwa [show 1 + j = j + 1 by omega]
theorem Rest.keep {w w' : World} {g gw : Nat} {ps : List (List UInt8)} (h : Rest w g gw ps) (hb : Below w.heap.size w w') : Rest w' g gw ps := by
  obtain ⟨⟨ad, h1, h2, h3⟩, h4, h5, h6⟩ := h
  have hl := h1.lt
  exact ⟨⟨ad, Blk.below h1 hb hl, h2, fun j p hj => (hb.cell (by rw [add_block, h2]; omega)).trans (h3 j p hj)⟩, h4, h5, h6⟩
theorem Rest.drew {w : World} {g gw : Nat} {ps : List (List UInt8)} (h : Rest w g gw ps) : Rest w.drew g gw ps := h.keep (below_drew (Below.refl _ _))
theorem Rest.far {w w' : World} {g gw k : Nat} {ps : List (List UInt8)} (h : Rest w g gw ps) (hb : Only k w w') (h1 : k ≠ g) (h2 : k ≠ gw) : Rest w' g gw ps := by
  obtain ⟨⟨ad, a1, a2, a3⟩, h4, h5, h6⟩ := h
  exact ⟨⟨ad, hb.blk h1.symm a1, a2, fun j p hj => (hb.cell (by rw [add_block, a2]; exact h2.symm)).trans (a3 j p hj)⟩, h4, h5, h6⟩
def TakeP (b : Bool) (g gw : Nat) (ps : List (List UInt8)) (w : World) (e : Ending) (w' : World) : Prop := e = .returned (.string (bys (takeL b ps).1)) ∧ Rest w' g gw (takeL b ps).2 ∧ Only g w w'
def LeastP (b : Bool) (g gw : Nat) (ps : List (List UInt8)) (w : World) (e : Ending) (w' : World) : Prop := e = .returned (.int .i64 (if b then numB (takeL b ps).1 else 0)) ∧ Rest w' g gw (takeL b ps).2 ∧ Only g w w'
abbrev takeV (g : Nat) : Value := .func (.func 54) #[] #[.pointer (some ⟨g, 0, none⟩)]
abbrev leastV (g : Nat) : Value := .func (.func 55) #[] #[.pointer (some ⟨g, 0, none⟩)]
theorem take_len (b : Bool) {ps : List (List UInt8)} (h : ∀ p ∈ ps, p.length ≤ 1000000) : (takeL b ps).1.length ≤ 1000000 := by
  cases b
  · simp [takeL]
  · cases ps with
    | nil => simp [takeL]
    | cons p qs => simpa [takeL] using h p (by simp)
set_option maxHeartbeats 400000 in
theorem take_no (g : Nat) (w : World) : Calls Tryd.prog 54 #[.bool false, .pointer (some ⟨g, 0, none⟩)] w fun e w' => e = .returned (.string ⟨#[]⟩) ∧ w = w' := by
  go_enter Tryd.func54, Tryd.ntmps54
  go_wp2_with fail
  go_ret
  exact ⟨rfl, rfl⟩
set_option maxHeartbeats 400000 in
theorem take_yes (g gw : Nat) (ps : List (List UInt8)) (w : World) (hR : Rest w g gw ps) : Calls Tryd.prog 54 #[.bool true, .pointer (some ⟨g, 0, none⟩)] w (TakeP true g gw ps w) := by
  have HR := Lib.hid hR
  obtain ⟨⟨ad, hK, had, hrow⟩, hlt, hlen, hfit⟩ := hR
  cases ps with
  | nil =>
    have c0 := hK.cell 0
    have HK := Lib.hid hK
    clear hK hrow hfit hlen
    go_enter Tryd.func54, Tryd.ntmps54
    go_wp2_with fail
    go_ret
    exact ⟨rfl, HR.out, Only.refl _ _⟩
  | cons p qs =>
    have c0 := hK.cell 0
    have f0 := hK.frozen 0
    have l0 := hK.lt
    have c1 := hrow 0 p rfl
    have HROW := Lib.hid hrow.tail
    have HK := Lib.hid hK
    have HFIT := Lib.hid (fun q hq => hfit q (List.mem_cons_of_mem p hq))
    have HLT := Lib.hid hlt
    have HAD := Lib.hid had
    have e1 : (p :: qs).length = qs.length + 1 := rfl
    rw [e1] at c0 hlen HK
    clear e1 hK hrow hfit
    have ha : ad.add 0 = ad := by unfold Addr.add; cases ad; simp
    rw [ha] at c1
    clear ha had hlt
    by_cases h1 : qs.length = 0
    · obtain rfl : qs = [] := List.length_eq_zero_iff.1 h1
      clear h1
      go_enter Tryd.func54, Tryd.ntmps54
      go_wp2_with fail
      go_ret
      refine ⟨rfl, ⟨⟨ad, ?_, HAD.out, fun j q hj => by simp [takeL] at hj⟩, HLT.out, by simp [takeL], by simp [takeL]⟩, Only.set _ _ _ _⟩
      have := HK.out.set_ 0 (.slice (some ad) 0 0)
      simpa [takeL] using this
    · have h2 : 0 < qs.length := by omega
      go_enter Tryd.func54, Tryd.ntmps54
      go_wp2_with fail
      go_ret
      refine ⟨rfl, ⟨⟨⟨ad.block, ad.off + 1, none⟩, ?_, HAD.out, fun j q hj => ?_⟩, HLT.out, by simp [takeL]; omega, by simpa [takeL] using HFIT.out⟩, Only.set _ _ _ _⟩
      · have := HK.out.set_ 0 (.slice (some ⟨ad.block, ad.off + 1, none⟩) qs.length qs.length)
        simpa [takeL] using this
      · have e2 : ad.add 1 = ⟨ad.block, ad.off + 1, none⟩ := by unfold Addr.add; simp
        have h3 := HROW.out j q (by simpa [takeL] using hj)
        rw [e2] at h3
        exact ((Only.set g 0 w _).cell (by rw [add_block]; have h5 := HAD.out; have h6 := HLT.out; show ad.block ≠ g; omega)).trans h3
theorem take_any (b : Bool) (g gw : Nat) (ps : List (List UInt8)) (w : World) (hR : Rest w g gw ps) : Calls Tryd.prog 54 #[.bool b, .pointer (some ⟨g, 0, none⟩)] w (TakeP b g gw ps w) := by
  cases b
  · refine (take_no g w).mono ?_
    rintro e w' ⟨rfl, rfl⟩
    exact ⟨rfl, hR, Only.refl _ _⟩
  · exact take_yes g gw ps w hR
set_option maxHeartbeats 400000 in
theorem least_no (g : Nat) (w : World) : Calls Tryd.prog 55 #[.bool false, .pointer (some ⟨g, 0, none⟩)] w fun e w' => e = .returned (.int .i64 0) ∧ w = w' := by
  go_enter Tryd.func55, Tryd.ntmps55
  go_wp2_with fail
  go_ret
  exact ⟨rfl, rfl⟩
set_option maxHeartbeats 400000 in
theorem least_yes (g8 g gw : Nat) (ps : List (List UInt8)) (w : World) (hR : Rest w g gw ps) (hC : Blk w g8 73 #[takeV g]) : Calls Tryd.prog 55 #[.bool true, .pointer (some ⟨g8, 0, none⟩)] w (LeastP true g gw ps w) := by
  have HR := Lib.hid hR
  have c0 := hC.cell 0
  have HN := Lib.hid (take_len true hR.fits)
  have HC := Lib.hid hC
  clear hR hC
  go_enter Tryd.func55, Tryd.ntmps55
  go_wp2_with fail
  refine (take_any true g gw ps w HR.out).mono ?_
  rintro e w1 ⟨rfl, h1, h2⟩
  have H1 := Lib.hid h1
  have H2 := Lib.hid h2
  clear h1 h2 c0
  go_wp2_with fail
  refine (number_any _ w1 (by have := HN.out; simp [bys, ByteArray.size]; omega)).mono ?_
  rintro e w2 ⟨rfl, rfl⟩
  go_wp2_with fail
  go_ret
  exact ⟨ret_int (by rw [bys_data]; rfl), H1.out, H2.out⟩
theorem least_any (b : Bool) (g8 g gw : Nat) (ps : List (List UInt8)) (w : World) (hR : Rest w g gw ps) (hC : Blk w g8 73 #[takeV g]) : Calls Tryd.prog 55 #[.bool b, .pointer (some ⟨g8, 0, none⟩)] w (LeastP b g gw ps w) := by
  cases b
  · refine (least_no g8 w).mono ?_
    rintro e w' ⟨rfl, rfl⟩
    exact ⟨rfl, hR, Only.refl _ _⟩
  · exact least_yes g8 g gw ps w hR hC
end Go.Proofs.YtgkfmeagpmjcoaaDoor
