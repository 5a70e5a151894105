/- Classes of the items of a row: the leaves, and atom.Class. -/
import Derived.Test.YtgoafobhhmeppaaGreatE3
import Derived.Test.YtgoafobhhmeppaaGreatNQ
import Derived.Laws.EntriesVeiled
namespace Go.Proofs.YtgoafobhhmeppaaGreat
open Go.RowKit
/-- numbers that a call has made -/
def OwnI (w : World) (B : Nat) (v : Value) (xs : List Int) : Prop := w.ownsRow B 3 1 v xs.length (xs.map (Value.int .i64))
theorem own_below {w w' : World} {base : Nat} {e : TypeId} {size : Nat} {v : Value} {n : Nat} {xs : List Value} (h : w.ownsRow base e size v n xs) (hb : Below w.heap.size w w') : w'.ownsRow base e size v n xs :=
  h.kept (row := none) ⟨hb.os, hb.tape, hb.output, hb.size, fun i hi _ => hb.block i hi⟩ (by cases v.ownBlock <;> simp)
theorem OwnI.keep {w w' : World} {B : Nat} {v : Value} {xs : List Int} (h : OwnI w B v xs) (hb : Below w.heap.size w w') : OwnI w' B v xs := own_below h hb
/-- numbers in a row that may be nil -/
def IntsO (w : World) (A : Option Addr) (xs : List Int) : Prop := ∀ (j : Nat) (x : Int), xs[j]? = some x → ∃ g : Nat, A = some ⟨g, 0, none⟩ ∧ g < w.heap.size ∧ w.cell? ⟨g, j, none⟩ = some (.int .i64 x)
theorem OwnI.form {w : World} {B : Nat} {v : Value} {xs : List Int} (h : OwnI w B v xs) : ∃ A cap, v = .slice A xs.length cap ∧ xs.length ≤ cap ∧ cap ≤ 9223372036854775807 ∧ IntsO w A xs := by
  obtain ⟨h1, h2⟩ := h
  rcases h2 with ⟨rfl, h0⟩ | ⟨g, cap, cur, rfl, hg, hb, hn, hc, hs, ht⟩
  · obtain rfl : xs = [] := List.length_eq_zero_iff.1 h0
    exact ⟨none, 0, rfl, by simp, by omega, fun j p hj => by simp at hj⟩
  · have hb' : Blk w g 3 cur := hb
    refine ⟨_, cap, rfl, hn, by unfold maxLen at hc; omega, fun j p hj => ⟨g, rfl, hb'.lt, ?_⟩⟩
    rw [hb'.cell]
    have h3 : (xs.map (Value.int .i64))[j]? = some (.int .i64 p) := by simp [hj]
    rw [← ht, List.getElem?_take] at h3
    split at h3
    · simpa using h3
    · cases h3
theorem IntsO.keep {w w' : World} {A : Option Addr} {xs : List Int} (h : IntsO w A xs) (hb : Below w.heap.size w w') : IntsO w' A xs := fun j p hj => by
  obtain ⟨g, h1, h2, h3⟩ := h j p hj
  exact ⟨g, h1, Nat.lt_of_lt_of_le h2 hb.size, (hb.cell (p := ⟨g, j, none⟩) h2).trans h3⟩
def IntsP (xs : List Int) (w : World) (e : Ending) (w' : World) : Prop := ∃ v, e = .returned v ∧ OwnI w' w.heap.size v xs ∧ Below w.heap.size w w'
def sw (c : Int) : Bool := opensB c
theorem opens_eq (c : Int) : opensB c = ((c == 2) || ((c == 1) || ((c == 3) || ((c == 4) || (c == 6))))) := by
  unfold opensB
  rw [show decide (c = 2) = (c == 2) from rfl, show decide (c = 1) = (c == 1) from rfl, show decide (c = 3) = (c == 3) from rfl, show decide (c = 4) = (c == 4) from rfl, show decide (c = 6) = (c == 6) from rfl]
theorem closes_eq (c : Int) : closesB c = ((c == 3) || ((c == 5) || (c == 6))) := by
  unfold closesB
  rw [show decide (c = 3) = (c == 3) from rfl, show decide (c = 5) = (c == 5) from rfl, show decide (c = 6) = (c == 6) from rfl]
set_option maxHeartbeats 400000 in
theorem before_any (c : Int) (w : World) : Calls Tryz.prog 40 #[.int .i64 c] w fun e w' => e = .returned (.bool (opensB c)) ∧ w = w' := by
  have HQ := Lib.hid (opens_eq c)
  cases h2 : (c == 2)
  · cases h1 : (c == 1)
    · cases h3 : (c == 3)
      · cases h4 : (c == 4)
        · cases h6 : (c == 6)
          all_goals
            rw [h2, h1, h3, h4, h6] at HQ
            go_enter Tryz.func40, Tryz.ntmps40
            go_wp2_with fail
            go_ret
            exact ⟨ret_bool HQ.out.symm, rfl⟩
        · rw [h2, h1, h3, h4] at HQ
          go_enter Tryz.func40, Tryz.ntmps40
          go_wp2_with fail
          go_ret
          exact ⟨ret_bool HQ.out.symm, rfl⟩
      · rw [h2, h1, h3] at HQ
        go_enter Tryz.func40, Tryz.ntmps40
        go_wp2_with fail
        go_ret
        exact ⟨ret_bool HQ.out.symm, rfl⟩
    · rw [h2, h1] at HQ
      go_enter Tryz.func40, Tryz.ntmps40
      go_wp2_with fail
      go_ret
      exact ⟨ret_bool HQ.out.symm, rfl⟩
  · rw [h2] at HQ
    go_enter Tryz.func40, Tryz.ntmps40
    go_wp2_with fail
    go_ret
    exact ⟨ret_bool HQ.out.symm, rfl⟩
set_option maxHeartbeats 400000 in
theorem opens_any (c : Int) (w : World) : Calls Tryz.prog 62 #[.int .i64 c] w fun e w' => e = .returned (.bool (opensB c)) ∧ w = w' := by
  have HQ := Lib.hid (opens_eq c)
  cases h2 : (c == 2)
  · cases h1 : (c == 1)
    · cases h3 : (c == 3)
      · cases h4 : (c == 4)
        · cases h6 : (c == 6)
          all_goals
            rw [h2, h1, h3, h4, h6] at HQ
            go_enter Tryz.func62, Tryz.ntmps62
            go_wp2_with fail
            go_ret
            exact ⟨ret_bool HQ.out.symm, rfl⟩
        · rw [h2, h1, h3, h4] at HQ
          go_enter Tryz.func62, Tryz.ntmps62
          go_wp2_with fail
          go_ret
          exact ⟨ret_bool HQ.out.symm, rfl⟩
      · rw [h2, h1, h3] at HQ
        go_enter Tryz.func62, Tryz.ntmps62
        go_wp2_with fail
        go_ret
        exact ⟨ret_bool HQ.out.symm, rfl⟩
    · rw [h2, h1] at HQ
      go_enter Tryz.func62, Tryz.ntmps62
      go_wp2_with fail
      go_ret
      exact ⟨ret_bool HQ.out.symm, rfl⟩
  · rw [h2] at HQ
    go_enter Tryz.func62, Tryz.ntmps62
    go_wp2_with fail
    go_ret
    exact ⟨ret_bool HQ.out.symm, rfl⟩
set_option maxHeartbeats 400000 in
theorem closes_any (c : Int) (w : World) : Calls Tryz.prog 63 #[.int .i64 c] w fun e w' => e = .returned (.bool (closesB c)) ∧ w = w' := by
  have HQ := Lib.hid (closes_eq c)
  cases h3 : (c == 3)
  · cases h5 : (c == 5)
    · cases h6 : (c == 6)
      all_goals
        rw [h3, h5, h6] at HQ
        go_enter Tryz.func63, Tryz.ntmps63
        go_wp2_with fail
        go_ret
        exact ⟨ret_bool HQ.out.symm, rfl⟩
    · rw [h3, h5] at HQ
      go_enter Tryz.func63, Tryz.ntmps63
      go_wp2_with fail
      go_ret
      exact ⟨ret_bool HQ.out.symm, rfl⟩
  · rw [h3] at HQ
    go_enter Tryz.func63, Tryz.ntmps63
    go_wp2_with fail
    go_ret
    exact ⟨ret_bool HQ.out.symm, rfl⟩
set_option maxRecDepth 100000 in
set_option maxHeartbeats 800000 in
theorem aclass_any (A : Option Addr) (cap : Nat) (es : List Ent) (t : Tre) (c : Array Value) (w : World) (hn : es.length ≤ 1000000) (hE : EntsAt w A es) (hN : NodAt w t c) : Calls Tryz.prog 39 #[.slice A es.length cap, .agg c] w fun e w' => e = .returned (.int .i64 (classT es t)) ∧ Below w.heap.size w w' := by
  obtain ⟨k, s, cols, ks⟩ := t
  obtain ⟨A2, cap2, rfl, hs, hl, hc, hk⟩ := hN.form
  dsimp only [Tre.kind, Tre.text, Tre.cols, Tre.kids] at hs hl hc hk ⊢
  have HE := Lib.hid hE
  have HK := Lib.hid hk
  have HL := Lib.hid (And.intro hl hc)
  clear hE hk hN hl hc
  go_enter Tryz.func39, Tryz.ntmps39
  go_wp2_with fail
  have e1 : (w.alloc (.cells #[.slice A es.length cap] 28)).heap.size = w.heap.size + 1 := by simp
  have e2 : ((w.alloc (.cells #[.slice A es.length cap] 28)).alloc (.cells (nodC k s cols A2 ks.length cap2) 46)).heap.size = w.heap.size + 1 + 1 := by simp
  have KD := Lib.hid (((Blk.new w 28 #[.slice A es.length cap]).alloc (.cells (nodC k s cols A2 ks.length cap2) 46)).alloc (.cells #[ownV w.heap.size (w.heap.size + 1 + 1)] 103))
  have KN := Lib.hid ((Blk.new (w.alloc (.cells #[.slice A es.length cap] 28)) 46 (nodC k s cols A2 ks.length cap2)).alloc (.cells #[ownV w.heap.size (w.heap.size + 1 + 1)] 103))
  have KF := Lib.hid (Blk.new ((w.alloc (.cells #[.slice A es.length cap] 28)).alloc (.cells (nodC k s cols A2 ks.length cap2) 46)) 103 #[ownV w.heap.size (w.heap.size + 1 + 1)])
  have HB := Lib.hid (((bel_alloc w (.cells #[.slice A es.length cap] 28)).alloc (by rw [e1]; omega) (.cells (nodC k s cols A2 ks.length cap2) 46)).alloc (by rw [e2]; omega) (.cells #[ownV w.heap.size (w.heap.size + 1 + 1)] 103))
  rw [e1] at KN
  rw [e2] at KF
  clear e1 e2
  dsimp only [nodC] at KD KN KF HB
  generalize ((w.alloc (.cells #[.slice A es.length cap] 28)).alloc (.cells #[.int .i64 k, .string s, .int .i64 cols, .slice A2 ks.length cap2] 46)).alloc (.cells #[ownV w.heap.size (w.heap.size + 1 + 1)] 103) = w1 at *
  have HE1 := Lib.hid (HE.out.keep HB.out)
  have HK1 := Lib.hid (HK.out.keep HB.out)
  refine (class1_any A cap es hn w.heap.size (w.heap.size + 1 + 1) (countT (.mk k s cols ks) + 1) (.mk k s cols ks) ⟨w.heap.size + 1, 0, none⟩ A2 cap2 w1 (by omega) ⟨KN.out.lt, KN.out.cell 0, KN.out.cell 1, KN.out.cell 2, KN.out.cell 3, hs, HL.out.1, HL.out.2, HK1.out⟩ HE1.out KD.out KF.out).mono ?_
  rintro e w2 ⟨rfl, hb⟩
  have HB2 := Lib.hid (HB.out.trans (hb.mono HB.out.size))
  clear hb
  go_wp2_with fail
  go_ret
  exact ⟨rfl, HB2.out⟩
end Go.Proofs.YtgoafobhhmeppaaGreat
