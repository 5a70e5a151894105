/- The program's reader, plain: bounds of what it leaves. -/
import Derived.Test.YtpokelkneblafaaGreatDoorGZ
namespace Go.Proofs.YtpokelkneblafaaGreatDoor
/-- bounds of a state of the parser -/
structure Ok (s : PS) : Prop where
  len : s.rest.length ≤ 100000
  cnt : s.cnt ≤ 1001
  good : s.bad = false → s.cnt ≤ 1000
/-- a step that takes no term -/
structure St (s s' : PS) : Prop where
  len : s'.rest.length ≤ s.rest.length
  cnt : s'.cnt = s.cnt
  bad : s'.bad = false → s.bad = false
theorem Ok.st {s s' : PS} (h : Ok s) (k : St s s') : Ok s' := ⟨Nat.le_trans k.len h.len, by rw [k.cnt]; exact h.cnt, fun e => by rw [k.cnt]; exact h.good (k.bad e)⟩
theorem St.refl (s : PS) : St s s := ⟨Nat.le_refl _, rfl, id⟩
theorem St.trans {a b c : PS} (h : St a b) (k : St b c) : St a c := ⟨Nat.le_trans k.len h.len, k.cnt.trans h.cnt, fun e => h.bad (k.bad e)⟩
theorem st_word (s : PS) : St s (wordP s).2 := by
  have h := wordP_len s
  refine ⟨h.2.1, h.2.2, fun e => ?_⟩
  unfold wordP at e
  split at e
  · cases e
  · exact e
theorem st_chars (a : List UInt8) (s : PS) : St s (charsP a s).2 := by
  have h := charsP_len a s
  refine ⟨h.2.1, h.2.2, fun e => ?_⟩
  unfold charsP at e
  split at e
  · cases e
  · split at e
    · have := Bool.or_eq_false_iff.1 e
      exact this.1
    · cases e
theorem st_ident (a : List UInt8) (s : PS) : St s (identP a s).2 := by
  unfold identP
  split
  · exact st_word s
  · split
    · exact st_word s
    · exact St.refl s
theorem ident_len {a : List UInt8} {s : PS} (ha : a.length ≤ 100000) (hs : s.rest.length ≤ 100000) : (identP a s).1.length ≤ 400000 := (identP_len a s ha hs).1
theorem word_len {s : PS} (h : s.rest.length ≤ 100000) : (wordP s).1.length ≤ 100000 := Nat.le_trans (wordP_len s).1 h
theorem over_st (a : List UInt8) (s : PS) (ha : a.length ≤ 100000) (hs : s.rest.length ≤ 100000) : St s (overP a s).2.2.2 ∧ (overP a s).2.1.length ≤ 400000 ∧ (overP a s).2.2.1.length ≤ 100000 := by
  unfold overP
  split
  · have h1 := st_word s
    have h2 := h1.trans (st_ident (wordP s).1 (wordP s).2)
    refine ⟨h2.trans (st_word _), ident_len (word_len hs) (Nat.le_trans h1.len hs), word_len (Nat.le_trans h2.len hs)⟩
  · exact ⟨St.refl s, by simp, ha⟩
theorem as_st (a : List UInt8) (s : PS) (ha : a.length ≤ 100000) (hs : s.rest.length ≤ 100000) : St s (asP a s).2.2 ∧ (asP a s).1.length ≤ 100000 ∧ (asP a s).2.1.length ≤ 100000 := by
  unfold asP
  split
  · have h1 := st_word s
    exact ⟨h1.trans (st_word _), word_len hs, word_len (Nat.le_trans h1.len hs)⟩
  · exact ⟨St.refl s, by simp, ha⟩
def FactT (f : Nat) : Prop := ∀ s : PS, Ok s → s.bad = false → 3 * (1001 - s.cnt) + 1 ≤ f → Ok (termP f s).2 ∧ s.cnt + 1 ≤ (termP f s).2.cnt
def FactA (f : Nat) : Prop := ∀ s : PS, Ok s → 3 * (1001 - s.cnt) + 3 ≤ f → Ok (applyP f s).2 ∧ s.cnt ≤ (applyP f s).2.cnt
def FactG (f : Nat) : Prop := ∀ s : PS, Ok s → 3 * (1001 - s.cnt) + 2 ≤ f → Ok (argsP f s).2.2 ∧ s.cnt + (argsP f s).1.length ≤ (argsP f s).2.2.cnt ∧ (argsP f s).2.1.length ≤ 100000
theorem facts : ∀ f : Nat, FactT f ∧ FactA f ∧ FactG f
  | 0 => ⟨fun s _ _ h => by omega, fun s _ h => by omega, fun s _ h => by omega⟩
  | f + 1 => by
    obtain ⟨hT, hA, hG⟩ := facts f
    refine ⟨fun s hs hb hf => ?_, fun s hs hf => ?_, fun s hs hf => ?_⟩
    · have hc := hs.good hb
      rw [termP]
      by_cases h1 : 1000 < s.cnt + 1 ∨ s.bad = true
      · rw [if_pos h1]
        exact ⟨⟨hs.len, by show s.cnt + 1 ≤ 1001; omega, fun e => by cases e⟩, Nat.le_refl _⟩
      · rw [if_neg h1]
        have h2 : s.cnt + 1 ≤ 1000 := by omega
        have hs1 : Ok ⟨s.rest, s.fin, false, s.cnt + 1⟩ := ⟨hs.len, by show s.cnt + 1 ≤ 1001; omega, fun _ => h2⟩
        have hw := st_word ⟨s.rest, s.fin, false, s.cnt + 1⟩
        have hw2 := hs1.st hw
        have e1 : (wordP ⟨s.rest, s.fin, false, s.cnt + 1⟩).2.cnt = s.cnt + 1 := hw.cnt
        split
        · have := hA (wordP ⟨s.rest, s.fin, false, s.cnt + 1⟩).2 hw2 (by rw [e1]; omega)
          rw [e1] at this
          exact this
        · split
          · have h3 := (st_word (wordP ⟨s.rest, s.fin, false, s.cnt + 1⟩).2).trans (st_chars (wordP (wordP ⟨s.rest, s.fin, false, s.cnt + 1⟩).2).1 _)
            exact ⟨hw2.st h3, by show _ ≤ (charsP _ _).2.cnt; rw [h3.cnt, e1]; exact Nat.le_refl _⟩
          · split
            · exact ⟨hw2, by rw [e1]; exact Nat.le_refl _⟩
            · have h3 := st_ident (wordP ⟨s.rest, s.fin, false, s.cnt + 1⟩).1 (wordP ⟨s.rest, s.fin, false, s.cnt + 1⟩).2
              exact ⟨hw2.st h3, by show _ ≤ (identP _ _).2.cnt; rw [h3.cnt, e1]; exact Nat.le_refl _⟩
    · rw [applyP]
      dsimp only
      have h0 := st_word s
      have h1 := st_word (wordP s).2
      have k1 := hs.st (h0.trans h1)
      have h2 := over_st (wordP (wordP s).2).1 (wordP (wordP s).2).2 (word_len (hs.st h0).len) k1.len
      generalize overP (wordP (wordP s).2).1 (wordP (wordP s).2).2 = o at *
      have k2 := k1.st h2.1
      have h3 := as_st o.2.2.1 o.2.2.2 h2.2.2 k2.len
      generalize asP o.2.2.1 o.2.2.2 = a at *
      have k3 := k2.st h3.1
      have e3 : a.2.2.cnt = s.cnt := by rw [h3.1.cnt, h2.1.cnt, h1.cnt, h0.cnt]
      by_cases hw : a.2.1 = wOf
      · rw [if_pos hw]
        have := hG a.2.2 k3 (by rw [e3]; omega)
        rw [e3] at this
        refine ⟨⟨this.1.len, this.1.cnt, fun e => this.1.good (Bool.or_eq_false_iff.1 e).1⟩, ?_⟩
        show s.cnt ≤ (argsP f a.2.2).2.2.cnt
        omega
      · rw [if_neg hw]
        exact ⟨⟨k3.len, k3.cnt, fun e => k3.good (Bool.or_eq_false_iff.1 e).1⟩, by show s.cnt ≤ a.2.2.cnt; omega⟩
    · rw [argsP]
      by_cases hb : s.bad = true
      · rw [if_pos hb]
        exact ⟨hs, by simp, by show wAnd.length ≤ 100000; decide⟩
      · rw [if_neg hb]
        have hb' : s.bad = false := by simpa using hb
        have hc := hs.good hb'
        obtain ⟨t1, t2⟩ := hT s hs hb' (by omega)
        have t3 := st_word (termP f s).2
        have t4 := t1.st t3
        have e4 : (wordP (termP f s).2).2.cnt = (termP f s).2.cnt := t3.cnt
        split
        · have := hG (wordP (termP f s).2).2 t4 (by rw [e4]; omega)
          rw [e4] at this
          exact ⟨this.1, by simp only [List.length_cons]; omega, this.2.2⟩
        · exact ⟨t4, by simp only [List.length_cons, List.length_nil]; omega, word_len t1.len⟩
theorem factT {f : Nat} : FactT f := (facts f).1
theorem factA {f : Nat} : FactA f := (facts f).2.1
theorem factG {f : Nat} : FactG f := (facts f).2.2
end Go.Proofs.YtpokelkneblafaaGreatDoor
