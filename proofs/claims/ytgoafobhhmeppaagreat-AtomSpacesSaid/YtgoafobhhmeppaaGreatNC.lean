/- Class of the reference; Few. -/
import Derived.Test.YtgoafobhhmeppaaGreatND
namespace Go.Proofs.YtgoafobhhmeppaaGreat
open Go.RowKit
theorem field_cls (en : Ent) (w : World) : (Instr.field 78 en.v 1).run Tryz.prog w = .ok (.int .i64 en.cls) w := by kernel_rfl
theorem class_kid {es : List Ent} {k : Int} {s : ByteArray} {c : Int} {k0 : Int} {s0 : ByteArray} {c0 : Int} {u : Tre} {ts : List Tre} (h : k = 7 ∨ k = 8 ∨ k = 9) : classT es (.mk k s c (.mk k0 s0 c0 [u] :: ts)) = classT es u := by
  rw [classT.eq_def]
  dsimp only
  rw [if_neg (by omega), if_pos h]
theorem class_none {es : List Ent} {k : Int} {s : ByteArray} {c : Int} (h : k = 7 ∨ k = 8 ∨ k = 9) : classT es (.mk k s c []) = 0 := by
  rw [classT.eq_def]
  dsimp only
  rw [if_neg (by omega), if_pos h]
theorem class_many {es : List Ent} {k : Int} {s : ByteArray} {c : Int} {t : Tre} {ts : List Tre} (h : k = 7 ∨ k = 8 ∨ k = 9) (hl : t.kids.length ≠ 1) : classT es (.mk k s c (t :: ts)) = 0 := by
  rw [classT.eq_def]
  dsimp only
  rw [if_neg (by omega), if_pos h]
  obtain ⟨k0, s0, c0, ks⟩ := t
  match ks, hl with
  | [], _ => rfl
  | [u], hl => simp [Tre.kids] at hl
  | _ :: _ :: _, _ => rfl
theorem class_sym {es : List Ent} {s : ByteArray} {c : Int} {ks : List Tre} : classT es (.mk 2 s c ks) = (entE es s).cls := by
  rw [ent_cls, classT.eq_def]
  rfl
theorem class_inner {es : List Ent} {k : Int} {s : ByteArray} {c : Int} {ks : List Tre} (h : k = 5 ∨ k = 11 ∨ k = 12) : classT es (.mk k s c ks) = 7 := by
  rw [classT.eq_def]
  dsimp only
  rw [if_neg (by omega), if_neg (by omega), if_pos h]
theorem class_ord {es : List Ent} {k : Int} {s : ByteArray} {c : Int} {ks : List Tre} (h2 : k ≠ 2) (h : ¬ (k = 7 ∨ k = 8 ∨ k = 9)) (h5 : ¬ (k = 5 ∨ k = 11 ∨ k = 12)) : classT es (.mk k s c ks) = 0 := by
  rw [classT.eq_def]
  dsimp only
  rw [if_neg h2, if_neg h, if_neg h5]
theorem count_kid {ks : List Tre} {i : Nat} {t : Tre} (h : ks[i]? = some t) : countT t ≤ countL ks := by
  induction ks generalizing i with
  | nil => simp at h
  | cons x r ih =>
    rw [countL]
    cases i with
    | zero => simp at h; subst h; omega
    | succ i => have := ih (i := i) (by simpa using h); omega
theorem add_zero (ad : Addr) : ad.add (0 * 4) = ad := by unfold Addr.add; cases ad; simp
set_option maxRecDepth 100000 in
set_option maxHeartbeats 2000000 in
theorem rclass_any (A : Option Addr) (cap : Nat) (es : List Ent) (hn : es.length ≤ 1000000) : ∀ (m : Nat) (t : Tre) (c : Array Value) (w : World), countT t < m → EntsAt w A es → NodAt w t c → Calls Tryz.prog 45 #[.slice A es.length cap, .agg c] w fun e w' => e = .returned (.int .i64 (classT es t)) ∧ Below w.heap.size w w' := by
  intro m
  induction m with
  | zero => intro t c w h; omega
  | succ m ih =>
    intro t c w hm hE hN
    have IH := Lib.hid ih
    clear ih
    obtain ⟨k, s, cols, ks⟩ := t
    obtain ⟨A2, cap2, rfl, hs, hl, hc, hk⟩ := hN.form
    dsimp only [Tre.kind, Tre.text, Tre.cols, Tre.kids] at hs hl hc hk ⊢
    have HE := Lib.hid hE
    have HK := Lib.hid hk
    have HM := Lib.hid hm
    clear hE hk hN hm
    by_cases h2 : k = 2
    · subst h2
      have HQ := Lib.hid (class_sym (es := es) (s := s) (c := cols) (ks := ks))
      go_enter Tryz.func45, Tryz.ntmps45
      go_wp2_with fail
      refine (rfind_any A cap es s _ (HE.out.keep (bel_alloc w _)) hn).mono ?_
      rintro e w1 ⟨rfl, hb⟩
      have HB := Lib.hid ((bel_alloc w _).trans (hb.mono (by simp)))
      clear hb
      generalize hen : entE es s = en at *
      have HEN := Lib.hid hen
      clear hen
      have hfd := field_cls en
      go_wp2_with fail
      go_ret
      exact ⟨ret_int (by rw [HQ.out]), HB.out⟩
    · by_cases h7 : k = 7 ∨ k = 8 ∨ k = 9
      · clear h2
        cases ks with
        | nil =>
          have HQ := Lib.hid (class_none (es := es) (s := s) (c := cols) h7)
          rcases h7 with rfl | rfl | rfl
          all_goals
            go_enter Tryz.func45, Tryz.ntmps45
            go_wp2_with fail
            go_ret
            exact ⟨ret_int HQ.out.symm, bel_alloc _ _⟩
        | cons t ts =>
          obtain ⟨ad, A3, cap3, rfl, hadl, hs3, hl3, hc3, hk3, hN3, d0, d1, d2, d3⟩ := (HK.out.keep (bel_alloc w (.cells #[.int .i64 k, .string s, .int .i64 cols, .slice A2 (t :: ts).length cap2] 46))).at_ (i := 0) (t := t) rfl
          rw [add_zero] at d0 d1 d2 d3
          rw [show (t :: ts).length = ts.length + 1 from rfl] at *
          have HK3 := Lib.hid hk3
          clear hk3 hN3 hs3 d0 d1 d2
          by_cases h1 : t.kids.length = 1
          · obtain ⟨k0, s0, c0, kk⟩ := t
            obtain ⟨u, rfl⟩ : ∃ u, kk = [u] := List.length_eq_one_iff.1 h1
            dsimp only [Tre.kids] at *
            rw [show (List.length [u]) = 1 from rfl] at *
            have HQ := Lib.hid (class_kid (es := es) (s := s) (c := cols) (k0 := k0) (s0 := s0) (c0 := c0) (u := u) (ts := ts) h7)
            obtain ⟨ad4, A4, cap4, rfl, hadl4, hs4, hl4, hc4, hk4, hN4, e0, e1, e2, e3⟩ := HK3.out.at_ (i := 0) (t := u) rfl
            rw [add_zero] at e0 e1 e2 e3
            have HN4 := Lib.hid hN4
            have HCU : Hid (countT u < m) := by
              have := HM.out
              show _ < _
              simp only [countT, countL] at this
              omega
            clear hN4 hk4 h1
            rcases h7 with rfl | rfl | rfl
            all_goals
              go_enter Tryz.func45, Tryz.ntmps45
              go_wp2_with fail
              refine (IH.out u _ _ HCU.out (HE.out.keep (bel_alloc w _)) HN4.out).mono ?_
              rintro e w1 ⟨rfl, hb⟩
              have HB := Lib.hid ((bel_alloc w _).trans (hb.mono (by simp)))
              clear hb
              go_wp2_with fail
              go_ret
              exact ⟨ret_int HQ.out.symm, HB.out⟩
          · have HQ := Lib.hid (class_many (es := es) (s := s) (c := cols) (ts := ts) h7 h1)
            have hq : ((t.kids.length : Int) == 1) = false := by rw [beq_eq_false_iff_ne]; omega
            clear h1
            rcases h7 with rfl | rfl | rfl
            all_goals
              go_enter Tryz.func45, Tryz.ntmps45
              go_wp2_with fail
              go_ret
              exact ⟨ret_int HQ.out.symm, bel_alloc _ _⟩
      · by_cases h5 : k = 5 ∨ k = 11 ∨ k = 12
        · clear h2 h7
          have HQ := Lib.hid (class_inner (es := es) (s := s) (c := cols) (ks := ks) h5)
          rcases h5 with rfl | rfl | rfl
          all_goals
            go_enter Tryz.func45, Tryz.ntmps45
            go_wp2_with fail
            go_ret
            exact ⟨ret_int HQ.out.symm, bel_alloc _ _⟩
        · have HQ := Lib.hid (class_ord (es := es) (s := s) (c := cols) (ks := ks) h2 h7 h5)
          have q2 : (k == 2) = false := beq_eq_false_iff_ne.2 h2
          have q7 : (k == 7) = false := beq_eq_false_iff_ne.2 (fun e => h7 (.inl e))
          have q8 : (k == 8) = false := beq_eq_false_iff_ne.2 (fun e => h7 (.inr (.inl e)))
          have q9 : (k == 9) = false := beq_eq_false_iff_ne.2 (fun e => h7 (.inr (.inr e)))
          have q5 : (k == 5) = false := beq_eq_false_iff_ne.2 (fun e => h5 (.inl e))
          have q11 : (k == 11) = false := beq_eq_false_iff_ne.2 (fun e => h5 (.inr (.inl e)))
          have q12 : (k == 12) = false := beq_eq_false_iff_ne.2 (fun e => h5 (.inr (.inr e)))
          clear h2 h7 h5
          go_enter Tryz.func45, Tryz.ntmps45
          go_wp2_with fail
          go_ret
          exact ⟨ret_int HQ.out.symm, bel_alloc _ _⟩
/-- how many of some nodes are left behind those of a tree, or a negative number -/
def leftI (n : Int) (t : Nat) : Int := n - t
mutual
def leftT : Tre → Int → Int
  | .mk _ _ _ ks, n => leftL ks (n - 1)
def leftL : List Tre → Int → Int
  | [], n => n
  | t :: ts, n => if 0 ≤ n then leftL ts (leftT t n) else n
end
mutual
theorem leftT_le : ∀ (t : Tre) (n : Int), leftT t n ≤ n - 1 ∧ (0 ≤ leftT t n → leftT t n = n - countT t) ∧ -1 - countT t ≤ leftT t n - n
  | .mk k s c ks, n => by
    rw [leftT, countT]
    obtain ⟨h1, h2, h3⟩ := leftL_le ks (n - 1)
    exact ⟨h1, fun h => by have := h2 h; omega, by omega⟩
theorem leftL_le : ∀ (ts : List Tre) (n : Int), leftL ts n ≤ n ∧ (0 ≤ leftL ts n → leftL ts n = n - countL ts) ∧ -1 - countL ts ≤ leftL ts n - n
  | [], n => by rw [leftL, countL]; exact ⟨Int.le_refl _, fun _ => by simp, by omega⟩
  | t :: ts, n => by
    rw [leftL, countL]
    obtain ⟨h1, h2, h3⟩ := leftT_le t n
    obtain ⟨g1, g2, g3⟩ := leftL_le ts (leftT t n)
    split
    · refine ⟨by omega, fun h => ?_, ?_⟩
      · have := g2 h
        have := h2 (by omega)
        omega
      · cases Int.lt_or_le (leftT t n) 0 with
        | inl hl =>
          have : leftL ts (leftT t n) = leftT t n := by
            cases ts with
            | nil => rfl
            | cons x r => rw [leftL, if_neg (by omega)]
          omega
        | inr hl =>
          have := h2 hl
          omega
    · exact ⟨Int.le_refl _, fun h => by omega, by omega⟩
end
end Go.Proofs.YtgoafobhhmeppaaGreat
