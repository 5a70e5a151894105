/- Lists of names of the reference: Has, less, last. -/
import Derived.Test.YtpokelkneblafaaGreatDoorRS
import Derived.Test.YtpokelkneblafaaGreatDoorAZ
namespace Go.Proofs.YtpokelkneblafaaGreatDoor
open Go.RowKit
/-- a list of names in memory -/
def NmsAt (w : World) (A : Option Addr) (ts : List Nm) : Prop := ∀ (j : Nat) (p : Nm), ts[j]? = some p → ∃ ad : Addr, A = some ad ∧ ad.block < w.heap.size ∧ w.cell? (ad.add j) = some (.string (bys p))
theorem NmsAt.keep {w w' : World} {A : Option Addr} {ts : List Nm} (h : NmsAt w A ts) (hb : Below w.heap.size w w') : NmsAt w' A ts := fun j p hj => by
  obtain ⟨ad, h1, h2, h3⟩ := h j p hj
  exact ⟨ad, h1, Nat.lt_of_lt_of_le h2 hb.size, by rw [hb.cell (by rw [add_blk]; exact h2)]; exact h3⟩
theorem NmsAt.nil (w : World) (A : Option Addr) : NmsAt w A [] := fun j p h => by simp at h
/-- a list of names as a value -/
def NmL (w : World) (v : Value) (ts : List Nm) : Prop := ∃ A cap, v = .slice A ts.length cap ∧ ts.length ≤ cap ∧ cap ≤ 9223372036854775807 ∧ NmsAt w A ts
theorem NmL.keep {w w' : World} {v : Value} {ts : List Nm} (h : NmL w v ts) (hb : Below w.heap.size w w') : NmL w' v ts := by
  obtain ⟨A, cap, h1, h2, h3, h4⟩ := h
  exact ⟨A, cap, h1, h2, h3, h4.keep hb⟩
theorem OwnS.nml {w : World} {B : Nat} {v : Value} {ts : List Nm} (h : OwnS w B v ts) : NmL w v ts := h.form
theorem bys_of (a : ByteArray) : bys a.data.toList = a := by
  apply ByteArray.ext
  simp [bys]
theorem nm_hit {p : Nm} {s : ByteArray} (h : ((bys p).toList == s.toList) = true) : p = s.data.toList := by
  rw [beq_iff_eq, ByteArray.toList_eq, ByteArray.toList_eq, bys_data] at h
  exact h
theorem nm_miss {p : Nm} {s : ByteArray} (h : ((bys p).toList == s.toList) = false) : p ≠ s.data.toList := by
  rintro rfl
  rw [bys_of] at h
  simp at h
set_option maxHeartbeats 400000 in
theorem has_any (A : Option Addr) (cap : Nat) (ts : List Nm) (s : ByteArray) (w : World) (hN : NmsAt w A ts) (hn : ts.length ≤ 1000000) : Calls Tryz.prog 51 #[.slice A ts.length cap, .string s] w fun e w' => e = .returned (.bool (decide (s.data.toList ∈ ts))) ∧ Below w.heap.size w w' := by
  have HS := Lib.hid hN
  clear hN
  go_enter Tryz.func51, Tryz.ntmps51
  go_wp2_with fail
  go_loop [5] (fun i => ∃ k : Nat, k ≤ ts.length ∧ i = .int .i64 k ∧ Hid (∀ (j : Nat) x, ts[j]? = some x → j < k → x ≠ s.data.toList)) (fun i => ts.length - (intOf i).toNat)
  case atStart => exact ⟨0, by omega, rfl, fun j _ _ h => by omega⟩
  case round =>
    obtain ⟨k, hk, rfl, HJ⟩ := hrel
    by_cases hlt : k < ts.length
    · obtain ⟨x, hx⟩ : ∃ x, ts[k]? = some x := ⟨_, List.getElem?_eq_getElem hlt⟩
      obtain ⟨ad, rfl, _, hc⟩ := HS.out k x hx
      cases hq : ((bys x).toList == s.toList)
      · have HX := Lib.hid hx
        have HQ := Lib.hid (nm_miss hq)
        clear hx
        go_wp2_with fail
        go_round
        case rel => exact ⟨k + 1, by omega, by go_num, fun j y hj h => by
          rcases Nat.lt_or_ge j k with h' | h'
          · exact HJ.out j y hj h'
          · obtain rfl : j = k := by omega
            rw [HX.out] at hj
            obtain rfl := Option.some.inj hj
            exact HQ.out⟩
        case measure => simp [intOf]; omega
      · have HR := Lib.hid (decide_eq_true (show s.data.toList ∈ ts from nm_hit hq ▸ List.mem_of_getElem? hx))
        clear hx
        go_wp2_with fail
        go_ret
        exact ⟨ret_bool HR.out.symm, Below.refl _ _⟩
    · have HR := Lib.hid (decide_eq_false (show ¬ s.data.toList ∈ ts from fun hm => by
        obtain ⟨j, hj⟩ := List.getElem?_of_mem hm
        exact HJ.out j _ hj (by have := (List.getElem?_eq_some_iff.1 hj).1; omega) rfl))
      go_wp2_with fail
      go_ret
      exact ⟨ret_bool HR.out.symm, Below.refl _ _⟩
/-- the place of a name from the end of a list -/
def lastI (ts : List Nm) (s : Nm) : Int := match lkS ts.reverse s with
  | none => -1
  | some n => (n : Int)
theorem lk_none : ∀ {X : List Nm} {s : Nm}, (∀ (j : Nat) x, X[j]? = some x → x ≠ s) → lkS X s = none
  | [], s, _ => rfl
  | x :: r, s, h => by
    rw [lkS, if_neg (h 0 x rfl), lk_none fun j y hj => h (j + 1) y (by simpa using hj)]
    rfl
theorem lk_some : ∀ {X : List Nm} {s : Nm} {k : Nat}, (∀ (j : Nat) x, X[j]? = some x → j < k → x ≠ s) → X[k]? = some s → lkS X s = some k
  | [], s, k, _, h => by simp at h
  | x :: r, s, 0, _, h => by
    obtain rfl : x = s := by simpa using h
    rw [lkS, if_pos rfl]
  | x :: r, s, k + 1, h1, h => by
    rw [lkS, if_neg (h1 0 x rfl (Nat.succ_pos k)), lk_some (fun j y hj hk => h1 (j + 1) y (by simpa using hj) (Nat.succ_lt_succ hk)) (by simpa using h)]
    rfl
theorem rev_at {ts : List Nm} {k : Nat} (h : k < ts.length) : ts.reverse[k]? = ts[ts.length - 1 - k]? := by
  rw [List.getElem?_reverse h]
theorem lastI_bd {ts : List Nm} {s : Nm} (h : ts.length ≤ 1000000) : -1 ≤ lastI ts s ∧ lastI ts s ≤ 1000000 := by
  have : ∀ {X : List Nm} {n : Nat}, lkS X s = some n → n < X.length := fun {X} => by
    induction X with
    | nil => intro n h; cases h
    | cons x r ih =>
      intro n hn
      rw [lkS] at hn
      split at hn
      · cases hn; simp
      · cases hq : lkS r s with
        | none => rw [hq] at hn; cases hn
        | some m =>
          rw [hq] at hn
          have := ih hq
          have e : m + 1 = n := by simpa using hn
          rw [List.length_cons]
          omega
  unfold lastI
  cases hq : lkS ts.reverse s with
  | none => exact ⟨by simp, by simp⟩
  | some n =>
    have := this hq
    rw [List.length_reverse] at this
    constructor <;> (show _ ≤ _) <;> dsimp only <;> omega
set_option maxHeartbeats 400000 in
theorem last_any (A : Option Addr) (cap : Nat) (ts : List Nm) (s : ByteArray) (w : World) (hN : NmsAt w A ts) (hn : ts.length ≤ 1000000) : Calls Tryz.prog 54 #[.slice A ts.length cap, .string s] w fun e w' => e = .returned (.int .i64 (lastI ts s.data.toList)) ∧ Below w.heap.size w w' := by
  have HS := Lib.hid hN
  clear hN
  go_enter Tryz.func54, Tryz.ntmps54
  go_wp2_with fail
  go_loop [5] (fun i => ∃ k : Nat, k ≤ ts.length ∧ i = .int .i64 k ∧ Hid (∀ (j : Nat) x, ts.reverse[j]? = some x → j < k → x ≠ s.data.toList)) (fun i => ts.length - (intOf i).toNat)
  case atStart => exact ⟨0, by omega, rfl, fun j _ _ h => by omega⟩
  case round =>
    obtain ⟨k, hk, rfl, HJ⟩ := hrel
    by_cases hlt : k < ts.length
    · obtain ⟨x, hx⟩ : ∃ x, ts[ts.length - 1 - k]? = some x := ⟨_, List.getElem?_eq_getElem (by omega)⟩
      obtain ⟨ad, rfl, _, hc⟩ := HS.out _ x hx
      have w1 : IntKind.i64.wrap ((ts.length : Int) - 1) = ((ts.length - 1 : Nat) : Int) := by rw [IntWalk.i64_in _ (by omega)]; omega
      have w2 : IntKind.i64.wrap (((ts.length - 1 : Nat) : Int) - (k : Int)) = ((ts.length - 1 - k : Nat) : Int) := by rw [IntWalk.i64_in _ (by omega)]; omega
      have hx2 := (rev_at hlt).trans hx
      cases hq : ((bys x).toList == s.toList)
      · have HX := Lib.hid hx2
        have HQ := Lib.hid (nm_miss hq)
        clear hx hx2
        go_wp2_with fail
        go_round
        case rel => exact ⟨k + 1, by omega, by go_num, fun j y hj h => by
          rcases Nat.lt_or_ge j k with h' | h'
          · exact HJ.out j y hj h'
          · obtain rfl : j = k := by omega
            rw [HX.out] at hj
            obtain rfl := Option.some.inj hj
            exact HQ.out⟩
        case measure => simp [intOf]; omega
      · have HR := Lib.hid (show lastI ts s.data.toList = (k : Int) by
          unfold lastI
          rw [lk_some HJ.out (by rw [hx2, nm_hit hq])])
        clear hx hx2
        go_wp2_with fail
        go_ret
        exact ⟨ret_int HR.out.symm, Below.refl _ _⟩
    · have HR := Lib.hid (show lastI ts s.data.toList = -1 by
        unfold lastI
        rw [lk_none fun j x hj => HJ.out j x hj (by have := (List.getElem?_eq_some_iff.1 hj).1; rw [List.length_reverse] at this; omega)])
      go_wp2_with fail
      go_ret
      exact ⟨ret_int HR.out.symm, Below.refl _ _⟩
end Go.Proofs.YtpokelkneblafaaGreatDoor
