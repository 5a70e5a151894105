/- The texts of nodes: the leaf functions of the program and of the reference · strings.Cut at a separator of one byte, for every string (the shelf's contract asks a bound of the string's size) · Classes of the items of a row, plain · Trees of nodes in memory · Numbers and fences: the program and the reference · Dictionaries: Find of the program and of the reference · Class of the reference; Few · Number of the reference, the text of a node · Few of the reference: whether a tree has at most a number of nodes -/
import Derived.Test.YthpioplpfmlgcaaGreatDoorHd6791209
import Derived.Test.YthpioplpfmlgcaaGreatDoorShelf
import Derived.Shelf.Strings.Cut
import Derived.Lib.Hide
import Derived.Lib.IndexBytes
import Derived.Test.YthpioplpfmlgcaaGreatDoorH1ab7d786
import Derived.Deep.RegionWith
import Derived.Deep.DeepCutAuto
namespace Go.Proofs.YthpioplpfmlgcaaGreatDoor.At
open Go.RowKit
def prin1 (c : UInt8) : Bool := decide (32 ≤ c.toNat) && decide (c.toNat ≤ 126)
set_option maxHeartbeats 400000 in
theorem digits_any (s : ByteArray) (w : World) (hs : s.size ≤ 9223372036854775807) : Calls Tryz.prog 133 #[.string s] w fun e w' => e = .returned (.bool (digsB s.toList)) ∧ w = w' := by
  go_enter Tryz.func133, Tryz.ntmps133
  go_wp2_with fail
  go_loop [3] (fun i => ∃ k : Nat, k ≤ s.size ∧ i = .int .i64 k ∧ Hid (∀ (j : Nat) (hj : j < s.size), j < k → dig46 s[j] = true)) (fun i => s.size - (intOf i).toNat)
  case atStart => exact ⟨0, by omega, rfl, fun j _ h => by omega⟩
  case round =>
    obtain ⟨k, hk, rfl, HJ⟩ := hrel
    by_cases hlt : k < s.size
    · by_cases c1 : (s[k].toNat : Int) < 48
      · have HF := Lib.hid (not_all_get (p := dig46) hlt (by unfold dig46; rw [decide_eq_false (by omega)]; rfl))
        go_wp2_with fail
        go_ret
        exact ⟨ret_bool (by unfold digsB; rw [HF.out]; rfl), rfl⟩
      · by_cases c2 : 57 < (s[k].toNat : Int)
        · have HF := Lib.hid (not_all_get (p := dig46) hlt (by unfold dig46; rw [decide_eq_false (p := s[k].toNat ≤ 57) (by omega), Bool.and_false]))
          go_wp2_with fail
          go_ret
          exact ⟨ret_bool (by unfold digsB; rw [HF.out]; rfl), rfl⟩
        · have HL := Lib.hid (show dig46 s[k] = true by unfold dig46; rw [decide_eq_true (by omega), decide_eq_true (by omega)]; rfl)
          go_wp2_with fail
          go_round
          case rel => exact ⟨k + 1, by omega, by go_num, fun j hj h => by
            rcases Nat.lt_or_ge j k with h' | h'
            · exact HJ.out j hj h'
            · obtain rfl : j = k := by omega
              exact HL.out⟩
          case measure => simp [intOf]; omega
    · have HF := Lib.hid (all_get (s := s) (p := dig46) fun j hj => HJ.out j hj (by omega))
      go_wp2_with fail
      go_ret
      exact ⟨ret_bool (by unfold digsB; rw [HF.out]; rfl), rfl⟩
set_option maxHeartbeats 400000 in
theorem plain_any (s : ByteArray) (w : World) (hs : s.size ≤ 9223372036854775807) : Calls Tryz.prog 98 #[.string s] w fun e w' => e = .returned (.bool (decide (s.size ≤ 200) && prinB s.toList)) ∧ w = w' := by
  go_enter Tryz.func98, Tryz.ntmps98
  go_wp2_with fail
  go_loop [3] (fun i => ∃ k : Nat, k ≤ s.size ∧ i = .int .i64 k ∧ Hid (∀ (j : Nat) (hj : j < s.size), j < k → prin1 s[j] = true)) (fun i => s.size - (intOf i).toNat)
  case atStart => exact ⟨0, by omega, rfl, fun j _ h => by omega⟩
  case round =>
    obtain ⟨k, hk, rfl, HJ⟩ := hrel
    by_cases hlt : k < s.size
    · by_cases c1 : (s[k].toNat : Int) < 32
      · have HF := Lib.hid (not_all_get (p := prin1) hlt (by unfold prin1; rw [decide_eq_false (by omega)]; rfl))
        go_wp2_with fail
        go_ret
        exact ⟨ret_bool (by rw [show prinB s.toList = false from HF.out, Bool.and_false]), rfl⟩
      · by_cases c2 : 126 < (s[k].toNat : Int)
        · have HF := Lib.hid (not_all_get (p := prin1) hlt (by unfold prin1; rw [decide_eq_false (p := s[k].toNat ≤ 126) (by omega), Bool.and_false]))
          go_wp2_with fail
          go_ret
          exact ⟨ret_bool (by rw [show prinB s.toList = false from HF.out, Bool.and_false]), rfl⟩
        · have HL := Lib.hid (show prin1 s[k] = true by unfold prin1; rw [decide_eq_true (by omega), decide_eq_true (by omega)]; rfl)
          go_wp2_with fail
          go_round
          case rel => exact ⟨k + 1, by omega, by go_num, fun j hj h => by
            rcases Nat.lt_or_ge j k with h' | h'
            · exact HJ.out j hj h'
            · obtain rfl : j = k := by omega
              exact HL.out⟩
          case measure => simp [intOf]; omega
    · have HF := Lib.hid (all_get (s := s) (p := prin1) fun j hj => HJ.out j hj (by omega))
      go_wp2_with fail
      go_ret
      exact ⟨ret_bool (by rw [show prinB s.toList = true from HF.out, Bool.and_true]; simp; omega), rfl⟩
set_option maxHeartbeats 400000 in
theorem rprin_any (s : ByteArray) (w : World) (hs : s.size ≤ 9223372036854775807) : Calls Tryz.prog 116 #[.string s] w fun e w' => e = .returned (.bool (prinB s.toList)) ∧ w = w' := by
  go_enter Tryz.func116, Tryz.ntmps116
  go_wp2_with fail
  go_loop [3] (fun i => ∃ k : Nat, k ≤ s.size ∧ i = .int .i64 k ∧ Hid (∀ (j : Nat) (hj : j < s.size), j < k → prin1 s[j] = true)) (fun i => s.size - (intOf i).toNat)
  case atStart => exact ⟨0, by omega, rfl, fun j _ h => by omega⟩
  case round =>
    obtain ⟨k, hk, rfl, HJ⟩ := hrel
    by_cases hlt : k < s.size
    · by_cases c1 : (s[k].toNat : Int) < 32
      · have HF := Lib.hid (not_all_get (p := prin1) hlt (by unfold prin1; rw [decide_eq_false (by omega)]; rfl))
        go_wp2_with fail
        go_ret
        exact ⟨ret_bool (by rw [show prinB s.toList = false from HF.out]), rfl⟩
      · by_cases c2 : 126 < (s[k].toNat : Int)
        · have HF := Lib.hid (not_all_get (p := prin1) hlt (by unfold prin1; rw [decide_eq_false (p := s[k].toNat ≤ 126) (by omega), Bool.and_false]))
          go_wp2_with fail
          go_ret
          exact ⟨ret_bool (by rw [show prinB s.toList = false from HF.out]), rfl⟩
        · have HL := Lib.hid (show prin1 s[k] = true by unfold prin1; rw [decide_eq_true (by omega), decide_eq_true (by omega)]; rfl)
          go_wp2_with fail
          go_round
          case rel => exact ⟨k + 1, by omega, by go_num, fun j hj h => by
            rcases Nat.lt_or_ge j k with h' | h'
            · exact HJ.out j hj h'
            · obtain rfl : j = k := by omega
              exact HL.out⟩
          case measure => simp [intOf]; omega
    · have HF := Lib.hid (all_get (s := s) (p := prin1) fun j hj => HJ.out j hj (by omega))
      go_wp2_with fail
      go_ret
      exact ⟨ret_bool (by rw [show prinB s.toList = true from HF.out]), rfl⟩
theorem empty_any (s : ByteArray) (w : World) : Calls Tryz.prog 96 #[.string s] w fun e w' => e = .returned (.bool s.toList.isEmpty) ∧ w = w' := by
  go_enter Tryz.func96, Tryz.ntmps96
  go_wp2_with fail
  go_ret
  exact ⟨rfl, rfl⟩
theorem rdigit_any (c : UInt8) (w : World) : Calls Tryz.prog 141 #[.int .u8 (c.toNat : Int)] w fun e w' => e = .returned (.bool (dig46 c)) ∧ w = w' := by
  by_cases h1 : 48 ≤ c.toNat
  · have HR := Lib.hid (show dig46 c = decide ((c.toNat : Int) ≤ 57) by unfold dig46; rw [decide_eq_true h1, Bool.true_and, decide_eq_decide]; omega)
    go_enter Tryz.func141, Tryz.ntmps141
    go_wp2_with fail
    go_ret
    exact ⟨ret_bool (by rw [HR.out]), rfl⟩
  · have HR := Lib.hid (show dig46 c = false by unfold dig46; rw [decide_eq_false h1]; rfl)
    go_enter Tryz.func141, Tryz.ntmps141
    go_wp2_with fail
    go_ret
    exact ⟨ret_bool HR.out.symm, rfl⟩
end Go.Proofs.YthpioplpfmlgcaaGreatDoor.At
namespace Go.Proofs.YthpioplpfmlgcaaGreatDoor.At
open Go.Shelf Go.RowKit Go.Lib
variable {P : Program} {ρ : Ren}
set_option maxHeartbeats 2000000 in
set_option maxRecDepth 100000 in
theorem lcut_one (L : Lays.n220 P ρ) (s : ByteArray) (c : UInt8) (w : World) (hs : s.size ≤ 9223372036854775807) :
    Calls P (ρ.f 220) #[.string s, .string ⟨#[c]⟩] w fun e w' => e = .returned (.tuple #[.string ⟨(Lib.cut s.data.toList [c]).1.toArray⟩, .string ⟨(Lib.cut s.data.toList [c]).2.1.toArray⟩, .bool (Lib.cut s.data.toList [c]).2.2]) ∧ ∃ n, w' = w.drewN n := by
  rcases Lib.indexB_cases s ⟨#[c]⟩ with hix | ⟨i, hix, hroom⟩
  · obtain ⟨e1, e2, e3⟩ := Lib.cutB_miss s ⟨#[c]⟩ hix
    rw [show [c] = (⟨#[c]⟩ : ByteArray).data.toList from rfl, e1, e2, e3]
    have hix1 := Lib.hid (show Lib.indexByte s.data.toList c = _ from (Lib.index_one s.data.toList c).symm.trans hix)
    clear e1 e2 e3 hix
    have t3 := L.t3; have t4 := L.t4; have t9 := L.t9
    have a3 : ∀ w, (isAgg (ρ.t 3)).run P w = .ok false w := run_isAgg_plain L.t3 rfl; have a4 : ∀ w, (isAgg (ρ.t 4)).run P w = .ok false w := run_isAgg_plain L.t4 rfl; have a9 : ∀ w, (isAgg (ρ.t 9)).run P w = .ok false w := run_isAgg_plain L.t9 rfl
    have e219 : ∀ args w, (callFunc (ρ.f 219) args).run P w = .ok (.enter (ρ.f 219) args) w := enters_of L.f219 (by kernel_rfl) rfl
    have mixed := L.mixed; have z3 := L.z3; have v3 := L.v3; have z4 := L.z4; have v4 := L.v4; have z9 := L.z9; have v9 := L.v9
    go_enter L.f220, Body.n220_ntmps ρ
    go_wp2_with (go_at_fn (ρ.f 219); refine (Any.stringslite_Index_one { L with } _ _ _).mono ?_; rintro e w' ⟨rfl, rfl⟩; rw [hix1.out])
    go_ret3
    exact ⟨rfl, 0, rfl⟩
  · obtain ⟨e1, e2, e3⟩ := Lib.cutB_hit s ⟨#[c]⟩ i hix
    rw [show [c] = (⟨#[c]⟩ : ByteArray).data.toList from rfl, e1, e2, e3]
    have hix1 := Lib.hid (show Lib.indexByte s.data.toList c = _ from (Lib.index_one s.data.toList c).symm.trans hix)
    clear e1 e2 e3 hix
    have hsz : (⟨#[c]⟩ : ByteArray).size = 1 := rfl
    rw [hsz] at hroom
    have c1 : (0 : Int) ≤ ↑i := by omega
    have c2 : (↑i : Int) ≤ ↑s.size := by omega
    have c3 : (0 : Int) ≤ ↑i + 1 := by omega
    have c4 : (↑i + 1 : Int) ≤ ↑s.size := by omega
    clear hsz
    have t3 := L.t3; have t4 := L.t4; have t9 := L.t9
    have a3 : ∀ w, (isAgg (ρ.t 3)).run P w = .ok false w := run_isAgg_plain L.t3 rfl; have a4 : ∀ w, (isAgg (ρ.t 4)).run P w = .ok false w := run_isAgg_plain L.t4 rfl; have a9 : ∀ w, (isAgg (ρ.t 9)).run P w = .ok false w := run_isAgg_plain L.t9 rfl
    have e219 : ∀ args w, (callFunc (ρ.f 219) args).run P w = .ok (.enter (ρ.f 219) args) w := enters_of L.f219 (by kernel_rfl) rfl
    have mixed := L.mixed; have z3 := L.z3; have v3 := L.v3; have z4 := L.z4; have v4 := L.v4; have z9 := L.z9; have v9 := L.v9
    go_enter L.f220, Body.n220_ntmps ρ
    go_wp2_with (go_at_fn (ρ.f 219); refine (Any.stringslite_Index_one { L with } _ _ _).mono ?_; rintro e w' ⟨rfl, rfl⟩; rw [hix1.out])
    go_region_o
    go_wp2
    go_ret3
    exact ⟨rfl, 1, rfl⟩
theorem cut_one (L : Lays.n145 P ρ) (s : ByteArray) (c : UInt8) (w : World) (hs : s.size ≤ 9223372036854775807) :
    Calls P (ρ.f 145) #[.string s, .string ⟨#[c]⟩] w fun e w' => e = .returned (.tuple #[.string ⟨(Lib.cut s.data.toList [c]).1.toArray⟩, .string ⟨(Lib.cut s.data.toList [c]).2.1.toArray⟩, .bool (Lib.cut s.data.toList [c]).2.2]) ∧ ∃ n, w' = w.drewN n := by
  have t4 := L.t4; have t9 := L.t9; have t59 := L.t59
  have a4 : ∀ w, (isAgg (ρ.t 4)).run P w = .ok false w := run_isAgg_plain L.t4 rfl; have a9 : ∀ w, (isAgg (ρ.t 9)).run P w = .ok false w := run_isAgg_plain L.t9 rfl; have a59 : ∀ w, (isAgg (ρ.t 59)).run P w = .ok false w := run_isAgg_plain L.t59 rfl
  have e220 : ∀ args w, (callFunc (ρ.f 220) args).run P w = .ok (.enter (ρ.f 220) args) w := enters_of L.f220 (by kernel_rfl) rfl
  have mixed := L.mixed; have z4 := L.z4; have v4 := L.v4; have z9 := L.z9; have v9 := L.v9; have z59 := L.z59; have v59 := L.v59
  go_enter L.f145, Body.n145_ntmps ρ
  go_wp2_with (go_at_fn (ρ.f 220); refine (lcut_one { L with } _ _ _ hs).mono ?_; rintro e w' ⟨rfl, n, rfl⟩)
  go_ret3
  exact ⟨rfl, n, rfl⟩
end Go.Proofs.YthpioplpfmlgcaaGreatDoor.At
namespace Go.Proofs
open Go.RowKit
theorem Tryz.strings_Cut_one (s : ByteArray) (c : UInt8) (w : World) (hs : s.size ≤ 9223372036854775807) :
    Calls Tryz.prog 132 #[.string s, .string ⟨#[c]⟩] w fun e w' => e = .returned (.tuple #[.string ⟨(Lib.cut s.data.toList [c]).1.toArray⟩, .string ⟨(Lib.cut s.data.toList [c]).2.1.toArray⟩, .bool (Lib.cut s.data.toList [c]).2.2]) ∧ ∃ n, w' = w.drewN n := YthpioplpfmlgcaaGreatDoor.At.cut_one Tryz.lays145 s c w hs
end Go.Proofs
namespace Go.Proofs.YthpioplpfmlgcaaGreatDoor.At
end Go.Proofs.YthpioplpfmlgcaaGreatDoor.At
namespace Go.Proofs.YthpioplpfmlgcaaGreatDoor.At
open Go.RowKit
/-- the four cells of a node with its kids -/
inductive NodAt (w : World) : Tre → Array Value → Prop
  | mk (k : Int) (s : ByteArray) (c : Int) (ks : List Tre) (A : Option Addr) (cap : Nat) (ad : Addr) (cs : Nat → Array Value) (hs : s.size ≤ 9223372036854775807) (hn : ks.length ≤ cap) (hc : cap ≤ 9223372036854775807)
      (hA : ks = [] ∨ (A = some ad ∧ ad.block < w.heap.size)) (hcell : ∀ i, i < ks.length → ∀ j, j < 4 → w.cell? (ad.add (i * 4 + j)) = (cs i)[j]?)
      (hk : ∀ (i : Nat) (h : i < ks.length), NodAt w ks[i] (cs i)) : NodAt w (.mk k s c ks) #[.int .i64 k, .string s, .int .i64 c, .slice A ks.length cap]
/-- nodes in a row -/
def KidsAt (w : World) (A : Option Addr) (ts : List Tre) : Prop := ∀ (i : Nat) (t : Tre), ts[i]? = some t → ∃ ad : Addr, A = some ad ∧ ad.block < w.heap.size ∧ ∃ c, NodAt w t c ∧ ∀ j, j < 4 → w.cell? (ad.add (i * 4 + j)) = c[j]?
theorem add_blk (a : Addr) (n : Nat) : (a.add n).block = a.block := by unfold Addr.add; split <;> rfl
theorem NodAt.keep {w w' : World} (hb : Below w.heap.size w w') {t : Tre} {c : Array Value} (h : NodAt w t c) : NodAt w' t c := by
  induction h with
  | mk k s c ks A cap ad cs hs hn hc hA hcell hk ih =>
    refine .mk k s c ks A cap ad cs hs hn hc (hA.imp id fun ⟨h1, h2⟩ => ⟨h1, Nat.lt_of_lt_of_le h2 hb.size⟩) (fun i hi j hj => ?_) ih
    rcases hA with h | ⟨h1, h2⟩
    · subst h; simp at hi
    · rw [hb.cell (by rw [add_blk]; exact h2)]; exact hcell i hi j hj
theorem KidsAt.keep {w w' : World} (hb : Below w.heap.size w w') {A : Option Addr} {ts : List Tre} (h : KidsAt w A ts) : KidsAt w' A ts := fun i t hi => by
  obtain ⟨ad, h1, h2, c, h3, h4⟩ := h i t hi
  exact ⟨ad, h1, Nat.lt_of_lt_of_le h2 hb.size, c, h3.keep hb, fun j hj => by rw [hb.cell (by rw [add_blk]; exact h2)]; exact h4 j hj⟩
theorem NodAt.form {w : World} {t : Tre} {c : Array Value} (h : NodAt w t c) : ∃ A cap, c = #[.int .i64 t.kind, .string t.text, .int .i64 t.cols, .slice A t.kids.length cap] ∧ t.text.size ≤ 9223372036854775807 ∧ t.kids.length ≤ cap ∧ cap ≤ 9223372036854775807 ∧ KidsAt w A t.kids := by
  cases h with
  | mk k s c ks A cap ad cs hs hn hc hA hcell hk =>
    refine ⟨A, cap, rfl, hs, hn, hc, fun i t hi => ?_⟩
    obtain ⟨hl, rfl⟩ := List.getElem?_eq_some_iff.1 hi
    rcases hA with h | ⟨h1, h2⟩
    · rw [show (Tre.mk k s c ks).kids = ks from rfl] at hl
      subst h
      simp at hl
    · exact ⟨ad, h1, h2, cs i, hk i hl, hcell i hl⟩
theorem NodAt.of {w : World} {k : Int} {s : ByteArray} {c : Int} {ks : List Tre} {A : Option Addr} {cap : Nat} (hs : s.size ≤ 9223372036854775807) (hn : ks.length ≤ cap) (hc : cap ≤ 9223372036854775807) (h : KidsAt w A ks) : NodAt w (.mk k s c ks) #[.int .i64 k, .string s, .int .i64 c, .slice A ks.length cap] := by
  cases ks with
  | nil => exact .mk k s c [] A cap ⟨0, 0, none⟩ (fun _ => #[]) hs hn hc (.inl rfl) (fun i hi => by simp at hi) (fun i hi => by simp at hi)
  | cons t ts =>
    obtain ⟨ad, hA, hlt, _⟩ := h 0 t rfl
    have hx : ∀ i, ∃ cc : Array Value, ∀ (hi : i < (t :: ts).length), NodAt w (t :: ts)[i] cc ∧ ∀ j, j < 4 → w.cell? (ad.add (i * 4 + j)) = cc[j]? := fun i => by
      by_cases hi : i < (t :: ts).length
      · obtain ⟨ad', hA', _, cc, h1, h2⟩ := h i _ (List.getElem?_eq_getElem hi)
        obtain rfl := Option.some.inj (hA.symm.trans hA')
        exact ⟨cc, fun _ => ⟨h1, h2⟩⟩
      · exact ⟨#[], fun h => absurd h hi⟩
    exact .mk k s c (t :: ts) A cap ad (fun i => (hx i).choose) hs hn hc (.inr ⟨hA, hlt⟩) (fun i hi => ((hx i).choose_spec hi).2) (fun i hi => ((hx i).choose_spec hi).1)
theorem add_cel {w : World} {a : Addr} {n j : Nat} {v : Option Value} (h : w.cell? (a.add (n + (j + 1))) = v) : w.cell? ⟨(a.add n).block, (a.add n).off + (j + 1), none⟩ = v := by
  rw [← Addr.add_add] at h
  unfold Addr.add at h ⊢
  simpa using h
/-- the four cells of a kid, as a walk spells them -/
theorem KidsAt.at_ {w : World} {A : Option Addr} {ts : List Tre} (h : KidsAt w A ts) {i : Nat} {t : Tre} (hi : ts[i]? = some t) :
    ∃ ad A2 cap2, A = some ad ∧ ad.block < w.heap.size ∧ t.text.size ≤ 9223372036854775807 ∧ t.kids.length ≤ cap2 ∧ cap2 ≤ 9223372036854775807 ∧ KidsAt w A2 t.kids ∧ NodAt w t #[.int .i64 t.kind, .string t.text, .int .i64 t.cols, .slice A2 t.kids.length cap2] ∧ w.cell? (ad.add (i * 4)) = some (.int .i64 t.kind) ∧ w.cell? ⟨(ad.add (i * 4)).block, (ad.add (i * 4)).off + 1, none⟩ = some (.string t.text) ∧ w.cell? ⟨(ad.add (i * 4)).block, (ad.add (i * 4)).off + 2, none⟩ = some (.int .i64 t.cols) ∧ w.cell? ⟨(ad.add (i * 4)).block, (ad.add (i * 4)).off + 3, none⟩ = some (.slice A2 t.kids.length cap2) := by
  obtain ⟨ad, h1, h2, c, h3, h4⟩ := h i t hi
  obtain ⟨A2, cap2, rfl, hs, hn, hc, hk⟩ := h3.form
  exact ⟨ad, A2, cap2, h1, h2, hs, hn, hc, hk, h3, h4 0 (by omega), add_cel (j := 0) (h4 1 (by omega)), add_cel (j := 1) (h4 2 (by omega)), add_cel (j := 2) (h4 3 (by omega))⟩
end Go.Proofs.YthpioplpfmlgcaaGreatDoor.At
namespace Go.Proofs.YthpioplpfmlgcaaGreatDoor.At
open Go.RowKit
theorem list_mk (l : List UInt8) : (⟨l.toArray⟩ : ByteArray).toList = l := by rw [ByteArray.toList_eq]
theorem size_mk (l : List UInt8) : (⟨l.toArray⟩ : ByteArray).size = l.length := by simp [ByteArray.size]
theorem cut_len (l : List UInt8) : (Lib.cut l [46]).1.length ≤ l.length ∧ (Lib.cut l [46]).2.1.length ≤ l.length := by
  rcases mem_split 46 l with h | ⟨a, b, rfl, h⟩
  · rw [cut_miss 46 h]; simp
  · rw [cut_hit 46 h]; simp; omega
set_option maxHeartbeats 400000 in
theorem nnum_any (s : ByteArray) (w : World) (hs : s.size ≤ 9223372036854775807) : Calls Tryz.prog 97 #[.string s] w fun e w' => e = .returned (.bool (numP s.data.toList)) ∧ Below w.heap.size w w' := by
  have hlen : s.data.toList.length = s.size := by simp
  obtain ⟨l1, l2⟩ := cut_len s.data.toList
  have HQ := Lib.hid (show numP s.data.toList = (decide (s.size ≤ 20) && (digsB (Lib.cut s.data.toList [46]).1 && (!(Lib.cut s.data.toList [46]).2.2 || digsB (Lib.cut s.data.toList [46]).2.1))) by unfold numP; rw [hlen])
  have HC := Lib.hid (Tryz.strings_Cut_one s 46 w hs)
  rw [hlen] at l1 l2
  clear hlen
  generalize (Lib.cut s.data.toList [46]).1 = a at *
  generalize (Lib.cut s.data.toList [46]).2.1 = b at *
  generalize (Lib.cut s.data.toList [46]).2.2 = p at *
  have HA := Lib.hid (fun w1 => digits_any (⟨a.toArray⟩ : ByteArray) w1 (by rw [size_mk]; omega))
  have HB := Lib.hid (fun w1 => digits_any (⟨b.toArray⟩ : ByteArray) w1 (by rw [size_mk]; omega))
  rw [list_mk] at HA HB
  by_cases h20 : s.size ≤ 20
  · rw [decide_eq_true h20, Bool.true_and] at HQ
    go_enter Tryz.func97, Tryz.ntmps97
    go_wp2_with fail
    refine HC.out.mono ?_
    rintro e w' ⟨rfl, n, rfl⟩
    go_wp2_with fail
    refine (HA.out _).mono ?_
    rintro e w' ⟨rfl, rfl⟩
    cases ha : digsB a
    · rw [ha] at HQ
      clear ha
      go_wp2_with fail
      go_ret
      exact ⟨ret_bool (by rw [HQ.out]; rfl), below_drewN (Below.refl _ _) n⟩
    · rw [ha, Bool.true_and] at HQ
      clear ha
      cases p
      · go_wp2_with fail
        go_ret
        exact ⟨ret_bool (by rw [HQ.out]; rfl), below_drewN (Below.refl _ _) n⟩
      · rw [Bool.not_true, Bool.false_or] at HQ
        go_wp2_with fail
        refine (HB.out _).mono ?_
        rintro e w' ⟨rfl, rfl⟩
        generalize digsB b = d at *
        go_wp2_with fail
        go_ret
        exact ⟨ret_bool (by rw [HQ.out]), below_drewN (Below.refl _ _) n⟩
  · rw [decide_eq_false h20, Bool.false_and] at HQ
    go_enter Tryz.func97, Tryz.ntmps97
    go_wp2_with fail
    refine HC.out.mono ?_
    rintro e w' ⟨rfl, n, rfl⟩
    go_wp2_with fail
    go_ret
    exact ⟨ret_bool (by rw [HQ.out]), below_drewN (Below.refl _ _) n⟩
theorem delim_p (c : UInt8) : decide (0 ≤ Lib.indexByte [40, 41, 91, 93, 123, 125, 60, 62, 47, 124, 46] c) = hasB delimL c := by
  have h : ∀ n : Nat, n < 256 → decide (0 ≤ Lib.indexByte [40, 41, 91, 93, 123, 125, 60, 62, 47, 124, 46] (UInt8.ofNat n)) = hasB delimL (UInt8.ofNat n) := by decide +kernel
  have := h c.toNat c.toNat_lt
  rwa [UInt8.ofNat_toNat] at this
theorem two_bytes (s : ByteArray) (h : s.size = 2) : ∃ a b : UInt8, s = ⟨#[a, b]⟩ := by
  obtain ⟨⟨l⟩⟩ := s
  match l, h with
  | [a, b], _ => exact ⟨a, b, rfl⟩
  | [], h => simp [ByteArray.size] at h
  | [_], h => simp [ByteArray.size] at h
  | _ :: _ :: _ :: _, h => simp [ByteArray.size] at h
theorem fenc_two (a b : UInt8) : fencB (⟨#[a, b]⟩ : ByteArray).data.toList = (hasB delimL a && hasB delimL b) := rfl
theorem fenc_no {s : ByteArray} (h : s.size ≠ 2) : fencB s.data.toList = false := by
  have hl : s.data.toList.length = s.size := by simp
  unfold fencB
  split
  · rename_i a b he
    rw [he] at hl
    simp at hl
    omega
  · rfl
set_option maxHeartbeats 400000 in
theorem fence_any (s : ByteArray) (w : World) : Calls Tryz.prog 100 #[.string s] w fun e w' => e = .returned (.bool (fencB s.data.toList)) ∧ Below w.heap.size w w' := by
  by_cases h : s.size = 2
  · obtain ⟨a, b, rfl⟩ := two_bytes s h
    clear h
    rw [fenc_two]
    have HA := Lib.hid (Tryz.strings_IndexByte ⟨#[40, 41, 91, 93, 123, 125, 60, 62, 47, 124, 46]⟩ a.toNat)
    have HB := Lib.hid (Tryz.strings_IndexByte ⟨#[40, 41, 91, 93, 123, 125, 60, 62, 47, 124, 46]⟩ b.toNat)
    have DA := Lib.hid (delim_p a)
    have DB := Lib.hid (delim_p b)
    rw [show ((a.toNat : Int).toNat.toUInt8) = a by simp, show (⟨#[40, 41, 91, 93, 123, 125, 60, 62, 47, 124, 46]⟩ : ByteArray).data.toList = [40, 41, 91, 93, 123, 125, 60, 62, 47, 124, 46] from rfl] at HA
    rw [show ((b.toNat : Int).toNat.toUInt8) = b by simp, show (⟨#[40, 41, 91, 93, 123, 125, 60, 62, 47, 124, 46]⟩ : ByteArray).data.toList = [40, 41, 91, 93, 123, 125, 60, 62, 47, 124, 46] from rfl] at HB
    generalize Lib.indexByte [40, 41, 91, 93, 123, 125, 60, 62, 47, 124, 46] a = x at *
    generalize Lib.indexByte [40, 41, 91, 93, 123, 125, 60, 62, 47, 124, 46] b = y at *
    go_enter Tryz.func100, Tryz.ntmps100
    go_wp2_with fail
    refine (HA.out _).mono ?_
    rintro e w' ⟨rfl, rfl⟩
    by_cases hx : 0 ≤ x
    · go_wp2_with fail
      refine (HB.out _).mono ?_
      rintro e w' ⟨rfl, rfl⟩
      go_wp2_with fail
      go_ret
      exact ⟨ret_bool (by rw [← DA.out, ← DB.out, decide_eq_true hx, Bool.true_and]), Below.refl _ _⟩
    · go_wp2_with fail
      go_ret
      exact ⟨ret_bool (by rw [← DA.out, decide_eq_false (by omega), Bool.false_and]), Below.refl _ _⟩
  · have HQ := Lib.hid (fenc_no h)
    have hq : ((s.size : Int) == 2) = false := by rw [beq_eq_false_iff_ne]; omega
    clear h
    go_enter Tryz.func100, Tryz.ntmps100
    go_wp2_with fail
    go_ret
    exact ⟨ret_bool HQ.out.symm, Below.refl _ _⟩
end Go.Proofs.YthpioplpfmlgcaaGreatDoor.At
namespace Go.Proofs.YthpioplpfmlgcaaGreatDoor.At
open Go.RowKit
theorem ret_int {k : IntKind} {a b : Int} (h : a = b) : Ending.returned (.int k a) = .returned (.int k b) := by rw [h]
end Go.Proofs.YthpioplpfmlgcaaGreatDoor.At
namespace Go.Proofs.YthpioplpfmlgcaaGreatDoor.At
open Go.RowKit
theorem count_kid {ks : List Tre} {i : Nat} {t : Tre} (h : ks[i]? = some t) : countT t ≤ countL ks := by
  induction ks generalizing i with
  | nil => simp at h
  | cons x r ih =>
    rw [countL]
    cases i with
    | zero => simp at h; subst h; omega
    | succ i => have := ih (i := i) (by simpa using h); omega
theorem add_zero (ad : Addr) : ad.add (0 * 4) = ad := by unfold Addr.add; cases ad; simp
mutual
def leftT : Tre → Int → Int
  | .mk _ _ _ ks, n => leftL ks (n - 1)
def leftL : List Tre → Int → Int
  | [], n => n
  | t :: ts, n => if 0 ≤ n then leftL ts (leftT t n) else n
end
mutual
theorem leftT_le : ∀ (t : Tre) (n : Int), leftT t n ≤ n - 1 ∧ (0 ≤ leftT t n → leftT t n = n - countT t) ∧ -1 - countT t ≤ leftT t n - n
  | .mk k s c ks, n => by
    rw [leftT, countT]
    obtain ⟨h1, h2, h3⟩ := leftL_le ks (n - 1)
    exact ⟨h1, fun h => by have := h2 h; omega, by omega⟩
theorem leftL_le : ∀ (ts : List Tre) (n : Int), leftL ts n ≤ n ∧ (0 ≤ leftL ts n → leftL ts n = n - countL ts) ∧ -1 - countL ts ≤ leftL ts n - n
  | [], n => by rw [leftL, countL]; exact ⟨Int.le_refl _, fun _ => by simp, by omega⟩
  | t :: ts, n => by
    rw [leftL, countL]
    obtain ⟨h1, h2, h3⟩ := leftT_le t n
    obtain ⟨g1, g2, g3⟩ := leftL_le ts (leftT t n)
    split
    · refine ⟨by omega, fun h => ?_, ?_⟩
      · have := g2 h
        have := h2 (by omega)
        omega
      · cases Int.lt_or_le (leftT t n) 0 with
        | inl hl =>
          have : leftL ts (leftT t n) = leftT t n := by
            cases ts with
            | nil => rfl
            | cons x r => rw [leftL, if_neg (by omega)]
          omega
        | inr hl =>
          have := h2 hl
          omega
    · exact ⟨Int.le_refl _, fun h => by omega, by omega⟩
end
end Go.Proofs.YthpioplpfmlgcaaGreatDoor.At
namespace Go.Proofs.YthpioplpfmlgcaaGreatDoor.At
open Go.RowKit
def okAt (s : ByteArray) (j : Nat) (h : j < s.size) : Prop := (s[j] = 46 ∧ 0 < j ∧ j + 1 < s.size) ∨ dig46 s[j] = true
theorem data_get (s : ByteArray) (j : Nat) (h : j < s.size) : s.data.toList[j]? = some s[j] := by
  rw [List.getElem?_eq_getElem (by simpa using h)]; rfl
theorem numR_ok {s : ByteArray} (H : ∀ (j : Nat) (hj : j < s.size), okAt s j hj) : numR s.data.toList = (decide (0 < s.size) && (decide (s.size ≤ 20) && decide (s.data.toList.count 46 ≤ 1))) := by
  have hl : s.data.toList.length = s.size := by simp
  unfold numR
  have h1 : s.data.toList.all (fun c => c == 46 || dig46 c) = true := by
    rw [List.all_eq_true]
    intro x hx
    obtain ⟨j, hj, rfl⟩ := List.mem_iff_getElem.1 hx
    rcases H j (by omega) with ⟨h, _⟩ | h
    · rw [Bool.or_eq_true]; exact .inl (by rw [beq_iff_eq]; exact h)
    · rw [Bool.or_eq_true]; exact .inr h
  have h2 : s.data.toList.head? ≠ some 46 := by
    intro e
    rw [List.head?_eq_getElem?] at e
    have h0 : 0 < s.size := by
      rcases Nat.eq_zero_or_pos s.size with h0 | h0
      · rw [List.getElem?_eq_none (by omega)] at e; cases e
      · exact h0
    rw [data_get s 0 h0] at e
    rcases H 0 h0 with ⟨_, h, _⟩ | h
    · omega
    · exact dig_not _ h (Option.some.inj e)
  have h3 : s.data.toList.getLast? ≠ some 46 := by
    intro e
    rw [List.getLast?_eq_getElem?, hl] at e
    have h0 : 0 < s.size := by
      rcases Nat.eq_zero_or_pos s.size with h0 | h0
      · rw [List.getElem?_eq_none (by omega)] at e; cases e
      · exact h0
    rw [data_get s (s.size - 1) (by omega)] at e
    rcases H (s.size - 1) (by omega) with ⟨_, _, h⟩ | h
    · omega
    · exact dig_not _ h (Option.some.inj e)
  rw [h1, decide_eq_true h2, decide_eq_true h3, hl]
  rfl
theorem numR_bad {s : ByteArray} {k : Nat} (hk : k < s.size) (h : ¬ okAt s k hk) : numR s.data.toList = false := by
  have hl : s.data.toList.length = s.size := by simp
  unfold okAt at h
  unfold numR
  by_cases h46 : s[k] = 46
  · have hk' : k = 0 ∨ k + 1 = s.size := by
      rcases Nat.eq_zero_or_pos k with h0 | h0
      · exact .inl h0
      · exact .inr (Classical.byContradiction fun hc => h (.inl ⟨h46, h0, by omega⟩))
    rcases hk' with rfl | hk'
    · have h2 : s.data.toList.head? = some 46 := by rw [List.head?_eq_getElem?, data_get s 0 hk, h46]
      rw [h2]; simp
    · have h3 : s.data.toList.getLast? = some 46 := by rw [List.getLast?_eq_getElem?, hl, show s.size - 1 = k by omega, data_get s k hk, h46]
      rw [h3]; simp
  · have hd : dig46 s[k] = false := by
      cases hd : dig46 s[k]
      · rfl
      · exact absurd (.inr hd) h
    have h1 : s.data.toList.all (fun c => c == 46 || dig46 c) = false := by
      rw [List.all_eq_false]
      refine ⟨s[k], List.mem_of_getElem? (data_get s k hk), ?_⟩
      rw [hd, beq_eq_false_iff_ne.2 h46]; simp
    rw [h1]; rfl
theorem count_take {s : ByteArray} {k : Nat} (hk : k < s.size) : (s.data.toList.take (k + 1)).count 46 = (s.data.toList.take k).count 46 + (if s[k] = 46 then 1 else 0) := by
  rw [List.take_add_one, data_get s k hk, Option.toList, List.count_append, List.count_singleton]
  by_cases h : s[k] = 46 <;> simp [h]
set_option maxHeartbeats 800000 in
theorem rnum_any (s : ByteArray) (w : World) (hs : s.size ≤ 9223372036854775807) : Calls Tryz.prog 114 #[.string s] w fun e w' => e = .returned (.bool (numR s.data.toList)) ∧ w = w' := by
  have hl : s.data.toList.length = s.size := by simp
  have HL := Lib.hid hl
  clear hl
  go_enter Tryz.func114, Tryz.ntmps114
  go_wp2_with fail
  go_loop [3, 4] (fun p i => ∃ k c : Nat, k ≤ s.size ∧ c ≤ k ∧ i = .int .i64 k ∧ p = .int .i64 c ∧ Hid (c = (s.data.toList.take k).count 46) ∧ Hid (∀ (j : Nat) (hj : j < s.size), j < k → okAt s j hj)) (fun _ i => s.size - (intOf i).toNat)
  case atStart => exact ⟨0, 0, by omega, by omega, rfl, rfl, rfl, fun j _ h => by omega⟩
  case round =>
    obtain ⟨k, c, hk, hck, rfl, rfl, HC, HJ⟩ := hrel
    by_cases hlt : k < s.size
    · have HT := Lib.hid (count_take hlt)
      by_cases h46 : s[k] = 46
      · have hq : ((s[k].toNat : Int) == 46) = true := by rw [h46]; rfl
        have HD := Lib.hid (show dig46 s[k] = false by rw [h46]; rfl)
        by_cases hin : 0 < k ∧ k + 1 < s.size
        · obtain ⟨h0, h1⟩ := hin
          have h1' : (k : Int) < (s.size : Int) - 1 := by omega
          have HK := Lib.hid (show okAt s k hlt from .inl ⟨h46, h0, h1⟩)
          have HS := Lib.hid (show c + 1 = (s.data.toList.take (k + 1)).count 46 by rw [HT.out, ← HC.out, if_pos h46])
          clear h46
          go_wp2_with fail
          go_round
          case rel => exact ⟨k + 1, c + 1, by omega, by omega, by go_num, by go_num, HS, fun j hj h => by
            rcases Nat.lt_or_ge j k with h' | h'
            · exact HJ.out j hj h'
            · obtain rfl : j = k := by omega
              exact HK.out⟩
          case measure => simp [intOf]; omega
        · have HB := Lib.hid (numR_bad hlt (fun h => by
            rcases h with ⟨_, a, b⟩ | h
            · exact hin ⟨a, b⟩
            · rw [HD.out] at h; cases h))
          clear h46
          by_cases h0 : 0 < k
          · have h1 : ¬ (k : Int) < (s.size : Int) - 1 := by omega
            clear hin
            go_wp2_with fail
            refine (rdigit_any s[k] _).mono ?_
            rintro e w' ⟨rfl, rfl⟩
            rw [HD.out]
            go_wp2_with fail
            go_ret
            exact ⟨ret_bool HB.out.symm, rfl⟩
          · clear hin
            go_wp2_with fail
            refine (rdigit_any s[k] _).mono ?_
            rintro e w' ⟨rfl, rfl⟩
            rw [HD.out]
            go_wp2_with fail
            go_ret
            exact ⟨ret_bool HB.out.symm, rfl⟩
      · have hq : ((s[k].toNat : Int) == 46) = false := by
          rw [beq_eq_false_iff_ne]; intro e; apply h46; exact UInt8.toNat_inj.1 (show s[k].toNat = 46 by omega)
        cases hd : dig46 s[k]
        · have HD := Lib.hid hd
          have HB := Lib.hid (numR_bad hlt (fun h => by
            rcases h with ⟨a, _⟩ | h
            · exact h46 a
            · rw [HD.out] at h; cases h))
          clear h46 hd
          go_wp2_with fail
          refine (rdigit_any s[k] _).mono ?_
          rintro e w' ⟨rfl, rfl⟩
          rw [HD.out]
          go_wp2_with fail
          go_ret
          exact ⟨ret_bool HB.out.symm, rfl⟩
        · have HD := Lib.hid hd
          have HK := Lib.hid (show okAt s k hlt from .inr hd)
          have HS := Lib.hid (show c = (s.data.toList.take (k + 1)).count 46 by rw [HT.out, ← HC.out, if_neg h46]; rfl)
          clear h46 hd
          go_wp2_with fail
          refine (rdigit_any s[k] _).mono ?_
          rintro e w' ⟨rfl, rfl⟩
          rw [HD.out]
          go_wp2_with fail
          go_round
          case rel => exact ⟨k + 1, c, by omega, by omega, by go_num, rfl, HS, fun j hj h => by
            rcases Nat.lt_or_ge j k with h' | h'
            · exact HJ.out j hj h'
            · obtain rfl : j = k := by omega
              exact HK.out⟩
          case measure => simp [intOf]; omega
    · obtain rfl : k = s.size := by omega
      have HQ := Lib.hid (numR_ok (s := s) fun j hj => HJ.out j hj hj)
      rw [show s.data.toList.take s.size = s.data.toList by rw [← HL.out]; exact List.take_length] at HC
      rw [← HC.out] at HQ
      clear HL HC HJ
      by_cases h0 : 0 < s.size
      · by_cases h20 : s.size ≤ 20
        · rw [decide_eq_true h0, decide_eq_true h20] at HQ
          go_wp2_with fail
          go_ret
          exact ⟨ret_bool (by rw [HQ.out]; simp; omega), rfl⟩
        · rw [decide_eq_true h0, decide_eq_false h20] at HQ
          go_wp2_with fail
          go_ret
          exact ⟨ret_bool (by rw [HQ.out]; rfl), rfl⟩
      · rw [decide_eq_false h0] at HQ
        go_wp2_with fail
        go_ret
        exact ⟨ret_bool (by rw [HQ.out]; rfl), rfl⟩
end Go.Proofs.YthpioplpfmlgcaaGreatDoor.At
namespace Go.Proofs.YthpioplpfmlgcaaGreatDoor.At
open Go.RowKit
theorem leftL_neg (ts : List Tre) {n : Int} (h : n < 0) : leftL ts n = n := by
  cases ts with
  | nil => rw [leftL]
  | cons x r => rw [leftL, if_neg (by omega)]
theorem leftL_app : ∀ (a b : List Tre) (n : Int), leftL (a ++ b) n = leftL b (leftL a n)
  | [], b, n => by rw [List.nil_append, show leftL [] n = n by rw [leftL]]
  | x :: a, b, n => by
    rw [List.cons_append, leftL, leftL]
    split
    · exact leftL_app a b _
    · rw [leftL_neg b (by omega)]
theorem leftL_snoc {ks : List Tre} {k : Nat} {x : Tre} (h : ks[k]? = some x) (n : Int) (h0 : 0 ≤ leftL (ks.take k) n) : leftL (ks.take (k + 1)) n = leftT x (leftL (ks.take k) n) := by
  rw [List.take_add_one, h, Option.toList, leftL_app, leftL, if_pos h0, leftL]
theorem leftL_stop (ks : List Tre) (k : Nat) (n : Int) (h0 : leftL (ks.take k) n < 0) : leftL ks n = leftL (ks.take k) n := by
  conv => lhs; rw [← List.take_append_drop k ks]
  rw [leftL_app, leftL_neg _ h0]
mutual
theorem leftT_low : ∀ (t : Tre) (n : Int), 0 ≤ n → -1 ≤ leftT t n
  | .mk k s c ks, n, h => by rw [leftT]; exact leftL_low ks (n - 1) (by omega)
theorem leftL_low : ∀ (ts : List Tre) (n : Int), -1 ≤ n → -1 ≤ leftL ts n
  | [], n, h => by rw [leftL]; exact h
  | t :: ts, n, h => by
    rw [leftL]
    split
    · rename_i h0; exact leftL_low ts _ (leftT_low t n h0)
    · exact h
end
theorem few_iff (t : Tre) (n : Nat) : (0 ≤ leftT t n) ↔ countT t ≤ n := by
  constructor
  · intro h
    have := (leftT_le t n).2.1 h
    omega
  · have key : ∀ m, (∀ (t : Tre) (n : Int), countT t < m → (countT t : Int) ≤ n → leftT t n = n - countT t) := by
      intro m
      induction m with
      | zero => intro t n h; omega
      | succ m ih =>
        intro t n h hn
        obtain ⟨k, s, c, ks⟩ := t
        rw [leftT, countT] at *
        have go : ∀ (ts : List Tre) (n : Int), countL ts < m → (countL ts : Int) ≤ n → leftL ts n = n - countL ts := by
          intro ts
          induction ts with
          | nil => intro n _ _; rw [leftL, countL]; simp
          | cons x r ihr =>
            intro n h1 h2
            rw [countL] at h1 h2
            rw [leftL, countL, if_pos (by omega), ih x n (by omega) (by omega), ihr _ (by omega) (by omega)]
            omega
        rw [go ks (n - 1) (by omega) (by omega)]
        omega
    intro h
    rw [key (countT t + 1) t n (by omega) (by omega)]
    omega
set_option maxRecDepth 100000 in
set_option maxHeartbeats 800000 in
theorem left_any : ∀ (m : Nat) (t : Tre) (c : Array Value) (n : Int) (w : World), countT t < m → NodAt w t c → 0 ≤ n → n ≤ 1000000 → Calls Tryz.prog 40 #[.agg c, .int .i64 n] w fun e w' => e = .returned (.int .i64 (leftT t n)) ∧ Below w.heap.size w w' := by
  intro m
  induction m with
  | zero => intro t c n w h; omega
  | succ m ih =>
    intro t c n w hm hN hn0 hn1
    have IH := Lib.hid ih
    clear ih
    obtain ⟨k, s, cols, ks⟩ := t
    obtain ⟨A2, cap2, rfl, hs, hl, hc, hk⟩ := hN.form
    dsimp only [Tre.kind, Tre.text, Tre.cols, Tre.kids] at hs hl hc hk ⊢
    have HK := Lib.hid hk
    have HM := Lib.hid hm
    have HQ := Lib.hid (show leftT (.mk k s cols ks) n = leftL ks (n - 1) by rw [leftT])
    clear hk hN hm
    go_enter Tryz.func40, Tryz.ntmps40
    go_wp2_with fail
    have K0 := Lib.hid (Blk.new w 25 #[.int .i64 k, .string s, .int .i64 cols, .slice A2 ks.length cap2])
    have H0 := Lib.hid (bel_alloc w (.cells #[.int .i64 k, .string s, .int .i64 cols, .slice A2 ks.length cap2] 25))
    have HK := Lib.hid (HK.out.keep H0.out)
    generalize w.alloc (.cells #[.int .i64 k, .string s, .int .i64 cols, .slice A2 ks.length cap2] 25) = w1 at *
    go_loopw [1, 5] (fun v i wr => ∃ (j : Nat), j ≤ ks.length ∧ i = .int .i64 j ∧ v = .int .i64 (leftL (ks.take j) (n - 1)) ∧ Hid (Blk wr w.heap.size 25 #[.int .i64 k, .string s, .int .i64 cols, .slice A2 ks.length cap2]) ∧ Hid (KidsAt wr A2 ks) ∧ Hid (Below w.heap.size w wr)) (fun _ i _ => ks.length - (intOf i).toNat)
    case atStart => exact ⟨0, by omega, rfl, by rw [List.take_zero, leftL], K0, HK, H0⟩
    case round =>
      clear K0 HK H0
      obtain ⟨j, hj, rfl, rfl, K0, HK, H0⟩ := hrel
      have c0 := K0.out.cell 3
      have hlow := leftL_low (ks.take j) (n - 1) (by omega)
      have hup := (leftL_le (ks.take j) (n - 1)).1
      by_cases hlt : j < ks.length
      · by_cases hz : 0 ≤ leftL (ks.take j) (n - 1)
        · obtain ⟨x, hx⟩ : ∃ x, ks[j]? = some x := ⟨_, List.getElem?_eq_getElem hlt⟩
          obtain ⟨ad, A3, cap3, rfl, hadl, hs3, hl3, hc3, hk3, hN3, d0, d1, d2, d3⟩ := HK.out.at_ hx
          have HN3 := Lib.hid hN3
          have HS := Lib.hid (leftL_snoc hx (n - 1) hz)
          have HCU : Hid (countT x < m) := by
            have h1 := HM.out
            have h2 := count_kid hx
            show _ < _
            rw [countT] at h1
            omega
          clear hx hk3 hN3
          generalize leftL (ks.take j) (n - 1) = r at *
          go_wp2_with fail
          refine (IH.out x _ r wr HCU.out HN3.out hz (by omega)).mono ?_
          rintro e w2 ⟨rfl, hb⟩
          have K0 := Lib.hid (keep hb K0.out)
          have HK := Lib.hid (HK.out.keep hb)
          have H0 := Lib.hid (H0.out.trans (hb.mono H0.out.size))
          clear hb c0 d0 d1 d2 d3
          go_wp2_with fail
          go_roundw
          case rel => exact ⟨j + 1, by omega, by go_num, by rw [HS.out], K0, HK, H0⟩
          case measure => simp [intOf]; omega
        · have HS := Lib.hid (leftL_stop ks j (n - 1) (by omega))
          generalize leftL (ks.take j) (n - 1) = r at *
          go_wp2_with fail
          go_ret
          exact ⟨ret_int (by rw [HQ.out, HS.out]), H0.out⟩
      · obtain rfl : j = ks.length := by omega
        have HT := Lib.hid (show ks.take ks.length = ks from List.take_length)
        rw [HT.out] at *
        generalize leftL ks (n - 1) = r at *
        go_wp2_with fail
        go_ret
        exact ⟨ret_int (by rw [HQ.out]), H0.out⟩
end Go.Proofs.YthpioplpfmlgcaaGreatDoor.At
