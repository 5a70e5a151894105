/- Find and Named, of the program and of the reference: the index of the first rule with a kind and a symbol, or a name. -/
import Derived.Test.YtgkfmeagpmjcoaaDoorGS3
namespace Go.Proofs.YtgkfmeagpmjcoaaDoor
open Go.RowKit
/-- the first rule with a property: its index, or 0 -/
def idxV : Option Nat → Int
  | some i => i
  | none => 0
def symP (kind : Int) (s : ByteArray) (r : Rul) : Bool := (r.kind == kind) && (r.sym.toList == s.toList)
def namP (kind : Int) (s : ByteArray) (r : Rul) : Bool := (r.kind == kind) && (r.nam.toList == s.toList)
theorem find_hit {p : Rul → Bool} {rs : List Rul} {k : Nat} {x : Rul} (hx : rs[k]? = some x) (hp : p x = true) (hJ : ∀ (j : Nat) y, rs[j]? = some y → j < k → p y = false) : rs.findIdx? p = some k := by
  obtain ⟨hlt, rfl⟩ := List.getElem?_eq_some_iff.1 hx
  rw [List.findIdx?_eq_some_iff_getElem]
  exact ⟨hlt, hp, fun j hj => by rw [hJ j _ (List.getElem?_eq_getElem (by omega)) hj]; simp⟩
theorem find_miss {p : Rul → Bool} {rs : List Rul} (hJ : ∀ (j : Nat) y, rs[j]? = some y → p y = false) : rs.findIdx? p = none := by
  rw [List.findIdx?_eq_none_iff]
  intro y hy
  obtain ⟨j, hj⟩ := List.mem_iff_getElem?.1 hy
  exact hJ j y hj
theorem pair_eq {a b : Int} {p q : Bool} (h : a = b) (h' : p = q) : Ending.returned (.tuple #[.int .i64 a, .bool p]) = .returned (.tuple #[.int .i64 b, .bool q]) := by rw [h, h']
set_option maxRecDepth 100000 in
set_option maxHeartbeats 800000 in
theorem find_any (A : Option Addr) (cap : Nat) (rs : List Rul) (kind : Int) (s : ByteArray) (w : World) (hR : RulsAt w A rs) (hn : rs.length ≤ 1000000) : Calls Tryd.prog 16 #[.slice A rs.length cap, .int .i64 kind, .string s] w fun e w' => e = .returned (.tuple #[.int .i64 (idxV (rs.findIdx? (symP kind s))), .bool (rs.findIdx? (symP kind s)).isSome]) ∧ Below w.heap.size w w' := by
  have HR := Lib.hid hR
  clear hR
  go_enter Tryd.func16, Tryd.ntmps16
  go_wp2_with fail
  go_loopw [12] (fun i wr => ∃ k : Nat, k ≤ rs.length ∧ i = .int .i64 k ∧ Hid (∀ (j : Nat) x, rs[j]? = some x → j < k → symP kind s x = false) ∧ Hid (Below w.heap.size w wr)) (fun i _ => rs.length - (intOf i).toNat)
  case atStart => exact ⟨0, by omega, rfl, (fun j _ _ h => by omega), Below.refl _ _⟩
  case round =>
    obtain ⟨k, hk, rfl, HJ, H0⟩ := hrel
    by_cases hlt : k < rs.length
    · obtain ⟨x, hx⟩ : ∃ x, rs[k]? = some x := ⟨_, List.getElem?_eq_getElem hlt⟩
      obtain ⟨hf, ad, rfl, hadl, c0, c1, c2, c3, c4, c5⟩ := (HR.out.keep H0.out).at_ hx
      have HX := Lib.hid hx
      clear hx hf
      cases hq : (x.kind == kind)
      · have HP : Hid (symP kind s x = false) := by show symP kind s x = false; unfold symP; rw [hq]; rfl
        go_wp2_with fail
        go_roundw
        case rel => exact ⟨k + 1, by omega, by go_num, (fun j y hj h => by
          rcases Nat.lt_or_ge j k with h' | h'
          · exact HJ.out j y hj h'
          · obtain rfl : j = k := by omega
            rw [HX.out] at hj
            obtain rfl := Option.some.inj hj
            exact HP.out), H0.out.alloc H0.out.size _⟩
        case measure => simp [intOf]; omega
      · cases hs : (x.sym.toList == s.toList)
        · have HP : Hid (symP kind s x = false) := by show symP kind s x = false; unfold symP; rw [hq, hs]; rfl
          go_wp2_with fail
          go_roundw
          case rel => exact ⟨k + 1, by omega, by go_num, (fun j y hj h => by
            rcases Nat.lt_or_ge j k with h' | h'
            · exact HJ.out j y hj h'
            · obtain rfl : j = k := by omega
              rw [HX.out] at hj
              obtain rfl := Option.some.inj hj
              exact HP.out), H0.out.alloc H0.out.size _⟩
          case measure => simp [intOf]; omega
        · have HP := Lib.hid (find_hit HX.out (show symP kind s x = true by unfold symP; rw [hq, hs]; rfl) HJ.out)
          go_wp2_with fail
          go_ret2
          exact ⟨pair_eq (by rw [HP.out]; rfl) (by rw [HP.out]; rfl), H0.out.alloc H0.out.size _⟩
    · have HP := Lib.hid (find_miss (p := symP kind s) fun j y hj => HJ.out j y hj (by
        have := (List.getElem?_eq_some_iff.1 hj).1; omega))
      go_wp2_with fail
      go_ret2
      exact ⟨pair_eq (by rw [HP.out]; rfl) (by rw [HP.out]; rfl), H0.out⟩
set_option maxRecDepth 100000 in
set_option maxHeartbeats 800000 in
theorem rfind_any (A : Option Addr) (cap : Nat) (rs : List Rul) (kind : Int) (s : ByteArray) (w : World) (hR : RulsAt w A rs) (hn : rs.length ≤ 1000000) : Calls Tryd.prog 17 #[.slice A rs.length cap, .int .i64 kind, .string s] w fun e w' => e = .returned (.tuple #[.int .i64 (idxV (rs.findIdx? (symP kind s))), .bool (rs.findIdx? (symP kind s)).isSome]) ∧ Below w.heap.size w w' := by
  have HR := Lib.hid hR
  clear hR
  go_enter Tryd.func17, Tryd.ntmps17
  go_wp2_with fail
  go_loopw [8] (fun i wr => ∃ k : Nat, k ≤ rs.length ∧ i = .int .i64 k ∧ Hid (∀ (j : Nat) x, rs[j]? = some x → j < k → symP kind s x = false) ∧ Hid (Below w.heap.size w wr)) (fun i _ => rs.length - (intOf i).toNat)
  case atStart => exact ⟨0, by omega, rfl, (fun j _ _ h => by omega), Below.refl _ _⟩
  case round =>
    obtain ⟨k, hk, rfl, HJ, H0⟩ := hrel
    by_cases hlt : k < rs.length
    · obtain ⟨x, hx⟩ : ∃ x, rs[k]? = some x := ⟨_, List.getElem?_eq_getElem hlt⟩
      obtain ⟨hf, ad, rfl, hadl, c0, c1, c2, c3, c4, c5⟩ := (HR.out.keep H0.out).at_ hx
      have HX := Lib.hid hx
      clear hx hf
      cases hq : (x.kind == kind)
      · have HP : Hid (symP kind s x = false) := by show symP kind s x = false; unfold symP; rw [hq]; rfl
        go_wp2_with fail
        go_roundw
        case rel => exact ⟨k + 1, by omega, by go_num, (fun j y hj h => by
          rcases Nat.lt_or_ge j k with h' | h'
          · exact HJ.out j y hj h'
          · obtain rfl : j = k := by omega
            rw [HX.out] at hj
            obtain rfl := Option.some.inj hj
            exact HP.out), H0.out⟩
        case measure => simp [intOf]; omega
      · cases hs : (x.sym.toList == s.toList)
        · have HP : Hid (symP kind s x = false) := by show symP kind s x = false; unfold symP; rw [hq, hs]; rfl
          go_wp2_with fail
          go_roundw
          case rel => exact ⟨k + 1, by omega, by go_num, (fun j y hj h => by
            rcases Nat.lt_or_ge j k with h' | h'
            · exact HJ.out j y hj h'
            · obtain rfl : j = k := by omega
              rw [HX.out] at hj
              obtain rfl := Option.some.inj hj
              exact HP.out), H0.out⟩
          case measure => simp [intOf]; omega
        · have HP := Lib.hid (find_hit HX.out (show symP kind s x = true by unfold symP; rw [hq, hs]; rfl) HJ.out)
          go_wp2_with fail
          go_ret2
          exact ⟨pair_eq (by rw [HP.out]; rfl) (by rw [HP.out]; rfl), H0.out⟩
    · have HP := Lib.hid (find_miss (p := symP kind s) fun j y hj => HJ.out j y hj (by
        have := (List.getElem?_eq_some_iff.1 hj).1; omega))
      go_wp2_with fail
      go_ret2
      exact ⟨pair_eq (by rw [HP.out]; rfl) (by rw [HP.out]; rfl), H0.out⟩
set_option maxRecDepth 100000 in
set_option maxHeartbeats 800000 in
theorem fnamed_any (A : Option Addr) (cap : Nat) (rs : List Rul) (kind : Int) (s : ByteArray) (w : World) (hR : RulsAt w A rs) (hn : rs.length ≤ 1000000) : Calls Tryd.prog 18 #[.slice A rs.length cap, .int .i64 kind, .string s] w fun e w' => e = .returned (.tuple #[.int .i64 (idxV (rs.findIdx? (namP kind s))), .bool (rs.findIdx? (namP kind s)).isSome]) ∧ Below w.heap.size w w' := by
  have HR := Lib.hid hR
  clear hR
  go_enter Tryd.func18, Tryd.ntmps18
  go_wp2_with fail
  go_loopw [12] (fun i wr => ∃ k : Nat, k ≤ rs.length ∧ i = .int .i64 k ∧ Hid (∀ (j : Nat) x, rs[j]? = some x → j < k → namP kind s x = false) ∧ Hid (Below w.heap.size w wr)) (fun i _ => rs.length - (intOf i).toNat)
  case atStart => exact ⟨0, by omega, rfl, (fun j _ _ h => by omega), Below.refl _ _⟩
  case round =>
    obtain ⟨k, hk, rfl, HJ, H0⟩ := hrel
    by_cases hlt : k < rs.length
    · obtain ⟨x, hx⟩ : ∃ x, rs[k]? = some x := ⟨_, List.getElem?_eq_getElem hlt⟩
      obtain ⟨hf, ad, rfl, hadl, c0, c1, c2, c3, c4, c5⟩ := (HR.out.keep H0.out).at_ hx
      have HX := Lib.hid hx
      clear hx hf
      cases hq : (x.kind == kind)
      · have HP : Hid (namP kind s x = false) := by show namP kind s x = false; unfold namP; rw [hq]; rfl
        go_wp2_with fail
        go_roundw
        case rel => exact ⟨k + 1, by omega, by go_num, (fun j y hj h => by
          rcases Nat.lt_or_ge j k with h' | h'
          · exact HJ.out j y hj h'
          · obtain rfl : j = k := by omega
            rw [HX.out] at hj
            obtain rfl := Option.some.inj hj
            exact HP.out), H0.out.alloc H0.out.size _⟩
        case measure => simp [intOf]; omega
      · cases hs : (x.nam.toList == s.toList)
        · have HP : Hid (namP kind s x = false) := by show namP kind s x = false; unfold namP; rw [hq, hs]; rfl
          go_wp2_with fail
          go_roundw
          case rel => exact ⟨k + 1, by omega, by go_num, (fun j y hj h => by
            rcases Nat.lt_or_ge j k with h' | h'
            · exact HJ.out j y hj h'
            · obtain rfl : j = k := by omega
              rw [HX.out] at hj
              obtain rfl := Option.some.inj hj
              exact HP.out), H0.out.alloc H0.out.size _⟩
          case measure => simp [intOf]; omega
        · have HP := Lib.hid (find_hit HX.out (show namP kind s x = true by unfold namP; rw [hq, hs]; rfl) HJ.out)
          go_wp2_with fail
          go_ret2
          exact ⟨pair_eq (by rw [HP.out]; rfl) (by rw [HP.out]; rfl), H0.out.alloc H0.out.size _⟩
    · have HP := Lib.hid (find_miss (p := namP kind s) fun j y hj => HJ.out j y hj (by
        have := (List.getElem?_eq_some_iff.1 hj).1; omega))
      go_wp2_with fail
      go_ret2
      exact ⟨pair_eq (by rw [HP.out]; rfl) (by rw [HP.out]; rfl), H0.out⟩
set_option maxRecDepth 100000 in
set_option maxHeartbeats 800000 in
theorem rfnamed_any (A : Option Addr) (cap : Nat) (rs : List Rul) (kind : Int) (s : ByteArray) (w : World) (hR : RulsAt w A rs) (hn : rs.length ≤ 1000000) : Calls Tryd.prog 19 #[.slice A rs.length cap, .int .i64 kind, .string s] w fun e w' => e = .returned (.tuple #[.int .i64 (idxV (rs.findIdx? (namP kind s))), .bool (rs.findIdx? (namP kind s)).isSome]) ∧ Below w.heap.size w w' := by
  have HR := Lib.hid hR
  clear hR
  go_enter Tryd.func19, Tryd.ntmps19
  go_wp2_with fail
  go_loopw [8] (fun i wr => ∃ k : Nat, k ≤ rs.length ∧ i = .int .i64 k ∧ Hid (∀ (j : Nat) x, rs[j]? = some x → j < k → namP kind s x = false) ∧ Hid (Below w.heap.size w wr)) (fun i _ => rs.length - (intOf i).toNat)
  case atStart => exact ⟨0, by omega, rfl, (fun j _ _ h => by omega), Below.refl _ _⟩
  case round =>
    obtain ⟨k, hk, rfl, HJ, H0⟩ := hrel
    by_cases hlt : k < rs.length
    · obtain ⟨x, hx⟩ : ∃ x, rs[k]? = some x := ⟨_, List.getElem?_eq_getElem hlt⟩
      obtain ⟨hf, ad, rfl, hadl, c0, c1, c2, c3, c4, c5⟩ := (HR.out.keep H0.out).at_ hx
      have HX := Lib.hid hx
      clear hx hf
      cases hq : (x.kind == kind)
      · have HP : Hid (namP kind s x = false) := by show namP kind s x = false; unfold namP; rw [hq]; rfl
        go_wp2_with fail
        go_roundw
        case rel => exact ⟨k + 1, by omega, by go_num, (fun j y hj h => by
          rcases Nat.lt_or_ge j k with h' | h'
          · exact HJ.out j y hj h'
          · obtain rfl : j = k := by omega
            rw [HX.out] at hj
            obtain rfl := Option.some.inj hj
            exact HP.out), H0.out⟩
        case measure => simp [intOf]; omega
      · cases hs : (x.nam.toList == s.toList)
        · have HP : Hid (namP kind s x = false) := by show namP kind s x = false; unfold namP; rw [hq, hs]; rfl
          go_wp2_with fail
          go_roundw
          case rel => exact ⟨k + 1, by omega, by go_num, (fun j y hj h => by
            rcases Nat.lt_or_ge j k with h' | h'
            · exact HJ.out j y hj h'
            · obtain rfl : j = k := by omega
              rw [HX.out] at hj
              obtain rfl := Option.some.inj hj
              exact HP.out), H0.out⟩
          case measure => simp [intOf]; omega
        · have HP := Lib.hid (find_hit HX.out (show namP kind s x = true by unfold namP; rw [hq, hs]; rfl) HJ.out)
          go_wp2_with fail
          go_ret2
          exact ⟨pair_eq (by rw [HP.out]; rfl) (by rw [HP.out]; rfl), H0.out⟩
    · have HP := Lib.hid (find_miss (p := namP kind s) fun j y hj => HJ.out j y hj (by
        have := (List.getElem?_eq_some_iff.1 hj).1; omega))
      go_wp2_with fail
      go_ret2
      exact ⟨pair_eq (by rw [HP.out]; rfl) (by rw [HP.out]; rfl), H0.out⟩
end Go.Proofs.YtgkfmeagpmjcoaaDoor
