/- The first rule of a kind with a symbol: the program's closure. -/
import Derived.Test.YtmhddlhlniajpaaAP
namespace Go.Proofs.Ytmhddlhlniajpaa
open Go.RowKit
def fitB (kind : Int) (s : List UInt8) (r : Rul) : Bool := decide (r.kind = kind) && r.sym.toList == s
theorem find_hit {rs : List Rul} {kind : Int} {s : List UInt8} {k : Nat} {x : Rul} (hx : rs[k]? = some x) (hq : fitB kind s x = true) (h : ∀ (j : Nat) y, rs[j]? = some y → j < k → fitB kind s y = false) : findI rs kind s = k := by
  have hk := (List.getElem?_eq_some_iff.1 hx).1
  have : findR rs kind s = some k := by
    unfold findR
    rw [List.findIdx?_eq_some_iff_getElem]
    refine ⟨hk, ?_, fun j hj => ?_⟩
    · have e : rs[k] = x := by rw [List.getElem?_eq_getElem hk] at hx; exact Option.some.inj hx
      rw [e]; exact hq
    · have := h j rs[j] (List.getElem?_eq_getElem (by omega)) hj
      unfold fitB at this
      rw [this]
      simp
  unfold findI
  rw [this]
theorem find_miss {rs : List Rul} {kind : Int} {s : List UInt8} (h : ∀ (j : Nat) y, rs[j]? = some y → fitB kind s y = false) : findI rs kind s = -1 := by
  have : findR rs kind s = none := by
    unfold findR
    rw [List.findIdx?_eq_none_iff]
    intro y hy
    obtain ⟨j, hj⟩ := List.mem_iff_getElem?.1 hy
    exact h j y hj
  unfold findI
  rw [this]
set_option maxRecDepth 100000 in
set_option maxHeartbeats 800000 in
theorem find_any (g : Nat) (A : Option Addr) (cap : Nat) (rs : List Rul) (kind : Int) (s : ByteArray) (w : World) (hB : Blk w g 22 #[.slice A rs.length cap]) (hR : RulsAt w A rs) (hn : rs.length ≤ 1000000) : Calls Try.prog 71 #[.int .i64 kind, .string s, .pointer (some ⟨g, 0, none⟩)] w fun e w' => e = .returned (.int .i64 (findI rs kind s.toList)) ∧ Below w.heap.size w w' := by
  have HR := Lib.hid hR
  have HB := Lib.hid hB
  have c0 := hB.cell 0
  clear hB hR
  go_enter Try.func71, Try.ntmps71
  go_wp2_with fail
  clear c0
  go_loopw [10] (fun i wr => ∃ k : Nat, k ≤ rs.length ∧ i = .int .i64 k ∧ Hid (∀ (j : Nat) x, rs[j]? = some x → j < k → fitB kind s.toList x = false) ∧ Hid (RulsAt wr A rs) ∧ Hid (Below w.heap.size w wr)) (fun i _ => rs.length - (intOf i).toNat)
  case atStart => exact ⟨0, by omega, rfl, (fun j _ _ h => by omega), HR, Below.refl _ _⟩
  case round =>
    clear HR
    obtain ⟨k, hk, rfl, HJ, HR, H0⟩ := hrel
    by_cases hlt : k < rs.length
    · obtain ⟨x, hx⟩ : ∃ x, rs[k]? = some x := ⟨_, List.getElem?_eq_getElem hlt⟩
      obtain ⟨hf, ad, rfl, hadl, c0, c1, c2, c3, c4, c5⟩ := HR.out.at_ hx
      have HX := Lib.hid hx
      clear hx hf
      have NR := Lib.hid (HR.out.alloc (.cells x.c 41))
      have NB := Lib.hid (H0.out.alloc H0.out.size (.cells x.c 41))
      clear HR
      have step : Hid (fitB kind s.toList x = false → ∀ (j : Nat) y, rs[j]? = some y → j < k + 1 → fitB kind s.toList y = false) := fun hq j y hj h => by
        rcases Nat.lt_or_ge j k with h' | h'
        · exact HJ.out j y hj h'
        · obtain rfl : j = k := by omega
          rw [HX.out] at hj
          obtain rfl := Option.some.inj hj
          exact hq
      cases q1 : (x.kind == kind)
      · have HQ := Lib.hid (show fitB kind s.toList x = false by unfold fitB; rw [show decide (x.kind = kind) = (x.kind == kind) from rfl, q1]; rfl)
        go_wp2_with fail
        go_roundw
        case rel => exact ⟨k + 1, by omega, by go_num, Lib.hid (step.out HQ.out), NR, NB⟩
        case measure => simp [intOf]; omega
      · cases q2 : (x.sym.toList == s.toList)
        · have HQ := Lib.hid (show fitB kind s.toList x = false by unfold fitB; rw [q2, Bool.and_false])
          go_wp2_with fail
          go_roundw
          case rel => exact ⟨k + 1, by omega, by go_num, Lib.hid (step.out HQ.out), NR, NB⟩
          case measure => simp [intOf]; omega
        · have HQ := Lib.hid (find_hit (kind := kind) (s := s.toList) HX.out (by unfold fitB; rw [show decide (x.kind = kind) = (x.kind == kind) from rfl, q1, q2]; rfl) HJ.out)
          go_wp2_with fail
          go_ret
          exact ⟨ret_int HQ.out.symm, NB.out⟩
    · have HQ := Lib.hid (find_miss (rs := rs) (kind := kind) (s := s.toList) fun j y hj => HJ.out j y hj (by have := (List.getElem?_eq_some_iff.1 hj).1; omega))
      go_wp2_with fail
      go_ret
      exact ⟨ret_int HQ.out.symm, H0.out⟩
end Go.Proofs.Ytmhddlhlniajpaa
