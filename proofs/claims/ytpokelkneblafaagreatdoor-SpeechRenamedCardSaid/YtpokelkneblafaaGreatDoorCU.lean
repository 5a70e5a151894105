/- strings.Cut at a separator of one byte, for every string (the shelf's contract asks a bound of the string's size). -/
import Derived.Test.YtpokelkneblafaaGreatDoorShelf
import Derived.Shelf.Strings.Cut
import Derived.Lib.Hide
import Derived.Lib.IndexBytes
namespace Go.Proofs.YtpokelkneblafaaGreatDoor
open Go.Shelf Go.RowKit Go.Lib
variable {P : Program} {ρ : Ren}
set_option maxHeartbeats 2000000 in
set_option maxRecDepth 100000 in
theorem lcut_one (L : Lays.n220 P ρ) (s : ByteArray) (c : UInt8) (w : World) (hs : s.size ≤ 9223372036854775807) :
    Calls P (ρ.f 220) #[.string s, .string ⟨#[c]⟩] w fun e w' => e = .returned (.tuple #[.string ⟨(Lib.cut s.data.toList [c]).1.toArray⟩, .string ⟨(Lib.cut s.data.toList [c]).2.1.toArray⟩, .bool (Lib.cut s.data.toList [c]).2.2]) ∧ ∃ n, w' = w.drewN n := by
  rcases Lib.indexB_cases s ⟨#[c]⟩ with hix | ⟨i, hix, hroom⟩
  · obtain ⟨e1, e2, e3⟩ := Lib.cutB_miss s ⟨#[c]⟩ hix
    rw [show [c] = (⟨#[c]⟩ : ByteArray).data.toList from rfl, e1, e2, e3]
    have hix1 := Lib.hid (show Lib.indexByte s.data.toList c = _ from (Lib.index_one s.data.toList c).symm.trans hix)
    clear e1 e2 e3 hix
    have t3 := L.t3; have t4 := L.t4; have t9 := L.t9
    have a3 : ∀ w, (isAgg (ρ.t 3)).run P w = .ok false w := run_isAgg_plain L.t3 rfl; have a4 : ∀ w, (isAgg (ρ.t 4)).run P w = .ok false w := run_isAgg_plain L.t4 rfl; have a9 : ∀ w, (isAgg (ρ.t 9)).run P w = .ok false w := run_isAgg_plain L.t9 rfl
    have e219 : ∀ args w, (callFunc (ρ.f 219) args).run P w = .ok (.enter (ρ.f 219) args) w := enters_of L.f219 (by kernel_rfl) rfl
    have mixed := L.mixed; have z3 := L.z3; have v3 := L.v3; have z4 := L.z4; have v4 := L.v4; have z9 := L.z9; have v9 := L.v9
    go_enter L.f220, Body.n220_ntmps ρ
    go_wp2_with (go_at_fn (ρ.f 219); refine (Any.stringslite_Index_one { L with } _ _ _).mono ?_; rintro e w' ⟨rfl, rfl⟩; rw [hix1.out])
    go_ret3
    exact ⟨rfl, 0, rfl⟩
  · obtain ⟨e1, e2, e3⟩ := Lib.cutB_hit s ⟨#[c]⟩ i hix
    rw [show [c] = (⟨#[c]⟩ : ByteArray).data.toList from rfl, e1, e2, e3]
    have hix1 := Lib.hid (show Lib.indexByte s.data.toList c = _ from (Lib.index_one s.data.toList c).symm.trans hix)
    clear e1 e2 e3 hix
    have hsz : (⟨#[c]⟩ : ByteArray).size = 1 := rfl
    rw [hsz] at hroom
    have c1 : (0 : Int) ≤ ↑i := by omega
    have c2 : (↑i : Int) ≤ ↑s.size := by omega
    have c3 : (0 : Int) ≤ ↑i + 1 := by omega
    have c4 : (↑i + 1 : Int) ≤ ↑s.size := by omega
    clear hsz
    have t3 := L.t3; have t4 := L.t4; have t9 := L.t9
    have a3 : ∀ w, (isAgg (ρ.t 3)).run P w = .ok false w := run_isAgg_plain L.t3 rfl; have a4 : ∀ w, (isAgg (ρ.t 4)).run P w = .ok false w := run_isAgg_plain L.t4 rfl; have a9 : ∀ w, (isAgg (ρ.t 9)).run P w = .ok false w := run_isAgg_plain L.t9 rfl
    have e219 : ∀ args w, (callFunc (ρ.f 219) args).run P w = .ok (.enter (ρ.f 219) args) w := enters_of L.f219 (by kernel_rfl) rfl
    have mixed := L.mixed; have z3 := L.z3; have v3 := L.v3; have z4 := L.z4; have v4 := L.v4; have z9 := L.z9; have v9 := L.v9
    go_enter L.f220, Body.n220_ntmps ρ
    go_wp2_with (go_at_fn (ρ.f 219); refine (Any.stringslite_Index_one { L with } _ _ _).mono ?_; rintro e w' ⟨rfl, rfl⟩; rw [hix1.out])
    go_region_o
    go_wp2
    go_ret3
    exact ⟨rfl, 1, rfl⟩
theorem cut_one (L : Lays.n145 P ρ) (s : ByteArray) (c : UInt8) (w : World) (hs : s.size ≤ 9223372036854775807) :
    Calls P (ρ.f 145) #[.string s, .string ⟨#[c]⟩] w fun e w' => e = .returned (.tuple #[.string ⟨(Lib.cut s.data.toList [c]).1.toArray⟩, .string ⟨(Lib.cut s.data.toList [c]).2.1.toArray⟩, .bool (Lib.cut s.data.toList [c]).2.2]) ∧ ∃ n, w' = w.drewN n := by
  have t4 := L.t4; have t9 := L.t9; have t59 := L.t59
  have a4 : ∀ w, (isAgg (ρ.t 4)).run P w = .ok false w := run_isAgg_plain L.t4 rfl; have a9 : ∀ w, (isAgg (ρ.t 9)).run P w = .ok false w := run_isAgg_plain L.t9 rfl; have a59 : ∀ w, (isAgg (ρ.t 59)).run P w = .ok false w := run_isAgg_plain L.t59 rfl
  have e220 : ∀ args w, (callFunc (ρ.f 220) args).run P w = .ok (.enter (ρ.f 220) args) w := enters_of L.f220 (by kernel_rfl) rfl
  have mixed := L.mixed; have z4 := L.z4; have v4 := L.v4; have z9 := L.z9; have v9 := L.v9; have z59 := L.z59; have v59 := L.v59
  go_enter L.f145, Body.n145_ntmps ρ
  go_wp2_with (go_at_fn (ρ.f 220); refine (lcut_one { L with } _ _ _ hs).mono ?_; rintro e w' ⟨rfl, n, rfl⟩)
  go_ret3
  exact ⟨rfl, n, rfl⟩
end Go.Proofs.YtpokelkneblafaaGreatDoor
namespace Go.Proofs
open Go.RowKit
theorem Tryz.strings_Cut_one (s : ByteArray) (c : UInt8) (w : World) (hs : s.size ≤ 9223372036854775807) :
    Calls Tryz.prog 55 #[.string s, .string ⟨#[c]⟩] w fun e w' => e = .returned (.tuple #[.string ⟨(Lib.cut s.data.toList [c]).1.toArray⟩, .string ⟨(Lib.cut s.data.toList [c]).2.1.toArray⟩, .bool (Lib.cut s.data.toList [c]).2.2]) ∧ ∃ n, w' = w.drewN n := YtpokelkneblafaaGreatDoor.cut_one Tryz.lays145 s c w hs
end Go.Proofs
