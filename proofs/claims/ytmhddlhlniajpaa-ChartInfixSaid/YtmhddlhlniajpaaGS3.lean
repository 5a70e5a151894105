/- Valid, of the program and of the reference: whether rules are valid. -/
import Derived.Test.YtmhddlhlniajpaaGS2
import Derived.Deep.QuietTactic
import Derived.BigQuiet
import Derived.Deep.RegionWith
import Derived.Deep.RegionHeld3
import Derived.Deep.DeepCutAuto
import Derived.DataElems
import Derived.Test.YtmhddlhlniajpaaC0
namespace Go.Proofs.Ytmhddlhlniajpaa
open Go.RowKit
/-- rules in a row -/
def RulsAt (w : World) (A : Option Addr) (rs : List Rul) : Prop := ∀ (k : Nat) (r : Rul), rs[k]? = some r → r.fits ∧ ∃ ad : Addr, A = some ad ∧ ad.block < w.heap.size ∧ ∀ (j : Nat) (v : Value), r.c[j]? = some v → w.cell? (ad.add (k * 6 + j)) = some v
theorem add_block (a : Addr) (n : Nat) : (a.add n).block = a.block := by unfold Addr.add; split <;> rfl
theorem RulsAt.keep {w w' : World} {A : Option Addr} {rs : List Rul} (h : RulsAt w A rs) (hb : Below w.heap.size w w') : RulsAt w' A rs := fun k r hk => by
  obtain ⟨hf, ad, hA, hlt, hc⟩ := h k r hk
  exact ⟨hf, ad, hA, Nat.lt_of_lt_of_le hlt hb.size, fun j v hj => (hb.cell (by rw [add_block]; exact hlt)).trans (hc j v hj)⟩
theorem RulsAt.drew {w : World} {A : Option Addr} {rs : List Rul} (h : RulsAt w A rs) : RulsAt w.drew A rs := h
theorem RulsAt.alloc {w : World} {A : Option Addr} {rs : List Rul} (h : RulsAt w A rs) (o : Obj) : RulsAt (w.alloc o) A rs := h.keep (bel_alloc w o)
theorem RulsAt.take {w : World} {A : Option Addr} {rs : List Rul} (h : RulsAt w A rs) (n : Nat) : RulsAt w A (rs.take n) := fun k r hk => h k r (by
  rw [List.getElem?_take] at hk
  split at hk
  · exact hk
  · cases hk)
theorem add_cell {w : World} {a : Addr} {n j : Nat} {v : Value} (h : w.cell? (a.add (n + (j + 1))) = some v) : w.cell? ⟨(a.add n).block, (a.add n).off + (j + 1), none⟩ = some v := by
  rw [← Addr.add_add] at h
  unfold Addr.add at h ⊢
  simpa using h
/-- the six cells of a rule, as a walk spells them -/
theorem RulsAt.at_ {w : World} {A : Option Addr} {rs : List Rul} (h : RulsAt w A rs) {k : Nat} {r : Rul} (hk : rs[k]? = some r) :
    r.fits ∧ ∃ ad : Addr, A = some ad ∧ ad.block < w.heap.size ∧ w.cell? (ad.add (k * 6)) = some (.int .i64 r.kind) ∧ w.cell? ⟨(ad.add (k * 6)).block, (ad.add (k * 6)).off + 1, none⟩ = some (.string r.sym) ∧ w.cell? ⟨(ad.add (k * 6)).block, (ad.add (k * 6)).off + 2, none⟩ = some (.string r.nam) ∧ w.cell? ⟨(ad.add (k * 6)).block, (ad.add (k * 6)).off + 3, none⟩ = some (.int .i64 r.prec) ∧ w.cell? ⟨(ad.add (k * 6)).block, (ad.add (k * 6)).off + 4, none⟩ = some (.int .i64 r.left) ∧ w.cell? ⟨(ad.add (k * 6)).block, (ad.add (k * 6)).off + 5, none⟩ = some (.int .i64 r.right) := by
  obtain ⟨hf, ad, hA, hlt, hc⟩ := h k r hk
  exact ⟨hf, ad, hA, hlt, hc 0 _ rfl, add_cell (j := 0) (hc 1 _ rfl), add_cell (j := 1) (hc 2 _ rfl), add_cell (j := 2) (hc 3 _ rfl), add_cell (j := 3) (hc 4 _ rfl), add_cell (j := 4) (hc 5 _ rfl)⟩
def IdxPost (os : List Rul) (r : Rul) (w : World) (e : Ending) (w' : World) : Prop := ∃ n : Int, e = .returned (.int .i64 n) ∧ decide (0 ≤ n) = (os.any fun o => clashB o r) ∧ Below w.heap.size w w'
abbrev clo (g : Nat) : Value := .func (.func 70) #[] #[.pointer (some ⟨g, 0, none⟩)]
set_option maxRecDepth 100000 in
set_option maxHeartbeats 800000 in
theorem index_any (A : Option Addr) (cap g : Nat) (os : List Rul) (r : Rul) (w : World) (hR : RulsAt w A os) (hK : Blk w g 41 r.c) (hn : os.length ≤ 1000000) : Calls Try.prog 81 #[.slice A os.length cap, clo g] w (IdxPost os r w) := by
  have HR := Lib.hid hR
  have HK := Lib.hid hK
  clear hR hK
  go_enter Try.func81, Try.ntmps81
  go_wp2_with fail
  go_loopw [8] (fun i wr => ∃ k : Nat, k ≤ os.length ∧ i = .int .i64 k ∧ Hid (∀ (j : Nat) x, os[j]? = some x → j < k → clashB x r = false) ∧ Hid (RulsAt wr A os) ∧ Hid (Blk wr g 41 r.c) ∧ Hid (Below w.heap.size w wr)) (fun i _ => os.length - (intOf i).toNat)
  case atStart => exact ⟨0, by omega, rfl, (fun j _ _ h => by omega), HR, HK, Below.refl _ _⟩
  case round =>
    clear HR HK
    obtain ⟨k, hk, rfl, HJ, HR, HK, H0⟩ := hrel
    by_cases hlt : k < os.length
    · obtain ⟨x, hx⟩ : ∃ x, os[k]? = some x := ⟨_, List.getElem?_eq_getElem hlt⟩
      obtain ⟨hf, ad, rfl, hadl, c0, c1, c2, c3, c4, c5⟩ := HR.out.at_ hx
      have HX := Lib.hid hx
      clear hx hf
      go_wp2_with fail
      refine (rep1_any x r g _ HK.out).mono ?_
      rintro e w1 ⟨rfl, hb⟩
      have NR := Lib.hid (HR.out.keep hb)
      have NK := Lib.hid (keep hb HK.out)
      have NB := Lib.hid (H0.out.trans (hb.mono H0.out.size))
      clear hb HR HK H0 c0 c1 c2 c3 c4 c5
      cases hq : clashB x r
      · have HQ := Lib.hid hq
        clear hq
        go_wp2_with fail
        go_roundw
        case rel => exact ⟨k + 1, by omega, by go_num, (fun j y hj h => by
          rcases Nat.lt_or_ge j k with h' | h'
          · exact HJ.out j y hj h'
          · obtain rfl : j = k := by omega
            rw [HX.out] at hj
            obtain rfl := Option.some.inj hj
            exact HQ.out), NR, NK, NB⟩
        case measure => simp [intOf]; omega
      · have HQ := Lib.hid (show (os.any fun o => clashB o r) = true from List.any_eq_true.2 ⟨x, List.mem_of_getElem? HX.out, hq⟩)
        clear hq
        go_wp2_with fail
        go_ret
        exact ⟨_, rfl, by rw [HQ.out]; simp, NB.out⟩
    · have HQ := Lib.hid (show (os.any fun o => clashB o r) = false by
        rw [List.any_eq_false]
        intro x hx
        obtain ⟨j, hj⟩ := List.mem_iff_getElem?.1 hx
        have hjl : j < os.length := (List.getElem?_eq_some_iff.1 hj).1
        rw [HJ.out j x hj (by omega)]
        simp)
      go_wp2_with fail
      go_ret
      exact ⟨_, rfl, by rw [HQ.out]; rfl, H0.out⟩
set_option maxRecDepth 100000 in
set_option maxHeartbeats 400000 in
theorem contains_any (A : Option Addr) (cap g : Nat) (os : List Rul) (r : Rul) (w : World) (hR : RulsAt w A os) (hK : Blk w g 41 r.c) (hn : os.length ≤ 1000000) : Calls Try.prog 69 #[.slice A os.length cap, clo g] w fun e w' => e = .returned (.bool (os.any fun o => clashB o r)) ∧ Below w.heap.size w w' := by
  have HR := Lib.hid hR
  have HK := Lib.hid hK
  clear hR hK
  go_enter Try.func69, Try.ntmps69
  go_wp2_with fail
  refine (index_any A cap g os r _ HR.out HK.out hn).mono ?_
  rintro e w1 ⟨n, rfl, hq, hb⟩
  have HQ := Lib.hid hq
  have HB := Lib.hid hb
  clear hq hb
  go_wp2_with fail
  go_ret
  exact ⟨ret_bool HQ.out, HB.out⟩
set_option maxRecDepth 100000 in
set_option maxHeartbeats 400000 in
theorem repeated_any (A : Option Addr) (cap : Nat) (os : List Rul) (r : Rul) (w : World) (hR : RulsAt w A os) (hn : os.length ≤ 1000000) : Calls Try.prog 47 #[.slice A os.length cap, r.v] w fun e w' => e = .returned (.bool (!freshB os r)) ∧ Below w.heap.size w w' := by
  have HR := Lib.hid hR
  have HN := Lib.hid (show (!freshB os r) = (os.any fun o => clashB o r) by unfold freshB; rw [Bool.not_not])
  clear hR
  go_enter Try.func47, Try.ntmps47
  go_wp2_with fail
  refine (contains_any A cap w.heap.size os r _ (HR.out.alloc _) (Blk.new w 41 r.c) hn).mono ?_
  rintro e w1 ⟨rfl, hb⟩
  have HB := Lib.hid ((bel_alloc w _).trans (hb.mono (by simp)))
  clear hb
  rw [← HN.out]
  generalize hbe : (!freshB os r) = b
  have HBE := Lib.hid hbe
  clear hbe
  go_wp2_with fail
  go_ret
  exact ⟨ret_bool HBE.out.symm, HB.out⟩
theorem repeated_n (A : Option Addr) (n cap : Nat) (os : List Rul) (r : Rul) (w : World) (hR : RulsAt w A os) (hl : os.length = n) (hn : n ≤ 1000000) : Calls Try.prog 47 #[.slice A n cap, r.v] w fun e w' => e = .returned (.bool (!freshB os r)) ∧ Below w.heap.size w w' := by
  subst hl
  exact repeated_any A cap os r w hR hn
theorem valid_big (rs : List Rul) (h : 64 < rs.length) : validB rs = false := by unfold validB; rw [decide_eq_false (by omega)]; rfl
theorem valid_small (rs : List Rul) (h : rs.length ≤ 64) : validB rs = firstsB rs rs.length := by unfold validB; rw [decide_eq_true h]; rfl
set_option maxRecDepth 100000 in
set_option maxHeartbeats 2000000 in
theorem valid_any (A : Option Addr) (cap : Nat) (rs : List Rul) (w : World) (hR : RulsAt w A rs) (hc : rs.length ≤ cap) (_hcap : cap ≤ 9223372036854775807) : Calls Try.prog 28 #[.slice A rs.length cap] w fun e w' => e = .returned (.bool (validB rs)) ∧ Below w.heap.size w w' := by
  have HR := Lib.hid hR
  clear hR
  by_cases h64 : 64 < rs.length
  · rw [valid_big rs h64]
    go_enter Try.func28, Try.ntmps28
    go_wp2_with fail
    go_ret
    exact ⟨rfl, Below.refl _ _⟩
  · rw [valid_small rs (by omega)]
    go_enter Try.func28, Try.ntmps28
    go_wp2_with fail
    go_loopw [10] (fun i wr => ∃ k : Nat, k ≤ rs.length ∧ i = .int .i64 k ∧ Hid (firstsB rs k = true) ∧ Hid (RulsAt wr A rs) ∧ Hid (Below w.heap.size w wr)) (fun i _ => rs.length - (intOf i).toNat)
    case atStart => exact ⟨0, by omega, rfl, rfl, HR, Below.refl _ _⟩
    case round =>
      clear HR
      obtain ⟨k, hk, rfl, HV, HR, H0⟩ := hrel
      by_cases hlt : k < rs.length
      · obtain ⟨x, hx⟩ : ∃ x, rs[k]? = some x := ⟨_, List.getElem?_eq_getElem hlt⟩
        obtain ⟨hf, ad, rfl, hadl, c0, c1, c2, c3, c4, c5⟩ := HR.out.at_ hx
        have HX := Lib.hid (firsts_succ hx)
        have HF := Lib.hid hf
        have HZ := Lib.hid (@firsts_false rs (k + 1) rs.length)
        have HT := Lib.hid (HR.out.take k)
        have HTL := Lib.hid (show (rs.take k).length = k by rw [List.length_take]; omega)
        rw [HV.out, Bool.true_and] at HX
        clear hx hf
        go_upto_region 6 with (fail)
        have K0 := Lib.hid (Blk.new wr 41 x.c)
        have N0 := Lib.hid (HR.out.alloc (.cells x.c 41))
        have NT := Lib.hid (HT.out.alloc (.cells x.c 41))
        have NB := Lib.hid (H0.out.alloc H0.out.size (.cells x.c 41))
        clear HR HT H0 c0 c1 c2 c3 c4 c5
        generalize wr.alloc (.cells #[.int .i64 x.kind, .string x.sym, .string x.nam, .int .i64 x.prec, .int .i64 x.left, .int .i64 x.right] 41) = w2 at *
        generalize wr.heap.size = g at *
        have c0 := fun i => K0.out.cell i
        have l0 := K0.out.lt
        cases ho : ownB x
        · have HOW := Lib.hid ho
          rw [ho, Bool.false_and] at HX
          clear ho
          go_cut [24] (fun b wc => b = .bool true ∧ Hid (RulsAt wc (some ad) rs) ∧ Hid (Below w.heap.size w wc))
          case first =>
            refine region_list (by kernel_rfl) ⟨#[.slice (some ad) rs.length cap, undef, u2, .int .i64 k, .pointer (some ⟨g, 0, none⟩), .slice (some ad) rs.length cap, .int .i64 rs.length, .bool (decide (64 < (rs.length : Int))), .slice (some ad) rs.length cap, .int .i64 rs.length, .int .i64 k, .bool true, .int .i64 k, .pointer (some (ad.add (k * 6))), x.v, x.v, .bool false, .bool true, .bool true, undef, undef, undef, undef, undef, .bool true, u25], []⟩ [x.v, .bool false, .bool true, .bool true, undef, undef, undef, undef, undef, .bool true] [true, true, true, true, false, false, false, false, false, true] (fun wq => Hid (Blk wq g 41 x.c) ∧ Hid (RulsAt wq (some ad) rs) ∧ Hid (Below w.heap.size w wq)) (by kernel_rfl) (by kernel_rfl) (by kernel_rfl) ⟨K0.out.drew, N0.out.drew, below_drew NB.out⟩ ?_ ?_
            · refine ⟨fun wq hI => ?_, fun wq hI => ?_, fun wq hI => ?_, fun wq hI => ?_, rfl, rfl, rfl, rfl, rfl, fun wq hI => ?_, trivial⟩
              · obtain ⟨J0, J1, J2⟩ := hI
                have cJ := fun i => J0.out.cell i
                exact Gives.value (v := x.v) (w' := wq) (by simp [execOp, Act.eval, go_sem, cJ]) ⟨rfl, J0, J1, J2⟩
              · obtain ⟨J0, J1, J2⟩ := hI
                refine Gives.call (f := 46) (args := #[x.v]) (w' := wq) (by kernel_rfl) ((own_any x _ HF.out).mono ?_)
                rintro e wa ⟨rfl, hb⟩
                exact ⟨_, rfl, by rw [HOW.out], keep hb J0.out, J1.out.keep hb, J2.out.trans (hb.mono J2.out.size)⟩
              · exact Gives.value (v := .bool true) (w' := wq) (by kernel_rfl) ⟨rfl, hI⟩
              · exact Gives.value (v := .bool true) (w' := wq) (by kernel_rfl) ⟨rfl, hI⟩
              · exact Gives.value (v := .bool true) (w' := wq) (by kernel_rfl) ⟨rfl, hI⟩
            · intro wq hI
              go_wp2_with fail
              go_meet
              exact ⟨rfl, hI.2.1, hI.2.2⟩
          case rest =>
            clear K0 NT N0 NB c0 l0
            obtain ⟨rfl, N0, NB⟩ := hcut
            go_wp2_with fail
            go_ret
            exact ⟨ret_bool (HZ.out HX.out (by omega)).symm, NB.out⟩
        · have HOW := Lib.hid ho
          rw [ho, Bool.true_and] at HX
          clear ho
          cases hfr : freshB (rs.take k) x
          · rw [hfr] at HX
            have HFR := Lib.hid hfr
            clear hfr
            go_cut [24] (fun b wc => b = .bool true ∧ Hid (RulsAt wc (some ad) rs) ∧ Hid (Below w.heap.size w wc))
            case first =>
              go_region_with (first | (go_at_call 46; refine (own_any x _ HF.out).mono ?_; rintro e wa ⟨rfl, hb5⟩; have MK := Lib.hid (keep hb5 K0.out.drew); have MR := Lib.hid (N0.out.drew.keep hb5); have MT := Lib.hid (NT.out.drew.keep hb5); have MB := Lib.hid ((below_drew NB.out).trans (hb5.mono NB.out.size)); clear hb5; have cM := fun i => MK.out.cell i; have lM := MK.out.lt; rw [HOW.out]) | (go_at_call 47; refine (repeated_n (some ad) k cap (rs.take k) x _ MT.out HTL.out (by omega)).mono ?_; rintro e wb ⟨rfl, hb6⟩; have LR := Lib.hid (MR.out.keep hb6); have LB := Lib.hid (MB.out.trans (hb6.mono MB.out.size)); clear hb6; rw [HFR.out]))
              all_goals (go_wp2_with fail; go_meet; exact ⟨rfl, LR, LB⟩)
            case rest =>
              clear K0 NT N0 NB c0 l0
              obtain ⟨rfl, N0, NB⟩ := hcut
              go_wp2_with fail
              go_ret
              exact ⟨ret_bool (HZ.out HX.out (by omega)).symm, NB.out⟩
          · rw [hfr] at HX
            have HFR := Lib.hid hfr
            clear hfr
            go_cut [24] (fun b wc => b = .bool false ∧ Hid (RulsAt wc (some ad) rs) ∧ Hid (Below w.heap.size w wc))
            case first =>
              go_region_with (first | (go_at_call 46; refine (own_any x _ HF.out).mono ?_; rintro e wa ⟨rfl, hb5⟩; have MK := Lib.hid (keep hb5 K0.out.drew); have MR := Lib.hid (N0.out.drew.keep hb5); have MT := Lib.hid (NT.out.drew.keep hb5); have MB := Lib.hid ((below_drew NB.out).trans (hb5.mono NB.out.size)); clear hb5; have cM := fun i => MK.out.cell i; have lM := MK.out.lt; rw [HOW.out]) | (go_at_call 47; refine (repeated_n (some ad) k cap (rs.take k) x _ MT.out HTL.out (by omega)).mono ?_; rintro e wb ⟨rfl, hb6⟩; have LR := Lib.hid (MR.out.keep hb6); have LB := Lib.hid (MB.out.trans (hb6.mono MB.out.size)); clear hb6; rw [HFR.out]))
              all_goals (go_wp2_with fail; go_meet; exact ⟨rfl, LR, LB⟩)
            case rest =>
              clear K0 NT N0 NB c0 l0
              obtain ⟨rfl, N0, NB⟩ := hcut
              go_wp2_with fail
              go_roundw
              case rel => exact ⟨k + 1, by omega, by go_num, HX.out, N0, NB⟩
              case measure => simp [intOf]; omega
      · obtain rfl : k = rs.length := by omega
        go_wp2_with fail
        go_ret
        exact ⟨ret_bool HV.out.symm, H0.out⟩
theorem clash_comm (o r : Rul) : clashB o r = clashB r o := by
  unfold clashB
  rw [show decide (o.kind = r.kind) = decide (r.kind = o.kind) from decide_eq_decide.2 ⟨Eq.symm, Eq.symm⟩, Bool.beq_comm (a := o.sym.toList), Bool.beq_comm (a := o.nam.toList)]
theorem fresh_false {os : List Rul} {r x : Rul} {j : Nat} (hj : os[j]? = some x) (h : clashB r x = true) : freshB os r = false := by
  unfold freshB
  rw [Bool.not_eq_false', List.any_eq_true]
  exact ⟨x, List.mem_of_getElem? hj, by rw [clash_comm]; exact h⟩
theorem fresh_true {os : List Rul} {r : Rul} (h : ∀ (j : Nat) x, os[j]? = some x → clashB r x = false) : freshB os r = true := by
  unfold freshB
  rw [Bool.not_eq_true', List.any_eq_false]
  intro x hx
  obtain ⟨j, hj⟩ := List.mem_iff_getElem?.1 hx
  rw [clash_comm, h j x hj]
  simp
theorem valid_def (rs : List Rul) : validB rs = (firstsB rs rs.length && decide (rs.length ≤ 64)) := by unfold validB; rw [Bool.and_comm]
set_option maxRecDepth 100000 in
set_option maxHeartbeats 2000000 in
theorem rvalid_any (A : Option Addr) (cap : Nat) (rs : List Rul) (w : World) (hR : RulsAt w A rs) (hn : rs.length ≤ 1000000) : Calls Try.prog 25 #[.slice A rs.length cap] w fun e w' => e = .returned (.bool (validB rs)) ∧ Below w.heap.size w w' := by
  have HR := Lib.hid hR
  have HVD := Lib.hid (valid_def rs)
  clear hR
  go_enter Try.func25, Try.ntmps25
  go_wp2_with fail
  go_loopw [3] (fun i wr => ∃ k : Nat, k ≤ rs.length ∧ i = .int .i64 k ∧ Hid (firstsB rs k = true) ∧ Hid (RulsAt wr A rs) ∧ Hid (Below w.heap.size w wr)) (fun i _ => rs.length - (intOf i).toNat)
  case atStart => exact ⟨0, by omega, rfl, rfl, HR, Below.refl _ _⟩
  case round =>
    clear HR
    obtain ⟨k, hk, rfl, HV, HR, H0⟩ := hrel
    by_cases hlt : k < rs.length
    · obtain ⟨x, hx⟩ : ∃ x, rs[k]? = some x := ⟨_, List.getElem?_eq_getElem hlt⟩
      obtain ⟨hf, ad, rfl, hadl, c0, c1, c2, c3, c4, c5⟩ := HR.out.at_ hx
      have HX := Lib.hid (firsts_succ hx)
      have HXK := Lib.hid hx
      have HZ := Lib.hid (@firsts_false rs (k + 1) rs.length)
      rw [HV.out, Bool.true_and] at HX
      clear hx
      go_wp2_with fail
      refine (rown_any x _ hf).mono ?_
      rintro e w1 ⟨rfl, hb⟩
      have NR := Lib.hid (HR.out.keep hb)
      have NB := Lib.hid (H0.out.trans (hb.mono H0.out.size))
      clear HR H0 hb c0 c1 c2 c3 c4 c5 hf
      cases ho : ownB x
      · rw [ho, Bool.false_and] at HX
        clear ho
        go_wp2_with fail
        go_ret
        exact ⟨ret_bool (by rw [HVD.out, HZ.out HX.out (by omega)]; rfl), NB.out⟩
      · rw [ho, Bool.true_and] at HX
        clear ho
        go_wp2_with fail
        go_loopw [4] (fun i wr => ∃ j : Nat, j ≤ k ∧ i = .int .i64 j ∧ Hid (∀ (m : Nat) y, rs[m]? = some y → m < j → clashB x y = false) ∧ Hid (RulsAt wr (some ad) rs) ∧ Hid (Below w.heap.size w wr)) (fun i _ => k - (intOf i).toNat)
        case atStart => exact ⟨0, by omega, rfl, (fun _ _ _ h => by omega), NR, NB⟩
        case round =>
          clear NR NB
          obtain ⟨j, hj, rfl, HJ, HR, H0⟩ := hrel
          by_cases hlj : j < k
          · obtain ⟨y, hy⟩ : ∃ y, rs[j]? = some y := ⟨_, List.getElem?_eq_getElem (by omega)⟩
            obtain ⟨_, ad1, he1, _, c0, c1, c2, c3, c4, c5⟩ := HR.out.at_ HXK.out
            obtain rfl := Option.some.inj he1
            obtain ⟨_, ad2, he2, _, d0, d1, d2, d3, d4, d5⟩ := HR.out.at_ hy
            obtain rfl := Option.some.inj he2
            have HY := Lib.hid hy
            clear hy he1 he2
            cases hq : clashB x y
            · have HQ := Lib.hid hq
              clear hq
              go_upto_region 9 with (fail)
              go_cut [30] (fun b wc => b = .bool false ∧ Hid (RulsAt wc (some ad) rs) ∧ Hid (Below w.heap.size w wc))
              case first =>
                go_region_with (go_at_call 45; refine (rclash_any x y _).mono ?_; rintro e w2 ⟨rfl, hb5⟩; have MR := Lib.hid (HR.out.drew.keep hb5); have MB := Lib.hid ((below_drew H0.out).trans (hb5.mono H0.out.size)); clear hb5; rw [HQ.out])
                all_goals (go_wp2_with fail; go_meet; exact ⟨rfl, MR, MB⟩)
              case rest =>
                clear HR H0 c0 c1 c2 c3 c4 c5 d0 d1 d2 d3 d4 d5
                obtain ⟨rfl, HR, H0⟩ := hcut
                go_wp2_with fail
                go_roundw
                case rel => exact ⟨j + 1, by omega, by go_num, (fun m z hm h => by
                  rcases Nat.lt_or_ge m j with h' | h'
                  · exact HJ.out m z hm h'
                  · obtain rfl : m = j := by omega
                    rw [HY.out] at hm
                    obtain rfl := Option.some.inj hm
                    exact HQ.out), HR, H0⟩
                case measure => simp [intOf]; omega
            · have HQ := Lib.hid hq
              have HFF := Lib.hid (fresh_false (os := rs.take k) (r := x) (j := j) (x := y) (by rw [List.getElem?_take, if_pos hlj]; exact HY.out) hq)
              rw [HFF.out] at HX
              clear hq
              go_upto_region 9 with (fail)
              go_cut [30] (fun b wc => b = .bool true ∧ Hid (RulsAt wc (some ad) rs) ∧ Hid (Below w.heap.size w wc))
              case first =>
                go_region_with (go_at_call 45; refine (rclash_any x y _).mono ?_; rintro e w2 ⟨rfl, hb5⟩; have MR := Lib.hid (HR.out.drew.keep hb5); have MB := Lib.hid ((below_drew H0.out).trans (hb5.mono H0.out.size)); clear hb5; rw [HQ.out])
                all_goals (go_wp2_with fail; go_meet; exact ⟨rfl, MR, MB⟩)
              case rest =>
                clear HR H0 c0 c1 c2 c3 c4 c5 d0 d1 d2 d3 d4 d5
                obtain ⟨rfl, HR, H0⟩ := hcut
                go_wp2_with fail
                go_ret
                exact ⟨ret_bool (by rw [HVD.out, HZ.out HX.out (by omega)]; rfl), H0.out⟩
          · have HFT := Lib.hid (fresh_true (os := rs.take k) (r := x) fun m y hm => by
              rw [List.getElem?_take] at hm
              split at hm
              · exact HJ.out m y hm (by omega)
              · cases hm)
            rw [HFT.out] at HX
            go_wp2_with fail
            go_roundw
            case rel => exact ⟨k + 1, by omega, by go_num, HX.out, HR, H0⟩
            case measure => simp [intOf]; omega
    · obtain rfl : k = rs.length := by omega
      rw [HV.out, Bool.true_and] at HVD
      go_wp2_with fail
      go_ret
      exact ⟨ret_bool (by rw [HVD.out]; exact decide_eq_decide.2 (by omega)), H0.out⟩
end Go.Proofs.Ytmhddlhlniajpaa
