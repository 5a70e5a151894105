/- Valid dictionaries: the reference's Valid. -/
import Derived.Test.YtgoafobhhmeppaaGreatE2
namespace Go.Proofs.YtgoafobhhmeppaaGreat
open Go.RowKit
theorem con_snoc {es : List Ent} {j : Nat} {y : Ent} (h : es[j]? = some y) (s : List UInt8) : ((es.take (j + 1)).map txtE).contains s = (((es.take j).map txtE).contains s || (txtE y == s)) := by
  rw [List.take_add_one, h, Option.toList, List.map_append, List.contains_append]
  congr 1
  rw [Bool.eq_iff_iff]
  simp
  exact eq_comm
theorem con_take {es : List Ent} {j k : Nat} (hj : j ≤ k) {s : List UInt8} (h : ((es.take j).map txtE).contains s = true) : ((es.take k).map txtE).contains s = true := by
  rw [List.contains_iff_mem, List.mem_map] at h ⊢
  obtain ⟨a, ha, e⟩ := h
  refine ⟨a, ?_, e⟩
  rw [show es.take j = (es.take k).take j by rw [List.take_take]; congr 1; omega] at ha
  exact List.mem_of_mem_take ha
set_option maxRecDepth 100000 in
set_option maxHeartbeats 1600000 in
theorem rdict_any (A : Option Addr) (cap : Nat) (es : List Ent) (w : World) (hE : EntsAt w A es) (hn : es.length ≤ 1000000) : Calls Tryz.prog 43 #[.slice A es.length cap] w fun e w' => e = .returned (.bool (dictB es)) ∧ Below w.heap.size w w' := by
  have HQ := Lib.hid (show dictB es = (decide (es.length ≤ 200) && dictTo es es.length) from rfl)
  have HE := Lib.hid hE
  clear hE
  go_enter Tryz.func43, Tryz.ntmps43
  go_wp2_with fail
  go_loopw [3] (fun i wr => ∃ (k : Nat), k ≤ es.length ∧ i = .int .i64 k ∧ Hid (dictTo es k = true) ∧ Hid (Below w.heap.size w wr)) (fun i _ => es.length - (intOf i).toNat)
  case atStart => exact ⟨0, by omega, rfl, rfl, Below.refl _ _⟩
  case round =>
    obtain ⟨wo, rfl⟩ : ∃ wo : World, wo = wr := ⟨_, rfl⟩
    obtain ⟨k, hk, rfl, HV, HB⟩ := hrel
    by_cases hlt : k < es.length
    · obtain ⟨x, hx⟩ : ∃ x, es[k]? = some x := ⟨_, List.getElem?_eq_getElem hlt⟩
      obtain ⟨hf, ad, rfl, hadl, c0, c1, c2, c3⟩ := (HE.out.keep HB.out).at_ hx
      have HSN := Lib.hid (dict_succ hx)
      rw [HV.out, Bool.true_and] at HSN
      have HDF := Lib.hid (fun h => (dict_false (es := es) (k := k + 1) (j := es.length) h (by omega)))
      have HX := Lib.hid hx
      have HF := Lib.hid hf
      clear hf hx
      go_wp2_with fail
      refine (proper_any x wo HF.out).mono ?_
      rintro e w3 ⟨rfl, hb⟩
      have HB := Lib.hid (HB.out.trans (hb.mono HB.out.size))
      clear hb c0 c1 c2 c3 hadl
      cases hent : entB x
      · have HQ2 := Lib.hid (HDF.out (by rw [HSN.out, hent]; rfl))
        clear hent
        go_wp2_with fail
        go_ret
        exact ⟨ret_bool (by rw [HQ.out, HQ2.out, Bool.and_false]), HB.out⟩
      rw [hent, Bool.true_and] at HSN
      clear hent
      go_wp2_with fail
      go_loopw [4] (fun i wr => ∃ (j : Nat), j ≤ k ∧ i = .int .i64 j ∧ Hid (((es.take j).map txtE).contains (txtE x) = false) ∧ Hid (Below w.heap.size w wr)) (fun i _ => k - (intOf i).toNat)
      case atStart => exact ⟨0, by omega, rfl, rfl, HB⟩
      case round =>
        clear HB
        obtain ⟨j, hj, rfl, HC, HB⟩ := hrel
        by_cases hltj : j < k
        · obtain ⟨y, hy⟩ : ∃ y, es[j]? = some y := ⟨_, List.getElem?_eq_getElem (by omega)⟩
          have HCS := Lib.hid (con_snoc hy (txtE x))
          rw [HC.out, Bool.false_or] at HCS
          have d0 : wr.cell? (ad.add (j * 4)) = some (.string y.text) := by
            obtain ⟨_, ad', h1, _, h2, _⟩ := (HE.out.keep HB.out).at_ hy
            obtain rfl := Option.some.inj h1
            exact h2
          have e0 : wr.cell? (ad.add (k * 4)) = some (.string x.text) := by
            obtain ⟨_, ad', h1, _, h2, _⟩ := (HE.out.keep HB.out).at_ HX.out
            obtain rfl := Option.some.inj h1
            exact h2
          clear hy
          have i1 : (0 : Int) ≤ (j : Int) := by omega
          have i2 : (j : Int) < (es.length : Int) := by omega
          have i3 : (0 : Int) ≤ (k : Int) := by omega
          have i4 : (k : Int) < (es.length : Int) := by omega
          have HTX := Lib.hid (show (txtE y == txtE x) = (y.text.toList == x.text.toList) by unfold txtE; rw [ByteArray.toList_eq, ByteArray.toList_eq])
          rw [HTX.out] at HCS
          cases hq : (y.text.toList == x.text.toList)
          · rw [hq] at HCS
            go_wp2_with fail
            go_quiet (fail)
            have HB := Lib.hid (below_drewN HB.out nq)
            clear d0 e0 hq
            go_wp2_with fail
            go_roundw
            case rel => exact ⟨j + 1, by omega, by go_num, HCS, HB⟩
            case measure => simp [intOf]; omega
          · rw [hq] at HCS
            have HQ2 := Lib.hid (HDF.out (by rw [HSN.out, con_take (j := j + 1) (by omega) HCS.out]; rfl))
            go_wp2_with fail
            go_quiet (fail)
            have HB := Lib.hid (below_drewN HB.out nq)
            clear d0 e0 hq
            go_wp2_with fail
            go_ret
            exact ⟨ret_bool (by rw [HQ.out, HQ2.out, Bool.and_false]), HB.out⟩
        · obtain rfl : j = k := by omega
          rw [HC.out] at HSN
          go_wp2_with fail
          go_roundw
          case rel => exact ⟨j + 1, by omega, by go_num, HSN, HB⟩
          case measure => simp [intOf]; omega
    · obtain rfl : k = es.length := by omega
      rw [HV.out, Bool.and_true] at HQ
      go_wp2_with fail
      go_ret
      exact ⟨ret_bool (by rw [HQ.out]; first | rfl | (rw [decide_eq_decide]; omega)), HB.out⟩
end Go.Proofs.YtgoafobhhmeppaaGreat
