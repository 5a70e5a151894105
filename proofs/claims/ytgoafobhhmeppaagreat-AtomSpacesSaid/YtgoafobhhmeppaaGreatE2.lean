/- Valid dictionaries: opdict.Valid and the reference's Valid. -/
import Derived.Test.YtgoafobhhmeppaaGreatE1
namespace Go.Proofs.YtgoafobhhmeppaaGreat
open Go.RowKit
theorem law9 : Maps.Keyed Tryz.prog 9 := Maps.string_keyed Tryz.underlying9
theorem zero4 (w : World) : (zeroValue 4).run Tryz.prog w = .ok (.bool false) w := by simp [Tryz.zeroValue4]
abbrev OwnMap (w : World) (b n : Nat) (D : DataW Unit) : Prop := w.ownsMap Tryz.prog 9 (plainElem Tryz.prog 4) b n D
theorem map_below {w w' : World} {b n : Nat} {D : DataW Unit} (h : OwnMap w b n D) (hb : Below w.heap.size w w') : OwnMap w' b n D :=
  h.kept (row := none) ⟨hb.os, hb.tape, hb.output, hb.size, fun i hi _ => hb.block i hi⟩ (by simp)
theorem EntsAt.valid {w : World} {A : Option Addr} {es : List Ent} (h : EntsAt w A es) {k : Nat} {x : Ent} (hx : es[k]? = some x) : x.text.size ≤ 9223372036854775807 := (h k x hx).1
theorem run_makeMap_hint {P : Program} {t key elem : TypeId} (hu : P.underlying t = some (.map key elem)) (k : IntKind) (n : Int) (w : World) : (Instr.makeMap t (some (.int k n))).run P w = .ok (.map (some w.heap.size)) (w.alloc (.map #[] 0)) := by
  simp [Instr.makeMap, run_underlying hu, asInt, asIntOf, Result.andThen]
set_option maxRecDepth 100000 in
set_option maxHeartbeats 1600000 in
theorem ovalid_any (A : Option Addr) (cap : Nat) (es : List Ent) (w : World) (hE : EntsAt w A es) (hn : es.length ≤ 1000000) : Calls Tryz.prog 16 #[.slice A es.length cap] w fun e w' => e = .returned (.bool (dictB es)) ∧ Below w.heap.size w w' := by
  by_cases h200 : es.length ≤ 200
  · have HQ := Lib.hid (show dictB es = dictTo es es.length by unfold dictB; rw [decide_eq_true h200, Bool.true_and])
    have HE := Lib.hid hE
    clear hE
    have hmade := Lib.hid (World.ownsMap_made (H := Unit) w Tryz.prog 9 (plainElem Tryz.prog 4))
    have hmm := @run_makeMap_hint Tryz.prog _ _ _ Tryz.underlying76
    go_enter Tryz.func16, Tryz.ntmps16
    go_wp2_with fail
    clear hmm
    go_loopw [14] (fun i wr => ∃ (k : Nat) (D : DataW Unit), k ≤ es.length ∧ i = .int .i64 k ∧ Hid (dictTo es k = true) ∧ Hid (OwnMap wr w.heap.size k D) ∧ Hid (SeenIs D ((es.take k).map txtE)) ∧ Hid (Below w.heap.size w wr)) (fun i _ => es.length - (intOf i).toNat)
    case atStart => exact ⟨0, .map [], by omega, rfl, rfl, hmade, seen_nil, bel_alloc w _⟩
    case round =>
      clear hmade
      obtain ⟨k, D, hk, rfl, HV, HM, HS, HB⟩ := hrel
      by_cases hlt : k < es.length
      · obtain ⟨x, hx⟩ : ∃ x, es[k]? = some x := ⟨_, List.getElem?_eq_getElem hlt⟩
        obtain ⟨hf, ad, rfl, hadl, c0, c1, c2, c3⟩ := (HE.out.keep HB.out).at_ hx
        have HSN := Lib.hid (dict_succ hx)
        rw [HV.out, Bool.true_and] at HSN
        have HTK := Lib.hid (show (es.take (k + 1)).map txtE = (es.take k).map txtE ++ [txtE x] by rw [List.take_add_one, hx]; simp)
        have HDF := Lib.hid (fun h => (dict_false (es := es) (k := k + 1) (j := es.length) h (by omega)))
        clear hx
        have HF := Lib.hid hf
        clear hf
        go_wp2_with fail
        have KX := Lib.hid (Blk.new wr 78 x.c)
        have HB2 := Lib.hid (HB.out.alloc HB.out.size (.cells x.c 78))
        have HM2 := Lib.hid (World.ownsMap.alloc HM.out (.cells x.c 78))
        have HL0 := Lib.hid (World.ownsMap.lt HM.out)
        generalize hg : wr.heap.size = gx at *
        have HG := Lib.hid hg
        clear hg c0 c1 c2 c3 hadl HM HB
        dsimp only [Ent.c] at KX HB2 HM2
        generalize wr.alloc (.cells #[.string x.text, .int .i64 x.cls, .bool x.lim, .bool x.stc] 78) = w2 at *
        refine (entry_any x w2 HF.out).mono ?_
        rintro e w3 ⟨rfl, hb⟩
        have KX := Lib.hid (keep hb KX.out)
        have HM := Lib.hid (map_below HM2.out hb)
        have HB := Lib.hid (HB2.out.trans (hb.mono HB2.out.size))
        clear hb HM2 HB2
        cases hent : entB x
        · have HQ2 := Lib.hid (HDF.out (by rw [HSN.out, hent]; rfl))
          clear hent
          go_wp2_with fail
          go_ret
          exact ⟨ret_bool (by rw [HQ.out, HQ2.out]), HB.out⟩
        rw [hent, Bool.true_and] at HSN
        clear hent
        have d0 := KX.out.cell 0
        have HKEY := Lib.hid (Go.WideMaps.keyOf_string_mk (P := Tryz.prog) (k := 9) Tryz.underlying9 (s := x.text) (by have := HF.out; unfold maxLen; omega))
        cases hc : ((es.take k).map txtE).contains (txtE x)
        · have HAT := Lib.hid (show D.atKey (.string x.text.data.toList) (.lit (.bool false)) = .lit (.bool false) by rw [HS.out x.text.data.toList]; exact congrArg _ (congrArg _ hc))
          rw [hc] at HSN
          have HSN2 := Lib.hid (show SeenIs (D.put (.string x.text.data.toList) (.lit (.bool true))) ((es.take (k + 1)).map txtE) by rw [HTK.out]; exact seen_put HS.out (World.ownsMap.isMap HM.out) _)
          clear hc
          go_wp2_with (first | (at_lookup; refine wpList_lookup_own_bool_g (H := Unit) _ (by rfl) _ _ 76 rfl 9 4 law9 Tryz.underlying76 Tryz.underlying4 (zero4 _) w.heap.size k D rfl HM.out _ _ rfl HKEY.out false HAT.out ?_) | (at_mapUpdate; refine wpList_mapUpdate_own _ rfl _ _ _ 76 rfl 9 4 law9 Tryz.underlying76 _ w.heap.size k D rfl HM.out (by unfold maxLen; omega) _ _ _ rfl rfl HKEY.out (.lit (.bool true)) [] (plainElem_bool Tryz.underlying4 true) ?_))
          intro w4 hm4 hgrow4
          have HB4 := Lib.hid (HB.out.grown hgrow4 HB.out.size (fun k hk => by cases hk; exact Nat.le_refl _))
          have HM4 := Lib.hid (show OwnMap w4 w.heap.size (k + 1) (D.put (.string x.text.data.toList) (.lit (.bool true))) from hm4)
          clear hm4 hgrow4 HM HB d0 KX
          go_wp2_with fail
          go_roundw
          case rel => exact ⟨k + 1, _, by omega, by go_num, Lib.hid (by rw [HSN.out]; rfl), HM4, HSN2, HB4⟩
          case measure => simp [intOf]; omega
        · have HAT := Lib.hid (show D.atKey (.string x.text.data.toList) (.lit (.bool false)) = .lit (.bool true) by rw [HS.out x.text.data.toList]; exact congrArg _ (congrArg _ hc))
          have HQ2 := Lib.hid (HDF.out (by rw [HSN.out, hc]; rfl))
          clear hc
          go_wp2_with (at_lookup; refine wpList_lookup_own_bool_g (H := Unit) _ (by rfl) _ _ 76 rfl 9 4 law9 Tryz.underlying76 Tryz.underlying4 (zero4 _) w.heap.size k D rfl HM.out _ _ rfl HKEY.out true HAT.out ?_)
          go_ret
          exact ⟨ret_bool (by rw [HQ.out, HQ2.out]), HB.out⟩
      · obtain rfl : k = es.length := by omega
        go_wp2_with fail
        go_ret
        exact ⟨ret_bool (by rw [HQ.out, HV.out]), HB.out⟩
  · have HQ := Lib.hid (show dictB es = false by unfold dictB; rw [decide_eq_false h200]; rfl)
    clear hE
    go_enter Tryz.func16, Tryz.ntmps16
    go_wp2_with fail
    go_ret
    exact ⟨ret_bool HQ.out.symm, Below.refl _ _⟩
end Go.Proofs.YtgoafobhhmeppaaGreat
