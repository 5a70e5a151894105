/- Symbols, of the program and of the reference. -/
import Derived.Test.YtgkfmeagpmjcoaaDoorM0
import Derived.Test.YtgkfmeagpmjcoaaDoorW6
namespace Go.Proofs.YtgkfmeagpmjcoaaDoor
open Go.RowKit
def conB (ps : List (List UInt8)) (x : List UInt8) : Bool := ps.contains x
def symStep (acc : List (List UInt8)) (r : Rul) : List (List UInt8) := if r.sym.data.toList = [] ∨ acc.contains r.sym.data.toList = true then acc else acc ++ [r.sym.data.toList]
def symOf (rs : List Rul) : List (List UInt8) := rs.foldl symStep []
theorem symOf_snoc {rs : List Rul} {k : Nat} {r : Rul} (h : rs[k]? = some r) : symOf (rs.take (k + 1)) = symStep (symOf (rs.take k)) r := by
  unfold symOf
  rw [List.take_add_one, h]
  simp
theorem symOf_len : ∀ (rs : List Rul) (k : Nat), (symOf (rs.take k)).length ≤ k
  | rs, 0 => by simp [symOf]
  | rs, k + 1 => by
    have ih := symOf_len rs k
    cases h : rs[k]? with
    | none => rw [List.take_add_one, h]; simp; omega
    | some r =>
      rw [symOf_snoc h]
      unfold symStep
      split <;> simp <;> omega
/-- strings that a call has made -/
def OwnStrs (w : World) (B : Nat) (v : Value) (ps : List (List UInt8)) : Prop := w.ownsRow B 9 1 v ps.length (ps.map fun p => Value.string (bys p))
theorem OwnStrs.keep {w w' : World} {B : Nat} {v : Value} {ps : List (List UInt8)} (h : OwnStrs w B v ps) (hb : Below w.heap.size w w') : OwnStrs w' B v ps := own_below h hb
/-- strings in a row that may be nil -/
def StrsO (w : World) (A : Option Addr) (ps : List (List UInt8)) : Prop := ∀ (j : Nat) (p : List UInt8), ps[j]? = some p → ∃ g : Nat, A = some ⟨g, 0, none⟩ ∧ g < w.heap.size ∧ w.cell? ⟨g, j, none⟩ = some (.string (bys p))
theorem OwnStrs.form {w : World} {B : Nat} {v : Value} {ps : List (List UInt8)} (h : OwnStrs w B v ps) : ∃ A cap, v = .slice A ps.length cap ∧ ps.length ≤ cap ∧ cap ≤ 9223372036854775807 ∧ StrsO w A ps := by
  obtain ⟨h1, h2⟩ := h
  rcases h2 with ⟨rfl, h0⟩ | ⟨g, cap, cur, rfl, hg, hb, hn, hc, hs, ht⟩
  · obtain rfl : ps = [] := List.length_eq_zero_iff.1 h0
    exact ⟨none, 0, rfl, by simp, by omega, fun j p hj => by simp at hj⟩
  · have hb' : Blk w g 9 cur := hb
    refine ⟨_, cap, rfl, hn, by unfold maxLen at hc; omega, fun j p hj => ⟨g, rfl, hb'.lt, ?_⟩⟩
    rw [hb'.cell]
    have h3 : (ps.map fun p => Value.string (bys p))[j]? = some (.string (bys p)) := by simp [hj]
    rw [← ht, List.getElem?_take] at h3
    split at h3
    · simpa using h3
    · cases h3
theorem StrsO.keep {w w' : World} {A : Option Addr} {ps : List (List UInt8)} (h : StrsO w A ps) (hb : Below w.heap.size w w') : StrsO w' A ps := fun j p hj => by
  obtain ⟨g, h1, h2, h3⟩ := h j p hj
  exact ⟨g, h1, Nat.lt_of_lt_of_le h2 hb.size, (hb.cell (p := ⟨g, j, none⟩) h2).trans h3⟩
theorem bys_beq (p : List UInt8) (s : ByteArray) : ((bys p).toList == s.toList) = (p == s.data.toList) := by rw [ByteArray.toList_eq, ByteArray.toList_eq, bys_data]
set_option maxHeartbeats 400000 in
theorem has_any (A : Option Addr) (cap : Nat) (ps : List (List UInt8)) (s : ByteArray) (w : World) (hS : StrsO w A ps) (hn : ps.length ≤ 1000000) : Calls Tryd.prog 33 #[.slice A ps.length cap, .string s] w fun e w' => e = .returned (.bool (conB ps s.data.toList)) ∧ w = w' := by
  have HS := Lib.hid hS
  clear hS
  go_enter Tryd.func33, Tryd.ntmps33
  go_wp2_with fail
  go_loop [5] (fun i => ∃ k : Nat, k ≤ ps.length ∧ i = .int .i64 k ∧ Hid (∀ (j : Nat) p, ps[j]? = some p → j < k → (p == s.data.toList) = false)) (fun i => ps.length - (intOf i).toNat)
  case atStart => exact ⟨0, by omega, rfl, fun j _ _ h => by omega⟩
  case round =>
    obtain ⟨k, hk, rfl, HJ⟩ := hrel
    by_cases hlt : k < ps.length
    · obtain ⟨p, hp⟩ : ∃ p, ps[k]? = some p := ⟨_, List.getElem?_eq_getElem hlt⟩
      obtain ⟨g, rfl, hg, hc⟩ := HS.out k p hp
      have HP := Lib.hid hp
      cases hq : ((bys p).toList == s.toList)
      · have HQ := Lib.hid hq
        clear hp
        go_wp2_with fail
        go_round
        case rel => exact ⟨k + 1, by omega, by go_num, fun j y hj h => by
          rcases Nat.lt_or_ge j k with h' | h'
          · exact HJ.out j y hj h'
          · obtain rfl : j = k := by omega
            rw [HP.out] at hj
            obtain rfl := Option.some.inj hj
            rw [← bys_beq]
            exact HQ.out⟩
        case measure => simp [intOf]; omega
      · have HR := Lib.hid (show conB ps s.data.toList = true by
          unfold conB
          rw [bys_beq, beq_iff_eq] at hq
          rw [List.contains_iff_mem, ← hq]
          exact List.mem_of_getElem? hp)
        clear hp
        go_wp2_with fail
        go_ret
        exact ⟨ret_bool HR.out.symm, rfl⟩
    · have HR := Lib.hid (show conB ps s.data.toList = false by
        unfold conB
        rw [Bool.eq_false_iff]
        intro hc
        rw [List.contains_iff_mem] at hc
        obtain ⟨j, hj⟩ := List.mem_iff_getElem?.1 hc
        have := HJ.out j _ hj (by have := (List.getElem?_eq_some_iff.1 hj).1; omega)
        simp at this)
      go_wp2_with fail
      go_ret
      exact ⟨ret_bool HR.out.symm, rfl⟩
theorem symStep_skip {acc : List (List UInt8)} {r : Rul} (h : r.sym.data.toList = [] ∨ acc.contains r.sym.data.toList = true) : symStep acc r = acc := if_pos h
theorem symStep_add {acc : List (List UInt8)} {r : Rul} (h1 : r.sym.data.toList ≠ []) (h2 : acc.contains r.sym.data.toList = false) : symStep acc r = acc ++ [r.sym.data.toList] := if_neg (fun h => by
  rcases h with h | h
  · exact h1 h
  · rw [h2] at h; cases h)
theorem strs_snoc {w : World} {B n : Nat} {v : Value} {ps : List (List UInt8)} {s : ByteArray} (hn : ps.length = n) (h : w.ownsRow B 9 1 v (n + 1) ((ps.map fun p => Value.string (bys p)) ++ [.string s])) : OwnStrs w B v (ps ++ [s.data.toList]) := by
  unfold OwnStrs
  rw [List.length_append, hn, List.map_append, List.map_cons, List.map_nil, data_bys]
  exact h
def SymP (rs : List Rul) (w : World) (e : Ending) (w' : World) : Prop := ∃ v, e = .returned v ∧ OwnStrs w' w.heap.size v (symOf rs) ∧ Below w.heap.size w w'
set_option maxRecDepth 100000 in
set_option maxHeartbeats 800000 in
theorem rsymbols_any (A : Option Addr) (cap : Nat) (rs : List Rul) (w : World) (hR : RulsAt w A rs) (hn : rs.length ≤ 1000000) : Calls Tryd.prog 15 #[.slice A rs.length cap] w (SymP rs w) := by
  obtain ⟨i0, hi, hz0, hz1, hz2⟩ := info_parts info_str
  have HR := Lib.hid hR
  clear hR
  go_enter Tryd.func15, Tryd.ntmps15
  go_wp2_with fail
  go_loopw [3, 4] (fun v i wr => ∃ k : Nat, k ≤ rs.length ∧ i = .int .i64 k ∧ Hid (OwnStrs wr w.heap.size v (symOf (rs.take k))) ∧ Hid (Below w.heap.size w wr)) (fun _ i _ => rs.length - (intOf i).toNat)
  case atStart => exact ⟨0, by omega, rfl, World.ownsRow_nil _ _ _ _, Below.refl _ _⟩
  case round =>
    obtain ⟨k, hk, rfl, HO, HB⟩ := hrel
    by_cases hlt : k < rs.length
    · obtain ⟨x, hx⟩ : ∃ x, rs[k]? = some x := ⟨_, List.getElem?_eq_getElem hlt⟩
      obtain ⟨hf, ad, rfl, hadl, c0, c1, c2, c3, c4, c5⟩ := (HR.out.keep HB.out).at_ hx
      have HS := Lib.hid (symOf_snoc hx)
      have hfit : x.sym.size ≤ 9223372036854775807 := hf.1
      have hlen := symOf_len rs k
      clear hx hf c0 c2 c3 c4 c5
      obtain ⟨A2, cap2, rfl, hcl2, hcap2, hst⟩ := HO.out.form
      have HST := Lib.hid hst
      clear hst
      generalize symOf (rs.take k) = acc at *
      by_cases h0 : x.sym.data.toList = []
      · have hq : x.sym.toList.isEmpty = true := by rw [List.isEmpty_iff, ByteArray.toList_eq]; exact h0
        have HSK := Lib.hid (symStep_skip (acc := acc) (.inl h0))
        clear h0
        go_wp2_with fail
        go_roundw
        case rel => exact ⟨k + 1, by omega, by go_num, by rw [HS.out, HSK.out]; exact HO, HB⟩
        case measure => simp [intOf]; omega
      · have hq : x.sym.toList.isEmpty = false := by rw [Bool.eq_false_iff, ne_eq, List.isEmpty_iff, ByteArray.toList_eq]; exact h0
        have hq' : (!x.sym.toList.isEmpty) = true := by rw [hq]; rfl
        have H0 := Lib.hid h0
        clear h0
        go_wp2_with fail
        refine (has_any A2 cap2 acc x.sym wr HST.out (by omega)).mono ?_
        rintro e w2 ⟨rfl, rfl⟩
        cases hc : conB acc x.sym.data.toList
        · have HAD := Lib.hid (symStep_add H0.out hc)
          clear hc
          have hown := (show wr.ownsRow w.heap.size 9 1 (.slice A2 acc.length cap2) acc.length (acc.map fun p => Value.string (bys p)) from HO.out).alloc (.cells #[.string x.sym] 9)
          have HBL := Lib.hid (World.ownsRow.lt (show wr.ownsRow w.heap.size 9 1 (.slice A2 acc.length cap2) acc.length (acc.map fun p => Value.string (bys p)) from HO.out))
          have HSZ := Lib.hid HB.out.size
          go_wp2_with (at_builtin; refine wpList_append_own _ rfl (.tmp 27) (.tmp 33) 27 rfl w.heap.size 9 i0 (.string ⟨#[]⟩) 1 16 Tryd.underlying27 hi hz0 hz1 hz2 rfl (by decide) _ _ _ rfl hown ⟨wr.heap.size, 0, none⟩ 1 1 [.string x.sym] rfl rfl (cells_new _ _ _) ?c2a ?c3a ?c4a ?c5a ?_)
          case c2a => intro u hu; simp at hu; subst hu; rfl
          case c3a => unfold maxLen; omega
          case c4a => omega
          case c5a => have := HSZ.out; simp; omega
          intro v' w3 hown' hgrow _
          have NB := Lib.hid ((HB.out.alloc HB.out.size (.cells #[.string x.sym] 9)).grown hgrow (by have := HSZ.out; simp; omega) (fun k hk => (HBL.out k hk).1))
          have NO := Lib.hid (strs_snoc rfl hown')
          clear hown hown' hgrow HO HB
          go_wp2_with fail
          go_roundw
          case rel => exact ⟨k + 1, by omega, by go_num, by rw [HS.out, HAD.out]; exact NO, NB⟩
          case measure => simp [intOf]; omega
        · have HSK := Lib.hid (symStep_skip (acc := acc) (r := x) (.inr hc))
          clear hc
          go_wp2_with fail
          go_roundw
          case rel => exact ⟨k + 1, by omega, by go_num, by rw [HS.out, HSK.out]; exact HO, HB⟩
          case measure => simp [intOf]; omega
    · obtain rfl : k = rs.length := by omega
      have HT := Lib.hid (show rs.take rs.length = rs from List.take_length)
      go_wp2_with fail
      go_ret
      exact ⟨_, rfl, by have := HO.out; rwa [HT.out] at this, HB.out⟩
theorem law9 : Maps.Keyed Tryd.prog 9 := Maps.string_keyed Tryd.underlying9
theorem zero4 (w : World) : (zeroValue 4).run Tryd.prog w = .ok (.bool false) w := by simp [Tryd.zeroValue4]
abbrev OwnMap (w : World) (b n : Nat) (D : DataW Unit) : Prop := w.ownsMap Tryd.prog 9 (plainElem Tryd.prog 4) b n D
theorem map_not_row {w : World} {b n m B : Nat} {D : DataW Unit} {v : Value} {ps : List (List UInt8)} (h : OwnMap w b n D) (ho : w.ownsRow B 9 1 v m (ps.map fun p => Value.string (bys p))) : v.ownBlock ≠ some b := by
  intro e
  obtain ⟨es, clock, hb, _⟩ := h
  rcases ho.2 with ⟨rfl, _⟩ | ⟨g, cap, cur, rfl, _, hg, _⟩
  · cases e
  · obtain rfl : g = b := by simpa [Value.ownBlock] using e
    rw [hg] at hb
    cases hb
set_option maxRecDepth 100000 in
set_option maxHeartbeats 800000 in
theorem symbols_any (A : Option Addr) (cap : Nat) (rs : List Rul) (w : World) (hR : RulsAt w A rs) (hn : rs.length ≤ 1000000) : Calls Tryd.prog 14 #[.slice A rs.length cap] w (SymP rs w) := by
  obtain ⟨i0, hi, hz0, hz1, hz2⟩ := info_parts info_str
  have HR := Lib.hid hR
  clear hR
  have hmade := World.ownsMap_made (H := Unit) w Tryd.prog 9 (plainElem Tryd.prog 4)
  have hmm := @run_makeMap Tryd.prog
  go_enter Tryd.func14, Tryd.ntmps14
  go_wp2_with (refine wpList_insert_own (H := Unit) _ rfl _ _ _ 53 rfl 9 4 law9 Tryd.underlying53 _ w.heap.size 0 (.map []) rfl hmade (by unfold maxLen; omega) _ _ (.string []) rfl rfl (Go.WideMaps.keyOf_string_mk Tryd.underlying9 (by unfold maxLen; decide)) (.lit (.bool true)) [] (plainElem_bool Tryd.underlying4 true) ?_)
  intro w1 hm1 hgrow1
  have hb1 := Lib.hid ((bel_alloc w (.map #[] 0)).grown hgrow1 (by simp) (fun k hk => by cases hk; exact Nat.le_refl _))
  have hm1' := Lib.hid (show OwnMap w1 w.heap.size 1 (DataW.put (.map []) (.string []) (.lit (.bool true))) from hm1)
  have hs1 : Hid (SeenIs (DataW.put (.map []) (.string []) (.lit (.bool true))) ([] :: [])) := seen_put seen_nil ⟨_, rfl⟩ []
  clear hm1 hgrow1 hmade hmm
  generalize DataW.put (.map []) (.string []) (.lit (.bool true)) = D1 at *
  go_wp2_with fail
  go_loopw [3, 11] (fun v i wr => ∃ (k : Nat) (D : DataW Unit), k ≤ rs.length ∧ i = .int .i64 k ∧ Hid (OwnMap wr w.heap.size (k + 1) D) ∧ Hid (SeenIs D ([] :: symOf (rs.take k))) ∧ Hid (OwnStrs wr w.heap.size v (symOf (rs.take k))) ∧ Hid (Below w.heap.size w wr)) (fun _ i _ => rs.length - (intOf i).toNat)
  case atStart => exact ⟨0, D1, by omega, rfl, hm1', hs1, World.ownsRow_nil _ _ _ _, hb1⟩
  case round =>
    clear hm1' hs1 hb1
    obtain ⟨k, D, hk, rfl, HM, HSE, HO, HB⟩ := hrel
    by_cases hlt : k < rs.length
    · obtain ⟨x, hx⟩ : ∃ x, rs[k]? = some x := ⟨_, List.getElem?_eq_getElem hlt⟩
      obtain ⟨hf, ad, rfl, hadl, c0, c1, c2, c3, c4, c5⟩ := (HR.out.keep HB.out).at_ hx
      have HS := Lib.hid (symOf_snoc hx)
      have hfit : x.sym.size ≤ 9223372036854775807 := hf.1
      have hlen := symOf_len rs k
      clear hx hf
      generalize symOf (rs.take k) = acc at *
      have hmap := (show OwnMap wr w.heap.size (k + 1) D from HM.out).alloc (.cells x.c 39)
      have HKEY := Lib.hid (Go.WideMaps.keyOf_string_mk (P := Tryd.prog) (k := 9) Tryd.underlying9 (s := x.sym) (by unfold maxLen; omega))
      have hat : D.atKey (.string x.sym.data.toList) (.lit (.bool false)) = .lit (.bool (conB ([] :: acc) x.sym.data.toList)) := HSE.out x.sym.data.toList
      have HAT := Lib.hid hat
      clear hat
      cases hc : conB ([] :: acc) x.sym.data.toList
      · rw [hc] at HAT
        have h1 : x.sym.data.toList ≠ [] ∧ acc.contains x.sym.data.toList = false := by
          unfold conB at hc
          rw [List.contains_cons, Bool.or_eq_false_iff, beq_eq_false_iff_ne] at hc
          exact hc
        have HAD := Lib.hid (symStep_add h1.1 h1.2)
        have HSN := Lib.hid (show SeenIs (D.put (.string x.sym.data.toList) (.lit (.bool true))) ([] :: symStep acc x) by rw [HAD.out]; exact seen_put HSE.out (World.ownsMap.isMap HM.out) _)
        clear hc h1
        go_wp2_with (first | (at_lookup; refine wpList_lookup_own_bool (H := Unit) _ rfl _ _ 53 rfl 9 4 law9 Tryd.underlying53 Tryd.underlying4 (zero4 _) w.heap.size (k + 1) D rfl hmap _ _ rfl HKEY.out false HAT.out ?_) | (at_mapUpdate; refine wpList_mapUpdate_own _ rfl _ _ _ 53 rfl 9 4 law9 Tryd.underlying53 _ w.heap.size (k + 1) D rfl hmap (by unfold maxLen; omega) _ _ _ rfl rfl HKEY.out (.lit (.bool true)) [] (plainElem_bool Tryd.underlying4 true) ?_))
        intro w2 hm2 hgrow2
        have hO' := (show wr.ownsRow w.heap.size 9 1 u3 acc.length (acc.map fun p => Value.string (bys p)) from HO.out).alloc (.cells x.c 39)
        have hne := map_not_row hmap hO'
        have hO2 := hO'.kept hgrow2 (.inr hne)
        have KX := Lib.hid ((Blk.new wr 39 x.c).grown hgrow2 (fun e => by
          have h8 := hmap.lt
          have h9 : OwnMap wr w.heap.size (k + 1) D := HM.out
          have h10 := h9.lt
          have : wr.heap.size = w.heap.size := by simpa using e
          omega))
        have HB2 := Lib.hid ((HB.out.alloc HB.out.size (.cells x.c 39)).grown hgrow2 (by have := HB.out.size; simp; omega) (fun k hk => by cases hk; exact Nat.le_refl _))
        have HM2 := Lib.hid (show OwnMap w2 w.heap.size (k + 1 + 1) (D.put (.string x.sym.data.toList) (.lit (.bool true))) from hm2)
        clear hmap hO' hne hgrow2 hm2 HM HO HB c0 c1 c2 c3 c4 c5
        have hown := hO2.alloc (.cells #[.string x.sym] 9)
        have HBL := Lib.hid hO2.lt
        have HNR := Lib.hid (map_not_row HM2.out hO2)
        have HSZ := Lib.hid HB2.out.size
        have cK := fun i => KX.out.cell i
        have lK := KX.out.lt
        go_wp2_with (at_builtin; refine wpList_append_own _ rfl (.tmp 23) (.tmp 26) 27 rfl w.heap.size 9 i0 (.string ⟨#[]⟩) 1 16 Tryd.underlying27 hi hz0 hz1 hz2 rfl (by decide) _ _ _ rfl hown ⟨w2.heap.size, 0, none⟩ 1 1 [.string x.sym] rfl rfl (cells_new _ _ _) ?c2a ?c3a ?c4a ?c5a ?_)
        case c2a => intro u hu; simp at hu; subst hu; rfl
        case c3a => unfold maxLen; omega
        case c4a => omega
        case c5a => have := HSZ.out; simp; omega
        intro v' w3 hown' hgrow _
        have NB := Lib.hid ((HB2.out.alloc HB2.out.size (.cells #[.string x.sym] 9)).grown hgrow (by have := HSZ.out; simp; omega) (fun k hk => (HBL.out k hk).1))
        have NM := Lib.hid (show OwnMap w3 w.heap.size (k + 1 + 1) (D.put (.string x.sym.data.toList) (.lit (.bool true))) from (HM2.out.alloc _).kept hgrow (fun e => HNR.out e.symm))
        have NO := Lib.hid (strs_snoc rfl hown')
        clear hown hown' hgrow hO2 cK lK
        go_wp2_with fail
        go_roundw
        case rel => exact ⟨k + 1, _, by omega, by go_num, NM, Lib.hid (by rw [HS.out]; exact HSN.out), Lib.hid (by rw [HS.out, HAD.out]; exact NO.out), NB⟩
        case measure => simp [intOf]; omega
      · rw [hc] at HAT
        have h1 : x.sym.data.toList = [] ∨ acc.contains x.sym.data.toList = true := by
          unfold conB at hc
          rw [List.contains_cons, Bool.or_eq_true, beq_iff_eq] at hc
          exact hc
        have HSK := Lib.hid (symStep_skip (acc := acc) h1)
        clear hc h1
        go_wp2_with (at_lookup; refine wpList_lookup_own_bool (H := Unit) _ rfl _ _ 53 rfl 9 4 law9 Tryd.underlying53 Tryd.underlying4 (zero4 _) w.heap.size (k + 1) D rfl hmap _ _ rfl HKEY.out true HAT.out ?_)
        go_roundw
        case rel => exact ⟨k + 1, D, by omega, by go_num, Lib.hid (World.ownsMap.mono hmap (by omega)), by rw [HS.out, HSK.out]; exact HSE, Lib.hid (by rw [HS.out, HSK.out]; exact HO.out.keep (bel_alloc _ _)), Lib.hid (HB.out.alloc HB.out.size _)⟩
        case measure => simp [intOf]; omega
    · obtain rfl : k = rs.length := by omega
      have HT := Lib.hid (show rs.take rs.length = rs from List.take_length)
      go_wp2_with fail
      go_ret
      exact ⟨_, rfl, by have := HO.out; rwa [HT.out] at this, HB.out⟩
end Go.Proofs.YtgkfmeagpmjcoaaDoor
