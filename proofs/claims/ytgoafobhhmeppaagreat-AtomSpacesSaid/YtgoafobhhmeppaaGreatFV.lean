/- FH, FV in one text. -/
import Derived.Test.YtgoafobhhmeppaaGreatFN
import Derived.Test.YtgoafobhhmeppaaGreatM0
import Derived.Test.YtgoafobhhmeppaaGreatE2
namespace Go.Proofs.YtgoafobhhmeppaaGreat
section
open Go.RowKit
open Go.Maps (Keyed)
/-- what the map of heights holds -/
def HgIs (D : DataW Unit) (gs : List Gly) : Prop := ∀ x : ByteArray, Maps.has D (.string x.data.toList) = (hgt gs x).isSome ∧ D.atKey (.string x.data.toList) (.lit (.int .i64 0)) = .lit (.int .i64 ((hgt gs x).getD 0))
theorem hg_nil : HgIs (.map []) [] := fun x => ⟨rfl, by simp [DataW.atKey, hgt_nil]⟩
theorem bytes_eq {a b : ByteArray} (h : a.data.toList = b.data.toList) : a = b := by
  apply ByteArray.ext
  apply Array.ext'
  exact h
theorem hg_put {D : DataW Unit} {gs : List Gly} (h : HgIs D gs) (hD : Maps.IsMap D) (g : Gly) (hn : hgt gs g.nm = none) : HgIs (D.put (.string g.nm.data.toList) (.lit (.int .i64 (g.hh + g.dd)))) (gs ++ [g]) := fun x => by
  rw [hgt_snoc]
  by_cases e : x = g.nm
  · subst e
    rw [Maps.has_put_same hD (by trivial), Maps.atKey_put_same hD (by trivial), hn, if_pos rfl]
    exact ⟨rfl, rfl⟩
  · have hne : (Lit.string x.data.toList) ≠ (Lit.string g.nm.data.toList) := fun he => e (bytes_eq (by simpa using he))
    rw [Maps.has_put_other hne, Maps.atKey_put_other hne, if_neg (fun he => e he.symm), (h x).1, (h x).2]
    cases hgt gs x <;> exact ⟨rfl, rfl⟩
/-- the map of heights in memory -/
def MapH (w : World) (b : Nat) (gs : List Gly) : Prop := ∃ (n : Nat) (D : DataW Unit), n ≤ gs.length ∧ w.ownsMap Tryz.prog 9 (plainElem Tryz.prog 3) b n D ∧ Maps.IsMap D ∧ HgIs D gs
theorem MapH.keep {w w' : World} {b : Nat} {gs : List Gly} (h : MapH w b gs) (hb : Below w.heap.size w w') : MapH w' b gs := by
  obtain ⟨n, D, h1, h2, h3, h4⟩ := h
  exact ⟨n, D, h1, h2.kept (row := none) ⟨hb.os, hb.tape, hb.output, hb.size, fun i hi _ => hb.block i hi⟩ (by simp), h3, h4⟩
theorem MapH.made (w : World) : MapH (w.alloc (.map #[] 0)) w.heap.size [] :=
  ⟨0, .map [], Nat.le_refl _, World.ownsMap_made w _ _ _, ⟨_, rfl⟩, hg_nil⟩
end
section
open Go.RowKit
theorem zeroI (w : World) : (zeroValue 3).run Tryz.prog w = .ok (.int .i64 0) w := by simp [Tryz.zeroValue3]
set_option maxHeartbeats 1000000 in
theorem height_any (s : ByteArray) (gh b : Nat) (gs : List Gly) (w : World) (hs : s.size ≤ 9223372036854775807) (hK : Blk w gh 67 #[.map (some b)]) (hM : MapH w b gs) :
    Calls Tryz.prog 33 #[.string s, .pointer (some ⟨gh, 0, none⟩)] w fun e w' => e = .returned (.tuple #[.int .i64 ((hgt gs s).getD 0), .bool (hgt gs s).isSome]) ∧ w = w' := by
  obtain ⟨n, D, -, hown, -, hh⟩ := hM
  have HO := Lib.hid hown
  have HH := Lib.hid (hh s)
  have HKEY := Lib.hid (Go.WideMaps.keyOf_string_mk (P := Tryz.prog) (k := 9) Tryz.underlying9 (s := s) (by unfold maxLen; omega))
  have c0 := hK.cell 0
  clear hown hh hK
  go_enter Tryz.func33, Tryz.ntmps33
  go_wp2_with (at_lookup; refine wpList_lookup_own_ok_int _ rfl _ _ 67 rfl 9 3 .i64 law9 Tryz.underlying67 Tryz.underlying3 (zeroI _) b n D rfl HO.out _ _ rfl HKEY.out ?_)
  intro c hat _
  rw [HH.out.2] at hat
  obtain rfl : (hgt gs s).getD 0 = c := by simpa using hat
  rw [HH.out.1]
  clear hat
  go_wp2_with fail
  exact bodyPost_ret (v := .tuple #[.int .i64 ((hgt gs s).getD 0), .bool (hgt gs s).isSome]) (by simp [results, Tryz.results33, go_sem]) rfl ⟨rfl, rfl⟩
theorem inAll_one (lo hi x : Int) : inAll lo hi [x] = (decide (lo ≤ x) && decide (x ≤ hi)) := by unfold inAll; simp
set_option maxRecDepth 100000 in
set_option maxHeartbeats 4000000 in
theorem vstretch_any (s : Stc) (A1 : Option Addr) (c1 : Nat) (A2 : Option Addr) (c2 : Nat) (gh b : Nat) (gs : List Gly) (vb : Bool) (w : World) (hvb : vb = true ↔ StcOk gs s) (hgs : GlysOk gs) (hI : StcIn w s A1 c1 A2 c2) (hK : Blk w gh 67 #[.map (some b)]) (hM : MapH w b gs) :
    Calls Tryz.prog 34 #[.agg (s.c A1 c1 A2 c2), .func (.func 33) #[] #[.pointer (some ⟨gh, 0, none⟩)]] w fun e w' => e = .returned (.bool vb) ∧ Below w.heap.size w w' := by
  have hba := bel_alloc w (.cells (s.c A1 c1 A2 c2) 53)
  have HV := Lib.hid hvb
  have HG := Lib.hid hgs
  have K0 := Lib.hid (Blk.new w 53 (s.c A1 c1 A2 c2))
  have HI := Lib.hid (hI.keep hba)
  have HK := Lib.hid (keep hba hK)
  have HM := Lib.hid (hM.keep hba)
  have HB := Lib.hid hba
  clear hvb hgs hI hK hM hba
  have HNL := Lib.hid HI.out.n1
  have HNP := Lib.hid HI.out.n2
  go_enter Tryz.func34, Tryz.ntmps34
  go_upto_region 1 with (fail)
  generalize w.alloc (.cells _ 53) = w1 at *
  have k0 := fun i => K0.out.cell i
  go_wp2_with fail
  refine (named_any s.nm w1 HI.out.nm).mono ?_
  rintro e w2 ⟨rfl, rfl⟩
  cases hn : namB s.nm
  · have HQ := Lib.hid (no_of HV.out (fun h => by rw [h.1] at hn; cases hn))
    clear hn
    go_wp2_with fail
    go_ret
    exact ⟨ret_bool HQ.out.symm, HB.out⟩
  have HN := Lib.hid hn
  clear hn
  have hba := bel_alloc w1 (.cells #[.int .i64 (s.sizes.length : Int)] 3)
  have HIN := Lib.hid (ints_blk (xs := [(s.sizes.length : Int)]) (Blk.new w1 3 #[.int .i64 (s.sizes.length : Int)]) rfl)
  have K0b := Lib.hid (keep hba K0.out)
  have HIb := Lib.hid (HI.out.keep hba)
  have HKb := Lib.hid (keep hba HK.out)
  have HMb := Lib.hid (HM.out.keep hba)
  have HBb := Lib.hid (HB.out.trans (hba.mono HB.out.size))
  clear hba
  go_wp2_with fail
  generalize w1.alloc (.cells #[.int .i64 (s.sizes.length : Int)] 3) = w3 at *
  refine (within_any 1 16 (some ⟨w1.heap.size, 0, none⟩) 1 [(s.sizes.length : Int)] w3 HIN.out (by simp)).mono ?_
  rintro e w4 ⟨rfl, rfl⟩
  rw [inAll_one]
  clear k0 K0 HI HK HM HB HIN
  have K0 := K0b
  have HI := HIb
  have HK := HKb
  have HM := HMb
  have HB := HBb
  clear K0b HIb HKb HMb HBb
  generalize w3 = w1 at *
  by_cases hr : ¬ (1 ≤ (s.sizes.length : Int) ∧ (s.sizes.length : Int) ≤ 16)
  · have HQ := Lib.hid (no_of HV.out (fun h => by have h1 := h.2.1; have h2 := h.2.2.1; omega))
    rw [show (decide (1 ≤ (s.sizes.length : Int)) && decide ((s.sizes.length : Int) ≤ 16)) = false by rw [← Bool.decide_and]; exact decide_eq_false hr]
    clear hr
    go_wp2_with fail
    go_ret
    exact ⟨ret_bool HQ.out.symm, HB.out⟩
  replace hr := Classical.not_not.1 hr
  rw [decide_eq_true hr.1, decide_eq_true hr.2]
  have HL := Lib.hid (show 1 ≤ s.sizes.length ∧ s.sizes.length ≤ 16 by omega)
  clear hr
  have k0 := fun i => K0.out.cell i
  by_cases h8 : ¬ s.parts.length ≤ 8
  · have HQ := Lib.hid (no_of HV.out (fun h => h8 h.2.2.2.1))
    have h8' : (8 : Int) < (s.parts.length : Int) := by omega
    clear h8
    go_wp2_with fail
    go_ret
    exact ⟨ret_bool HQ.out.symm, HB.out⟩
  replace h8 := Classical.not_not.1 h8
  have h8' : ¬ (8 : Int) < (s.parts.length : Int) := by omega
  have H8 := Lib.hid h8
  clear h8
  have hsl : s.sizes.length ≤ 16 := HL.out.2
  go_wp2_with fail
  clear h8'
  go_loop [5, 37] (fun l i => ∃ (k : Nat) (last : Int), k ≤ s.sizes.length ∧ i = .int .i64 k ∧ l = .int .i64 last ∧ Hid (SizesOk gs (s.sizes.take k)) ∧ Hid (LastIs (-60000) gs s.sizes k last)) (fun _ i => s.sizes.length - (intOf i).toNat)
  case atStart => exact ⟨0, -60000, by omega, rfl, rfl, sizes_zero, Lib.hid (.inl ⟨rfl, rfl⟩)⟩
  case round =>
    obtain ⟨k, last, hk, rfl, rfl, HS, HLa⟩ := hrel
    by_cases hlt : k < s.sizes.length
    · obtain ⟨x, hx⟩ : ∃ x, s.sizes[k]? = some x := ⟨_, List.getElem?_eq_getElem hlt⟩
      obtain ⟨hxs, ad, hA, hadl, d0⟩ := HI.out.k1 k x hx
      have HX := Lib.hid hx
      have HXS := Lib.hid hxs
      have HLB := Lib.hid (last_bd HG.out HLa.out)
      clear hx hxs
      subst hA
      go_wp2_with fail
      refine (height_any x gh b gs w1 HXS.out HK.out HM.out).mono ?_
      rintro e w5 ⟨rfl, rfl⟩
      cases hh : hgt gs x with
      | none =>
        have HQ := Lib.hid (no_of HV.out (fun h => sizes_none HX.out hh h.2.2.2.2.1))
        clear hh
        go_wp2_with fail
        go_ret
        exact ⟨ret_bool HQ.out.symm, HB.out⟩
      | some h =>
        have HH := Lib.hid hh
        clear hh
        have hbd := hgt_bd HG.out HH.out
        rw [Option.getD_some, Option.isSome_some]
        by_cases hle : h ≤ last
        · have HQ := Lib.hid (no_of HV.out (fun ho => by
            rcases Nat.eq_zero_or_pos k with h0 | h0
            · rcases HLa.out with ⟨_, e⟩ | ⟨j, _, e, _⟩
              · omega
              · omega
            · exact sizes_le HX.out HH.out HLa.out h0 hle ho.2.2.2.2.1))
          clear hbd
          go_wp2_with fail
          go_ret
          exact ⟨ret_bool HQ.out.symm, HB.out⟩
        · have HNX := Lib.hid (sizes_snoc HS.out HX.out HH.out HLa.out (fun _ => by omega))
          clear hbd
          go_wp2_with fail
          go_round
          case rel => exact ⟨k + 1, h, by omega, by go_num, rfl, HNX.out.1, HNX.out.2⟩
          case measure => simp [intOf]; omega
    · obtain rfl : k = s.sizes.length := by omega
      have HS1 := Lib.hid (sizes_all HS.out)
      clear HS HLa
      have hpl : s.parts.length ≤ 8 := H8.out
      by_cases hp0 : s.parts.length = 0
      · have HP0 := Lib.hid (List.length_eq_zero_iff.1 hp0)
        have HQ := Lib.hid (show decide (s.ov = 0) = vb by
          rw [Bool.eq_iff_iff, HV.out, decide_eq_true_eq]
          refine ⟨fun h => ⟨HN.out, HL.out.1, HL.out.2, H8.out, HS1.out, ?_⟩, fun h => ?_⟩
          · rw [HP0.out]; exact parts_nil.2 h
          · have := h.2.2.2.2.2
            rw [HP0.out] at this
            exact parts_nil.1 this)
        have e0 : ((s.parts.length : Int) == 0) = true := by rw [beq_iff_eq]; omega
        clear hp0
        go_wp2_with fail
        go_ret
        exact ⟨ret_bool (by rw [← HQ.out]; rfl), HB.out⟩
      have HNE := Lib.hid (show s.parts ≠ [] from fun e => hp0 (by rw [e]; rfl))
      have e0 : ((s.parts.length : Int) == 0) = false := by rw [beq_eq_false_iff_ne]; omega
      clear hp0
      go_wp2_with fail
      clear e0
      go_loopw [10, 11, 66] (fun l x i wr => ∃ (k : Nat) (least : Int) (eb : Bool), k ≤ s.parts.length ∧ i = .int .i64 k ∧ l = .int .i64 least ∧ x = .bool eb ∧ Hid (LeastIs gs s.parts k least) ∧ Hid (ExtIs s.parts k eb) ∧ Hid (Below w1.heap.size w1 wr)) (fun _ _ i _ => s.parts.length - (intOf i).toNat)
      case atStart => exact ⟨0, 60000, false, by omega, rfl, rfl, rfl, least_zero _ _, ext_zero _, Lib.hid (Below.refl _ _)⟩
      case round =>
        obtain ⟨k, least, eb, hk, rfl, rfl, rfl, HLe, HE, HBw⟩ := hrel
        clear k0
        by_cases hlt : k < s.parts.length
        · obtain ⟨x, hx⟩ : ∃ x, s.parts[k]? = some x := ⟨_, List.getElem?_eq_getElem hlt⟩
          obtain ⟨hxs, ad, hA, hadl, d0, d1⟩ := (HI.out.keep HBw.out).k2 k x hx
          have HX := Lib.hid hx
          have HXS := Lib.hid hxs
          clear hx hxs
          subst hA
          have hba := bel_alloc wr (.cells #[.string x.nm, .bool x.ext] 93)
          have K5 := Lib.hid (Blk.new wr 93 #[.string x.nm, .bool x.ext])
          have HBx := Lib.hid (HBw.out.trans (hba.mono HBw.out.size))
          clear hba
          go_upto_region 18 with (fail)
          clear d0 d1 hadl
          generalize wr.alloc (.cells _ 93) = w5 at *
          generalize wr.heap.size = g5 at *
          have k5 := fun i => K5.out.cell i
          go_wp2_with fail
          refine (height_any x.nm gh b gs w5 HXS.out (keep HBx.out HK.out) (HM.out.keep HBx.out)).mono ?_
          rintro e w6 ⟨rfl, rfl⟩
          cases hh : hgt gs x.nm with
          | none =>
            have HQ := Lib.hid (no_of HV.out (fun h => parts_none HX.out hh h.2.2.2.2.2))
            clear hh
            go_wp2_with fail
            go_ret
            exact ⟨ret_bool HQ.out.symm, HB.out.trans (HBx.out.mono HB.out.size)⟩
          | some h =>
            have HL2 := Lib.hid (least_snoc HG.out HLe.out HX.out hh)
            have HE2 := Lib.hid (ext_snoc HE.out HX.out)
            clear hh
            rw [Option.getD_some, Option.isSome_some]
            cases eb
            · go_wp2_with fail
              go_roundw
              case rel => exact ⟨k + 1, min least h, x.ext, by omega, by go_num, rfl, rfl, HL2, HE2, HBx⟩
              case measure => simp [intOf]; omega
            · go_wp2_with fail
              go_roundw
              case rel => exact ⟨k + 1, min least h, true, by omega, by go_num, rfl, rfl, HL2, HE2, HBx⟩
              case measure => simp [intOf]; omega
        · obtain rfl : k = s.parts.length := by omega
          have HQ := Lib.hid (show (eb && (decide (0 ≤ s.ov) && decide (s.ov ≤ least - 1))) = vb by
            rw [Bool.eq_iff_iff, HV.out, parts_end HG.out HNE.out HLe.out HE.out]
            exact ⟨fun h => ⟨HN.out, HL.out.1, HL.out.2, H8.out, HS1.out, h⟩, fun h => h.2.2.2.2.2⟩)
          obtain ⟨hl1, hl2, -⟩ := HLe.out
          have k0 := fun i => (keep HBw.out K0.out).cell i
          cases eb
          · go_wp2_with fail
            go_ret
            exact ⟨ret_bool (by rw [← HQ.out]; rfl), HB.out.trans (HBw.out.mono HB.out.size)⟩
          have hba := bel_alloc wr (.cells #[.int .i64 s.ov] 3)
          have HIN := Lib.hid (ints_blk (xs := [s.ov]) (Blk.new wr 3 #[.int .i64 s.ov]) rfl)
          have HBx := Lib.hid (HBw.out.trans (hba.mono HBw.out.size))
          clear hba
          go_wp2_with fail
          generalize wr.alloc (.cells #[.int .i64 s.ov] 3) = w5 at *
          refine (within_any 0 (least - 1) (some ⟨wr.heap.size, 0, none⟩) 1 [s.ov] w5 HIN.out (by simp)).mono ?_
          rintro e w6 ⟨rfl, rfl⟩
          rw [inAll_one, ← Bool.true_and (decide (0 ≤ s.ov) && _), HQ.out]
          go_wp2_with fail
          go_ret
          exact ⟨rfl, HB.out.trans (HBx.out.mono HB.out.size)⟩
end
end Go.Proofs.YtgoafobhhmeppaaGreat
