/- FE, FS in one text. -/
import Derived.Test.YtgoafobhhmeppaaGreatFN
import Derived.StillTailTactics
import Derived.Test.YtgoafobhhmeppaaGreatFV
import Derived.Test.YtgoafobhhmeppaaGreatL3
import Derived.Test.YtgoafobhhmeppaaGreatC3
import Derived.Test.YtgoafobhhmeppaaGreatC5
namespace Go.Proofs.YtgoafobhhmeppaaGreat
section
open Go.RowKit
def glyZ : Gly := ⟨⟨#[]⟩, 0, 0, 0, 0, 0⟩
/-- the first glyph with a name -/
def fndG (gs : List Gly) (s : ByteArray) : Option Gly := gs.find? (fun g => decide (g.nm = s))
theorem fnd_hgt (gs : List Gly) (s : ByteArray) : hgt gs s = (fndG gs s).map (fun g => g.hh + g.dd) := rfl
def FndR (r : Option Gly) (w : World) (e : Ending) (w' : World) : Prop := e = .returned (.tuple #[.agg (r.getD glyZ).c, .bool r.isSome]) ∧ Below w.heap.size w w'
theorem fnd_none {gs : List Gly} {s : ByteArray} (h : ∀ (j : Nat) (g : Gly), j < gs.length → gs[j]? = some g → g.nm ≠ s) : fndG gs s = none := by
  unfold fndG
  rw [List.find?_eq_none]
  intro x hx hd
  obtain ⟨j, hj⟩ := List.getElem?_of_mem hx
  exact h j x (List.getElem?_eq_some_iff.1 hj).1 hj (of_decide_eq_true hd)
theorem fnd_at {gs : List Gly} {s : ByteArray} {k : Nat} {g : Gly} (h : ∀ (j : Nat) (x : Gly), j < k → gs[j]? = some x → x.nm ≠ s) (hg : gs[k]? = some g) (hn : g.nm = s) : fndG gs s = some g := by
  unfold fndG
  have hl : k < gs.length := (List.getElem?_eq_some_iff.1 hg).1
  rw [show gs = gs.take k ++ gs.drop k from (List.take_append_drop k gs).symm, List.find?_append]
  have h1 : (gs.take k).find? (fun g => decide (g.nm = s)) = none := by
    rw [List.find?_eq_none]
    intro x hx hd
    obtain ⟨j, hj⟩ := List.getElem?_of_mem hx
    obtain ⟨hjk, hj2⟩ := take_at hj
    exact h j x hjk hj2 (of_decide_eq_true hd)
  have h2 : gs[k] = g := by rw [List.getElem?_eq_getElem hl] at hg; exact Option.some.inj hg
  rw [h1, Option.none_or, List.drop_eq_getElem_cons hl, h2, List.find?_cons, decide_eq_true hn]
theorem name_tt {a b : ByteArray} (h : a = b) : (a.toList == b.toList) = true := by rw [h]; exact beq_self_eq_true _
theorem name_ff {a b : ByteArray} (h : a ≠ b) : (a.toList == b.toList) = false := by
  rw [beq_eq_false_iff_ne, ByteArray.toList_eq, ByteArray.toList_eq]
  intro e
  apply h
  apply ByteArray.ext
  apply Array.ext'
  exact e
set_option maxRecDepth 100000 in
set_option maxHeartbeats 4000000 in
theorem rfind05_any (A1 : Option Addr) (c1 : Nat) (A2 : Option Addr) (n2 c2 : Nat) (p : Nat → Int) (gs : List Gly) (s : ByteArray) (w : World) (hn : gs.length ≤ 1000) (hF : GlysAt w A1 gs) : Calls Tryz.prog 67 #[.agg (fontC A1 gs.length c1 A2 n2 c2 p), .string s] w (FndR (fndG gs s) w) := by
  have hb1 := bel_alloc w (.cells (fontC A1 gs.length c1 A2 n2 c2 p) 27)
  have hb2 := bel_alloc (w.alloc (.cells (fontC A1 gs.length c1 A2 n2 c2 p) 27)) (.cells glyZ.c 70)
  have K0 := Lib.hid (keep hb2 (Blk.new w 27 (fontC A1 gs.length c1 A2 n2 c2 p)))
  have K1 := Lib.hid (Blk.new (w.alloc (.cells (fontC A1 gs.length c1 A2 n2 c2 p) 27)) 70 glyZ.c)
  rw [show (w.alloc (.cells (fontC A1 gs.length c1 A2 n2 c2 p) 27)).heap.size = w.heap.size + 1 by simp] at K1
  have HB := Lib.hid (hb1.trans (hb2.mono hb1.size))
  have HF := Lib.hid (hF.keep HB.out)
  have HCS := Lib.hid (show (fontC A1 gs.length c1 A2 n2 c2 p)[0]? = some (.slice A1 gs.length c1) from rfl)
  clear hb1 hb2 hF
  rw [show glyZ.c = #[.string ⟨#[]⟩, .int .i64 0, .int .i64 0, .int .i64 0, .int .i64 0, .int .i64 0] from rfl] at K0 K1 HB HF
  generalize fontC A1 gs.length c1 A2 n2 c2 p = cs at *
  go_enter Tryz.func67, Tryz.ntmps67
  go_wp2_with fail
  generalize (w.alloc (.cells cs 27)).alloc (.cells _ 70) = w1 at *
  go_loop [6] (fun i => ∃ k : Nat, k ≤ gs.length ∧ i = .int .i64 k ∧ Hid (∀ (j : Nat) (x : Gly), j < k → gs[j]? = some x → x.nm ≠ s)) (fun i => gs.length - (intOf i).toNat)
  case atStart => exact ⟨0, by omega, rfl, Lib.hid (fun j x h => by omega)⟩
  case round =>
    obtain ⟨k, hk, rfl, HJ⟩ := hrel
    have c0 : w1.cell? ⟨w.heap.size, 0, none⟩ = some (.slice A1 gs.length c1) := (K0.out.cell 0).trans HCS.out
    by_cases hlt : k < gs.length
    · obtain ⟨g, hg⟩ : ∃ g, gs[k]? = some g := ⟨_, List.getElem?_eq_getElem hlt⟩
      obtain ⟨ad, hA, hsz, hga⟩ := HF.out.at_ hg
      subst hA
      obtain ⟨hl0, d0, d1, d2, d3, d4, d5⟩ := hga
      by_cases hs : g.nm = s
      · have HQ := Lib.hid (fnd_at HJ.out hg hs)
        have q := name_tt hs
        clear hs hg
        have k1 := fun i => K1.out.cell i
        have f1 := fun i => K1.out.frozen i
        go_wp2_with fail
        have KF := (((((K1.out.set_ 0 (.string g.nm)).set_ 1 (.int .i64 g.ww)).set_ 2 (.int .i64 g.hh)).set_ 3 (.int .i64 g.dd)).set_ 4 (.int .i64 g.ic)).set_ 5 (.int .i64 g.ac)
        have HX := Lib.hid (((((((HB.out.setCell (p := ⟨w.heap.size + 1, 0, none⟩) (by show w.heap.size ≤ w.heap.size + 1; omega) (.string g.nm)).setCell (p := ⟨w.heap.size + 1, 1, none⟩) (by show w.heap.size ≤ w.heap.size + 1; omega) (.int .i64 g.ww)).setCell (p := ⟨w.heap.size + 1, 2, none⟩) (by show w.heap.size ≤ w.heap.size + 1; omega) (.int .i64 g.hh)).setCell (p := ⟨w.heap.size + 1, 3, none⟩) (by show w.heap.size ≤ w.heap.size + 1; omega) (.int .i64 g.dd)).setCell (p := ⟨w.heap.size + 1, 4, none⟩) (by show w.heap.size ≤ w.heap.size + 1; omega) (.int .i64 g.ic)).setCell (p := ⟨w.heap.size + 1, 5, none⟩) (by show w.heap.size ≤ w.heap.size + 1; omega) (.int .i64 g.ac)))
        clear k1 f1 d0 d1 d2 d3 d4 d5 c0
        generalize (((((w1.setCell ⟨w.heap.size + 1, 0, none⟩ (.string g.nm)).setCell ⟨w.heap.size + 1, 1, none⟩ (.int .i64 g.ww)).setCell ⟨w.heap.size + 1, 2, none⟩ (.int .i64 g.hh)).setCell ⟨w.heap.size + 1, 3, none⟩ (.int .i64 g.dd)).setCell ⟨w.heap.size + 1, 4, none⟩ (.int .i64 g.ic)).setCell ⟨w.heap.size + 1, 5, none⟩ (.int .i64 g.ac) = wf at *
        have dC := fun i => KF.cell i
        refine bodyPost_ret (v := .tuple #[.agg g.c, .bool true]) (by simp [results, Tryz.results67, go_sem, dC]) rfl ⟨?_, HX.out⟩
        rw [HQ.out]
        rfl
      · have HN := Lib.hid (show ∀ (j : Nat) (x : Gly), j < k + 1 → gs[j]? = some x → x.nm ≠ s from fun j x hj hx => by
          rcases Nat.lt_or_ge j k with h | h
          · exact HJ.out j x h hx
          · obtain rfl : j = k := by omega
            rw [hg] at hx
            obtain rfl := Option.some.inj hx
            exact hs)
        have q := name_ff hs
        clear hs hg
        go_wp2_with fail
        go_round
        case rel => exact ⟨k + 1, by omega, by go_num, HN⟩
        case measure => simp [intOf]; omega
    · obtain rfl : k = gs.length := by omega
      have HQ := Lib.hid (fnd_none HJ.out)
      have k1 := fun i => K1.out.cell i
      have f1 := fun i => K1.out.frozen i
      go_wp2_with fail
      have KF := (((((K1.out.set_ 0 (.string ⟨#[]⟩)).set_ 1 (.int .i64 0)).set_ 2 (.int .i64 0)).set_ 3 (.int .i64 0)).set_ 4 (.int .i64 0)).set_ 5 (.int .i64 0)
      have HX := Lib.hid (((((((HB.out.setCell (p := ⟨w.heap.size + 1, 0, none⟩) (by show w.heap.size ≤ w.heap.size + 1; omega) (.string ⟨#[]⟩)).setCell (p := ⟨w.heap.size + 1, 1, none⟩) (by show w.heap.size ≤ w.heap.size + 1; omega) (.int .i64 0)).setCell (p := ⟨w.heap.size + 1, 2, none⟩) (by show w.heap.size ≤ w.heap.size + 1; omega) (.int .i64 0)).setCell (p := ⟨w.heap.size + 1, 3, none⟩) (by show w.heap.size ≤ w.heap.size + 1; omega) (.int .i64 0)).setCell (p := ⟨w.heap.size + 1, 4, none⟩) (by show w.heap.size ≤ w.heap.size + 1; omega) (.int .i64 0)).setCell (p := ⟨w.heap.size + 1, 5, none⟩) (by show w.heap.size ≤ w.heap.size + 1; omega) (.int .i64 0)))
      clear k1 f1 c0
      generalize (((((w1.setCell ⟨w.heap.size + 1, 0, none⟩ (.string ⟨#[]⟩)).setCell ⟨w.heap.size + 1, 1, none⟩ (.int .i64 0)).setCell ⟨w.heap.size + 1, 2, none⟩ (.int .i64 0)).setCell ⟨w.heap.size + 1, 3, none⟩ (.int .i64 0)).setCell ⟨w.heap.size + 1, 4, none⟩ (.int .i64 0)).setCell ⟨w.heap.size + 1, 5, none⟩ (.int .i64 0) = wf at *
      have dC := fun i => KF.cell i
      refine bodyPost_ret (v := .tuple #[.agg glyZ.c, .bool false]) (by simp [results, Tryz.results67, go_sem, dC, glyZ]) rfl ⟨?_, HX.out⟩
      rw [HQ.out]
      rfl
/-- the reference's conditions on one glyph -/
theorem glyB_split (g : Gly) : glyB g = (namB g.nm && (inAll (-20000) 20000 [g.ww, g.hh, g.dd, g.ic, g.ac] && decide (0 ≤ g.ww))) := by
  rw [Bool.eq_iff_iff, glyB_iff]
  unfold inAll
  simp only [List.all_cons, List.all_nil, Bool.and_true, Bool.and_eq_true, decide_eq_true_eq]
  constructor
  · rintro ⟨h1, h2⟩
    exact ⟨h1, by omega⟩
  · rintro ⟨h1, h2⟩
    exact ⟨h1, by omega⟩
set_option maxRecDepth 100000 in
set_option maxHeartbeats 4000000 in
theorem rglyphs_any (A : Option Addr) (cap : Nat) (gs : List Gly) (vb : Bool) (w : World) (hvb : vb = true ↔ GlysOk gs) (hn : gs.length ≤ 1000) (hF : GlysAt w A gs) : Calls Tryz.prog 48 #[.slice A gs.length cap] w fun e w' => e = .returned (.bool vb) ∧ Below w.heap.size w w' := by
  have HV := Lib.hid hvb
  have HF := Lib.hid hF
  clear hvb hF
  go_enter Tryz.func48, Tryz.ntmps48
  go_wp2_with fail
  go_loopw [3] (fun i wr => ∃ k : Nat, k ≤ gs.length ∧ i = .int .i64 k ∧ Hid (GlysOk (gs.take k)) ∧ Hid (Below w.heap.size w wr)) (fun i _ => gs.length - (intOf i).toNat)
  case atStart => exact ⟨0, by omega, rfl, Lib.hid (fun i x hi => by simp at hi), Lib.hid (Below.refl _ _)⟩
  case round =>
    obtain ⟨k, hk, rfl, HO, HB⟩ := hrel
    by_cases hlt : k < gs.length
    · obtain ⟨g, hg⟩ : ∃ g, gs[k]? = some g := ⟨_, List.getElem?_eq_getElem hlt⟩
      obtain ⟨ad, hA, hsz, hga⟩ := (HF.out.keep HB.out).at_ hg
      subst hA
      have HGA := Lib.hid hga
      have HSZ := Lib.hid hsz
      have HG := Lib.hid hg
      have HGB := Lib.hid (glyB_split g)
      clear hg hsz
      obtain ⟨hl0, d0, d1, d2, d3, d4, d5⟩ := hga
      go_wp2_with fail
      refine (rname05_any g.nm wr HSZ.out).mono ?_
      rintro e w2 ⟨rfl, rfl⟩
      cases hn1 : namB g.nm
      · have HQ := Lib.hid (no_of HV.out (fun h => glys_bad HG.out (by rw [HGB.out, hn1]; rfl) h))
        clear hn1
        go_wp2_with fail
        go_ret
        exact ⟨ret_bool HQ.out.symm, HB.out⟩
      go_wp2_with fail
      refine (rmetrics_any g wr).mono ?_
      rintro e w2 ⟨rfl, hb⟩
      have HGA2 := Lib.hid (HGA.out.keep hb)
      have HB2 := Lib.hid (HB.out.trans (hb.mono HB.out.size))
      clear hb d0 d1 d2 d3 d4 d5 hl0
      obtain ⟨hl0, d0, d1, d2, d3, d4, d5⟩ := HGA2.out
      cases hm : inAll (-20000) 20000 [g.ww, g.hh, g.dd, g.ic, g.ac]
      · have HQ := Lib.hid (no_of HV.out (fun h => glys_bad HG.out (by rw [HGB.out, hn1, hm]; rfl) h))
        clear hn1 hm
        go_wp2_with fail
        go_ret
        exact ⟨ret_bool HQ.out.symm, HB2.out⟩
      by_cases hw0 : g.ww < 0
      · have HQ := Lib.hid (no_of HV.out (fun h => glys_bad HG.out (by rw [HGB.out, hn1, hm, decide_eq_false (by omega)]; rfl) h))
        clear hn1 hm
        go_wp2_with fail
        go_ret
        exact ⟨ret_bool HQ.out.symm, HB2.out⟩
      have HGB1 := Lib.hid (show glyB g = true by rw [HGB.out, hn1, hm, decide_eq_true (by omega)]; rfl)
      clear hn1 hm HGB
      go_wp2_with fail
      clear d0 d1 d2 d3 d4 d5 hl0 hw0
      go_loopw [4] (fun i wr => ∃ j : Nat, j ≤ k ∧ i = .int .i64 j ∧ Hid (∀ (i : Nat) (x : Gly), i < j → gs[i]? = some x → x.nm ≠ g.nm) ∧ Hid (Below w2.heap.size w2 wr)) (fun i _ => k - (intOf i).toNat)
      case atStart => exact ⟨0, by omega, rfl, Lib.hid (fun i x h => by omega), Lib.hid (Below.refl _ _)⟩
      case round =>
        obtain ⟨j, hj, rfl, HJ, HBx⟩ := hrel
        have HB3 := Lib.hid (HB2.out.trans (HBx.out.mono HB2.out.size))
        by_cases hlt2 : j < k
        · obtain ⟨x, hx⟩ : ∃ x, gs[j]? = some x := ⟨_, List.getElem?_eq_getElem (by omega)⟩
          obtain ⟨ad2, hA, hsz2, hxa⟩ := (HF.out.keep HB3.out).at_ hx
          obtain rfl := Option.some.inj hA
          have HX := Lib.hid hx
          clear hx hA hsz2
          have d0 := (HGA2.out.keep HBx.out).d0
          have x0 := hxa.d0
          have hji : j < gs.length := by omega
          by_cases hnm : x.nm = g.nm
          · have HQ := Lib.hid (no_of HV.out (fun ho => (ho k g HG.out).2 j x hlt2 HX.out hnm))
            have q := name_tt hnm
            clear hnm
            go_upto_region 9 with (fail)
            go_quiet (fail)
            go_wp2_with fail
            go_ret
            exact ⟨ret_bool HQ.out.symm, below_drewN HB3.out _⟩
          · have HDN := Lib.hid (show ∀ (i : Nat) (y : Gly), i < j + 1 → gs[i]? = some y → y.nm ≠ g.nm from fun i y hi hy => by
              rcases Nat.lt_or_ge i j with h | h
              · exact HJ.out i y h hy
              · obtain rfl : i = j := by omega
                rw [HX.out] at hy
                obtain rfl := Option.some.inj hy
                exact hnm)
            have q := name_ff hnm
            clear hnm
            go_upto_region 9 with (fail)
            go_quiet (fail)
            have HBy := Lib.hid (below_drewN HBx.out nq)
            clear d0 x0
            generalize wr.drewN nq = wy at *
            go_wp2_with fail
            go_roundw
            case rel => exact ⟨j + 1, by omega, by go_num, HDN, HBy⟩
            case measure => simp [intOf]; omega
        · obtain rfl : j = k := by omega
          have HSN := Lib.hid (glys_snoc HO.out HG.out HGB1.out (by
            cases hh : hgt (gs.take j) g.nm with
            | none => rfl
            | some h =>
              obtain ⟨i, x, hi, hx, _⟩ := hgt_some hh
              obtain ⟨hij, hi2⟩ := take_at hi
              exact absurd hx (HJ.out i x hij hi2)))
          go_wp2_with fail
          go_roundw
          case rel => exact ⟨j + 1, by omega, by go_num, HSN, HB3⟩
          case measure => simp [intOf]; omega
    · obtain rfl : k = gs.length := by omega
      have HQ := Lib.hid (HV.out.2 (by have h := HO.out; rwa [List.take_of_length_le (Nat.le_refl _)] at h))
      go_wp2_with fail
      go_ret
      exact ⟨ret_bool HQ.out.symm, HB.out⟩
end
section
open Go.RowKit
theorem gives_load_row {P : Program} {w : World} {F : Act} {o : Oper} {R : Value → World → Prop} (ty : TypeId) (x : Operand) (ho : o.op = .load ty x)
    (g : Nat) (hx : F.eval x = .pointer (some ⟨g, 0, none⟩)) (t : TypeId) (cs : Array Value) (fr : Nat × Nat) (d : TypeDesc) (hg : w.heap[g]? = some (.cells cs t fr))
    (hu : P.underlying ty = some d) (hd : (match d with | .struct _ | .array _ _ => true | _ => false) = true) (hi : (P.info? ty).map (·.size) = some cs.size)
    (h : R (.agg cs) w) : Gives P (execOp F.eval o) w R := by
  refine Gives.value (v := .agg cs) (w' := w) ?_ h
  unfold execOp
  simp only [ho, hx, Instr.loadAt, Instr.sureAddr, Sem.run_bind, Sem.run_pure, Result.andThen_ok, run_loadVar_row w g t ty cs fr d hg hu hd hi]
/-- while a glyph that was found is put into a box -/
def InvF (w1 : World) (B : Nat) (g : Gly) : List Bool → Nat → World → Prop
  | [b1, b2], gx, wq => Below w1.heap.size w1 wq ∧ B ≤ gx ∧ (b1 = true → b2 = false → Blk wq gx 70 glyZ.c) ∧ (b2 = true → Blk wq gx 70 g.c)
  | _, _, _ => False
theorem InvF.kept {w1 : World} {B : Nat} {g : Gly} {b1 b2 : Bool} {gx : Nat} {wq w' : World} (h : InvF w1 B g [b1, b2] gx wq) (hb : Below wq.heap.size wq w') : InvF w1 B g [b1, b2] gx w' :=
  ⟨h.1.trans (hb.mono h.1.size), h.2.1, fun e f => _root_.Go.Proofs.YtgoafobhhmeppaaGreat.keep hb (h.2.2.1 e f), fun e => _root_.Go.Proofs.YtgoafobhhmeppaaGreat.keep hb (h.2.2.2 e)⟩
set_option maxRecDepth 100000 in
set_option maxHeartbeats 1600000 in
theorem rparams05_any (p : Nat → Int) (w : World) : Calls Tryz.prog 47 #[.agg (prmC p)] w fun e w' => e = .returned (.bool (paramsB p)) ∧ Below w.heap.size w w' := by
  have HQ := Lib.hid (show paramsB p = (inAll 1 100 [p 15, p 16, p 17] && inAll 0 20000 [p 0, p 1, p 2, p 3, p 4, p 5, p 6, p 7, p 8, p 9, p 10, p 11, p 12, p 13, p 14, p 18, p 19]) from rfl)
  have K0 := Lib.hid ((Blk.new w 25 (prmC p)).alloc (.cells #[.int .i64 (p 0), .int .i64 (p 1), .int .i64 (p 2), .int .i64 (p 3), .int .i64 (p 4), .int .i64 (p 5), .int .i64 (p 6), .int .i64 (p 7), .int .i64 (p 8), .int .i64 (p 9), .int .i64 (p 10), .int .i64 (p 11), .int .i64 (p 12), .int .i64 (p 13), .int .i64 (p 14), .int .i64 (p 18), .int .i64 (p 19)] 3))
  have K1 := Lib.hid (Blk.new (w.alloc (.cells (prmC p) 25)) 3 #[.int .i64 (p 0), .int .i64 (p 1), .int .i64 (p 2), .int .i64 (p 3), .int .i64 (p 4), .int .i64 (p 5), .int .i64 (p 6), .int .i64 (p 7), .int .i64 (p 8), .int .i64 (p 9), .int .i64 (p 10), .int .i64 (p 11), .int .i64 (p 12), .int .i64 (p 13), .int .i64 (p 14), .int .i64 (p 18), .int .i64 (p 19)])
  have H0 := Lib.hid ((bel_alloc w (.cells (prmC p) 25)).alloc (by simp) (.cells #[.int .i64 (p 0), .int .i64 (p 1), .int .i64 (p 2), .int .i64 (p 3), .int .i64 (p 4), .int .i64 (p 5), .int .i64 (p 6), .int .i64 (p 7), .int .i64 (p 8), .int .i64 (p 9), .int .i64 (p 10), .int .i64 (p 11), .int .i64 (p 12), .int .i64 (p 13), .int .i64 (p 14), .int .i64 (p 18), .int .i64 (p 19)] 3))
  rw [show (w.alloc (.cells (prmC p) 25)).heap.size = w.heap.size + 1 by simp] at K1
  unfold prmC prmL at K0 K1 H0
  unfold prmC prmL
  go_enter Tryz.func47, Tryz.ntmps47
  go_wp2_with fail
  generalize (w.alloc (.cells _ 25)).alloc (.cells #[.int .i64 (p 0), .int .i64 (p 1), .int .i64 (p 2), .int .i64 (p 3), .int .i64 (p 4), .int .i64 (p 5), .int .i64 (p 6), .int .i64 (p 7), .int .i64 (p 8), .int .i64 (p 9), .int .i64 (p 10), .int .i64 (p 11), .int .i64 (p 12), .int .i64 (p 13), .int .i64 (p 14), .int .i64 (p 18), .int .i64 (p 19)] 3) = w1 at *
  have HI := Lib.hid (ints_blk (xs := [p 0, p 1, p 2, p 3, p 4, p 5, p 6, p 7, p 8, p 9, p 10, p 11, p 12, p 13, p 14, p 18, p 19]) K1.out rfl)
  have HL := Lib.hid (show [p 0, p 1, p 2, p 3, p 4, p 5, p 6, p 7, p 8, p 9, p 10, p 11, p 12, p 13, p 14, p 18, p 19].length = 17 from rfl)
  clear K1
  generalize [p 0, p 1, p 2, p 3, p 4, p 5, p 6, p 7, p 8, p 9, p 10, p 11, p 12, p 13, p 14, p 18, p 19] = xs at *
  go_loop [4] (fun i => ∃ k : Nat, k ≤ 17 ∧ i = .int .i64 k ∧ Hid (NumTo 0 20000 xs k)) (fun i => 17 - (intOf i).toNat)
  case atStart => exact ⟨0, by omega, rfl, Lib.hid (fun j _ h => by omega)⟩
  case round =>
    obtain ⟨k, hk, rfl, HJ⟩ := hrel
    by_cases hlt : k < 17
    · obtain ⟨x, hx⟩ : ∃ x, xs[k]? = some x := ⟨_, List.getElem?_eq_getElem (by rw [HL.out]; exact hlt)⟩
      obtain ⟨gx, hgx, hgl, d0⟩ := HI.out k x hx
      obtain rfl : w.heap.size + 1 = gx := by simpa using hgx
      have HX := Lib.hid hx
      clear hx hgx
      go_wp2_with fail
      refine (rwithin_any x 0 20000 w1).mono ?_
      rintro e w2 ⟨rfl, rfl⟩
      by_cases hr : 0 ≤ x ∧ x ≤ 20000
      · have HN := Lib.hid (numTo_snoc HJ.out HX.out hr)
        rw [decide_eq_true hr.1, decide_eq_true hr.2]
        clear hr
        go_wp2_with fail
        go_round
        case rel => exact ⟨k + 1, by omega, by go_num, HN⟩
        case measure => simp [intOf]; omega
      · have HQ2 := Lib.hid (inAll_no HX.out (show x < 0 ∨ 20000 < x by omega))
        rw [show (decide (0 ≤ x) && decide (x ≤ 20000)) = false by rw [← Bool.decide_and]; exact decide_eq_false hr]
        clear hr
        go_wp2_with fail
        go_ret
        exact ⟨ret_bool (by rw [HQ.out, HQ2.out, Bool.and_false]), H0.out⟩
    · obtain rfl : k = 17 := by omega
      have HQ2 := Lib.hid (numTo_all (by rw [HL.out]; exact HJ.out))
      replace HQ := Lib.hid (HQ.out.trans (by rw [HQ2.out, Bool.and_true, inAll_cons, inAll_cons, inAll_cons]))
      clear HQ2
      have c15 := K0.out.cell 15
      have c16 := K0.out.cell 16
      have c17 := K0.out.cell 17
      go_wp2_with fail
      refine (rwithin_any (p 15) 1 100 w1).mono ?_
      rintro e w2 ⟨rfl, rfl⟩
      cases h1 : (decide (1 ≤ p 15) && decide (p 15 ≤ 100))
      · rw [h1] at HQ
        clear h1
        go_wp2_with fail
        go_ret
        exact ⟨ret_bool (by rw [HQ.out]; rfl), H0.out⟩
      rw [h1] at HQ
      clear h1
      go_wp2_with fail
      refine (rwithin_any (p 16) 1 100 w1).mono ?_
      rintro e w2 ⟨rfl, rfl⟩
      cases h1 : (decide (1 ≤ p 16) && decide (p 16 ≤ 100))
      · rw [h1] at HQ
        clear h1
        go_wp2_with fail
        go_ret
        exact ⟨ret_bool (by rw [HQ.out]; rfl), H0.out⟩
      rw [h1] at HQ
      clear h1
      go_wp2_with fail
      refine (rwithin_any (p 17) 1 100 w1).mono ?_
      rintro e w2 ⟨rfl, rfl⟩
      cases h1 : (decide (1 ≤ p 17) && decide (p 17 ≤ 100))
      · rw [h1] at HQ
        clear h1
        go_wp2_with fail
        go_ret
        exact ⟨ret_bool (by rw [HQ.out]; rfl), H0.out⟩
      · rw [h1] at HQ
        clear h1
        go_wp2_with fail
        go_ret
        exact ⟨ret_bool (by rw [HQ.out]; rfl), H0.out⟩
theorem fnd_ok {gs : List Gly} {s : ByteArray} {g : Gly} (hg : GlysOk gs) (h : fndG gs s = some g) : (-20000 ≤ g.hh ∧ g.hh ≤ 20000) ∧ (-20000 ≤ g.dd ∧ g.dd ≤ 20000) ∧ hgt gs s = some (g.hh + g.dd) := by
  unfold fndG at h
  obtain ⟨k, hk⟩ := List.getElem?_of_mem (List.mem_of_find?_eq_some h)
  have := (glyB_iff g).1 (hg k g hk).1
  exact ⟨this.2.2.1, this.2.2.2.1, by rw [fnd_hgt]; unfold fndG; rw [h]; rfl⟩
theorem fnd_no {gs : List Gly} {s : ByteArray} (h : fndG gs s = none) : hgt gs s = none := by rw [fnd_hgt, h]; rfl
set_option maxRecDepth 100000 in
set_option maxHeartbeats 8000000 in
theorem rstretch_any (A1 : Option Addr) (c1 : Nat) (A2 : Option Addr) (n2 c2 : Nat) (p : Nat → Int) (gs : List Gly) (s : Stc) (B1 : Option Addr) (e1 : Nat) (B2 : Option Addr) (e2 : Nat) (vb : Bool) (w : World) (hvb : vb = true ↔ StcOk gs s) (hgs : GlysOk gs) (hn : gs.length ≤ 1000) (hF : GlysAt w A1 gs) (hI : StcIn w s B1 e1 B2 e2) :
    Calls Tryz.prog 49 #[.agg (fontC A1 gs.length c1 A2 n2 c2 p), .agg (s.c B1 e1 B2 e2)] w fun e w' => e = .returned (.bool vb) ∧ Below w.heap.size w w' := by
  have HFD := Lib.hid (fun (w : World) (hF : GlysAt w A1 gs) (x : ByteArray) => rfind05_any A1 c1 A2 n2 c2 p gs x w hn hF)
  have HSZ := Lib.hid (show (Tryz.prog.info? 27).map (·.size) = some (fontC A1 gs.length c1 A2 n2 c2 p).size by kernel_rfl)
  generalize fontC A1 gs.length c1 A2 n2 c2 p = cs at *
  have hb1 := bel_alloc w (.cells cs 27)
  have hb2 := bel_alloc (w.alloc (.cells cs 27)) (.cells (s.c B1 e1 B2 e2) 53)
  have HB := Lib.hid (hb1.trans (hb2.mono hb1.size))
  have K0 := Lib.hid (keep hb2 (Blk.new w 27 cs))
  have K3 := Lib.hid (Blk.new (w.alloc (.cells cs 27)) 53 (s.c B1 e1 B2 e2))
  rw [show (w.alloc (.cells cs 27)).heap.size = w.heap.size + 1 by simp] at K3
  have HF := Lib.hid (hF.keep HB.out)
  have HI := Lib.hid (hI.keep HB.out)
  have HV := Lib.hid hvb
  have HG := Lib.hid hgs
  have HNL := Lib.hid HI.out.n1
  have HNP := Lib.hid HI.out.n2
  clear hb1 hb2 hF hI hvb hgs hn
  go_enter Tryz.func49, Tryz.ntmps49
  go_upto_region 1 with (fail)
  generalize (w.alloc (.cells cs 27)).alloc (.cells _ 53) = w1 at *
  have k3 := fun i => K3.out.cell i
  go_wp2_with fail
  refine (rname05_any s.nm w1 HI.out.nm).mono ?_
  rintro e w2 ⟨rfl, rfl⟩
  cases hn1 : namB s.nm
  · have HQ := Lib.hid (no_of HV.out (fun h => by rw [h.1] at hn1; cases hn1))
    clear hn1
    go_wp2_with fail
    go_ret
    exact ⟨ret_bool HQ.out.symm, HB.out⟩
  have HN := Lib.hid hn1
  clear hn1
  by_cases hz : s.sizes.length < 1
  · have HQ := Lib.hid (no_of HV.out (fun h => by have := h.2.1; omega))
    have hz' : (s.sizes.length : Int) < 1 := by omega
    clear hz
    go_wp2_with fail
    go_ret
    exact ⟨ret_bool HQ.out.symm, HB.out⟩
  have hz' : ¬ (s.sizes.length : Int) < 1 := by omega
  by_cases h16 : 16 < s.sizes.length
  · have HQ := Lib.hid (no_of HV.out (fun h => by have := h.2.2.1; omega))
    have h16' : (16 : Int) < (s.sizes.length : Int) := by omega
    clear h16 hz
    go_wp2_with fail
    go_ret
    exact ⟨ret_bool HQ.out.symm, HB.out⟩
  have h16' : ¬ (16 : Int) < (s.sizes.length : Int) := by omega
  by_cases h8 : 8 < s.parts.length
  · have HQ := Lib.hid (no_of HV.out (fun h => by have := h.2.2.2.1; omega))
    have h8' : (8 : Int) < (s.parts.length : Int) := by omega
    clear h8 h16 hz
    go_wp2_with fail
    go_ret
    exact ⟨ret_bool HQ.out.symm, HB.out⟩
  have h8' : ¬ (8 : Int) < (s.parts.length : Int) := by omega
  have HL := Lib.hid (show 1 ≤ s.sizes.length ∧ s.sizes.length ≤ 16 ∧ s.parts.length ≤ 8 by omega)
  clear hz h16 h8
  go_wp2_with fail
  clear hz' h16' h8' k3
  go_loopw [5, 6] (fun l i wr => ∃ (k : Nat) (last : Int), k ≤ s.sizes.length ∧ i = .int .i64 k ∧ l = .int .i64 last ∧ Hid (SizesOk gs (s.sizes.take k)) ∧ Hid (LastIs 0 gs s.sizes k last) ∧ Hid (Below w1.heap.size w1 wr)) (fun _ i _ => s.sizes.length - (intOf i).toNat)
  case atStart => exact ⟨0, 0, by omega, rfl, rfl, sizes_zero, Lib.hid (.inl ⟨rfl, rfl⟩), Lib.hid (Below.refl _ _)⟩
  case round =>
    obtain ⟨k, last, hk, rfl, rfl, HS, HLa, HBw⟩ := hrel
    have hls : s.sizes.length ≤ 16 := HL.out.2.1
    have k3 := fun i => (keep HBw.out K3.out).cell i
    by_cases hlt : k < s.sizes.length
    · obtain ⟨x, hx⟩ : ∃ x, s.sizes[k]? = some x := ⟨_, List.getElem?_eq_getElem hlt⟩
      obtain ⟨hxs, ad, hA, hadl, d0⟩ := HI.out.k1 k x hx
      subst hA
      have HX := Lib.hid hx
      have HD := Lib.hid (And.intro hadl d0)
      have hki : (k : Int) < (s.sizes.length : Int) := by omega
      clear hx hxs hadl d0
      go_upto_region 7 with (fail)
      clear k3
      generalize wr = w5 at *
      refine region_ghost (X := Nat) (by kernel_rfl) _ (fun gx => [.agg cs, .pointer (some ⟨w.heap.size + 1, 1, none⟩), .slice (some ad) s.sizes.length e1, .int .i64 (↑k), .pointer (some (ad.add k)), .string x, .tuple #[.agg ((fndG gs x).getD glyZ).c, .bool (fndG gs x).isSome], .tuple #[.agg ((fndG gs x).getD glyZ).c, .bool (fndG gs x).isSome], .agg ((fndG gs x).getD glyZ).c, .bool (fndG gs x).isSome, .pointer (some ⟨gx, 0, none⟩), undef, .bool (fndG gs x).isSome]) [true, true, true, true, true, true, true, true, true, true, true, true, true] [10, 11] (InvF w1 w1.heap.size ((fndG gs x).getD glyZ)) w1.heap.size (by kernel_rfl) (fun gx => by simp [fin, finOn, dstAt, List.range, List.range.loop, Act.put]; rfl) (fun _ => by kernel_rfl) (by kernel_rfl) ⟨below_drew HBw.out, Nat.le_refl _, (fun h => by cases h), fun h => by cases h⟩ ?_ ?_
      · refine ⟨fun L gx wq hL hb ha hI => ?_, fun L gx wq hL hb ha hI => ?_, fun L gx wq hL hb ha hI => ?_, fun L gx wq hL hb ha hI => ?_, fun L gx wq hL hb ha hI => ?_, fun L gx wq hL hb ha hI => ?_, fun L gx wq hL hb ha hI => ?_, fun L gx wq hL hb ha hI => ?_, fun L gx wq hL hb ha hI => ?_, fun L gx wq hL hb ha hI => ?_, fun L gx wq hL hb ha hI => ?_, fun L gx wq hL hb ha hI => ?_, fun L gx wq hL hb ha hI => ?_, trivial⟩
        · exact gives_load_row 27 (.tmp 2) rfl w.heap.size rfl 27 cs (0, 0) _ (keep hI.1 K0.out) Tryz.underlying27 rfl HSZ.out ⟨gx, rfl, KeepsV.same, hI⟩
        · exact Gives.plain (v := .pointer (some ⟨w.heap.size + 1, 1, none⟩)) (w' := wq) (by simp [go_sem]) rfl hI
        · have dJ := (keep hI.1 K3.out).cell 1
          exact Gives.plain (v := .slice (some ad) s.sizes.length e1) (w' := wq) (by simp [go_sem, dJ]) rfl hI
        · exact Gives.plain (v := .int .i64 (↑k)) (w' := wq) (by kernel_rfl) rfl hI
        · skip
          exact Gives.plain (v := .pointer (some (ad.add k))) (w' := wq) (by simp [go_sem, hlt]; try omega) rfl hI
        · have dJ := (hI.1.cell (by rw [fadd_blk]; exact HD.out.1)).trans HD.out.2
          exact Gives.plain (v := .string x) (w' := wq) (by simp [go_sem, dJ]) rfl hI
        · refine Gives.call (f := 67) (args := #[.agg cs, .string x]) (w' := wq) (by kernel_rfl) ((HFD.out wq (HF.out.keep hI.1) x).mono ?_)
          rintro e wz ⟨rfl, hbz⟩
          exact ⟨_, rfl, gx, rfl, KeepsV.same, InvF.kept hI hbz⟩
        · exact Gives.plain (v := .tuple #[.agg ((fndG gs x).getD glyZ).c, .bool (fndG gs x).isSome]) (w' := wq) (by kernel_rfl) rfl hI
        · exact Gives.plain (v := .agg ((fndG gs x).getD glyZ).c) (w' := wq) (by simp [go_sem]) rfl hI
        · exact Gives.plain (v := .bool (fndG gs x).isSome) (w' := wq) (by simp [go_sem]) rfl hI
        · have e10 : L 10 = false := hL
          have e11 : L 11 = false := ha 11 (by kernel_rfl)
          simp only [List.map, e10, e11] at hI ⊢
          have hK := InvF.kept hI (bel_alloc wq (.cells glyZ.c 70))
          exact Gives.value (v := .pointer (some ⟨wq.heap.size, 0, none⟩)) (w' := wq.alloc (.cells glyZ.c 70)) (by simp [go_sem]; rfl) ⟨wq.heap.size, rfl, (KeepsV.of_same ⟨.inr (.inr rfl), .inr (.inr rfl), .inr (.inr rfl), .inr (.inr rfl), .inr (.inr rfl), .inr (.inr rfl), .inr (.inr rfl), .inr (.inr rfl), .inr (.inr rfl), .inr (.inr rfl), .inl rfl, .inr (.inr rfl), .inr (.inr rfl), trivial⟩), hK.1, hI.1.size, (fun _ _ => Blk.new _ _ _), fun h => by cases h⟩
        · have e10 : L 10 = true := hb 10 (by kernel_rfl)
          have e11 : L 11 = false := hL
          simp only [List.map, e10, e11] at hI ⊢
          obtain ⟨h1, h2, h3, _⟩ := hI
          have cJ := fun i => (h3 rfl rfl).cell i
          have fJ := fun i => (h3 rfl rfl).frozen i
          generalize hgg : (fndG gs x).getD glyZ = gg at *
          have hset := ((((((h3 rfl rfl).set_ 0 (.string gg.nm)).set_ 1 (.int .i64 gg.ww)).set_ 2 (.int .i64 gg.hh)).set_ 3 (.int .i64 gg.dd)).set_ 4 (.int .i64 gg.ic)).set_ 5 (.int .i64 gg.ac)
          exact Gives.skip (w' := (((((wq.setCell ⟨gx, 0, none⟩ (.string gg.nm)).setCell ⟨gx, 1, none⟩ (.int .i64 gg.ww)).setCell ⟨gx, 2, none⟩ (.int .i64 gg.hh)).setCell ⟨gx, 3, none⟩ (.int .i64 gg.dd)).setCell ⟨gx, 4, none⟩ (.int .i64 gg.ic)).setCell ⟨gx, 5, none⟩ (.int .i64 gg.ac)) (by simp [go_sem, cJ, fJ]) ⟨_, rfl, KeepsV.same, ((((((h1.setCell (p := ⟨gx, 0, none⟩) h2 _).setCell (p := ⟨gx, 1, none⟩) h2 _).setCell (p := ⟨gx, 2, none⟩) h2 _).setCell (p := ⟨gx, 3, none⟩) h2 _).setCell (p := ⟨gx, 4, none⟩) h2 _).setCell (p := ⟨gx, 5, none⟩) h2 _), h2, (fun _ h => by cases h), fun _ => hset⟩
        · exact Gives.plain (v := .bool (fndG gs x).isSome) (w' := wq) (by kernel_rfl) rfl hI
      · intro gx wq hI
        have HBx := Lib.hid hI.1
        have KG := Lib.hid (hI.2.2.2 rfl)
        clear hI
        cases hf : fndG gs x with
        | none =>
          have HQ := Lib.hid (no_of HV.out (fun h => sizes_none HX.out (fnd_no hf) h.2.2.2.2.1))
          rw [hf] at KG
          clear hf
          rw [Option.isSome_none]
          go_wp2_with fail
          go_ret
          exact ⟨ret_bool HQ.out.symm, HB.out.trans (HBx.out.mono HB.out.size)⟩
        | some g =>
          obtain ⟨b1, b2, b3⟩ := fnd_ok HG.out hf
          have HH := Lib.hid b3
          rw [hf, Option.getD_some] at KG
          clear hf b3
          rw [Option.isSome_some]
          have HHC := Lib.hid (fun w => rheight_any g w b1 b2)
          have k7 := fun i => KG.out.cell i
          by_cases hk0 : k = 0
          · have HNX := Lib.hid (sizes_snoc HS.out HX.out HH.out HLa.out (fun h => by omega))
            have hk0' : ¬ (0 : Int) < (k : Int) := by omega
            clear hk0
            go_wp2_with fail
            refine (HHC.out wq).mono ?_
            rintro e w7 ⟨rfl, hb⟩
            replace HBx := Lib.hid (HBx.out.trans (hb.mono HBx.out.size))
            clear hb k7 hk0'
            go_wp2_with fail
            go_roundw
            case rel => exact ⟨k + 1, g.hh + g.dd, by omega, by go_num, rfl, HNX.out.1, HNX.out.2, HBx⟩
            case measure => simp [intOf]; omega
          have hk0' : (0 : Int) < (k : Int) := by omega
          go_wp2_with fail
          refine (HHC.out wq).mono ?_
          rintro e w7 ⟨rfl, hb⟩
          replace HBx := Lib.hid (HBx.out.trans (hb.mono HBx.out.size))
          replace KG := Lib.hid (keep hb KG.out)
          clear hb k7
          have k7 := fun i => KG.out.cell i
          by_cases hle : g.hh + g.dd ≤ last
          · have HQ := Lib.hid (no_of HV.out (fun ho => sizes_le HX.out HH.out HLa.out (by omega) hle ho.2.2.2.2.1))
            go_wp2_with fail
            go_ret
            exact ⟨ret_bool HQ.out.symm, HB.out.trans (HBx.out.mono HB.out.size)⟩
          · have HNX := Lib.hid (sizes_snoc HS.out HX.out HH.out HLa.out (fun _ => by omega))
            go_wp2_with fail
            refine (HHC.out w7).mono ?_
            rintro e w8 ⟨rfl, hb⟩
            replace HBx := Lib.hid (HBx.out.trans (hb.mono HBx.out.size))
            clear hb k7 hk0'
            go_wp2_with fail
            go_roundw
            case rel => exact ⟨k + 1, g.hh + g.dd, by omega, by go_num, rfl, HNX.out.1, HNX.out.2, HBx⟩
            case measure => simp [intOf]; omega
    · obtain rfl : k = s.sizes.length := by omega
      have HS1 := Lib.hid (sizes_all HS.out)
      clear HS HLa
      have hpl : s.parts.length ≤ 8 := HL.out.2.2
      by_cases hp0 : s.parts.length = 0
      · have HP0 := Lib.hid (List.length_eq_zero_iff.1 hp0)
        have HQ := Lib.hid (show decide (s.ov = 0) = vb by
          rw [Bool.eq_iff_iff, HV.out, decide_eq_true_eq]
          refine ⟨fun h => ⟨HN.out, HL.out.1, HL.out.2.1, HL.out.2.2, HS1.out, ?_⟩, fun h => ?_⟩
          · rw [HP0.out]; exact parts_nil.2 h
          · have := h.2.2.2.2.2
            rw [HP0.out] at this
            exact parts_nil.1 this)
        have e0 : ((s.parts.length : Int) == 0) = true := by rw [beq_iff_eq]; omega
        clear hp0
        go_wp2_with fail
        go_ret
        exact ⟨ret_bool (by rw [← HQ.out]; rfl), HB.out.trans (HBw.out.mono HB.out.size)⟩
      have HNE := Lib.hid (show s.parts ≠ [] from fun e => hp0 (by rw [e]; rfl))
      have e0 : ((s.parts.length : Int) == 0) = false := by rw [beq_eq_false_iff_ne]; omega
      clear hp0
      go_wp2_with fail
      clear e0 k3
      go_loopw [9, 10] (fun x i wr => ∃ (k : Nat) (eb : Bool), k ≤ s.parts.length ∧ i = .int .i64 k ∧ x = .bool eb ∧ Hid (PartTo gs s.parts s.ov k) ∧ Hid (ExtIs s.parts k eb) ∧ Hid (Below w1.heap.size w1 wr)) (fun _ i _ => s.parts.length - (intOf i).toNat)
      case atStart => exact ⟨0, false, by omega, rfl, rfl, Lib.hid (fun j q hj => by omega), ext_zero _, HBw⟩
      case round =>
        clear HBw
        obtain ⟨k, eb, hk, rfl, rfl, HPT, HE, HBw⟩ := hrel
        have k3 := fun i => (keep HBw.out K3.out).cell i
        by_cases hlt : k < s.parts.length
        · obtain ⟨x, hx⟩ : ∃ x, s.parts[k]? = some x := ⟨_, List.getElem?_eq_getElem hlt⟩
          obtain ⟨hxs, ad, hA, hadl, d0, d1⟩ := HI.out.k2 k x hx
          subst hA
          have HX := Lib.hid hx
          have HD := Lib.hid (And.intro hadl (And.intro d0 d1))
          have hki : (k : Int) < (s.parts.length : Int) := by omega
          clear hx hxs hadl d0 d1
          go_upto_region 17 with (fail)
          clear k3
          generalize wr = w5 at *
          refine region_ghost (X := Nat) (by kernel_rfl) _ (fun gx => [.agg cs, .pointer (some ⟨w.heap.size + 1, 2, none⟩), .slice (some ad) s.parts.length e2, .int .i64 (↑k), .pointer (some (ad.add (k * 2))), .pointer (some (ad.add (k * 2))), .string x.nm, .tuple #[.agg ((fndG gs x.nm).getD glyZ).c, .bool (fndG gs x.nm).isSome], .tuple #[.agg ((fndG gs x.nm).getD glyZ).c, .bool (fndG gs x.nm).isSome], .agg ((fndG gs x.nm).getD glyZ).c, .bool (fndG gs x.nm).isSome, .pointer (some ⟨gx, 0, none⟩), undef, .bool (fndG gs x.nm).isSome]) [true, true, true, true, true, true, true, true, true, true, true, true, true, true] [11, 12] (InvF w1 w1.heap.size ((fndG gs x.nm).getD glyZ)) w1.heap.size (by kernel_rfl) (fun gx => by simp [fin, finOn, dstAt, List.range, List.range.loop, Act.put]; rfl) (fun _ => by kernel_rfl) (by kernel_rfl) ⟨below_drew HBw.out, Nat.le_refl _, (fun h => by cases h), fun h => by cases h⟩ ?_ ?_
          · refine ⟨fun L gx wq hL hb ha hI => ?_, fun L gx wq hL hb ha hI => ?_, fun L gx wq hL hb ha hI => ?_, fun L gx wq hL hb ha hI => ?_, fun L gx wq hL hb ha hI => ?_, fun L gx wq hL hb ha hI => ?_, fun L gx wq hL hb ha hI => ?_, fun L gx wq hL hb ha hI => ?_, fun L gx wq hL hb ha hI => ?_, fun L gx wq hL hb ha hI => ?_, fun L gx wq hL hb ha hI => ?_, fun L gx wq hL hb ha hI => ?_, fun L gx wq hL hb ha hI => ?_, fun L gx wq hL hb ha hI => ?_, trivial⟩
            · exact gives_load_row 27 (.tmp 2) rfl w.heap.size rfl 27 cs (0, 0) _ (keep hI.1 K0.out) Tryz.underlying27 rfl HSZ.out ⟨gx, rfl, KeepsV.same, hI⟩
            · exact Gives.plain (v := .pointer (some ⟨w.heap.size + 1, 2, none⟩)) (w' := wq) (by simp [go_sem]) rfl hI
            · have dJ := (keep hI.1 K3.out).cell 2
              exact Gives.plain (v := .slice (some ad) s.parts.length e2) (w' := wq) (by simp [go_sem, dJ]) rfl hI
            · exact Gives.plain (v := .int .i64 (↑k)) (w' := wq) (by kernel_rfl) rfl hI
            · skip
              exact Gives.plain (v := .pointer (some (ad.add (k * 2)))) (w' := wq) (by simp [go_sem, hlt]; try omega) rfl hI
            · exact Gives.plain (v := .pointer (some (ad.add (k * 2)))) (w' := wq) (by simp [go_sem]) rfl hI
            · have dJ := (hI.1.cell HD.out.1).trans HD.out.2.1
              exact Gives.plain (v := .string x.nm) (w' := wq) (by simp [go_sem, dJ]) rfl hI
            · refine Gives.call (f := 67) (args := #[.agg cs, .string x.nm]) (w' := wq) (by kernel_rfl) ((HFD.out wq (HF.out.keep hI.1) x.nm).mono ?_)
              rintro e wz ⟨rfl, hbz⟩
              exact ⟨_, rfl, gx, rfl, KeepsV.same, InvF.kept hI hbz⟩
            · exact Gives.plain (v := .tuple #[.agg ((fndG gs x.nm).getD glyZ).c, .bool (fndG gs x.nm).isSome]) (w' := wq) (by kernel_rfl) rfl hI
            · exact Gives.plain (v := .agg ((fndG gs x.nm).getD glyZ).c) (w' := wq) (by simp [go_sem]) rfl hI
            · exact Gives.plain (v := .bool (fndG gs x.nm).isSome) (w' := wq) (by simp [go_sem]) rfl hI
            · have e11 : L 11 = false := hL
              have e12 : L 12 = false := ha 12 (by kernel_rfl)
              simp only [List.map, e11, e12] at hI ⊢
              have hK := InvF.kept hI (bel_alloc wq (.cells glyZ.c 70))
              exact Gives.value (v := .pointer (some ⟨wq.heap.size, 0, none⟩)) (w' := wq.alloc (.cells glyZ.c 70)) (by simp [go_sem]; rfl) ⟨wq.heap.size, rfl, (KeepsV.of_same ⟨.inr (.inr rfl), .inr (.inr rfl), .inr (.inr rfl), .inr (.inr rfl), .inr (.inr rfl), .inr (.inr rfl), .inr (.inr rfl), .inr (.inr rfl), .inr (.inr rfl), .inr (.inr rfl), .inr (.inr rfl), .inl rfl, .inr (.inr rfl), .inr (.inr rfl), trivial⟩), hK.1, hI.1.size, (fun _ _ => Blk.new _ _ _), fun h => by cases h⟩
            · have e11 : L 11 = true := hb 11 (by kernel_rfl)
              have e12 : L 12 = false := hL
              simp only [List.map, e11, e12] at hI ⊢
              obtain ⟨h1, h2, h3, _⟩ := hI
              have cJ := fun i => (h3 rfl rfl).cell i
              have fJ := fun i => (h3 rfl rfl).frozen i
              generalize hgg : (fndG gs x.nm).getD glyZ = gg at *
              have hset := ((((((h3 rfl rfl).set_ 0 (.string gg.nm)).set_ 1 (.int .i64 gg.ww)).set_ 2 (.int .i64 gg.hh)).set_ 3 (.int .i64 gg.dd)).set_ 4 (.int .i64 gg.ic)).set_ 5 (.int .i64 gg.ac)
              exact Gives.skip (w' := (((((wq.setCell ⟨gx, 0, none⟩ (.string gg.nm)).setCell ⟨gx, 1, none⟩ (.int .i64 gg.ww)).setCell ⟨gx, 2, none⟩ (.int .i64 gg.hh)).setCell ⟨gx, 3, none⟩ (.int .i64 gg.dd)).setCell ⟨gx, 4, none⟩ (.int .i64 gg.ic)).setCell ⟨gx, 5, none⟩ (.int .i64 gg.ac)) (by simp [go_sem, cJ, fJ]) ⟨_, rfl, KeepsV.same, ((((((h1.setCell (p := ⟨gx, 0, none⟩) h2 _).setCell (p := ⟨gx, 1, none⟩) h2 _).setCell (p := ⟨gx, 2, none⟩) h2 _).setCell (p := ⟨gx, 3, none⟩) h2 _).setCell (p := ⟨gx, 4, none⟩) h2 _).setCell (p := ⟨gx, 5, none⟩) h2 _), h2, (fun _ h => by cases h), fun _ => hset⟩
            · exact Gives.plain (v := .bool (fndG gs x.nm).isSome) (w' := wq) (by kernel_rfl) rfl hI
          · intro gx wq hI
            have HBx := Lib.hid hI.1
            have KG := Lib.hid (hI.2.2.2 rfl)
            clear hI
            cases hf : fndG gs x.nm with
            | none =>
              have HQ := Lib.hid (no_of HV.out (fun h => parts_none HX.out (fnd_no hf) h.2.2.2.2.2))
              rw [hf] at KG
              clear hf
              rw [Option.isSome_none]
              go_upto_region 18 with (fail)
              refine wp_region_ext (by kernel_rfl) (by kernel_rfl) ?_
              repeat (go_big_quiet_step (fail))
              refine wpQuiet_nil ?_
              intro wy hwy
              obtain ⟨⟨wz, hb⟩, e9⟩ := hwy
              dsimp only at e9
              subst e9
              go_wp2_with fail
              go_ret
              exact ⟨ret_bool HQ.out.symm, HB.out.trans ((HBx.out.trans (hb.mono HBx.out.size)).mono HB.out.size)⟩
            | some g =>
              obtain ⟨b1, b2, b3⟩ := fnd_ok HG.out hf
              have HH := Lib.hid b3
              rw [hf, Option.getD_some] at KG
              clear hf b3
              rw [Option.isSome_some]
              have HHC := Lib.hid (fun e : Ext wq => Calls.ext (e := e) (rheight_any g e.val b1 b2))
              go_upto_region 18 with (fail)
              refine wp_region_ext (by kernel_rfl) (by kernel_rfl) ?_
              have C3 := fun (e : Ext wq) (i : Nat) => (keep (HBx.out.trans (e.bel.mono HBx.out.size)) K3.out).cell i
              have C7 := fun (e : Ext wq) (i : Nat) => (keep e.bel KG.out).cell i
              repeat (go_big_quiet_step (fail))
              go_big_quiet_step ((rename_i e; exact HHC.out e))
              repeat (go_big_quiet_step (fail))
              refine wpQuiet_nil ?_
              intro wy hwy
              obtain ⟨⟨wz, hb⟩, e9⟩ := hwy
              dsimp only at e9
              subst e9
              replace HBx := Lib.hid (HBx.out.trans (hb.mono HBx.out.size))
              clear C3 C7 HHC hb
              by_cases hle : g.hh + g.dd ≤ s.ov
              · have HQ := Lib.hid (no_of HV.out (fun ho => part_low HX.out HH.out hle ho.2.2.2.2.2))
                go_wp2_with fail
                go_ret
                exact ⟨ret_bool HQ.out.symm, HB.out.trans (HBx.out.mono HB.out.size)⟩
              have HPN := Lib.hid (part_snoc HPT.out HX.out HH.out (by omega))
              have HEN := Lib.hid (ext_snoc HE.out HX.out)
              have k3 := fun i => (keep HBx.out K3.out).cell i
              have d1 := (HBx.out.cell (p := ⟨(ad.add (k * 2)).block, (ad.add (k * 2)).off + 1, none⟩) HD.out.1).trans HD.out.2.2
              cases eb
              · go_wp2_with fail
                clear k3 d1
                go_roundw
                case rel => exact ⟨k + 1, x.ext, by omega, by go_num, rfl, HPN, HEN, HBx⟩
                case measure => simp [intOf]; omega
              · go_wp2_with fail
                clear k3 d1
                go_roundw
                case rel => exact ⟨k + 1, true, by omega, by go_num, rfl, HPN, HEN, HBx⟩
                case measure => simp [intOf]; omega
        · obtain rfl : k = s.parts.length := by omega
          have HQ := Lib.hid (show (eb && decide (0 ≤ s.ov)) = vb by
            rw [Bool.eq_iff_iff, HV.out, part_end HNE.out HPT.out HE.out]
            exact ⟨fun h => ⟨HN.out, HL.out.1, HL.out.2.1, HL.out.2.2, HS1.out, h⟩, fun h => h.2.2.2.2.2⟩)
          cases eb
          · go_wp2_with fail
            go_ret
            exact ⟨ret_bool (by rw [← HQ.out]; rfl), HB.out.trans (HBw.out.mono HB.out.size)⟩
          · go_wp2_with fail
            go_ret
            exact ⟨ret_bool (by rw [← HQ.out]; rfl), HB.out.trans (HBw.out.mono HB.out.size)⟩
end
end Go.Proofs.YtgoafobhhmeppaaGreat
