/- font.Valid of the program, for every font. -/
import Derived.Test.YtgoafobhhmeppaaGreatFV
import Derived.Test.YtgoafobhhmeppaaGreatC4
import Derived.StillTailTactics
import Derived.WalkArith
namespace Go.Proofs.YtgoafobhhmeppaaGreat
open Go.RowKit
theorem look_run {w : World} {b : Nat} {gs : List Gly} (hM : MapH w b gs) {s : ByteArray} (hs : s.size ≤ 9223372036854775807) : (Instr.lookup 67 (.map (some b)) (.string s) true).run Tryz.prog w = .ok (.tuple #[.int .i64 ((hgt gs s).getD 0), .bool (hgt gs s).isSome]) w := by
  obtain ⟨n, D, -, hown, -, hh⟩ := hM
  obtain ⟨v, ps, hrun, hv⟩ := hown.look_ok law9 Tryz.underlying67 (zeroI w) (plainElem_int Tryz.underlying3 (by decide)) (Go.WideMaps.keyOf_string_mk (P := Tryz.prog) (k := 9) Tryz.underlying9 (s := s) (by unfold maxLen; omega))
  obtain ⟨c, rfl, hc, -⟩ := plainElem_int_inv Tryz.underlying3 hv
  rw [(hh s).2] at hc
  obtain ⟨rfl, -⟩ : (hgt gs s).getD 0 = c ∧ ps = [] := by simpa using hc
  rw [(hh s).1] at hrun
  exact hrun
/-- the worlds behind one -/
def InvQ (wr : World) : List Bool → Nat × Nat → World → Prop
  | _, _, wq => Below wr.heap.size wr wq ∧ True
def InvQ1 (wr : World) : List Bool → Nat → World → Prop
  | _, _, wq => Below wr.heap.size wr wq ∧ True
def InvG1 (wr : World) (g : Gly) : List Bool → Nat × Nat → World → Prop
  | [b1], gx, wq => Below wr.heap.size wr wq ∧ (b1 = true → Blk wq gx.1 3 #[.int .i64 g.ww])
  | _, _, _ => False
def InvG2 (wr : World) (g : Gly) : List Bool → Nat × Nat → World → Prop
  | [b1, b2], gx, wq => Below wr.heap.size wr wq ∧ (b1 = true → Blk wq gx.1 3 #[.int .i64 g.ww]) ∧ (b2 = true → Blk wq gx.2 3 #[.int .i64 g.hh, .int .i64 g.dd, .int .i64 g.ic, .int .i64 g.ac])
  | _, _, _ => False
theorem InvG2.keep {wr : World} {g : Gly} {b1 b2 : Bool} {gx : Nat × Nat} {wq w' : World} (h : InvG2 wr g [b1, b2] gx wq) (hb : Below wq.heap.size wq w') : InvG2 wr g [b1, b2] gx w' :=
  ⟨h.1.trans (hb.mono h.1.size), fun e => _root_.Go.Proofs.YtgoafobhhmeppaaGreat.keep hb (h.2.1 e), fun e => _root_.Go.Proofs.YtgoafobhhmeppaaGreat.keep hb (h.2.2 e)⟩
/-- while the glyphs are looked at -/
structure VSt (w : World) (g0 bm gm : Nat) (cs : Array Value) (gs : List Gly) (k : Nat) (wr : World) : Prop where
  bel : Below w.heap.size w wr
  k0 : Blk wr g0 27 cs
  km : Blk wr gm 67 #[.map (some bm)]
  mh : MapH wr bm (gs.take k)
  n0 : bm ≠ g0
  nm : bm ≠ gm
  lo : w.heap.size ≤ bm
theorem VSt.next {w : World} {g0 bm gm : Nat} {cs : Array Value} {gs : List Gly} {k : Nat} {wr w' : World} (h : VSt w g0 bm gm cs gs k wr) (hb : Below wr.heap.size wr w') : VSt w g0 bm gm cs gs k w' :=
  ⟨h.bel.trans (hb.mono h.bel.size), keep hb h.k0, keep hb h.km, h.mh.keep hb, h.n0, h.nm, h.lo⟩
theorem VSt.upd {w : World} {g0 bm gm : Nat} {cs : Array Value} {gs : List Gly} {k : Nat} {wr w' : World} {g : Gly} (h : VSt w g0 bm gm cs gs k wr) (hg : gs[k]? = some g) (hn : hgt (gs.take k) g.nm = none) {n : Nat} {D : DataW Unit} (hnk : n ≤ (gs.take k).length) (hD : Maps.IsMap D) (hh : HgIs D (gs.take k))
    (ho : w'.ownsMap Tryz.prog 9 (plainElem Tryz.prog 3) bm (n + 1) (D.put (.string g.nm.data.toList) (.lit (.int .i64 (g.hh + g.dd))))) (hgr : wr.grownBy w' (some bm)) : VSt w g0 bm gm cs gs (k + 1) w' := by
  have htk : gs.take (k + 1) = gs.take k ++ [g] := by rw [List.take_add_one, hg]; rfl
  refine ⟨h.bel.grown hgr h.bel.size (fun b hb => by cases hb; exact h.lo), h.k0.grown hgr (fun e => h.n0 (Option.some.inj e).symm), h.km.grown hgr (fun e => h.nm (Option.some.inj e).symm), ?_, h.n0, h.nm, h.lo⟩
  rw [htk]
  exact ⟨n + 1, _, by rw [List.length_append, List.length_singleton]; omega, ho, World.ownsMap.isMap ho, hg_put hh hD g hn⟩
theorem font_c0 (A1 : Option Addr) (n1 c1 : Nat) (A2 : Option Addr) (n2 c2 : Nat) (p : Nat → Int) : (fontC A1 n1 c1 A2 n2 c2 p)[0]? = some (.slice A1 n1 c1) ∧ (fontC A1 n1 c1 A2 n2 c2 p)[1]? = some (.slice A2 n2 c2) := ⟨rfl, rfl⟩
set_option maxRecDepth 100000 in
set_option maxHeartbeats 8000000 in
theorem fvalid_any (A1 : Option Addr) (c1 : Nat) (A2 : Option Addr) (c2 : Nat) (p : Nat → Int) (gs : List Gly) (ss : List Stc) (vb : Bool) (w : World) (hvb : vb = true ↔ FontOk gs ss p) (hF : FontAt A1 c1 A2 c2 gs ss w) : Calls Tryz.prog 15 #[.agg (fontC A1 gs.length c1 A2 ss.length c2 p)] w fun e w' => e = .returned (.bool vb) ∧ Below w.heap.size w w' := by
  have hmm := @run_makeMap_hint Tryz.prog _ _ _ Tryz.underlying67
  have HV := Lib.hid hvb
  have HFA := Lib.hid hF
  have HN1 := Lib.hid hF.n1
  have HN2 := Lib.hid hF.n2
  have K0 := Lib.hid (Blk.new w 27 (fontC A1 gs.length c1 A2 ss.length c2 p))
  have H0 := Lib.hid (bel_alloc w (.cells (fontC A1 gs.length c1 A2 ss.length c2 p) 27))
  have HCS := Lib.hid (font_c0 A1 gs.length c1 A2 ss.length c2 p)
  have hr := Lib.hid (range_blk K0.out 2 (prmL p) (font_prm A1 gs.length c1 A2 ss.length c2 p))
  clear hvb hF
  generalize fontC A1 gs.length c1 A2 ss.length c2 p = cs at *
  go_enter Tryz.func15, Tryz.ntmps15
  go_upto_region 1 with (fail)
  generalize w.alloc (.cells cs 27) = w1 at *
  have c0 : w1.cell? ⟨w.heap.size, 0, none⟩ = some (.slice A1 gs.length c1) := (K0.out.cell 0).trans HCS.out.1
  have d1 : w1.cell? ⟨w.heap.size, 1, none⟩ = some (.slice A2 ss.length c2) := (K0.out.cell 1).trans HCS.out.2
  by_cases h400 : ¬ gs.length ≤ 400
  · have HQ := Lib.hid (no_of HV.out (fun h => h400 h.1))
    have g1 : (400 : Int) < (gs.length : Int) := by omega
    clear h400
    go_wp2_with fail
    go_ret
    exact ⟨ret_bool HQ.out.symm, H0.out⟩
  replace h400 := Classical.not_not.1 h400
  have g1 : ¬ (400 : Int) < (gs.length : Int) := by omega
  by_cases h40 : ¬ ss.length ≤ 40
  · have HQ := Lib.hid (no_of HV.out (fun h => h40 h.2.1))
    have g2 : (40 : Int) < (ss.length : Int) := by omega
    clear h40
    go_wp2_with fail
    go_ret
    exact ⟨ret_bool HQ.out.symm, H0.out⟩
  replace h40 := Classical.not_not.1 h40
  have g2 : ¬ (40 : Int) < (ss.length : Int) := by omega
  have HLN := Lib.hid (show gs.length ≤ 400 ∧ ss.length ≤ 40 from ⟨h400, h40⟩)
  go_wp2_with (refine wpList_load_midW (by rfl) 25 (.tmp 24) rfl w.heap.size 2 rfl (prmL p) _ hr.out Tryz.underlying25 rfl (by kernel_rfl) ?_)
  refine (vparams_any p w1).mono ?_
  rintro e w2 ⟨rfl, hb⟩
  replace K0 := Lib.hid (keep hb K0.out)
  replace H0 := Lib.hid (H0.out.trans (hb.mono H0.out.size))
  clear hb c0 d1 hr g1 g2
  generalize (prmL p).toArray = pc at *
  cases hp : paramsB p
  · have HQ := Lib.hid (no_of HV.out (fun h => by rw [h.2.2.1] at hp; cases hp))
    clear hp
    go_wp2_with fail
    go_ret
    exact ⟨ret_bool HQ.out.symm, H0.out⟩
  have HP := Lib.hid hp
  clear hp
  have c0 : w2.cell? ⟨w.heap.size, 0, none⟩ = some (.slice A1 gs.length c1) := (K0.out.cell 0).trans HCS.out.1
  have hb1 := bel_alloc w2 (.map #[] 0)
  have hb2 := bel_alloc (w2.alloc (.map #[] 0)) (.cells #[.map (some w2.heap.size)] 67)
  have hsz : (w2.alloc (.map #[] 0)).heap.size = w2.heap.size + 1 := by simp
  have VS : Hid (VSt w w.heap.size w2.heap.size (w2.heap.size + 1) cs gs 0 ((w2.alloc (.map #[] 0)).alloc (.cells #[.map (some w2.heap.size)] 67))) := by
    have hl := K0.out.lt
    refine ⟨H0.out.trans ((hb1.trans (hb2.mono hb1.size)).mono H0.out.size), keep hb2 (keep hb1 K0.out), ?_, (MapH.made w2).keep hb2, by omega, by omega, H0.out.size⟩
    rw [← hsz]
    exact Blk.new _ _ _
  clear hb1 hb2 K0 H0
  go_upto_region 4 with (fail)
  clear c0 hmm hsz
  generalize (w2.alloc (.map #[] 0)).alloc (.cells _ 67) = w3 at *
  generalize w2.heap.size + 1 = gm at *
  generalize w2.heap.size = bm at *
  have c0 : w3.cell? ⟨w.heap.size, 0, none⟩ = some (.slice A1 gs.length c1) := (VS.out.k0.cell 0).trans HCS.out.1
  go_wp2_with fail
  clear c0
  go_loopw [36] (fun i wr => ∃ k : Nat, k ≤ gs.length ∧ i = .int .i64 k ∧ Hid (VSt w w.heap.size bm gm cs gs k wr) ∧ Hid (GlysOk (gs.take k))) (fun i _ => gs.length - (intOf i).toNat)
  case atStart => exact ⟨0, by omega, rfl, VS, Lib.hid (fun i x hi => by simp at hi)⟩
  case round =>
    clear VS
    obtain ⟨k, hk, rfl, VS, HGO⟩ := hrel
    by_cases hlt : k < gs.length
    · obtain ⟨g, hg⟩ : ∃ g, gs[k]? = some g := ⟨_, List.getElem?_eq_getElem hlt⟩
      obtain ⟨ad, hA, hsz, hga⟩ := (HFA.out.keep VS.out.bel).k1.at_ hg
      subst hA
      have HGA := Lib.hid hga
      have HSZ := Lib.hid hsz
      have HG := Lib.hid hg
      clear hga hsz hg
      have c0 : wr.cell? ⟨w.heap.size, 0, none⟩ = some (.slice (some ad) gs.length c1) := (VS.out.k0.cell 0).trans HCS.out.1
      go_upto_region 8 with (fail)
      clear c0
      cases hn : namB g.nm
      · have HQ := Lib.hid (no_of HV.out (fun h => glys_bad HG.out (by unfold glyB; rw [hn]; rfl) h.2.2.2.1))
        have HN := Lib.hid hn
        clear hn
        refine region_ghost (X := Nat × Nat) (by kernel_rfl) _ (fun gx => [.pointer (some (ad.add (k * 6))), .pointer (some (ad.add (k * 6))), .pointer (some (ad.add (k * 6))), .string g.nm, .bool false, .bool true, .bool true, undef, undef, undef, undef, undef, undef, undef, .bool true, .bool true, undef, undef, undef, undef, undef, undef, undef, undef, undef, undef, undef, undef, undef, undef, undef, undef, undef, undef, undef, .bool true]) [true, true, true, true, true, true, true, false, false, false, false, false, false, false, true, true, false, false, false, false, false, false, false, false, false, false, false, false, false, false, false, false, false, false, false, true] [] (InvQ wr) (0, 0) (by kernel_rfl) (fun gx => by simp [fin, finOn, dstAt, List.range, List.range.loop, Act.put]; rfl) (fun _ => by kernel_rfl) (by kernel_rfl) ⟨below_drew (Below.refl _ _), trivial⟩ ?_ ?_
        · refine ⟨fun L gx wq hL hb ha hI => ?_, fun L gx wq hL hb ha hI => ?_, fun L gx wq hL hb ha hI => ?_, fun L gx wq hL hb ha hI => ?_, fun L gx wq hL hb ha hI => ?_, fun L gx wq hL hb ha hI => ?_, fun L gx wq hL hb ha hI => ?_, ⟨fun _ => rfl, fun L x wq hI => hI⟩, ⟨fun _ => rfl, fun L x wq hI => hI⟩, ⟨fun _ => rfl, fun L x wq hI => hI⟩, ⟨fun _ => rfl, fun L x wq hI => hI⟩, ⟨fun _ => rfl, fun L x wq hI => hI⟩, ⟨fun _ => rfl, fun L x wq hI => hI⟩, ⟨fun _ => rfl, fun L x wq hI => hI⟩, fun L gx wq hL hb ha hI => ?_, fun L gx wq hL hb ha hI => ?_, ⟨fun _ => rfl, fun L x wq hI => hI⟩, ⟨fun _ => rfl, fun L x wq hI => hI⟩, ⟨fun _ => rfl, fun L x wq hI => hI⟩, ⟨fun _ => rfl, fun L x wq hI => hI⟩, ⟨fun _ => rfl, fun L x wq hI => hI⟩, ⟨fun _ => rfl, fun L x wq hI => hI⟩, ⟨fun _ => rfl, fun L x wq hI => hI⟩, ⟨fun _ => rfl, fun L x wq hI => hI⟩, ⟨fun _ => rfl, fun L x wq hI => hI⟩, ⟨fun _ => rfl, fun L x wq hI => hI⟩, ⟨fun _ => rfl, fun L x wq hI => hI⟩, ⟨fun _ => rfl, fun L x wq hI => hI⟩, ⟨fun _ => rfl, fun L x wq hI => hI⟩, ⟨fun _ => rfl, fun L x wq hI => hI⟩, ⟨fun _ => rfl, fun L x wq hI => hI⟩, ⟨fun _ => rfl, fun L x wq hI => hI⟩, ⟨fun _ => rfl, fun L x wq hI => hI⟩, ⟨fun _ => rfl, fun L x wq hI => hI⟩, ⟨fun _ => rfl, fun L x wq hI => hI⟩, fun L gx wq hL hb ha hI => ?_, trivial⟩
          · exact Gives.plain (v := .pointer (some (ad.add (k * 6)))) (w' := wq) (by kernel_rfl) rfl hI
          · exact Gives.plain (v := .pointer (some (ad.add (k * 6)))) (w' := wq) (by simp [go_sem]) rfl hI
          · exact Gives.plain (v := .pointer (some (ad.add (k * 6)))) (w' := wq) (by simp [go_sem]) rfl hI
          · have dJ := (HGA.out.keep hI.1).d0
            exact Gives.plain (v := .string g.nm) (w' := wq) (by simp [go_sem, dJ]) rfl hI
          · refine Gives.call (f := 31) (args := #[.string g.nm]) (w' := wq) (by kernel_rfl) ((named_any g.nm wq HSZ.out).mono ?_)
            rintro e wz ⟨rfl, rfl⟩
            rw [HN.out]
            exact ⟨_, rfl, gx, rfl, KeepsV.same, hI⟩
          · exact Gives.plain (v := .bool true) (w' := wq) (by simp [go_sem]) rfl hI
          · exact Gives.plain (v := .bool true) (w' := wq) (by kernel_rfl) rfl hI
          · exact Gives.plain (v := .bool true) (w' := wq) (by kernel_rfl) rfl hI
          · exact Gives.plain (v := .bool true) (w' := wq) (by kernel_rfl) rfl hI
          · exact Gives.plain (v := .bool true) (w' := wq) (by kernel_rfl) rfl hI
        · intro gx wq hI
          have VS := Lib.hid (VS.out.next hI.1)
          clear hI
          go_wp2_with fail
          go_ret
          exact ⟨ret_bool HQ.out.symm, VS.out.bel⟩
      have HN := Lib.hid hn
      cases hw : inAll 0 20000 [g.ww]
      · have HQ := Lib.hid (no_of HV.out (fun h => glys_bad HG.out (by unfold glyB; rw [hw]; simp) h.2.2.2.1))
        have HW := Lib.hid hw
        clear hn hw
        refine region_ghost (X := Nat × Nat) (by kernel_rfl) _ (fun gx => [.pointer (some (ad.add (k * 6))), .pointer (some (ad.add (k * 6))), .pointer (some (ad.add (k * 6))), .string g.nm, .bool true, .bool false, .bool false, .pointer (some (ad.add (k * 6))), .pointer (some (ad.add (k * 6))), .pointer (some ⟨(ad.add (k * 6)).block, (ad.add (k * 6)).off + 1, none⟩), .int .i64 g.ww, .slice (some ⟨gx.1, 0, none⟩) 1 1, .bool false, .bool true, .bool true, .bool true, undef, undef, undef, undef, undef, undef, undef, undef, undef, undef, undef, undef, undef, undef, undef, undef, undef, undef, undef, .bool true]) [true, true, true, true, true, true, true, true, true, true, true, true, true, true, true, true, false, false, false, false, false, false, false, false, false, false, false, false, false, false, false, false, false, false, false, true] [11] (InvG1 wr g) (0, 0) (by kernel_rfl) (fun gx => by simp [fin, finOn, dstAt, List.range, List.range.loop, Act.put]; rfl) (fun _ => by kernel_rfl) (by kernel_rfl) ⟨below_drew (Below.refl _ _), fun h => by cases h⟩ ?_ ?_
        · refine ⟨fun L gx wq hL hb ha hI => ?_, fun L gx wq hL hb ha hI => ?_, fun L gx wq hL hb ha hI => ?_, fun L gx wq hL hb ha hI => ?_, fun L gx wq hL hb ha hI => ?_, fun L gx wq hL hb ha hI => ?_, fun L gx wq hL hb ha hI => ?_, fun L gx wq hL hb ha hI => ?_, fun L gx wq hL hb ha hI => ?_, fun L gx wq hL hb ha hI => ?_, fun L gx wq hL hb ha hI => ?_, fun L gx wq hL hb ha hI => ?_, fun L gx wq hL hb ha hI => ?_, fun L gx wq hL hb ha hI => ?_, fun L gx wq hL hb ha hI => ?_, fun L gx wq hL hb ha hI => ?_, ⟨fun _ => rfl, fun L x wq hI => hI⟩, ⟨fun _ => rfl, fun L x wq hI => hI⟩, ⟨fun _ => rfl, fun L x wq hI => hI⟩, ⟨fun _ => rfl, fun L x wq hI => hI⟩, ⟨fun _ => rfl, fun L x wq hI => hI⟩, ⟨fun _ => rfl, fun L x wq hI => hI⟩, ⟨fun _ => rfl, fun L x wq hI => hI⟩, ⟨fun _ => rfl, fun L x wq hI => hI⟩, ⟨fun _ => rfl, fun L x wq hI => hI⟩, ⟨fun _ => rfl, fun L x wq hI => hI⟩, ⟨fun _ => rfl, fun L x wq hI => hI⟩, ⟨fun _ => rfl, fun L x wq hI => hI⟩, ⟨fun _ => rfl, fun L x wq hI => hI⟩, ⟨fun _ => rfl, fun L x wq hI => hI⟩, ⟨fun _ => rfl, fun L x wq hI => hI⟩, ⟨fun _ => rfl, fun L x wq hI => hI⟩, ⟨fun _ => rfl, fun L x wq hI => hI⟩, ⟨fun _ => rfl, fun L x wq hI => hI⟩, ⟨fun _ => rfl, fun L x wq hI => hI⟩, fun L gx wq hL hb ha hI => ?_, trivial⟩
          · exact Gives.plain (v := .pointer (some (ad.add (k * 6)))) (w' := wq) (by kernel_rfl) rfl hI
          · exact Gives.plain (v := .pointer (some (ad.add (k * 6)))) (w' := wq) (by simp [go_sem]) rfl hI
          · exact Gives.plain (v := .pointer (some (ad.add (k * 6)))) (w' := wq) (by simp [go_sem]) rfl hI
          · have dJ := (HGA.out.keep hI.1).d0
            exact Gives.plain (v := .string g.nm) (w' := wq) (by simp [go_sem, dJ]) rfl hI
          · refine Gives.call (f := 31) (args := #[.string g.nm]) (w' := wq) (by kernel_rfl) ((named_any g.nm wq HSZ.out).mono ?_)
            rintro e wz ⟨rfl, rfl⟩
            rw [HN.out]
            exact ⟨_, rfl, gx, rfl, KeepsV.same, hI⟩
          · exact Gives.plain (v := .bool false) (w' := wq) (by simp [go_sem]) rfl hI
          · exact Gives.plain (v := .bool false) (w' := wq) (by kernel_rfl) rfl hI
          · exact Gives.plain (v := .pointer (some (ad.add (k * 6)))) (w' := wq) (by kernel_rfl) rfl hI
          · exact Gives.plain (v := .pointer (some (ad.add (k * 6)))) (w' := wq) (by simp [go_sem]) rfl hI
          · exact Gives.plain (v := .pointer (some ⟨(ad.add (k * 6)).block, (ad.add (k * 6)).off + 1, none⟩)) (w' := wq) (by simp [go_sem]) rfl hI
          · have dJ := (HGA.out.keep hI.1).d1
            exact Gives.plain (v := .int .i64 g.ww) (w' := wq) (by simp [go_sem, dJ]) rfl hI
          · have e11 : L 11 = false := hL
            simp only [List.map, e11] at hI ⊢
            exact Gives.value (v := .slice (some ⟨wq.heap.size, 0, none⟩) 1 1) (w' := wq.alloc (.cells #[.int .i64 g.ww] 3)) (by simp [go_sem]) ⟨(wq.heap.size, gx.2), rfl, (KeepsV.of_same ⟨.inr (.inr rfl), .inr (.inr rfl), .inr (.inr rfl), .inr (.inr rfl), .inr (.inr rfl), .inr (.inr rfl), .inr (.inr rfl), .inr (.inr rfl), .inr (.inr rfl), .inr (.inr rfl), .inr (.inr rfl), .inl rfl, .inr (.inr rfl), .inr (.inr rfl), .inr (.inr rfl), .inr (.inr rfl), .inr (.inr rfl), .inr (.inr rfl), .inr (.inr rfl), .inr (.inr rfl), .inr (.inr rfl), .inr (.inr rfl), .inr (.inr rfl), .inr (.inr rfl), .inr (.inr rfl), .inr (.inr rfl), .inr (.inr rfl), .inr (.inr rfl), .inr (.inr rfl), .inr (.inr rfl), .inr (.inr rfl), .inr (.inr rfl), .inr (.inr rfl), .inr (.inr rfl), .inr (.inr rfl), .inr (.inr rfl), trivial⟩), hI.1.alloc hI.1.size _, fun _ => Blk.new _ _ _⟩
          · have e11 : L 11 = true := hb 11 (by kernel_rfl)
            have hI0 := hI
            simp only [List.map, e11] at hI
            refine Gives.call (f := 32) (args := #[.int .i64 0, .int .i64 20000, .slice (some ⟨gx.1, 0, none⟩) 1 1]) (w' := wq) (by kernel_rfl) ((within_any 0 20000 (some ⟨gx.1, 0, none⟩) 1 [g.ww] wq (ints_blk (hI.2 rfl) rfl) (by simp)).mono ?_)
            rintro e wz ⟨rfl, rfl⟩
            rw [HW.out]
            exact ⟨_, rfl, gx, rfl, KeepsV.same, hI0⟩
          · exact Gives.plain (v := .bool true) (w' := wq) (by simp [go_sem]) rfl hI
          · exact Gives.plain (v := .bool true) (w' := wq) (by kernel_rfl) rfl hI
          · exact Gives.plain (v := .bool true) (w' := wq) (by kernel_rfl) rfl hI
          · exact Gives.plain (v := .bool true) (w' := wq) (by kernel_rfl) rfl hI
        · intro gx wq hI
          have VS := Lib.hid (VS.out.next hI.1)
          clear hI
          go_wp2_with fail
          go_ret
          exact ⟨ret_bool HQ.out.symm, VS.out.bel⟩
      have HW := Lib.hid hw
      cases hrr : inAll (-20000) 20000 [g.hh, g.dd, g.ic, g.ac]
      · have HQ := Lib.hid (no_of HV.out (fun h => glys_bad HG.out (by unfold glyB; rw [hrr]; simp) h.2.2.2.1))
        have HR := Lib.hid hrr
        clear hn hw hrr
        refine region_ghost (X := Nat × Nat) (by kernel_rfl) _ (fun gx => [.pointer (some (ad.add (k * 6))), .pointer (some (ad.add (k * 6))), .pointer (some (ad.add (k * 6))), .string g.nm, .bool true, .bool false, .bool false, .pointer (some (ad.add (k * 6))), .pointer (some (ad.add (k * 6))), .pointer (some ⟨(ad.add (k * 6)).block, (ad.add (k * 6)).off + 1, none⟩), .int .i64 g.ww, .slice (some ⟨gx.1, 0, none⟩) 1 1, .bool true, .bool false, .bool false, .bool false, .pointer (some (ad.add (k * 6))), .pointer (some (ad.add (k * 6))), .pointer (some ⟨(ad.add (k * 6)).block, (ad.add (k * 6)).off + 2, none⟩), .int .i64 g.hh, .pointer (some (ad.add (k * 6))), .pointer (some (ad.add (k * 6))), .pointer (some ⟨(ad.add (k * 6)).block, (ad.add (k * 6)).off + 3, none⟩), .int .i64 g.dd, .pointer (some (ad.add (k * 6))), .pointer (some (ad.add (k * 6))), .pointer (some ⟨(ad.add (k * 6)).block, (ad.add (k * 6)).off + 4, none⟩), .int .i64 g.ic, .pointer (some (ad.add (k * 6))), .pointer (some (ad.add (k * 6))), .pointer (some ⟨(ad.add (k * 6)).block, (ad.add (k * 6)).off + 5, none⟩), .int .i64 g.ac, .slice (some ⟨gx.2, 0, none⟩) 4 4, .bool false, .bool true, .bool true]) [true, true, true, true, true, true, true, true, true, true, true, true, true, true, true, true, true, true, true, true, true, true, true, true, true, true, true, true, true, true, true, true, true, true, true, true] [11, 32] (InvG2 wr g) (0, 0) (by kernel_rfl) (fun gx => by simp [fin, finOn, dstAt, List.range, List.range.loop, Act.put]; rfl) (fun _ => by kernel_rfl) (by kernel_rfl) ⟨below_drew (Below.refl _ _), (fun h => by cases h), fun h => by cases h⟩ ?_ ?_
        · refine ⟨fun L gx wq hL hb ha hI => ?_, fun L gx wq hL hb ha hI => ?_, fun L gx wq hL hb ha hI => ?_, fun L gx wq hL hb ha hI => ?_, fun L gx wq hL hb ha hI => ?_, fun L gx wq hL hb ha hI => ?_, fun L gx wq hL hb ha hI => ?_, fun L gx wq hL hb ha hI => ?_, fun L gx wq hL hb ha hI => ?_, fun L gx wq hL hb ha hI => ?_, fun L gx wq hL hb ha hI => ?_, fun L gx wq hL hb ha hI => ?_, fun L gx wq hL hb ha hI => ?_, fun L gx wq hL hb ha hI => ?_, fun L gx wq hL hb ha hI => ?_, fun L gx wq hL hb ha hI => ?_, fun L gx wq hL hb ha hI => ?_, fun L gx wq hL hb ha hI => ?_, fun L gx wq hL hb ha hI => ?_, fun L gx wq hL hb ha hI => ?_, fun L gx wq hL hb ha hI => ?_, fun L gx wq hL hb ha hI => ?_, fun L gx wq hL hb ha hI => ?_, fun L gx wq hL hb ha hI => ?_, fun L gx wq hL hb ha hI => ?_, fun L gx wq hL hb ha hI => ?_, fun L gx wq hL hb ha hI => ?_, fun L gx wq hL hb ha hI => ?_, fun L gx wq hL hb ha hI => ?_, fun L gx wq hL hb ha hI => ?_, fun L gx wq hL hb ha hI => ?_, fun L gx wq hL hb ha hI => ?_, fun L gx wq hL hb ha hI => ?_, fun L gx wq hL hb ha hI => ?_, fun L gx wq hL hb ha hI => ?_, fun L gx wq hL hb ha hI => ?_, trivial⟩
          · exact Gives.plain (v := .pointer (some (ad.add (k * 6)))) (w' := wq) (by kernel_rfl) rfl hI
          · exact Gives.plain (v := .pointer (some (ad.add (k * 6)))) (w' := wq) (by simp [go_sem]) rfl hI
          · exact Gives.plain (v := .pointer (some (ad.add (k * 6)))) (w' := wq) (by simp [go_sem]) rfl hI
          · have dJ := (HGA.out.keep hI.1).d0
            exact Gives.plain (v := .string g.nm) (w' := wq) (by simp [go_sem, dJ]) rfl hI
          · refine Gives.call (f := 31) (args := #[.string g.nm]) (w' := wq) (by kernel_rfl) ((named_any g.nm wq HSZ.out).mono ?_)
            rintro e wz ⟨rfl, rfl⟩
            rw [HN.out]
            exact ⟨_, rfl, gx, rfl, KeepsV.same, hI⟩
          · exact Gives.plain (v := .bool false) (w' := wq) (by simp [go_sem]) rfl hI
          · exact Gives.plain (v := .bool false) (w' := wq) (by kernel_rfl) rfl hI
          · exact Gives.plain (v := .pointer (some (ad.add (k * 6)))) (w' := wq) (by kernel_rfl) rfl hI
          · exact Gives.plain (v := .pointer (some (ad.add (k * 6)))) (w' := wq) (by simp [go_sem]) rfl hI
          · exact Gives.plain (v := .pointer (some ⟨(ad.add (k * 6)).block, (ad.add (k * 6)).off + 1, none⟩)) (w' := wq) (by simp [go_sem]) rfl hI
          · have dJ := (HGA.out.keep hI.1).d1
            exact Gives.plain (v := .int .i64 g.ww) (w' := wq) (by simp [go_sem, dJ]) rfl hI
          · have e11 : L 11 = false := hL
            cases e32 : L 32
            all_goals
              simp only [List.map, e11, e32] at hI ⊢
              have hK := hI.keep (bel_alloc wq (.cells #[.int .i64 g.ww] 3))
              exact Gives.value (v := .slice (some ⟨wq.heap.size, 0, none⟩) 1 1) (w' := wq.alloc (.cells #[.int .i64 g.ww] 3)) (by simp [go_sem]) ⟨(wq.heap.size, gx.2), rfl, (KeepsV.of_same ⟨.inr (.inr rfl), .inr (.inr rfl), .inr (.inr rfl), .inr (.inr rfl), .inr (.inr rfl), .inr (.inr rfl), .inr (.inr rfl), .inr (.inr rfl), .inr (.inr rfl), .inr (.inr rfl), .inr (.inr rfl), .inl rfl, .inr (.inr rfl), .inr (.inr rfl), .inr (.inr rfl), .inr (.inr rfl), .inr (.inr rfl), .inr (.inr rfl), .inr (.inr rfl), .inr (.inr rfl), .inr (.inr rfl), .inr (.inr rfl), .inr (.inr rfl), .inr (.inr rfl), .inr (.inr rfl), .inr (.inr rfl), .inr (.inr rfl), .inr (.inr rfl), .inr (.inr rfl), .inr (.inr rfl), .inr (.inr rfl), .inr (.inr rfl), (by first | exact .inr (.inr rfl) | exact .inr (.inl (by kernel_rfl))), .inr (.inr rfl), .inr (.inr rfl), .inr (.inr rfl), trivial⟩), hK.1, (fun _ => Blk.new _ _ _), hK.2.2⟩
          · have e11 : L 11 = true := hb 11 (by kernel_rfl)
            have hI0 := hI
            simp only [List.map, e11] at hI
            refine Gives.call (f := 32) (args := #[.int .i64 0, .int .i64 20000, .slice (some ⟨gx.1, 0, none⟩) 1 1]) (w' := wq) (by kernel_rfl) ((within_any 0 20000 (some ⟨gx.1, 0, none⟩) 1 [g.ww] wq (ints_blk (hI.2.1 rfl) rfl) (by simp)).mono ?_)
            rintro e wz ⟨rfl, rfl⟩
            rw [HW.out]
            exact ⟨_, rfl, gx, rfl, KeepsV.same, hI0⟩
          · exact Gives.plain (v := .bool false) (w' := wq) (by simp [go_sem]) rfl hI
          · exact Gives.plain (v := .bool false) (w' := wq) (by kernel_rfl) rfl hI
          · exact Gives.plain (v := .bool false) (w' := wq) (by kernel_rfl) rfl hI
          · exact Gives.plain (v := .pointer (some (ad.add (k * 6)))) (w' := wq) (by kernel_rfl) rfl hI
          · exact Gives.plain (v := .pointer (some (ad.add (k * 6)))) (w' := wq) (by simp [go_sem]) rfl hI
          · exact Gives.plain (v := .pointer (some ⟨(ad.add (k * 6)).block, (ad.add (k * 6)).off + 2, none⟩)) (w' := wq) (by simp [go_sem]) rfl hI
          · have dJ := (HGA.out.keep hI.1).d2
            exact Gives.plain (v := .int .i64 g.hh) (w' := wq) (by simp [go_sem, dJ]) rfl hI
          · exact Gives.plain (v := .pointer (some (ad.add (k * 6)))) (w' := wq) (by kernel_rfl) rfl hI
          · exact Gives.plain (v := .pointer (some (ad.add (k * 6)))) (w' := wq) (by simp [go_sem]) rfl hI
          · exact Gives.plain (v := .pointer (some ⟨(ad.add (k * 6)).block, (ad.add (k * 6)).off + 3, none⟩)) (w' := wq) (by simp [go_sem]) rfl hI
          · have dJ := (HGA.out.keep hI.1).d3
            exact Gives.plain (v := .int .i64 g.dd) (w' := wq) (by simp [go_sem, dJ]) rfl hI
          · exact Gives.plain (v := .pointer (some (ad.add (k * 6)))) (w' := wq) (by kernel_rfl) rfl hI
          · exact Gives.plain (v := .pointer (some (ad.add (k * 6)))) (w' := wq) (by simp [go_sem]) rfl hI
          · exact Gives.plain (v := .pointer (some ⟨(ad.add (k * 6)).block, (ad.add (k * 6)).off + 4, none⟩)) (w' := wq) (by simp [go_sem]) rfl hI
          · have dJ := (HGA.out.keep hI.1).d4
            exact Gives.plain (v := .int .i64 g.ic) (w' := wq) (by simp [go_sem, dJ]) rfl hI
          · exact Gives.plain (v := .pointer (some (ad.add (k * 6)))) (w' := wq) (by kernel_rfl) rfl hI
          · exact Gives.plain (v := .pointer (some (ad.add (k * 6)))) (w' := wq) (by simp [go_sem]) rfl hI
          · exact Gives.plain (v := .pointer (some ⟨(ad.add (k * 6)).block, (ad.add (k * 6)).off + 5, none⟩)) (w' := wq) (by simp [go_sem]) rfl hI
          · have dJ := (HGA.out.keep hI.1).d5
            exact Gives.plain (v := .int .i64 g.ac) (w' := wq) (by simp [go_sem, dJ]) rfl hI
          · have e32 : L 32 = false := hL
            cases e11 : L 11
            all_goals
              simp only [List.map, e11, e32] at hI ⊢
              have hK := hI.keep (bel_alloc wq (.cells #[.int .i64 g.hh, .int .i64 g.dd, .int .i64 g.ic, .int .i64 g.ac] 3))
              exact Gives.value (v := .slice (some ⟨wq.heap.size, 0, none⟩) 4 4) (w' := wq.alloc (.cells #[.int .i64 g.hh, .int .i64 g.dd, .int .i64 g.ic, .int .i64 g.ac] 3)) (by simp [go_sem]) ⟨(gx.1, wq.heap.size), rfl, (KeepsV.of_same ⟨.inr (.inr rfl), .inr (.inr rfl), .inr (.inr rfl), .inr (.inr rfl), .inr (.inr rfl), .inr (.inr rfl), .inr (.inr rfl), .inr (.inr rfl), .inr (.inr rfl), .inr (.inr rfl), .inr (.inr rfl), (by first | exact .inr (.inr rfl) | exact .inr (.inl (by kernel_rfl))), .inr (.inr rfl), .inr (.inr rfl), .inr (.inr rfl), .inr (.inr rfl), .inr (.inr rfl), .inr (.inr rfl), .inr (.inr rfl), .inr (.inr rfl), .inr (.inr rfl), .inr (.inr rfl), .inr (.inr rfl), .inr (.inr rfl), .inr (.inr rfl), .inr (.inr rfl), .inr (.inr rfl), .inr (.inr rfl), .inr (.inr rfl), .inr (.inr rfl), .inr (.inr rfl), .inr (.inr rfl), .inl rfl, .inr (.inr rfl), .inr (.inr rfl), .inr (.inr rfl), trivial⟩), hK.1, hK.2.1, fun _ => Blk.new _ _ _⟩
          · have e32 : L 32 = true := hb 32 (by kernel_rfl)
            have hI0 := hI
            simp only [List.map, e32] at hI
            refine Gives.call (f := 32) (args := #[.int .i64 (-20000), .int .i64 20000, .slice (some ⟨gx.2, 0, none⟩) 4 4]) (w' := wq) (by kernel_rfl) ((within_any (-20000) 20000 (some ⟨gx.2, 0, none⟩) 4 [g.hh, g.dd, g.ic, g.ac] wq (ints_blk (hI.2.2 rfl) rfl) (by simp)).mono ?_)
            rintro e wz ⟨rfl, rfl⟩
            rw [HR.out]
            exact ⟨_, rfl, gx, rfl, KeepsV.same, hI0⟩
          · exact Gives.plain (v := .bool true) (w' := wq) (by simp [go_sem]) rfl hI
          · exact Gives.plain (v := .bool true) (w' := wq) (by kernel_rfl) rfl hI
        · intro gx wq hI
          have VS := Lib.hid (VS.out.next hI.1)
          clear hI
          go_wp2_with fail
          go_ret
          exact ⟨ret_bool HQ.out.symm, VS.out.bel⟩
      have HR := Lib.hid hrr
      have HGB := Lib.hid (show glyB g = true by unfold glyB; rw [hn, hw, hrr]; rfl)
      clear hn hw hrr
      refine region_ghost (X := Nat × Nat) (by kernel_rfl) _ (fun gx => [.pointer (some (ad.add (k * 6))), .pointer (some (ad.add (k * 6))), .pointer (some (ad.add (k * 6))), .string g.nm, .bool true, .bool false, .bool false, .pointer (some (ad.add (k * 6))), .pointer (some (ad.add (k * 6))), .pointer (some ⟨(ad.add (k * 6)).block, (ad.add (k * 6)).off + 1, none⟩), .int .i64 g.ww, .slice (some ⟨gx.1, 0, none⟩) 1 1, .bool true, .bool false, .bool false, .bool false, .pointer (some (ad.add (k * 6))), .pointer (some (ad.add (k * 6))), .pointer (some ⟨(ad.add (k * 6)).block, (ad.add (k * 6)).off + 2, none⟩), .int .i64 g.hh, .pointer (some (ad.add (k * 6))), .pointer (some (ad.add (k * 6))), .pointer (some ⟨(ad.add (k * 6)).block, (ad.add (k * 6)).off + 3, none⟩), .int .i64 g.dd, .pointer (some (ad.add (k * 6))), .pointer (some (ad.add (k * 6))), .pointer (some ⟨(ad.add (k * 6)).block, (ad.add (k * 6)).off + 4, none⟩), .int .i64 g.ic, .pointer (some (ad.add (k * 6))), .pointer (some (ad.add (k * 6))), .pointer (some ⟨(ad.add (k * 6)).block, (ad.add (k * 6)).off + 5, none⟩), .int .i64 g.ac, .slice (some ⟨gx.2, 0, none⟩) 4 4, .bool true, .bool false, .bool false]) [true, true, true, true, true, true, true, true, true, true, true, true, true, true, true, true, true, true, true, true, true, true, true, true, true, true, true, true, true, true, true, true, true, true, true, true] [11, 32] (InvG2 wr g) (0, 0) (by kernel_rfl) (fun gx => by simp [fin, finOn, dstAt, List.range, List.range.loop, Act.put]; rfl) (fun _ => by kernel_rfl) (by kernel_rfl) ⟨below_drew (Below.refl _ _), (fun h => by cases h), fun h => by cases h⟩ ?_ ?_
      · refine ⟨fun L gx wq hL hb ha hI => ?_, fun L gx wq hL hb ha hI => ?_, fun L gx wq hL hb ha hI => ?_, fun L gx wq hL hb ha hI => ?_, fun L gx wq hL hb ha hI => ?_, fun L gx wq hL hb ha hI => ?_, fun L gx wq hL hb ha hI => ?_, fun L gx wq hL hb ha hI => ?_, fun L gx wq hL hb ha hI => ?_, fun L gx wq hL hb ha hI => ?_, fun L gx wq hL hb ha hI => ?_, fun L gx wq hL hb ha hI => ?_, fun L gx wq hL hb ha hI => ?_, fun L gx wq hL hb ha hI => ?_, fun L gx wq hL hb ha hI => ?_, fun L gx wq hL hb ha hI => ?_, fun L gx wq hL hb ha hI => ?_, fun L gx wq hL hb ha hI => ?_, fun L gx wq hL hb ha hI => ?_, fun L gx wq hL hb ha hI => ?_, fun L gx wq hL hb ha hI => ?_, fun L gx wq hL hb ha hI => ?_, fun L gx wq hL hb ha hI => ?_, fun L gx wq hL hb ha hI => ?_, fun L gx wq hL hb ha hI => ?_, fun L gx wq hL hb ha hI => ?_, fun L gx wq hL hb ha hI => ?_, fun L gx wq hL hb ha hI => ?_, fun L gx wq hL hb ha hI => ?_, fun L gx wq hL hb ha hI => ?_, fun L gx wq hL hb ha hI => ?_, fun L gx wq hL hb ha hI => ?_, fun L gx wq hL hb ha hI => ?_, fun L gx wq hL hb ha hI => ?_, fun L gx wq hL hb ha hI => ?_, fun L gx wq hL hb ha hI => ?_, trivial⟩
        · exact Gives.plain (v := .pointer (some (ad.add (k * 6)))) (w' := wq) (by kernel_rfl) rfl hI
        · exact Gives.plain (v := .pointer (some (ad.add (k * 6)))) (w' := wq) (by simp [go_sem]) rfl hI
        · exact Gives.plain (v := .pointer (some (ad.add (k * 6)))) (w' := wq) (by simp [go_sem]) rfl hI
        · have dJ := (HGA.out.keep hI.1).d0
          exact Gives.plain (v := .string g.nm) (w' := wq) (by simp [go_sem, dJ]) rfl hI
        · refine Gives.call (f := 31) (args := #[.string g.nm]) (w' := wq) (by kernel_rfl) ((named_any g.nm wq HSZ.out).mono ?_)
          rintro e wz ⟨rfl, rfl⟩
          rw [HN.out]
          exact ⟨_, rfl, gx, rfl, KeepsV.same, hI⟩
        · exact Gives.plain (v := .bool false) (w' := wq) (by simp [go_sem]) rfl hI
        · exact Gives.plain (v := .bool false) (w' := wq) (by kernel_rfl) rfl hI
        · exact Gives.plain (v := .pointer (some (ad.add (k * 6)))) (w' := wq) (by kernel_rfl) rfl hI
        · exact Gives.plain (v := .pointer (some (ad.add (k * 6)))) (w' := wq) (by simp [go_sem]) rfl hI
        · exact Gives.plain (v := .pointer (some ⟨(ad.add (k * 6)).block, (ad.add (k * 6)).off + 1, none⟩)) (w' := wq) (by simp [go_sem]) rfl hI
        · have dJ := (HGA.out.keep hI.1).d1
          exact Gives.plain (v := .int .i64 g.ww) (w' := wq) (by simp [go_sem, dJ]) rfl hI
        · have e11 : L 11 = false := hL
          cases e32 : L 32
          all_goals
            simp only [List.map, e11, e32] at hI ⊢
            have hK := hI.keep (bel_alloc wq (.cells #[.int .i64 g.ww] 3))
            exact Gives.value (v := .slice (some ⟨wq.heap.size, 0, none⟩) 1 1) (w' := wq.alloc (.cells #[.int .i64 g.ww] 3)) (by simp [go_sem]) ⟨(wq.heap.size, gx.2), rfl, (KeepsV.of_same ⟨.inr (.inr rfl), .inr (.inr rfl), .inr (.inr rfl), .inr (.inr rfl), .inr (.inr rfl), .inr (.inr rfl), .inr (.inr rfl), .inr (.inr rfl), .inr (.inr rfl), .inr (.inr rfl), .inr (.inr rfl), .inl rfl, .inr (.inr rfl), .inr (.inr rfl), .inr (.inr rfl), .inr (.inr rfl), .inr (.inr rfl), .inr (.inr rfl), .inr (.inr rfl), .inr (.inr rfl), .inr (.inr rfl), .inr (.inr rfl), .inr (.inr rfl), .inr (.inr rfl), .inr (.inr rfl), .inr (.inr rfl), .inr (.inr rfl), .inr (.inr rfl), .inr (.inr rfl), .inr (.inr rfl), .inr (.inr rfl), .inr (.inr rfl), (by first | exact .inr (.inr rfl) | exact .inr (.inl (by kernel_rfl))), .inr (.inr rfl), .inr (.inr rfl), .inr (.inr rfl), trivial⟩), hK.1, (fun _ => Blk.new _ _ _), hK.2.2⟩
        · have e11 : L 11 = true := hb 11 (by kernel_rfl)
          have hI0 := hI
          simp only [List.map, e11] at hI
          refine Gives.call (f := 32) (args := #[.int .i64 0, .int .i64 20000, .slice (some ⟨gx.1, 0, none⟩) 1 1]) (w' := wq) (by kernel_rfl) ((within_any 0 20000 (some ⟨gx.1, 0, none⟩) 1 [g.ww] wq (ints_blk (hI.2.1 rfl) rfl) (by simp)).mono ?_)
          rintro e wz ⟨rfl, rfl⟩
          rw [HW.out]
          exact ⟨_, rfl, gx, rfl, KeepsV.same, hI0⟩
        · exact Gives.plain (v := .bool false) (w' := wq) (by simp [go_sem]) rfl hI
        · exact Gives.plain (v := .bool false) (w' := wq) (by kernel_rfl) rfl hI
        · exact Gives.plain (v := .bool false) (w' := wq) (by kernel_rfl) rfl hI
        · exact Gives.plain (v := .pointer (some (ad.add (k * 6)))) (w' := wq) (by kernel_rfl) rfl hI
        · exact Gives.plain (v := .pointer (some (ad.add (k * 6)))) (w' := wq) (by simp [go_sem]) rfl hI
        · exact Gives.plain (v := .pointer (some ⟨(ad.add (k * 6)).block, (ad.add (k * 6)).off + 2, none⟩)) (w' := wq) (by simp [go_sem]) rfl hI
        · have dJ := (HGA.out.keep hI.1).d2
          exact Gives.plain (v := .int .i64 g.hh) (w' := wq) (by simp [go_sem, dJ]) rfl hI
        · exact Gives.plain (v := .pointer (some (ad.add (k * 6)))) (w' := wq) (by kernel_rfl) rfl hI
        · exact Gives.plain (v := .pointer (some (ad.add (k * 6)))) (w' := wq) (by simp [go_sem]) rfl hI
        · exact Gives.plain (v := .pointer (some ⟨(ad.add (k * 6)).block, (ad.add (k * 6)).off + 3, none⟩)) (w' := wq) (by simp [go_sem]) rfl hI
        · have dJ := (HGA.out.keep hI.1).d3
          exact Gives.plain (v := .int .i64 g.dd) (w' := wq) (by simp [go_sem, dJ]) rfl hI
        · exact Gives.plain (v := .pointer (some (ad.add (k * 6)))) (w' := wq) (by kernel_rfl) rfl hI
        · exact Gives.plain (v := .pointer (some (ad.add (k * 6)))) (w' := wq) (by simp [go_sem]) rfl hI
        · exact Gives.plain (v := .pointer (some ⟨(ad.add (k * 6)).block, (ad.add (k * 6)).off + 4, none⟩)) (w' := wq) (by simp [go_sem]) rfl hI
        · have dJ := (HGA.out.keep hI.1).d4
          exact Gives.plain (v := .int .i64 g.ic) (w' := wq) (by simp [go_sem, dJ]) rfl hI
        · exact Gives.plain (v := .pointer (some (ad.add (k * 6)))) (w' := wq) (by kernel_rfl) rfl hI
        · exact Gives.plain (v := .pointer (some (ad.add (k * 6)))) (w' := wq) (by simp [go_sem]) rfl hI
        · exact Gives.plain (v := .pointer (some ⟨(ad.add (k * 6)).block, (ad.add (k * 6)).off + 5, none⟩)) (w' := wq) (by simp [go_sem]) rfl hI
        · have dJ := (HGA.out.keep hI.1).d5
          exact Gives.plain (v := .int .i64 g.ac) (w' := wq) (by simp [go_sem, dJ]) rfl hI
        · have e32 : L 32 = false := hL
          cases e11 : L 11
          all_goals
            simp only [List.map, e11, e32] at hI ⊢
            have hK := hI.keep (bel_alloc wq (.cells #[.int .i64 g.hh, .int .i64 g.dd, .int .i64 g.ic, .int .i64 g.ac] 3))
            exact Gives.value (v := .slice (some ⟨wq.heap.size, 0, none⟩) 4 4) (w' := wq.alloc (.cells #[.int .i64 g.hh, .int .i64 g.dd, .int .i64 g.ic, .int .i64 g.ac] 3)) (by simp [go_sem]) ⟨(gx.1, wq.heap.size), rfl, (KeepsV.of_same ⟨.inr (.inr rfl), .inr (.inr rfl), .inr (.inr rfl), .inr (.inr rfl), .inr (.inr rfl), .inr (.inr rfl), .inr (.inr rfl), .inr (.inr rfl), .inr (.inr rfl), .inr (.inr rfl), .inr (.inr rfl), (by first | exact .inr (.inr rfl) | exact .inr (.inl (by kernel_rfl))), .inr (.inr rfl), .inr (.inr rfl), .inr (.inr rfl), .inr (.inr rfl), .inr (.inr rfl), .inr (.inr rfl), .inr (.inr rfl), .inr (.inr rfl), .inr (.inr rfl), .inr (.inr rfl), .inr (.inr rfl), .inr (.inr rfl), .inr (.inr rfl), .inr (.inr rfl), .inr (.inr rfl), .inr (.inr rfl), .inr (.inr rfl), .inr (.inr rfl), .inr (.inr rfl), .inr (.inr rfl), .inl rfl, .inr (.inr rfl), .inr (.inr rfl), .inr (.inr rfl), trivial⟩), hK.1, hK.2.1, fun _ => Blk.new _ _ _⟩
        · have e32 : L 32 = true := hb 32 (by kernel_rfl)
          have hI0 := hI
          simp only [List.map, e32] at hI
          refine Gives.call (f := 32) (args := #[.int .i64 (-20000), .int .i64 20000, .slice (some ⟨gx.2, 0, none⟩) 4 4]) (w' := wq) (by kernel_rfl) ((within_any (-20000) 20000 (some ⟨gx.2, 0, none⟩) 4 [g.hh, g.dd, g.ic, g.ac] wq (ints_blk (hI.2.2 rfl) rfl) (by simp)).mono ?_)
          rintro e wz ⟨rfl, rfl⟩
          rw [HR.out]
          exact ⟨_, rfl, gx, rfl, KeepsV.same, hI0⟩
        · exact Gives.plain (v := .bool false) (w' := wq) (by simp [go_sem]) rfl hI
        · exact Gives.plain (v := .bool false) (w' := wq) (by kernel_rfl) rfl hI
      · intro gx wq hI
        have VS := Lib.hid (VS.out.next hI.1)
        have HGA := Lib.hid (HGA.out.keep hI.1)
        clear hI
        generalize wq = wr at *
        go_upto_region 10 with (fail)
        refine region_ghost (X := Nat) (by kernel_rfl) _ (fun gx => [.map (some bm), .pointer (some (ad.add (k * 6))), .pointer (some (ad.add (k * 6))), .pointer (some (ad.add (k * 6))), .string g.nm, .tuple #[.int .i64 ((hgt (gs.take k) g.nm).getD 0), .bool (hgt (gs.take k) g.nm).isSome], .tuple #[.int .i64 ((hgt (gs.take k) g.nm).getD 0), .bool (hgt (gs.take k) g.nm).isSome], .int .i64 ((hgt (gs.take k) g.nm).getD 0), .bool (hgt (gs.take k) g.nm).isSome, .int .i64 ((hgt (gs.take k) g.nm).getD 0), .bool (hgt (gs.take k) g.nm).isSome]) [true, true, true, true, true, true, true, true, true, true, true] [] (InvQ1 wr) 0 (by kernel_rfl) (fun gx => by simp [fin, finOn, dstAt, List.range, List.range.loop, Act.put]; rfl) (fun _ => by kernel_rfl) (by kernel_rfl) ⟨below_drew (Below.refl _ _), trivial⟩ ?_ ?_
        · refine ⟨fun L gx wq hL hb ha hI => ?_, fun L gx wq hL hb ha hI => ?_, fun L gx wq hL hb ha hI => ?_, fun L gx wq hL hb ha hI => ?_, fun L gx wq hL hb ha hI => ?_, fun L gx wq hL hb ha hI => ?_, fun L gx wq hL hb ha hI => ?_, fun L gx wq hL hb ha hI => ?_, fun L gx wq hL hb ha hI => ?_, fun L gx wq hL hb ha hI => ?_, fun L gx wq hL hb ha hI => ?_, trivial⟩
          · have dJ := (VS.out.next hI.1).km.cell 0
            exact Gives.plain (v := .map (some bm)) (w' := wq) (by simp [go_sem, dJ]) rfl hI
          · exact Gives.plain (v := .pointer (some (ad.add (k * 6)))) (w' := wq) (by kernel_rfl) rfl hI
          · exact Gives.plain (v := .pointer (some (ad.add (k * 6)))) (w' := wq) (by simp [go_sem]) rfl hI
          · exact Gives.plain (v := .pointer (some (ad.add (k * 6)))) (w' := wq) (by simp [go_sem]) rfl hI
          · have dJ := (HGA.out.keep hI.1).d0
            exact Gives.plain (v := .string g.nm) (w' := wq) (by simp [go_sem, dJ]) rfl hI
          · have hlk := look_run (VS.out.next hI.1).mh HSZ.out
            exact Gives.plain (v := .tuple #[.int .i64 ((hgt (gs.take k) g.nm).getD 0), .bool (hgt (gs.take k) g.nm).isSome]) (w' := wq) (by simp [go_sem, hlk]) rfl hI
          · exact Gives.plain (v := .tuple #[.int .i64 ((hgt (gs.take k) g.nm).getD 0), .bool (hgt (gs.take k) g.nm).isSome]) (w' := wq) (by kernel_rfl) rfl hI
          · exact Gives.plain (v := .int .i64 ((hgt (gs.take k) g.nm).getD 0)) (w' := wq) (by simp [go_sem]) rfl hI
          · exact Gives.plain (v := .bool (hgt (gs.take k) g.nm).isSome) (w' := wq) (by simp [go_sem]) rfl hI
          · exact Gives.plain (v := .int .i64 ((hgt (gs.take k) g.nm).getD 0)) (w' := wq) (by kernel_rfl) rfl hI
          · exact Gives.plain (v := .bool (hgt (gs.take k) g.nm).isSome) (w' := wq) (by kernel_rfl) rfl hI
        · intro gx wq hI
          have VS := Lib.hid (VS.out.next hI.1)
          have HGA := Lib.hid (HGA.out.keep hI.1)
          clear hI
          generalize wq = wr at *
          cases hh : hgt (gs.take k) g.nm with
          | some h =>
            have HQ := Lib.hid (no_of HV.out (fun ho => glys_dup HG.out hh ho.2.2.2.1))
            clear hh
            rw [Option.getD_some, Option.isSome_some]
            go_wp2_with fail
            go_ret
            exact ⟨ret_bool HQ.out.symm, VS.out.bel⟩
          | none =>
            have HH := Lib.hid hh
            have HGN := Lib.hid (glys_snoc HGO.out HG.out HGB.out hh)
            clear hh
            rw [Option.getD_none, Option.isSome_none]
            obtain ⟨-, -, ⟨b1, b2⟩, ⟨b3, b4⟩, -, -⟩ := (glyB_iff g).1 HGB.out
            have m0 := VS.out.km.cell 0
            have d0 := HGA.out.d0
            have d2 := HGA.out.d2
            have d3 := HGA.out.d3
            go_upto_region 13 with (fail)
            go_still_tail 14, (by kernel_rfl)
            change wpList _ _ _ _ _ wr.drew
            have VSd := Lib.hid (VS.out.next (below_drew (Below.refl _ _)))
            clear VS HGA m0 d0 d2 d3
            have VS := VSd
            clear VSd
            generalize wr.drew = wd at *
            have HKEY := Lib.hid (Go.WideMaps.keyOf_string_mk (P := Tryz.prog) (k := 9) Tryz.underlying9 (s := g.nm) (by have := HSZ.out; unfold maxLen; omega))
            obtain ⟨n, D, hnk, hown, hD, hhg⟩ := VS.out.mh
            have HO := Lib.hid hown
            have HNK := Lib.hid hnk
            have HD := Lib.hid hD
            have HHG := Lib.hid hhg
            have hnm : n < maxLen := by have h1 := HLN.out.1; rw [List.length_take] at hnk; unfold maxLen; omega
            clear hnk hown hD hhg
            refine wpList_mapUpdate_own (H := Unit) wd rfl _ _ _ 67 rfl 9 3 law9 Tryz.underlying67 _ bm n D rfl HO.out hnm (.string g.nm) (.int .i64 (IntKind.i64.wrap (g.hh + g.dd))) _ rfl rfl HKEY.out (.lit (.int .i64 (g.hh + g.dd))) [] (by rw [IntWalk.i64_in _ (by omega)]; exact plainElem_int Tryz.underlying3 (WalkArith.wf_i64 (by omega))) ?_
            intro w4 hm4 hg4
            have VS4 := Lib.hid (VS.out.upd HG.out HH.out HNK.out HD.out HHG.out hm4 hg4)
            clear hm4 hg4 VS HO HNK HD HHG hnm
            go_wp2_with fail
            go_roundw
            case rel => exact ⟨k + 1, by omega, by go_num, VS4, HGN⟩
            case measure => simp [intOf]; omega
    · obtain rfl : k = gs.length := by omega
      have HGY := Lib.hid (show GlysOk gs by have h := HGO.out; rwa [List.take_of_length_le (Nat.le_refl _)] at h)
      clear HGO
      have c1 : wr.cell? ⟨w.heap.size, 1, none⟩ = some (.slice A2 ss.length c2) := (VS.out.k0.cell 1).trans HCS.out.2
      have hmf : ∀ (fn : Fn) (first cap : Array Value) (w : World), (Instr.makeFunc fn first cap).run Tryz.prog w = .ok (.func fn first cap) w := fun _ _ _ _ => rfl
      go_wp2_with fail
      clear c1 hmf
      go_loopw [108] (fun i wr => ∃ k : Nat, k ≤ ss.length ∧ i = .int .i64 k ∧ Hid (VSt w w.heap.size bm gm cs gs gs.length wr) ∧ Hid (StcsOk gs (ss.take k))) (fun i _ => ss.length - (intOf i).toNat)
      case atStart => exact ⟨0, by omega, rfl, VS, stcs_zero⟩
      case round =>
        clear VS
        obtain ⟨k, hk, rfl, VS, HSO⟩ := hrel
        by_cases hlt : k < ss.length
        · obtain ⟨s, hs⟩ : ∃ s, ss[k]? = some s := ⟨_, List.getElem?_eq_getElem hlt⟩
          obtain ⟨ad, hA, B1, e1, B2, e2, hsa⟩ := (HFA.out.keep VS.out.bel).k2.at_ hs
          subst hA
          have HSA := Lib.hid hsa
          have HS := Lib.hid hs
          clear hs
          obtain ⟨hlt0, d0, d1, d2, d3, -⟩ := hsa
          have hba := bel_alloc wr (.cells (s.c B1 e1 B2 e2) 53)
          have KS := Lib.hid (Blk.new wr 53 (s.c B1 e1 B2 e2))
          have HIN := Lib.hid (HSA.out.inn.keep hba)
          have VS5 := Lib.hid (VS.out.next hba)
          clear hba HSA
          go_upto_region 19 with (fail)
          clear d0 d1 d2 d3 hlt0 VS
          have VS := VS5
          clear VS5
          generalize wr.alloc (.cells _ 53) = w5 at *
          generalize wr.heap.size = g5 at *
          obtain ⟨v2, hv2⟩ := bool_of (StcOk gs s)
          have HV2 := Lib.hid hv2
          clear hv2
          have k5 := fun i => KS.out.cell i
          have hmh : MapH w5 bm gs := by have h := VS.out.mh; rwa [List.take_of_length_le (Nat.le_refl _)] at h
          have HMH := Lib.hid hmh
          clear hmh
          go_wp2_with fail
          refine (vstretch_any s B1 e1 B2 e2 gm bm gs v2 w5 HV2.out HGY.out HIN.out VS.out.km HMH.out).mono ?_
          rintro e w6 ⟨rfl, hb⟩
          replace VS := Lib.hid (VS.out.next hb)
          replace KS := Lib.hid (keep hb KS.out)
          clear hb k5
          cases v2
          · have HQ := Lib.hid (no_of HV.out (fun ho => stcs_bad HS.out (fun h => by have := HV2.out.2 h; cases this) ho.2.2.2.2))
            go_wp2_with fail
            go_ret
            exact ⟨ret_bool HQ.out.symm, VS.out.bel⟩
          have HOK := Lib.hid (HV2.out.1 rfl)
          have c1 : w6.cell? ⟨w.heap.size, 1, none⟩ = some (.slice (some ad) ss.length c2) := (VS.out.k0.cell 1).trans HCS.out.2
          have hcap : ss.length ≤ c2 := HN2.out.1
          go_wp2_with fail
          clear c1
          go_loopw [122] (fun i wr => ∃ j : Nat, j ≤ k ∧ i = .int .i64 j ∧ Hid (VSt w w.heap.size bm gm cs gs gs.length wr) ∧ Hid (Blk wr g5 53 (s.c B1 e1 B2 e2)) ∧ Hid (∀ (i : Nat) (t : Stc), i < j → ss[i]? = some t → t.nm ≠ s.nm)) (fun i _ => k - (intOf i).toNat)
          case atStart => exact ⟨0, by omega, rfl, VS, KS, Lib.hid (fun i t hi => by omega)⟩
          case round =>
            clear VS KS
            obtain ⟨j, hj, rfl, VS, KS, HD⟩ := hrel
            by_cases hlt2 : j < k
            · obtain ⟨t, ht⟩ : ∃ t, ss[j]? = some t := ⟨_, List.getElem?_eq_getElem (by omega)⟩
              obtain ⟨ad2, hA, C1, f1, C2, f2, hta⟩ := (HFA.out.keep VS.out.bel).k2.at_ ht
              obtain rfl := Option.some.inj hA
              have HT := Lib.hid ht
              clear ht hA
              obtain ⟨hlt0, d0, d1, d2, d3, -⟩ := hta
              have hba := bel_alloc wr (.cells (t.c C1 f1 C2 f2) 53)
              have KT := Lib.hid (Blk.new wr 53 (t.c C1 f1 C2 f2))
              have VS5 := Lib.hid (VS.out.next hba)
              have KS5 := Lib.hid (keep hba KS.out)
              clear hba
              go_upto_region 24 with (fail)
              clear d0 d1 d2 d3 hlt0 VS KS
              have VS := VS5
              have KS := KS5
              clear VS5 KS5
              generalize wr.alloc (.cells _ 53) = w7 at *
              generalize wr.heap.size = g7 at *
              have k5 := KS.out.cell 0
              have k7 := KT.out.cell 0
              by_cases hnm : t.nm = s.nm
              · have HQ := Lib.hid (no_of HV.out (fun ho => stcs_dup HS.out hlt2 HT.out hnm ho.2.2.2.2))
                have q : (t.nm.toList == s.nm.toList) = true := by rw [hnm]; exact beq_self_eq_true _
                clear hnm
                go_wp2_with fail
                go_ret
                exact ⟨ret_bool HQ.out.symm, VS.out.bel⟩
              · have HDN := Lib.hid (show ∀ (i : Nat) (x : Stc), i < j + 1 → ss[i]? = some x → x.nm ≠ s.nm from fun i x hi hx => by
                  rcases Nat.lt_or_ge i j with h | h
                  · exact HD.out i x h hx
                  · obtain rfl : i = j := by omega
                    rw [HT.out] at hx
                    obtain rfl := Option.some.inj hx
                    exact hnm)
                have q : (t.nm.toList == s.nm.toList) = false := by
                  rw [beq_eq_false_iff_ne, ByteArray.toList_eq, ByteArray.toList_eq]
                  exact fun e => hnm (bytes_eq e)
                clear hnm
                go_wp2_with fail
                go_roundw
                case rel => exact ⟨j + 1, by omega, by go_num, VS, KS, HDN⟩
                case measure => simp [intOf]; omega
            · obtain rfl : j = k := by omega
              have HSN := Lib.hid (stcs_snoc HSO.out HS.out HOK.out HD.out)
              go_wp2_with fail
              go_roundw
              case rel => exact ⟨j + 1, by omega, by go_num, VS, HSN⟩
              case measure => simp [intOf]; omega
        · obtain rfl : k = ss.length := by omega
          have HQ := Lib.hid (HV.out.2 ⟨HLN.out.1, HLN.out.2, HP.out, HGY.out, stcs_all HSO.out⟩)
          go_wp2_with fail
          go_ret
          exact ⟨ret_bool HQ.out.symm, VS.out.bel⟩
end Go.Proofs.YtgoafobhhmeppaaGreat
