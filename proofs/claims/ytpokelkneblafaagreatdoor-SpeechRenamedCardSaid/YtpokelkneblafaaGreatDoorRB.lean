/- What the rows of this seat share: eight listed variables, and one whose cell holds some number. -/
import Derived.Test.YtpokelkneblafaaGreatDoorRows
import Derived.Test.YtpokelkneblafaaGreatDoorRow0
import Derived.Test.YtpokelkneblafaaGreatDoorPV
import Derived.Lib.LaidCase
import Derived.ProofKit
import Derived.LaidMore
import Derived.OpenShut
import Derived.Stop.Joined
import Derived.Lib.LaidTab
import Derived.Lay
import Derived.Shelf.Vars
import Derived.HandedShaped
import Derived.Lib.SmallJoins
namespace Go.Proofs.YtpokelkneblafaaGreatDoor
open Go.ChangeShapes Go.WideShapes Go.ChangeAt Go.WideMaps Go.WideElems Go.RowKit
theorem own : ownKnob Tryz.prog.godebug = none := by kernel_rfl
theorem change_and_shaped {H : Type} {enc : TypeId × Value → H} {a : Assume} {C : Checked} {os : Os} {f : FuncId} {fn : Func} {s : ChangeSpec} {conds : List PathCond} {apart fresh handsOn again : Bool} {X : World → Array Value → Prop}
    (hX : ∀ (w w' : World) (args : Array Value), w.heap = w'.heap → X w args → X w' args)
    (own : ownKnob C.prog.godebug = none) (started : os.Started) (noInit : C.prog.inits.idxOf? f = none) (hfn : C.prog.funcs[f]? = some fn)
    (witness : ∃ (w : World) (tape : Tape) (i : Input), w.os = os ∧ (w.forCall tape i).Shaped C.prog ∧ i.vars = [] ∧ Input.okWide C.prog (w.forCall tape i) .any w.heap.size f i ∧
      ((s.pre enc C.prog fn conds apart (w.forCall tape i).memory i.args ∧ X (w.forCall tape i).memory i.args) ∧ sizedMet enc C.prog fn (OpenSpec.ofChange s) apart (w.forCall tape i).memory i.args) ∧ a.holds C.prog (lone (Frame.enter C.prog f i.args .normal) [] (w.forCall tape i)))
    (contract : ∀ (W : World) (base : Nat) (args : Array Value) (ds gs : List (DataW H)) (before : List MemPlace),
      (∀ (j : Nat) t v, fn.params[j]? = some t → args[j]? = some v → Value.okWide C.prog W .any base t v) →
      DataW.Whole enc C.prog fn.params.toList s.vars apart W args.toList ds gs before →
      X W args → W.ShapedOpen C.prog →
      Calls C.prog f args W fun e W' => ∃ v, e = .returned v ∧ s.post enc C.prog fn apart fresh handsOn again W args v W') :
    ReturnsInHanded a C os f .any (fun w args => (s.pre enc C.prog fn conds apart w args ∧ X w args) ∧ sizedMet enc C.prog fn (OpenSpec.ofChange s) apart w args) (s.post enc C.prog fn apart fresh handsOn again) := by
  refine returnsInHanded_of_calls own started noInit witness ?_
  intro w tape i _ hsh _ hok hpre _
  obtain ⟨_, _, _, fn', hfn', _, _, _, _, hval⟩ := hok
  have e : fn' = fn := Option.some.inj (hfn'.symm.trans hfn)
  subst e
  obtain ⟨⟨⟨ds, gs, before, hw, hc⟩, hx⟩, hz⟩ := hpre
  have hw' := DataW.Whole.of_heap (w' := w.forCall tape i) (by rfl) hw
  refine (contract (w.forCall tape i) w.heap.size i.args ds gs before hval hw' (hX _ _ _ (by rfl) hx) hsh).mono fun e W' ⟨v, he, hp⟩ => ?_
  subst he
  exact ChangeSpec.post_blind hp
theorem blk_of_cell {w : World} {p : Addr} {v : Value} (h : w.cell? p = some v) : p.block < w.heap.size := by
  refine Classical.byContradiction fun hn => ?_
  unfold World.cell? at h
  rw [Array.getElem?_eq_none (by omega)] at h
  cases h
theorem cell_stays {w w' : World} {p : Addr} {v : Value} (hb : Below w.heap.size w w') (h : w.cell? p = some v) : w'.cell? p = some v := (hb.cell (blk_of_cell h)).trans h
theorem case_stays {g : Nat} {w w' : World} (hb : Below w.heap.size w w') (h : Lib.CaseVar g Lib.caseA w) : Lib.CaseVar g Lib.caseA w' := by
  obtain ⟨R, oR, cap, h1, h2⟩ := h
  refine ⟨R, oR, cap, cell_stays hb h1, fun i hi => ?_⟩
  obtain ⟨a, b, c, d, e⟩ := h2 i hi
  exact ⟨cell_stays hb a, cell_stays hb b, cell_stays hb c, cell_stays hb d, cell_stays hb e⟩
theorem utf_stays {g h : Nat} {w w' : World} (hb : Below w.heap.size w w') (k : Lib.Utf8Tabs g h w) : Lib.Utf8Tabs g h w' :=
  ⟨fun c hc => cell_stays hb (k.1 c hc), fun i hi => ⟨cell_stays hb (k.2 i hi).1, cell_stays hb (k.2 i hi).2⟩⟩
abbrev laid8 : List (String × DataW Unit) := [("math/bits.deBruijn32tab", Rows.laid_math_bits_deBruijn32tab), ("math/bits.deBruijn64tab", Rows.laid_math_bits_deBruijn64tab), ("internal/strconv.uint64pow10", Rows.laid_internal_strconv_uint64pow10), ("unicode/utf8.acceptRanges", Rows.laid_unicode_utf8_acceptRanges), ("strconv.ErrRange", Rows.laid_strconv_ErrRange), ("strconv.ErrSyntax", Rows.laid_strconv_ErrSyntax), ("unicode.CaseRanges", Rows.laid_unicode_CaseRanges), ("unicode/utf8.first", Rows.laid_unicode_utf8_first)]
theorem gPow : Tryz.prog.globalNamed "internal/strconv.uint64pow10" = some 4 := by kernel_rfl
theorem tPow : (Tryz.prog.globals[4]?).map (·.type) = some 131 := by kernel_rfl
theorem powD : (Rows.laid_internal_strconv_uint64pow10 : DataW Unit) = Lib.tabData .u64 Lib.pow10Tab := by kernel_rfl
theorem accD : (Rows.laid_unicode_utf8_acceptRanges : DataW Unit) = Lib.acceptData := by kernel_rfl
theorem firD : Rows.laid_unicode_utf8_first = Lib.firstData := by kernel_rfl
theorem casD : Rows.laid_unicode_CaseRanges = Lib.caseData := by kernel_rfl
theorem gRng : Tryz.prog.globalNamed "strconv.ErrRange" = some 2 := by kernel_rfl
theorem gSyn : Tryz.prog.globalNamed "strconv.ErrSyntax" = some 1 := by kernel_rfl
theorem tRng : (Tryz.prog.globals[2]?).map (·.type) = some 54 := by kernel_rfl
theorem tSyn : (Tryz.prog.globals[1]?).map (·.type) = some 54 := by kernel_rfl
theorem g64 : Tryz.prog.globalNamed "math/bits.deBruijn64tab" = some 8 := by kernel_rfl
theorem iface_cell {W : World} {n : String} {g f : Nat} {cs : Array Value} {name : String} {d : DataW Unit} {p : List MemPlace} {sp : Nat → Bool} {base : Nat} {enc : TypeId × Value → Unit} (hg : Tryz.prog.globalNamed n = some g) (hv : W.var? Tryz.prog n = some cs)
    (hd : DataW.trod enc Tryz.prog W base sp false f 54 cs.toList = some (.iface name d, p)) : ∃ ev, W.cell? ⟨g, 0, none⟩ = some ev ∧ (ev = .nilIface ∨ ∃ te pe, ev = .iface te pe) := by
  obtain ⟨_, u, v, hc, _, _⟩ := iface_of_trod Tryz.underlying54 hd
  refine ⟨.iface u v, ?_, .inr ⟨u, v, rfl⟩⟩
  rw [World.var?_cell hg hv 0, ← Array.getElem?_toList, hc]
  rfl
theorem glb_of {W : World} (h : laidMetH Tryz.prog laid8 W) (hsh : W.ShapedOpen Tryz.prog) : GlbZ W.heap.size W := by
  rw [MakeChecks.laidMetH_plain _ _ _ (by kernel_rfl)] at h
  have r3 := Lib.laidMet.reads h (.tail _ (.tail _ (.tail _ (.head _))))
  have r6 := Lib.laidMet.reads h (.tail _ (.tail _ (.tail _ (.tail _ (.tail _ (.tail _ (.head _)))))))
  have r7 := Lib.laidMet.reads h (.tail _ (.tail _ (.tail _ (.tail _ (.tail _ (.tail _ (.tail _ (.head _))))))))
  rw [accD] at r3
  rw [casD] at r6
  rw [firD] at r7
  have hcv : Lib.CaseVar 3 Lib.caseA W := caseVar_of_reads (ρ := Tryz.lays158_ren) { Tryz.lays158 with } Tryz.lays158.t206 ⟨by kernel_rfl, by kernel_rfl, by kernel_rfl, by kernel_rfl, by kernel_rfl, by kernel_rfl⟩ r6
  have hut : Lib.Utf8Tabs 5 6 W := utf8Tabs_of_reads (ρ := Tryz.lays158_ren) { Tryz.lays158 with } ⟨by kernel_rfl, by kernel_rfl, by kernel_rfl, by kernel_rfl, by kernel_rfl, by kernel_rfl, by kernel_rfl⟩ r7 r3
  clear r3 r6 r7
  obtain ⟨ps, ⟨g0, t0, cs0, f0, p0, q0, hg0, ht0, hv0, hd0, ⟨g1, t1, cs1, f1, p1, q1, hg1, ht1, hv1, hd1, ⟨g2, t2, cs2, f2, p2, q2, hg2, ht2, hv2, hd2, ⟨g3, t3, cs3, f3, p3, q3, hg3, ht3, hv3, hd3, ⟨g4, t4, cs4, f4, p4, q4, hg4, ht4, hv4, hd4, ⟨g5, t5, cs5, f5, p5, q5, hg5, ht5, hv5, hd5, _, _⟩, _⟩, _⟩, _⟩, _⟩, _⟩, _, _⟩ := h
  obtain rfl := Option.some.inj (gPow.symm.trans hg2)
  obtain rfl := Option.some.inj (tPow.symm.trans ht2)
  obtain rfl := Option.some.inj (gRng.symm.trans hg4)
  obtain rfl := Option.some.inj (tRng.symm.trans ht4)
  obtain rfl := Option.some.inj (gSyn.symm.trans hg5)
  obtain rfl := Option.some.inj (tSyn.symm.trans ht5)
  obtain rfl := Option.some.inj (g64.symm.trans hg1)
  rw [powD] at hd2
  have htab : Lib.TabIs Tryz.prog W "internal/strconv.uint64pow10" .u64 Lib.pow10Tab := by
    unfold Lib.TabIs
    rw [hv2, ← Lib.cells_of_tab Tryz.underlying131 Tryz.underlying112 (by kernel_rfl) (by kernel_rfl) hd2]
  have hm : ∃ m, W.cell? ⟨0, 0, none⟩ = some (.int .i64 m) :=
    cell_of_shapedOpen_int (g := 0) (t := 3) (zero := #[.int .i64 0]) hsh (of_decide_eq_true (by kernel_rfl)) (by kernel_rfl) rfl (by kernel_rfl) (by kernel_rfl) Tryz.underlying3
  have h9 : 9 ≤ W.heap.size := by
    have h64 : 8 < W.heap.size := by
      refine Classical.byContradiction fun hn => ?_
      have hh := hv1
      unfold World.var? at hh
      rw [hg1] at hh
      simp [Array.getElem?_eq_none (show W.heap.size ≤ 8 by omega)] at hh
    omega
  have hr := iface_cell hg4 hv4 hd4
  exact ⟨⟨fun _ hb => Joins.tab_stays gPow htab hb (Nat.le_refl _), hm, by omega⟩, iface_cell hg5 hv5 hd5, hr, fun _ hb => case_stays hb hcv, fun _ hb => utf_stays hb hut, h9⟩
set_option maxRecDepth 100000 in
theorem all_met (os : Os) (args : Array Value) : laidMetH Tryz.prog laid8 ((World.laidAll Tryz.prog os laid8).forCall (fun _ _ => 0) ⟨#[], args, []⟩).memory := by
  rw [MakeChecks.laidMetH_plain _ _ _ (by kernel_rfl)]
  exact laidMet_laidAll _ (by kernel_rfl) (by kernel_rfl)
end Go.Proofs.YtpokelkneblafaaGreatDoor
