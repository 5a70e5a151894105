import Derived.Test.YtgkfmeagpmjcoaaDoorGS4
import Derived.Test.YtgkfmeagpmjcoaaDoorC1
import Derived.Outline
import Derived.Deep.AppendLies
namespace Go.Proofs.YtgkfmeagpmjcoaaDoor
open Go.RowKit
abbrev z65 : Array Value := #[.int .i64 0, .string ⟨#[]⟩, .bool false, .bool false, .bool false]
theorem own_below {w w' : World} {base : Nat} {e : TypeId} {size : Nat} {v : Value} {n : Nat} {xs : List Value} (h : w.ownsRow base e size v n xs) (hb : Below w.heap.size w w') : w'.ownsRow base e size v n xs :=
  h.kept (row := none) ⟨hb.os, hb.tape, hb.output, hb.size, fun i hi _ => hb.block i hi⟩ (by cases v.ownBlock <;> simp)
theorem blk5 {w : World} {g : Nat} {t : TypeId} {x0 x1 x2 x3 x4 : Value} (a b c d e : Value) (h : Blk w g t #[x0, x1, x2, x3, x4]) : Blk (((((w.setCell ⟨g, 0, none⟩ a).setCell ⟨g, 1, none⟩ b).setCell ⟨g, 2, none⟩ c).setCell ⟨g, 3, none⟩ d).setCell ⟨g, 4, none⟩ e) g t #[a, b, c, d, e] := by
  have := ((((h.set_ 0 a).set_ 1 b).set_ 2 c).set_ 3 d).set_ 4 e
  simpa using this
theorem far5 {w : World} {g g' : Nat} {t : TypeId} {cs : Array Value} (a b c d e : Value) (h : Blk w g t cs) (hne : g ≠ g') : Blk (((((w.setCell ⟨g', 0, none⟩ a).setCell ⟨g', 1, none⟩ b).setCell ⟨g', 2, none⟩ c).setCell ⟨g', 3, none⟩ d).setCell ⟨g', 4, none⟩ e) g t cs :=
  ((((h.far (p := ⟨g', 0, none⟩) hne a).far (p := ⟨g', 1, none⟩) hne b).far (p := ⟨g', 2, none⟩) hne c).far (p := ⟨g', 3, none⟩) hne d).far (p := ⟨g', 4, none⟩) hne e
theorem below5 {B : Nat} {w0 w : World} {g : Nat} (a b c d e : Value) (h : Below B w0 w) (hg : B ≤ g) : Below B w0 (((((w.setCell ⟨g, 0, none⟩ a).setCell ⟨g, 1, none⟩ b).setCell ⟨g, 2, none⟩ c).setCell ⟨g, 3, none⟩ d).setCell ⟨g, 4, none⟩ e) :=
  ((((h.setCell (p := ⟨g, 0, none⟩) hg a).setCell (p := ⟨g, 1, none⟩) hg b).setCell (p := ⟨g, 2, none⟩) hg c).setCell (p := ⟨g, 3, none⟩) hg d).setCell (p := ⟨g, 4, none⟩) hg e
/-- the words of a rule's line -/
def words1 (sym nam : ByteArray) (prec left right : Int) : List ByteArray := [⟨#[105, 110, 102, 105, 120]⟩, sym, nam, itB prec, itB left, itB right]
/-- a line: the words with one blank between them, and a line's end -/
def lineOf (ws : List ByteArray) : List UInt8 := Lib.join (ws.map (·.data.toList)) [32] ++ [10]
set_option maxRecDepth 100000 in
set_option maxHeartbeats 1000000 in
theorem line1 (sym nam : ByteArray) (prec left right : Int) (w : World) (ht : Tab w) (hprec : 0 ≤ prec ∧ prec ≤ 101) (hleft : 0 ≤ left ∧ left ≤ 101) (hright : 0 ≤ right ∧ right ≤ 101) (hlen : (lineOf (words1 sym nam prec left right)).length ≤ 140737488355328) : Calls Tryd.prog 29 #[Rul.v ⟨1, sym, nam, prec, left, right⟩] w fun e w' => e = .returned (.string ⟨(lineOf (words1 sym nam prec left right)).toArray⟩) ∧ Below w.heap.size w w' := by
  have hix := index_shape1
  have hw0 : IntKind.i64.wrap 0 = 0 := by decide
  go_enter Tryd.func29, Tryd.ntmps29
  go_upto_region 1 with (fail)
  have K0 := Lib.hid (Blk.new w 39 (Rul.c ⟨1, sym, nam, prec, left, right⟩))
  have H0 := Lib.hid (bel_alloc w (.cells (Rul.c ⟨1, sym, nam, prec, left, right⟩) 39))
  generalize w.alloc (.cells (Rul.c ⟨1, sym, nam, prec, left, right⟩) 39) = w1 at *
  have c0 := fun i => K0.out.cell i
  have l0 := K0.out.lt
  go_cut [3] (fun p wc => ∃ gs, p = .pointer (some ⟨gs, 0, none⟩) ∧ Hid (Blk wc gs 65 shp1) ∧ Hid (Blk wc w.heap.size 39 (Rul.c ⟨1, sym, nam, prec, left, right⟩)) ∧ Hid (Below w.heap.size w wc))
  case first =>
    go_region_with (first | (go_at_call 44; refine (shapes_any w1.drew).mono ?_; rintro e w2 ⟨rfl, hb5⟩; have M0 := Lib.hid (keep hb5 K0.out.drew); have MB := Lib.hid ((below_drew H0.out).trans (hb5.mono H0.out.size)); clear hb5; have cM := fun i => M0.out.cell i; have lM := M0.out.lt) | (go_at_call 44; refine (shapes_any (w1.alloc (.cells z65 65)).drew).mono ?_; rintro e w2 ⟨rfl, hb5⟩; have M0 := Lib.hid (keep hb5 (K0.out.alloc (.cells z65 65)).drew); have MS := Lib.hid (keep hb5 (Blk.new w1 65 z65).drew); have MB := Lib.hid ((below_drew (H0.out.alloc H0.out.size (.cells z65 65))).trans (hb5.mono (by have := H0.out.size; simp; omega))); clear hb5; have cM := fun i => M0.out.cell i; have lM := M0.out.lt; have s0 := MS.out.cell 0; have s1 := MS.out.cell 1; have s2 := MS.out.cell 2; have s3 := MS.out.cell 3; have s4 := MS.out.cell 4; have fS := fun i => MS.out.frozen i; have lS := MS.out.lt; simp only [List.getElem?_toArray, List.getElem?_cons_zero, List.getElem?_cons_succ] at s0 s1 s2 s3 s4))
    all_goals (go_wp2_with fail; go_meet; first | (have hMS := MS; exact ⟨w1.heap.size, rfl, blk5 _ _ _ _ _ MS.out, far5 _ _ _ _ _ M0.out (by omega), below5 _ _ _ _ _ MB.out (by have := H0.out.size; omega)⟩) | (exact ⟨w2.heap.size, rfl, Blk.new w2 65 shp1, M0.out.alloc _, MB.out.alloc MB.out.size _⟩))
  case rest =>
    clear c0 l0 K0 H0 hix hw0
    obtain ⟨gs, rfl, KS, K0, H0⟩ := hcut
    have c0 := fun i => K0.out.cell i
    have l0 := K0.out.lt
    have cS := fun i => KS.out.cell i
    have lS := KS.out.lt
    obtain ⟨i0, hi, hz0, hz1, hz2⟩ := info_parts info_str
    have hgw := H0.out.size
    go_upto_region 5 with (at_builtin; refine wpList_append_own _ rfl (.tmp 15) (.tmp 18) 27 rfl wc.heap.size 9 i0 (.string ⟨#[]⟩) 1 16 Tryd.underlying27 hi hz0 hz1 hz2 rfl (by decide) _ _ _ rfl ((World.ownsRow_lit (base := wc.heap.size) (e := 9) (size := 1) wc #[.string ⟨#[105, 110, 102, 105, 120]⟩] 1 (Nat.le_refl _) (by decide) rfl).alloc _) ⟨wc.heap.size + 1, 0, none⟩ 1 1 [.string sym] rfl rfl ?c1 ?c2 ?c3 ?c4 ?c5 ?_)
    case c1 => intro j u hj; match j, hj with | 0, hj => simp at hj; subst hj; simp [Addr.add]
    case c2 => intro u hu; simp at hu; subst hu; rfl
    case c3 => decide
    case c4 => decide
    case c5 => simp; omega
    · intro v' w3 hown' hgrow _
      have hne1 : some w.heap.size ≠ (Value.slice (some ⟨wc.heap.size, 0, none⟩) 1 1).ownBlock := by simp [Value.ownBlock]; omega
      have hne2 : some gs ≠ (Value.slice (some ⟨wc.heap.size, 0, none⟩) 1 1).ownBlock := by simp [Value.ownBlock]; omega
      have N0 := Lib.hid (((K0.out.alloc _).alloc _).grown hgrow hne1)
      have NS := Lib.hid (((KS.out.alloc _).alloc _).grown hgrow hne2)
      have NB := Lib.hid (((H0.out.alloc H0.out.size _).alloc (by simp; omega) _).grown hgrow (by simp; omega) (by simp [Value.ownBlock]; omega))
      have NO := Lib.hid hown'
      have hsz : wc.heap.size ≤ w3.heap.size := by have := hgrow.size; simp at this; omega
      have l0' : w.heap.size < wc.heap.size := l0
      have lS' : gs < wc.heap.size := lS
      clear hown' hgrow c0 l0 cS lS K0 KS H0
      go_upto_region 5 with (fail)
      have HP := Lib.hid (And.intro hprec (And.intro hleft hright))
      refine region_tail (by kernel_rfl) (fun _ _ _ d _ h => by cases d <;> exact h) [(0, v')] 6 ⟨#[Rul.v ⟨1, sym, nam, prec, left, right⟩, .pointer (some ⟨w.heap.size, 0, none⟩), .string ⟨#[]⟩, .pointer (some ⟨gs, 0, none⟩), v', u5, u6, u7, u8, u9, .pointer (some ⟨gs, 1, none⟩), .string ⟨#[105, 110, 102, 105, 120]⟩, .slice (some ⟨wc.heap.size, 0, none⟩) 1 1, .pointer (some ⟨gs, 2, none⟩), .bool true, .slice (some ⟨wc.heap.size, 0, none⟩) 1 1, .pointer (some ⟨w.heap.size, 1, none⟩), .string sym, .slice (some ⟨wc.heap.size + 1, 0, none⟩) 1 1, v', v', .pointer (some ⟨w.heap.size, 2, none⟩), .string nam, .pointer (some ⟨w.heap.size, 3, none⟩), .int .i64 prec, .string (itB prec), u26, u27, u28, u29, u30, u31, u32, u33, u34, u35, u36, u37, u38, u39, u40, u41, u42, u43, u44, u45, u46], []⟩ [v', .pointer (some ⟨w.heap.size, 2, none⟩), .string nam, .pointer (some ⟨w.heap.size, 3, none⟩), .int .i64 prec, .string (itB prec)] [true, true, true, true, true, true] (fun wq => Hid (Blk wq w.heap.size 39 (Rul.c ⟨1, sym, nam, prec, left, right⟩)) ∧ Hid (Blk wq gs 65 shp1) ∧ Hid (wq.ownsRow wc.heap.size 9 1 v' 2 [.string ⟨#[105, 110, 102, 105, 120]⟩, .string sym]) ∧ Hid (Below w.heap.size w wq) ∧ wc.heap.size ≤ wq.heap.size) (by kernel_rfl) ⟨⟨_, rfl, by kernel_rfl, by kernel_rfl, .inl ⟨by kernel_rfl, fun _ => by kernel_rfl⟩⟩, trivial⟩ (by kernel_rfl) (by kernel_rfl) (by kernel_rfl) (by kernel_rfl) (by kernel_rfl) (by kernel_rfl) (by kernel_rfl) (by kernel_rfl) (by kernel_rfl) (by kernel_rfl) ⟨N0.out.drew, NS.out.drew, NO.out.drew, below_drew NB.out, hsz⟩ ?_ ?_
      · refine ⟨fun wq hI => ?_, fun wq hI => ?_, fun wq hI => ?_, fun wq hI => ?_, fun wq hI => ?_, fun wq hI => ?_, trivial⟩
        · exact Gives.value (v := v') (w' := wq) (by kernel_rfl) ⟨rfl, hI⟩
        · exact Gives.value (v := .pointer (some ⟨w.heap.size, 2, none⟩)) (w' := wq) (by kernel_rfl) ⟨rfl, hI⟩
        · have cJ := fun i => hI.1.out.cell i
          exact Gives.value (v := .string nam) (w' := wq) (by simp [execOp, Act.eval, go_sem, cJ]) ⟨rfl, hI⟩
        · exact Gives.value (v := .pointer (some ⟨w.heap.size, 3, none⟩)) (w' := wq) (by kernel_rfl) ⟨rfl, hI⟩
        · have cJ := fun i => hI.1.out.cell i
          exact Gives.value (v := .int .i64 prec) (w' := wq) (by simp [execOp, Act.eval, go_sem, cJ]) ⟨rfl, hI⟩
        · obtain ⟨J0, JS, JO, JB, Jz⟩ := hI
          refine Gives.call (f := 45) (args := #[.int .i64 prec]) (w' := wq) (by kernel_rfl) ((itoa_any prec _ (ht.keep JB.out) (by have := HP.out.1; omega) (by have := HP.out.1; omega)).mono ?_)
          rintro e wa ⟨rfl, hb⟩
          exact ⟨_, rfl, rfl, keep hb J0.out, keep hb JS.out, own_below JO.out hb, JB.out.trans (hb.mono JB.out.size), Nat.le_trans Jz hb.size⟩
      · intro wq hI
        obtain ⟨J0, JS, JO, JB, Jz⟩ := hI
        show wpOps _ _ _ [6, 7, 8] _ _
        refine wpOps_step rfl rfl (Gives.wp (R := fun v w' => v = .slice (some ⟨wq.heap.size, 0, none⟩) 2 2 ∧ w' = wq.alloc (.cells #[.string nam, .string (itB prec)] 9)) (Gives.value (v := .slice (some ⟨wq.heap.size, 0, none⟩) 2 2) (w' := wq.alloc (.cells #[.string nam, .string (itB prec)] 9)) (by simp [execOp, Act.eval, go_sem]) ⟨rfl, rfl⟩) ?_)
        rintro v w' ⟨rfl, rfl⟩
        refine wpOps_step rfl rfl (wp_append_lies _ (.tmp 20) (.tmp 26) 27 rfl wc.heap.size 9 i0 (.string ⟨#[]⟩) 1 16 Tryd.underlying27 hi hz0 hz1 hz2 rfl (by decide) v' 2 _ rfl (JO.out.alloc _) ⟨wq.heap.size, 0, none⟩ 2 2 [.string nam, .string (itB prec)] rfl rfl ?d1 ?d2 ?d3 ?d4 ?d5 ?d6 _ rfl ?_)
        case d1 => intro j u hj; match j, hj with | 0, hj => simp at hj; subst hj; simp [Addr.add] | 1, hj => simp at hj; subst hj; simp [Addr.add]
        case d2 => intro u hu; simp at hu; rcases hu with rfl | rfl <;> rfl
        case d3 => decide
        case d4 => decide
        case d5 => decide
        case d6 => simp; omega
        intro g cap w4 hown4 hgrow4 hg4 hlt4
        obtain ⟨ga, ca, hv', hga⟩ : ∃ g c, v' = .slice (some ⟨g, 0, none⟩) 2 c ∧ wc.heap.size ≤ g := by
          rcases JO.out.2 with ⟨_, h⟩ | ⟨g, c, _, h, hb, _⟩
          · cases h
          · exact ⟨g, c, h, hb⟩
        have hob : v'.ownBlock = some ga := by rw [hv']; rfl
        rw [hob] at hgrow4
        have L0 := Lib.hid ((J0.out.alloc _).grown hgrow4 (by simp; omega))
        have LS := Lib.hid ((JS.out.alloc _).grown hgrow4 (by simp; omega))
        have LB := Lib.hid ((JB.out.alloc JB.out.size _).grown hgrow4 (by have := JB.out.size; simp; omega) (by simp; omega))
        have LO := Lib.hid hown4
        have Lz : wc.heap.size ≤ w4.heap.size := by have := hgrow4.size; simp at this; omega
        clear hown4 hgrow4 hg4 J0 JS JB JO
        refine wpOps_step rfl rfl (Gives.wp (R := fun v w' => v = .slice (some ⟨g, 0, none⟩) 4 cap ∧ w' = w4) (Gives.value (v := .slice (some ⟨g, 0, none⟩) 4 cap) (w' := w4) (by simp [execOp, Act.eval, go_sem]) ⟨rfl, rfl⟩) ?_)
        rintro v w' ⟨rfl, rfl⟩
        rename_i hK
        refine hK _ _ ?_
        clear hK
        have cL := fun i => L0.out.cell i
        have lL := L0.out.lt
        have cT := fun i => LS.out.cell i
        have lT := LS.out.lt
        go_upto_region 10 with (fail)
        refine (itoa_any left _ (ht.keep LB.out) (by have := HP.out.2.1; omega) (by have := HP.out.2.1; omega)).mono ?_
        rintro e wi ⟨rfl, hbi⟩
        have M0 := Lib.hid (keep hbi L0.out)
        have MS := Lib.hid (keep hbi LS.out)
        have MO := Lib.hid (own_below LO.out hbi)
        have MB := Lib.hid (LB.out.trans (hbi.mono LB.out.size))
        have Mz : wc.heap.size ≤ wi.heap.size := Nat.le_trans Lz hbi.size
        clear hbi cL lL cT lT L0 LS LO LB
        go_upto_region 10 with (at_builtin; refine wpList_append_lies _ rfl (.tmp 30) (.tmp 34) 27 rfl wc.heap.size 9 i0 (.string ⟨#[]⟩) 1 16 Tryd.underlying27 hi hz0 hz1 hz2 rfl (by decide) _ 4 _ rfl (MO.out.alloc _) ⟨wi.heap.size, 0, none⟩ 1 1 [.string (itB left)] rfl rfl ?e1 ?e2 ?e3 ?e4 ?e5 ?e6 _ rfl ?_)
        case e1 => intro j u hj; match j, hj with | 0, hj => simp at hj; subst hj; simp [Addr.add]
        case e2 => intro u hu; simp at hu; subst hu; rfl
        case e3 => decide
        case e4 => decide
        case e5 => decide
        case e6 => simp; omega
        intro g5 cap5 w5 hown5 hgrow5 hg5 hlt5
        have hgw4 : wc.heap.size ≤ g := by
          rcases MO.out.2 with ⟨h, _⟩ | ⟨_, _, _, h, hb, _⟩
          · cases h
          · cases h; exact hb
        have P0 := Lib.hid ((M0.out.alloc _).grown hgrow5 (by simp [Value.ownBlock]; omega))
        have PS := Lib.hid ((MS.out.alloc _).grown hgrow5 (by simp [Value.ownBlock]; omega))
        have PB := Lib.hid ((MB.out.alloc MB.out.size _).grown hgrow5 (by have := MB.out.size; simp; omega) (by simp [Value.ownBlock]; omega))
        have PO := Lib.hid hown5
        have Pz : wc.heap.size ≤ w5.heap.size := by have := hgrow5.size; simp at this; omega
        clear hown5 hgrow5 hg5 M0 MS MB MO
        have cL := fun i => P0.out.cell i
        have lL := P0.out.lt
        have cT := fun i => PS.out.cell i
        have lT := PS.out.lt
        go_upto_region 10 with (fail)
        refine (itoa_any right _ (ht.keep PB.out) (by have := HP.out.2.2; omega) (by have := HP.out.2.2; omega)).mono ?_
        rintro e wj ⟨rfl, hbj⟩
        have M0 := Lib.hid (keep hbj P0.out)
        have MS := Lib.hid (keep hbj PS.out)
        have MO := Lib.hid (own_below PO.out hbj)
        have MB := Lib.hid (PB.out.trans (hbj.mono PB.out.size))
        have Mz : wc.heap.size ≤ wj.heap.size := Nat.le_trans Pz hbj.size
        clear hbj cL lL cT lT P0 PS PO PB
        go_upto_region 10 with (at_builtin; refine wpList_append_lies _ rfl (.tmp 38) (.tmp 42) 27 rfl wc.heap.size 9 i0 (.string ⟨#[]⟩) 1 16 Tryd.underlying27 hi hz0 hz1 hz2 rfl (by decide) _ 5 _ rfl (MO.out.alloc _) ⟨wj.heap.size, 0, none⟩ 1 1 [.string (itB right)] rfl rfl ?e1 ?e2 ?e3 ?e4 ?e5 ?e6 _ rfl ?_)
        case e1 => intro j u hj; match j, hj with | 0, hj => simp at hj; subst hj; simp [Addr.add]
        case e2 => intro u hu; simp at hu; subst hu; rfl
        case e3 => decide
        case e4 => decide
        case e5 => decide
        case e6 => simp; omega
        intro g6 cap6 w6 hown6 hgrow6 hg6 hlt6
        have hgw5 : wc.heap.size ≤ g5 := by
          rcases MO.out.2 with ⟨h, _⟩ | ⟨_, _, _, h, hb, _⟩
          · cases h
          · cases h; exact hb
        have PB := Lib.hid ((MB.out.alloc MB.out.size _).grown hgrow6 (by have := MB.out.size; simp; omega) (by simp [Value.ownBlock]; omega))
        have PO := Lib.hid hown6
        clear hown6 hgrow6 hg6 M0 MS MB MO
        have hjl : (Lib.join ((words1 sym nam prec left right).map (·.data.toList)) [32]).length + 1 ≤ 140737488355328 := by have := hlen; simp [lineOf] at this; simpa using this
        have hcap6 : 6 ≤ cap6 := by
          rcases PO.out.2 with ⟨h, _⟩ | ⟨_, _, _, h, _, _, hc, _⟩
          · cases h
          · cases h; exact hc
        go_wp2_with (fail)
        refine (Tryd.strings_Join g6 0 cap6 (words1 sym nam prec left right) ⟨#[32]⟩ w6 ?j1 hlt6 (by simp [words1]) hcap6 (by have := hjl; show (Lib.join ((words1 sym nam prec left right).map (·.data.toList)) [32]).length ≤ _; omega)).mono ?_
        case j1 =>
          intro j x hj
          have hj6 : j < 6 := by
            rcases Nat.lt_or_ge j 6 with h | h
            · exact h
            · rw [List.getElem?_eq_none (by simpa [words1] using h)] at hj; cases hj
          rw [Nat.zero_add, PO.out.cellAt j (by omega)]
          have : ([Value.string ⟨#[105, 110, 102, 105, 120]⟩, .string sym, .string nam, .string (itB prec), .string (itB left), .string (itB right)] : List Value) = (words1 sym nam prec left right).map Value.string := rfl
          rw [this, List.getElem?_map, hj]; rfl
        rintro e w7 ⟨rfl, hb7⟩
        have hjz : (⟨(Lib.join ((words1 sym nam prec left right).map (·.data.toList)) [32]).toArray⟩ : ByteArray).size + 1 ≤ 140737488355328 := by simpa [ByteArray.size] using hjl
        have FB := Lib.hid (PB.out.trans (hb7.mono PB.out.size))
        clear hb7
        go_wp2_with (fail)
        have hfin : ((⟨(Lib.join ((words1 sym nam prec left right).map (·.data.toList)) [32]).toArray⟩ : ByteArray) ++ ⟨#[10]⟩) = ⟨(lineOf (words1 sym nam prec left right)).toArray⟩ := by
          apply ByteArray.ext
          simp [lineOf]
        rw [← hfin]
        go_returns
        exact ⟨rfl, FB.out⟩

end Go.Proofs.YtgkfmeagpmjcoaaDoor
