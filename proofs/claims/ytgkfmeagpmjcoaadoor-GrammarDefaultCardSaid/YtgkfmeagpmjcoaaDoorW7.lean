/- ReadLine of the reference. -/
import Derived.Test.YtgkfmeagpmjcoaaDoorW6
namespace Go.Proofs.YtgkfmeagpmjcoaaDoor
open Go.RowKit
theorem strs_form {w w0 : World} {v : Value} {ps : List (List UInt8)} (h : w.ownsRow w0.heap.size 9 1 v ps.length (ps.map fun p => Value.string (bys p))) (hne : ps ≠ []) : ∃ gw cap, v = .slice (some ⟨gw, 0, none⟩) ps.length cap ∧ w0.heap.size ≤ gw ∧ gw < w.heap.size ∧ ps.length ≤ cap ∧ cap ≤ 9223372036854775807 ∧ RowAt w ⟨gw, 0, none⟩ ps := by
  obtain ⟨h1, h2⟩ := h
  rcases h2 with ⟨rfl, h0⟩ | ⟨g, cap, cur, rfl, hg, hb, hn, hc, hs, ht⟩
  · exact absurd (List.length_eq_zero_iff.1 h0) hne
  · have hb' : Blk w g 9 cur := hb
    refine ⟨g, cap, rfl, hg, hb'.lt, hn, by unfold maxLen at hc; omega, fun j p hj => ?_⟩
    rw [show (⟨g, 0, none⟩ : Addr).add j = ⟨g, j, none⟩ by unfold Addr.add; simp; omega, hb'.cell]
    have h3 : (ps.map fun p => Value.string (bys p))[j]? = some (.string (bys p)) := by simp [hj]
    rw [← ht, List.getElem?_take] at h3
    split at h3
    · simpa using h3
    · cases h3
/-- the world while a rule is read into the box g5 -/
def InvR (x : Rul) (gw g5 : Nat) (ws : List (List UInt8)) (w : World) : List Bool → World → Prop
  | [b], wq => Hid (RowAt wq ⟨gw, 0, none⟩ ws) ∧ Hid (Blk wq g5 39 (if b then x.c else zeroR.c)) ∧ Hid (Blk wq w.heap.size 39 zeroR.c) ∧ Hid (Below w.heap.size w wq)
  | _, _ => False
/-- the world while the result is laid -/
def InvT (x : Rul) (g5 : Nat) (w : World) : List Bool → World → Prop
  | [b], wq => Hid (Blk wq g5 39 x.c) ∧ Hid (Blk wq w.heap.size 39 (if b then x.c else zeroR.c)) ∧ Hid (Below w.heap.size w wq)
  | _, _ => False
theorem row_below {w w' : World} {gw : Nat} {ps : List (List UInt8)} (h : RowAt w ⟨gw, 0, none⟩ ps) (hl : gw < w.heap.size) (hb : Below w.heap.size w w') : RowAt w' ⟨gw, 0, none⟩ ps := fun j p hj => (hb.cell (by rw [add_block]; exact hl)).trans (h j p hj)
theorem row_only {w w' : World} {gw g : Nat} {ps : List (List UInt8)} (h : RowAt w ⟨gw, 0, none⟩ ps) (hl : gw ≠ g) (hb : Only g w w') : RowAt w' ⟨gw, 0, none⟩ ps := fun j p hj => (hb.cell (by rw [add_block]; exact hl)).trans (h j p hj)
set_option maxRecDepth 100000 in
set_option maxHeartbeats 4000000 in
theorem readLine_any (s : ByteArray) (w : World) (hs : s.size ≤ 900000) : Calls Tryd.prog 38 #[.string s] w fun e w' => e = .returned (.tuple #[(readR (splitL 32 s.data.toList)).v, .bool (ownB (readR (splitL 32 s.data.toList)) && (lineN (readR (splitL 32 s.data.toList)) == s.data.toList))]) ∧ Below w.heap.size w w' := by
  have hsl := split_len 32 s.data.toList
  have hsz : s.data.toList.length = s.size := by simp
  have HL := Lib.hid (show (splitL 32 s.data.toList).length ≤ 1000000 by omega)
  have HF := Lib.hid (show ∀ p ∈ splitL 32 s.data.toList, p.length ≤ 1000000 from fun p hp => by have := hsl.2 p hp; omega)
  have HNE := Lib.hid (splitL_ne 32 s.data.toList)
  clear hsl hsz
  go_enter Tryd.func38, Tryd.ntmps38
  go_wp2_with fail
  have K2 := Lib.hid (Blk.new w 39 zeroR.c)
  have H0 := Lib.hid (bel_alloc w (.cells zeroR.c 39))
  refine (rsplit_any s 32 _ (by omega)).mono ?_
  rintro e w1 ⟨v, rfl, hown, hb⟩
  obtain ⟨gw, cap, rfl, hgw, hgl, hcl, hcap, hrow⟩ := strs_form hown HNE.out
  generalize hws : splitL 32 s.data.toList = ws at *
  have HWS := Lib.hid hws
  clear hws hown
  have K2 := Lib.hid (keep hb K2.out)
  have H1 := Lib.hid (H0.out.trans (hb.mono H0.out.size))
  have HROW := Lib.hid hrow
  clear hb hrow H0
  obtain ⟨p, qs, rfl⟩ : ∃ p qs, ws = p :: qs := by
    cases ws with
    | nil => exact absurd rfl HNE.out
    | cons p qs => exact ⟨p, qs, rfl⟩
  have hlen := HL.out
  go_upto_block 0 with (fail)
  go_cut [] (fun wc => ∃ rr : Rul, Hid (readR (p :: qs) = rr) ∧ Hid rr.fits ∧ Hid (Blk wc w1.heap.size 39 rr.c) ∧ Hid (Blk wc w.heap.size 39 zeroR.c) ∧ Hid (Below w.heap.size w wc))
  case rest =>
    clear K2 H1 HROW
    obtain ⟨rr, HRR, HFIT, K5, K2, H1⟩ := hcut
    simp only [World.size_alloc] at hgw
    have hg5 : gw < w1.heap.size := hgl
    go_upto_region 11 with (fail)
    have l5 := K5.out.lt
    cases how : ownB rr
    · have HOW := Lib.hid how
      have HRES := Lib.hid (show (ownB rr && (lineN rr == s.data.toList)) = false by rw [how]; rfl)
      clear how
      · skip
        refine region_stage (by kernel_rfl) _ [rr.v, rr.v, .bool false, .bool false, undef, undef, undef, undef, .bool false, undef, .bool false] [true, true, true, true, false, false, false, false, true, true, true] [9] (InvT rr w1.heap.size w) (by kernel_rfl) (by simp [fin, finOn, dstAt, List.range, List.range.loop, Act.put]; rfl) (by kernel_rfl) (by kernel_rfl) ⟨K5.out.drew, K2.out.drew, below_drew H1.out⟩ ?_ ?_
        · refine ⟨fun L wq hL hb ha hI => ?_, fun L wq hL hb ha hI => ?_, fun L wq hL hb ha hI => ?_, fun L wq hL hb ha hI => ?_, ⟨rfl, fun L wq hI => hI⟩, ⟨rfl, fun L wq hI => hI⟩, ⟨rfl, fun L wq hI => hI⟩, ⟨rfl, fun L wq hI => hI⟩, fun L wq hL hb ha hI => ?_, fun L wq hL hb ha hI => ?_, fun L wq hL hb ha hI => ?_, trivial⟩
          · have cJ := fun i => hI.1.out.cell i
            exact Gives.value (v := rr.v) (w' := wq) (by simp [execOp, Act.eval, go_sem, cJ]) ⟨rfl, hI⟩
          · have cJ := fun i => hI.1.out.cell i
            exact Gives.value (v := rr.v) (w' := wq) (by simp [execOp, Act.eval, go_sem, cJ]) ⟨rfl, hI⟩
          · refine Gives.call (f := 26) (args := #[rr.v]) (w' := wq) (by kernel_rfl) ((rown_any rr wq HFIT.out).mono ?_)
            rintro e wa ⟨rfl, hb5⟩
            exact ⟨_, rfl, by rw [HOW.out], keep hb5 hI.1.out, keep hb5 hI.2.1.out, hI.2.2.out.trans (hb5.mono hI.2.2.out.size)⟩
          · exact Gives.value (v := .bool false) (w' := wq) (by kernel_rfl) ⟨rfl, hI⟩
          · exact Gives.value (v := .bool false) (w' := wq) (by kernel_rfl) ⟨rfl, hI⟩
          · have e8 : L 9 = false := hL
            simp only [List.map, e8] at hI
            obtain ⟨i0, i1, i2⟩ := hI
            have c0 := i1.out.cell 0
            have c1 := i1.out.cell 1
            have c2 := i1.out.cell 2
            have c3 := i1.out.cell 3
            have c4 := i1.out.cell 4
            have c5 := i1.out.cell 5
            have fK := fun i => i1.out.frozen i
            refine Gives.skip (w' := (((((wq.setCell ⟨w.heap.size, 0, none⟩ (.int .i64 rr.kind)).setCell ⟨w.heap.size, 1, none⟩ (.string rr.sym)).setCell ⟨w.heap.size, 2, none⟩ (.string rr.nam)).setCell ⟨w.heap.size, 3, none⟩ (.int .i64 rr.prec)).setCell ⟨w.heap.size, 4, none⟩ (.int .i64 rr.left)).setCell ⟨w.heap.size, 5, none⟩ (.int .i64 rr.right)) (by simp [execOp, Act.eval, go_sem, c0, c1, c2, c3, c4, c5, fK]) ⟨rfl, ?_⟩
            have O := only6 wq w.heap.size (.int .i64 rr.kind) (.string rr.sym) (.string rr.nam) (.int .i64 rr.prec) (.int .i64 rr.left) (.int .i64 rr.right)
            have N := blk6 (.int .i64 rr.kind) (.string rr.sym) (.string rr.nam) (.int .i64 rr.prec) (.int .i64 rr.left) (.int .i64 rr.right) i1.out
            exact ⟨O.blk (by omega) i0.out, N, O.below i2.out (Nat.le_refl _)⟩
          · exact Gives.value (v := .bool false) (w' := wq) (by kernel_rfl) ⟨rfl, hI⟩
        · intro wq hI
          obtain ⟨i0, i1, i2⟩ := hI
          have K2 := Lib.hid (show Blk wq w.heap.size 39 rr.c from i1.out)
          clear i0 i1
          go_wp2_with fail
          have c := fun i => K2.out.cell i
          exact bodyPost_ret (v := .tuple #[rr.v, .bool false]) (by simp [results, Tryd.results38, go_sem, c]) rfl ⟨by rw [HWS.out, HRR.out, HRES.out], i2.out⟩
    · cases heq : (lineN rr == s.data.toList)
      · have HOW := Lib.hid how
        have HRES := Lib.hid (show (ownB rr && (lineN rr == s.data.toList)) = false by rw [how, heq]; rfl)
        have hq : ((bys (lineN rr)).toList == s.toList) = false := by rw [ByteArray.toList_eq, ByteArray.toList_eq, bys_data]; exact heq
        clear how heq
        refine region_stage (by kernel_rfl) _ [rr.v, rr.v, .bool true, .bool true, rr.v, .string (bys (lineN rr)), .string s, .bool false, .bool false, undef, .bool false] [true, true, true, true, true, true, true, true, true, true, true] [9] (InvT rr w1.heap.size w) (by kernel_rfl) (by simp [fin, finOn, dstAt, List.range, List.range.loop, Act.put]; rfl) (by kernel_rfl) (by kernel_rfl) ⟨K5.out.drew, K2.out.drew, below_drew H1.out⟩ ?_ ?_
        · refine ⟨fun L wq hL hb ha hI => ?_, fun L wq hL hb ha hI => ?_, fun L wq hL hb ha hI => ?_, fun L wq hL hb ha hI => ?_, fun L wq hL hb ha hI => ?_, fun L wq hL hb ha hI => ?_, fun L wq hL hb ha hI => ?_, fun L wq hL hb ha hI => ?_, fun L wq hL hb ha hI => ?_, fun L wq hL hb ha hI => ?_, fun L wq hL hb ha hI => ?_, trivial⟩
          · have cJ := fun i => hI.1.out.cell i
            exact Gives.value (v := rr.v) (w' := wq) (by simp [execOp, Act.eval, go_sem, cJ]) ⟨rfl, hI⟩
          · have cJ := fun i => hI.1.out.cell i
            exact Gives.value (v := rr.v) (w' := wq) (by simp [execOp, Act.eval, go_sem, cJ]) ⟨rfl, hI⟩
          · refine Gives.call (f := 26) (args := #[rr.v]) (w' := wq) (by kernel_rfl) ((rown_any rr wq HFIT.out).mono ?_)
            rintro e wa ⟨rfl, hb5⟩
            exact ⟨_, rfl, by rw [HOW.out], keep hb5 hI.1.out, keep hb5 hI.2.1.out, hI.2.2.out.trans (hb5.mono hI.2.2.out.size)⟩
          · exact Gives.value (v := .bool true) (w' := wq) (by kernel_rfl) ⟨rfl, hI⟩
          · have cJ := fun i => hI.1.out.cell i
            exact Gives.value (v := rr.v) (w' := wq) (by simp [execOp, Act.eval, go_sem, cJ]) ⟨rfl, hI⟩
          · refine Gives.call (f := 36) (args := #[rr.v]) (w' := wq) (by kernel_rfl) ((rline_any rr wq HOW.out).mono ?_)
            rintro e wa ⟨rfl, hb5⟩
            exact ⟨_, rfl, rfl, keep hb5 hI.1.out, keep hb5 hI.2.1.out, hI.2.2.out.trans (hb5.mono hI.2.2.out.size)⟩
          · exact Gives.value (v := .string s) (w' := wq) (by kernel_rfl) ⟨rfl, hI⟩
          · exact Gives.value (v := .bool false) (w' := wq) (by simp [execOp, Act.eval, go_sem, hq]) ⟨rfl, hI⟩
          · exact Gives.value (v := .bool false) (w' := wq) (by kernel_rfl) ⟨rfl, hI⟩
          · have e8 : L 9 = false := hL
            simp only [List.map, e8] at hI
            obtain ⟨i0, i1, i2⟩ := hI
            have c0 := i1.out.cell 0
            have c1 := i1.out.cell 1
            have c2 := i1.out.cell 2
            have c3 := i1.out.cell 3
            have c4 := i1.out.cell 4
            have c5 := i1.out.cell 5
            have fK := fun i => i1.out.frozen i
            refine Gives.skip (w' := (((((wq.setCell ⟨w.heap.size, 0, none⟩ (.int .i64 rr.kind)).setCell ⟨w.heap.size, 1, none⟩ (.string rr.sym)).setCell ⟨w.heap.size, 2, none⟩ (.string rr.nam)).setCell ⟨w.heap.size, 3, none⟩ (.int .i64 rr.prec)).setCell ⟨w.heap.size, 4, none⟩ (.int .i64 rr.left)).setCell ⟨w.heap.size, 5, none⟩ (.int .i64 rr.right)) (by simp [execOp, Act.eval, go_sem, c0, c1, c2, c3, c4, c5, fK]) ⟨rfl, ?_⟩
            have O := only6 wq w.heap.size (.int .i64 rr.kind) (.string rr.sym) (.string rr.nam) (.int .i64 rr.prec) (.int .i64 rr.left) (.int .i64 rr.right)
            have N := blk6 (.int .i64 rr.kind) (.string rr.sym) (.string rr.nam) (.int .i64 rr.prec) (.int .i64 rr.left) (.int .i64 rr.right) i1.out
            exact ⟨O.blk (by omega) i0.out, N, O.below i2.out (Nat.le_refl _)⟩
          · exact Gives.value (v := .bool false) (w' := wq) (by kernel_rfl) ⟨rfl, hI⟩
        · intro wq hI
          obtain ⟨i0, i1, i2⟩ := hI
          have K2 := Lib.hid (show Blk wq w.heap.size 39 rr.c from i1.out)
          clear i0 i1
          go_wp2_with fail
          have c := fun i => K2.out.cell i
          exact bodyPost_ret (v := .tuple #[rr.v, .bool false]) (by simp [results, Tryd.results38, go_sem, c]) rfl ⟨by rw [HWS.out, HRR.out, HRES.out], i2.out⟩
      · have HOW := Lib.hid how
        have HRES := Lib.hid (show (ownB rr && (lineN rr == s.data.toList)) = true by rw [how, heq]; rfl)
        have hq : ((bys (lineN rr)).toList == s.toList) = true := by rw [ByteArray.toList_eq, ByteArray.toList_eq, bys_data]; exact heq
        clear how heq
        refine region_stage (by kernel_rfl) _ [rr.v, rr.v, .bool true, .bool true, rr.v, .string (bys (lineN rr)), .string s, .bool true, .bool true, undef, .bool true] [true, true, true, true, true, true, true, true, true, true, true] [9] (InvT rr w1.heap.size w) (by kernel_rfl) (by simp [fin, finOn, dstAt, List.range, List.range.loop, Act.put]; rfl) (by kernel_rfl) (by kernel_rfl) ⟨K5.out.drew, K2.out.drew, below_drew H1.out⟩ ?_ ?_
        · refine ⟨fun L wq hL hb ha hI => ?_, fun L wq hL hb ha hI => ?_, fun L wq hL hb ha hI => ?_, fun L wq hL hb ha hI => ?_, fun L wq hL hb ha hI => ?_, fun L wq hL hb ha hI => ?_, fun L wq hL hb ha hI => ?_, fun L wq hL hb ha hI => ?_, fun L wq hL hb ha hI => ?_, fun L wq hL hb ha hI => ?_, fun L wq hL hb ha hI => ?_, trivial⟩
          · have cJ := fun i => hI.1.out.cell i
            exact Gives.value (v := rr.v) (w' := wq) (by simp [execOp, Act.eval, go_sem, cJ]) ⟨rfl, hI⟩
          · have cJ := fun i => hI.1.out.cell i
            exact Gives.value (v := rr.v) (w' := wq) (by simp [execOp, Act.eval, go_sem, cJ]) ⟨rfl, hI⟩
          · refine Gives.call (f := 26) (args := #[rr.v]) (w' := wq) (by kernel_rfl) ((rown_any rr wq HFIT.out).mono ?_)
            rintro e wa ⟨rfl, hb5⟩
            exact ⟨_, rfl, by rw [HOW.out], keep hb5 hI.1.out, keep hb5 hI.2.1.out, hI.2.2.out.trans (hb5.mono hI.2.2.out.size)⟩
          · exact Gives.value (v := .bool true) (w' := wq) (by kernel_rfl) ⟨rfl, hI⟩
          · have cJ := fun i => hI.1.out.cell i
            exact Gives.value (v := rr.v) (w' := wq) (by simp [execOp, Act.eval, go_sem, cJ]) ⟨rfl, hI⟩
          · refine Gives.call (f := 36) (args := #[rr.v]) (w' := wq) (by kernel_rfl) ((rline_any rr wq HOW.out).mono ?_)
            rintro e wa ⟨rfl, hb5⟩
            exact ⟨_, rfl, rfl, keep hb5 hI.1.out, keep hb5 hI.2.1.out, hI.2.2.out.trans (hb5.mono hI.2.2.out.size)⟩
          · exact Gives.value (v := .string s) (w' := wq) (by kernel_rfl) ⟨rfl, hI⟩
          · exact Gives.value (v := .bool true) (w' := wq) (by simp [execOp, Act.eval, go_sem, hq]) ⟨rfl, hI⟩
          · exact Gives.value (v := .bool true) (w' := wq) (by kernel_rfl) ⟨rfl, hI⟩
          · have e8 : L 9 = false := hL
            simp only [List.map, e8] at hI
            obtain ⟨i0, i1, i2⟩ := hI
            have c0 := i1.out.cell 0
            have c1 := i1.out.cell 1
            have c2 := i1.out.cell 2
            have c3 := i1.out.cell 3
            have c4 := i1.out.cell 4
            have c5 := i1.out.cell 5
            have fK := fun i => i1.out.frozen i
            refine Gives.skip (w' := (((((wq.setCell ⟨w.heap.size, 0, none⟩ (.int .i64 rr.kind)).setCell ⟨w.heap.size, 1, none⟩ (.string rr.sym)).setCell ⟨w.heap.size, 2, none⟩ (.string rr.nam)).setCell ⟨w.heap.size, 3, none⟩ (.int .i64 rr.prec)).setCell ⟨w.heap.size, 4, none⟩ (.int .i64 rr.left)).setCell ⟨w.heap.size, 5, none⟩ (.int .i64 rr.right)) (by simp [execOp, Act.eval, go_sem, c0, c1, c2, c3, c4, c5, fK]) ⟨rfl, ?_⟩
            have O := only6 wq w.heap.size (.int .i64 rr.kind) (.string rr.sym) (.string rr.nam) (.int .i64 rr.prec) (.int .i64 rr.left) (.int .i64 rr.right)
            have N := blk6 (.int .i64 rr.kind) (.string rr.sym) (.string rr.nam) (.int .i64 rr.prec) (.int .i64 rr.left) (.int .i64 rr.right) i1.out
            exact ⟨O.blk (by omega) i0.out, N, O.below i2.out (Nat.le_refl _)⟩
          · exact Gives.value (v := .bool true) (w' := wq) (by kernel_rfl) ⟨rfl, hI⟩
        · intro wq hI
          obtain ⟨i0, i1, i2⟩ := hI
          have K2 := Lib.hid (show Blk wq w.heap.size 39 rr.c from i1.out)
          clear i0 i1
          go_wp2_with fail
          have c := fun i => K2.out.cell i
          exact bodyPost_ret (v := .tuple #[rr.v, .bool true]) (by simp [results, Tryd.results38, go_sem, c]) rfl ⟨by rw [HWS.out, HRR.out, HRES.out], i2.out⟩
  go_upto_region 3 with (fail)
  have K5 := Lib.hid (Blk.new w1 39 zeroR.c)
  have K2 := Lib.hid (K2.out.alloc (.cells zeroR.c 39))
  have H1 := Lib.hid (H1.out.alloc H1.out.size (.cells zeroR.c 39))
  have HROW := Lib.hid (row_below HROW.out hgl (bel_alloc w1 (.cells zeroR.c 39)))
  simp only [World.size_alloc] at hgw
  have hg5 : gw < w1.heap.size := hgl
  clear hgl
  generalize w1.alloc (.cells #[.int .i64 0, .string ⟨#[]⟩, .string ⟨#[]⟩, .int .i64 0, .int .i64 0, .int .i64 0] 39) = w2 at *
  rw [show (p :: qs).length = qs.length + 1 from rfl] at hcl hlen
  clear HL HNE
  by_cases n1 : p = sh1.word
  · have HP := Lib.hid n1
    clear n1
    by_cases hn : qs.length = 5
    · obtain ⟨a, b, c, d, e, rfl⟩ : ∃ a b c d e, qs = [a, b, c, d, e] := by
        match qs, hn with
        | [a, b, c, d, e], _ => exact ⟨a, b, c, d, e, rfl⟩
      have e1 : (bys p).toList = [105, 110, 102, 105, 120] := by rw [ByteArray.toList_eq, bys_data]; exact HP.out
      have HFIN := Lib.hid (show ∀ q ∈ (p :: [a, b, c, d, e]), q.length ≤ 1000000 from HF.out)
      have fa : (bys a).size ≤ 1000000 := by rw [bys_size]; exact HFIN.out _ (by simp)
      have fb : (bys b).size ≤ 1000000 := by rw [bys_size]; exact HFIN.out _ (by simp)
      have fc : (bys c).size ≤ 1000000 := by rw [bys_size]; exact HFIN.out _ (by simp)
      have fd : (bys d).size ≤ 1000000 := by rw [bys_size]; exact HFIN.out _ (by simp)
      have fe : (bys e).size ≤ 1000000 := by rw [bys_size]; exact HFIN.out _ (by simp)
      obtain ⟨rr, hrr⟩ : ∃ rr : Rul, rr = ⟨1, bys a, bys b, rnumB c, rnumB d, rnumB e⟩ := ⟨_, rfl⟩
      have HRR := Lib.hid (show readR (p :: [a, b, c, d, e]) = rr by rw [hrr, HP.out]; simp [readR])
      have HFIT := Lib.hid (show rr.fits by rw [hrr]; exact ⟨by show ByteArray.size (bys a) ≤ _; first | omega | decide, by show ByteArray.size (bys b) ≤ _; omega⟩)
      have HR2 := Lib.hid hrr
      clear hrr
      rw [show (List.length [a, b, c, d, e]) + 1 = 6 from rfl]
      have cc := HROW.out 0 _ rfl
      rw [show (⟨gw, 0, none⟩ : Addr).add 0 = ⟨gw, 0, none⟩ from rfl] at cc
      rw [show (List.length [a, b, c, d, e]) + 1 = 6 from rfl] at hcl
      go_upto_region 4 with (fail)
      clear cc e1
      refine region_stage (by kernel_rfl) _ [.slice (some ⟨gw, 0, none⟩) 6 cap, .pointer (some ⟨gw, 1, none⟩), .string (bys a), .slice (some ⟨gw, 0, none⟩) 6 cap, .pointer (some ⟨gw, 2, none⟩), .string (bys b), .slice (some ⟨gw, 0, none⟩) 6 cap, .pointer (some ⟨gw, 3, none⟩), .string (bys c), .int .i64 (rnumB c), .slice (some ⟨gw, 0, none⟩) 6 cap, .pointer (some ⟨gw, 4, none⟩), .string (bys d), .int .i64 (rnumB d), .slice (some ⟨gw, 0, none⟩) 6 cap, .pointer (some ⟨gw, 5, none⟩), .string (bys e), .int .i64 (rnumB e), rr.v, undef] [true, true, true, true, true, true, true, true, true, true, true, true, true, true, true, true, true, true, true, true] [19] (InvR rr gw w1.heap.size (p :: [a, b, c, d, e]) w) (by kernel_rfl) (by simp [fin, finOn, dstAt, List.range, List.range.loop, Act.put]; rfl) (by kernel_rfl) (by kernel_rfl) ⟨HROW, K5.out.drew, K2.out.drew, below_drew H1.out⟩ ?_ ?_
      · refine ⟨fun L wq hL hb ha hI => ?_, fun L wq hL hb ha hI => ?_, fun L wq hL hb ha hI => ?_, fun L wq hL hb ha hI => ?_, fun L wq hL hb ha hI => ?_, fun L wq hL hb ha hI => ?_, fun L wq hL hb ha hI => ?_, fun L wq hL hb ha hI => ?_, fun L wq hL hb ha hI => ?_, fun L wq hL hb ha hI => ?_, fun L wq hL hb ha hI => ?_, fun L wq hL hb ha hI => ?_, fun L wq hL hb ha hI => ?_, fun L wq hL hb ha hI => ?_, fun L wq hL hb ha hI => ?_, fun L wq hL hb ha hI => ?_, fun L wq hL hb ha hI => ?_, fun L wq hL hb ha hI => ?_, fun L wq hL hb ha hI => ?_, fun L wq hL hb ha hI => ?_, trivial⟩
        · exact Gives.value (v := .slice (some ⟨gw, 0, none⟩) 6 cap) (w' := wq) (by kernel_rfl) ⟨rfl, hI⟩
        · exact Gives.value (v := .pointer (some ⟨gw, 1, none⟩)) (w' := wq) (by simp [execOp, Act.eval, go_sem]) ⟨rfl, hI⟩
        · have cJ := hI.1.out 1 _ rfl
          rw [show (⟨gw, 0, none⟩ : Addr).add 1 = ⟨gw, 1, none⟩ from rfl] at cJ
          exact Gives.value (v := .string (bys a)) (w' := wq) (by simp [execOp, Act.eval, go_sem, cJ]) ⟨rfl, hI⟩
        · exact Gives.value (v := .slice (some ⟨gw, 0, none⟩) 6 cap) (w' := wq) (by kernel_rfl) ⟨rfl, hI⟩
        · exact Gives.value (v := .pointer (some ⟨gw, 2, none⟩)) (w' := wq) (by simp [execOp, Act.eval, go_sem]) ⟨rfl, hI⟩
        · have cJ := hI.1.out 2 _ rfl
          rw [show (⟨gw, 0, none⟩ : Addr).add 2 = ⟨gw, 2, none⟩ from rfl] at cJ
          exact Gives.value (v := .string (bys b)) (w' := wq) (by simp [execOp, Act.eval, go_sem, cJ]) ⟨rfl, hI⟩
        · exact Gives.value (v := .slice (some ⟨gw, 0, none⟩) 6 cap) (w' := wq) (by kernel_rfl) ⟨rfl, hI⟩
        · exact Gives.value (v := .pointer (some ⟨gw, 3, none⟩)) (w' := wq) (by simp [execOp, Act.eval, go_sem]) ⟨rfl, hI⟩
        · have cJ := hI.1.out 3 _ rfl
          rw [show (⟨gw, 0, none⟩ : Addr).add 3 = ⟨gw, 3, none⟩ from rfl] at cJ
          exact Gives.value (v := .string (bys c)) (w' := wq) (by simp [execOp, Act.eval, go_sem, cJ]) ⟨rfl, hI⟩
        · refine Gives.call (f := 58) (args := #[.string (bys c)]) (w' := wq) (by kernel_rfl) ((rnumber_any (bys c) wq (by omega)).mono ?_)
          rintro e wa ⟨rfl, rfl⟩
          exact ⟨_, rfl, by rw [bys_data], hI⟩
        · exact Gives.value (v := .slice (some ⟨gw, 0, none⟩) 6 cap) (w' := wq) (by kernel_rfl) ⟨rfl, hI⟩
        · exact Gives.value (v := .pointer (some ⟨gw, 4, none⟩)) (w' := wq) (by simp [execOp, Act.eval, go_sem]) ⟨rfl, hI⟩
        · have cJ := hI.1.out 4 _ rfl
          rw [show (⟨gw, 0, none⟩ : Addr).add 4 = ⟨gw, 4, none⟩ from rfl] at cJ
          exact Gives.value (v := .string (bys d)) (w' := wq) (by simp [execOp, Act.eval, go_sem, cJ]) ⟨rfl, hI⟩
        · refine Gives.call (f := 58) (args := #[.string (bys d)]) (w' := wq) (by kernel_rfl) ((rnumber_any (bys d) wq (by omega)).mono ?_)
          rintro e wa ⟨rfl, rfl⟩
          exact ⟨_, rfl, by rw [bys_data], hI⟩
        · exact Gives.value (v := .slice (some ⟨gw, 0, none⟩) 6 cap) (w' := wq) (by kernel_rfl) ⟨rfl, hI⟩
        · exact Gives.value (v := .pointer (some ⟨gw, 5, none⟩)) (w' := wq) (by simp [execOp, Act.eval, go_sem]) ⟨rfl, hI⟩
        · have cJ := hI.1.out 5 _ rfl
          rw [show (⟨gw, 0, none⟩ : Addr).add 5 = ⟨gw, 5, none⟩ from rfl] at cJ
          exact Gives.value (v := .string (bys e)) (w' := wq) (by simp [execOp, Act.eval, go_sem, cJ]) ⟨rfl, hI⟩
        · refine Gives.call (f := 58) (args := #[.string (bys e)]) (w' := wq) (by kernel_rfl) ((rnumber_any (bys e) wq (by omega)).mono ?_)
          rintro e wa ⟨rfl, rfl⟩
          exact ⟨_, rfl, by rw [bys_data], hI⟩
        · have h := rule_any rr wq
          rw [HR2.out] at h
          refine Gives.call (f := 39) (args := #[.int .i64 1, .string (bys a), .string (bys b), .int .i64 (rnumB c), .int .i64 (rnumB d), .int .i64 (rnumB e)]) (w' := wq) (by kernel_rfl) (h.mono ?_)
          rintro e wa ⟨rfl, hb5⟩
          have hlw : gw < wq.heap.size := Nat.lt_trans hg5 hI.2.1.out.lt
          exact ⟨_, rfl, by rw [HR2.out], row_below hI.1.out hlw hb5, keep hb5 hI.2.1.out, keep hb5 hI.2.2.1.out, hI.2.2.2.out.trans (hb5.mono hI.2.2.2.out.size)⟩
        · have e8 : L 19 = false := hL
          simp only [List.map, e8] at hI
          obtain ⟨i0, i1, i2, i3⟩ := hI
          have c0 := i1.out.cell 0
          have c1 := i1.out.cell 1
          have c2 := i1.out.cell 2
          have c3 := i1.out.cell 3
          have c4 := i1.out.cell 4
          have c5 := i1.out.cell 5
          have fK := fun i => i1.out.frozen i
          refine Gives.skip (w' := (((((wq.setCell ⟨w1.heap.size, 0, none⟩ (.int .i64 rr.kind)).setCell ⟨w1.heap.size, 1, none⟩ (.string rr.sym)).setCell ⟨w1.heap.size, 2, none⟩ (.string rr.nam)).setCell ⟨w1.heap.size, 3, none⟩ (.int .i64 rr.prec)).setCell ⟨w1.heap.size, 4, none⟩ (.int .i64 rr.left)).setCell ⟨w1.heap.size, 5, none⟩ (.int .i64 rr.right)) (by simp [execOp, Act.eval, go_sem, c0, c1, c2, c3, c4, c5, fK]) ⟨rfl, ?_⟩
          have O := only6 wq w1.heap.size (.int .i64 rr.kind) (.string rr.sym) (.string rr.nam) (.int .i64 rr.prec) (.int .i64 rr.left) (.int .i64 rr.right)
          have N := blk6 (.int .i64 rr.kind) (.string rr.sym) (.string rr.nam) (.int .i64 rr.prec) (.int .i64 rr.left) (.int .i64 rr.right) i1.out
          exact ⟨row_only i0.out (by omega) O, N, O.blk (by omega) i2.out, O.below i3.out (by omega)⟩
      · intro wq hI
        obtain ⟨_, K5, K2, H1⟩ := hI
        have K5 := Lib.hid (show Blk wq w1.heap.size 39 rr.c from K5.out)
        go_wp2_with fail
        go_meet
        exact ⟨rr, HRR, HFIT, K5, K2, H1⟩
    · obtain ⟨rr, hrr⟩ : ∃ rr : Rul, rr = zeroR := ⟨_, rfl⟩
      have e1 : (bys p).toList = [105, 110, 102, 105, 120] := by rw [ByteArray.toList_eq, bys_data]; exact HP.out
      have hl : (((qs.length + 1 : Nat) : Int) == 6) = false := by rw [beq_eq_false_iff_ne]; omega
      have hl2 : (((qs.length : Int) + 1) == 6) = false := by rw [beq_eq_false_iff_ne]; omega
      have HRR := Lib.hid (show readR (p :: qs) = rr by rw [hrr, HP.out]; unfold readR; simp; intro h; omega)
      have HFIT := Lib.hid (show rr.fits by rw [hrr]; exact ⟨by decide, by decide⟩)
      have K5 := Lib.hid (show Blk w2 w1.heap.size 39 rr.c by rw [hrr]; exact K5.out)
      have cc := HROW.out 0 _ rfl
      rw [show (⟨gw, 0, none⟩ : Addr).add 0 = ⟨gw, 0, none⟩ from rfl] at cc
      clear hn
      clear hrr
      go_wp2_with fail
      go_meet
      exact ⟨rr, HRR, HFIT, K5, K2, H1⟩
  by_cases n2 : p = sh2.word
  · have HP := Lib.hid n2
    clear n2
    clear n1
    by_cases hn : qs.length = 4
    · obtain ⟨a, b, c, d, rfl⟩ : ∃ a b c d, qs = [a, b, c, d] := by
        match qs, hn with
        | [a, b, c, d], _ => exact ⟨a, b, c, d, rfl⟩
      have e1 : (bys p).toList = [112, 114, 101, 102, 105, 120] := by rw [ByteArray.toList_eq, bys_data]; exact HP.out
      have HFIN := Lib.hid (show ∀ q ∈ (p :: [a, b, c, d]), q.length ≤ 1000000 from HF.out)
      have fa : (bys a).size ≤ 1000000 := by rw [bys_size]; exact HFIN.out _ (by simp)
      have fb : (bys b).size ≤ 1000000 := by rw [bys_size]; exact HFIN.out _ (by simp)
      have fc : (bys c).size ≤ 1000000 := by rw [bys_size]; exact HFIN.out _ (by simp)
      have fd : (bys d).size ≤ 1000000 := by rw [bys_size]; exact HFIN.out _ (by simp)
      obtain ⟨rr, hrr⟩ : ∃ rr : Rul, rr = ⟨2, bys a, bys b, rnumB c, 0, rnumB d⟩ := ⟨_, rfl⟩
      have HRR := Lib.hid (show readR (p :: [a, b, c, d]) = rr by rw [hrr, HP.out]; simp [readR])
      have HFIT := Lib.hid (show rr.fits by rw [hrr]; exact ⟨by show ByteArray.size (bys a) ≤ _; first | omega | decide, by show ByteArray.size (bys b) ≤ _; omega⟩)
      have HR2 := Lib.hid hrr
      clear hrr
      rw [show (List.length [a, b, c, d]) + 1 = 5 from rfl]
      have cc := HROW.out 0 _ rfl
      rw [show (⟨gw, 0, none⟩ : Addr).add 0 = ⟨gw, 0, none⟩ from rfl] at cc
      rw [show (List.length [a, b, c, d]) + 1 = 5 from rfl] at hcl
      go_upto_region 6 with (fail)
      clear cc e1
      refine region_stage (by kernel_rfl) _ [.slice (some ⟨gw, 0, none⟩) 5 cap, .pointer (some ⟨gw, 1, none⟩), .string (bys a), .slice (some ⟨gw, 0, none⟩) 5 cap, .pointer (some ⟨gw, 2, none⟩), .string (bys b), .slice (some ⟨gw, 0, none⟩) 5 cap, .pointer (some ⟨gw, 3, none⟩), .string (bys c), .int .i64 (rnumB c), .slice (some ⟨gw, 0, none⟩) 5 cap, .pointer (some ⟨gw, 4, none⟩), .string (bys d), .int .i64 (rnumB d), rr.v, undef] [true, true, true, true, true, true, true, true, true, true, true, true, true, true, true, true] [15] (InvR rr gw w1.heap.size (p :: [a, b, c, d]) w) (by kernel_rfl) (by simp [fin, finOn, dstAt, List.range, List.range.loop, Act.put]; rfl) (by kernel_rfl) (by kernel_rfl) ⟨HROW, K5.out.drew, K2.out.drew, below_drew H1.out⟩ ?_ ?_
      · refine ⟨fun L wq hL hb ha hI => ?_, fun L wq hL hb ha hI => ?_, fun L wq hL hb ha hI => ?_, fun L wq hL hb ha hI => ?_, fun L wq hL hb ha hI => ?_, fun L wq hL hb ha hI => ?_, fun L wq hL hb ha hI => ?_, fun L wq hL hb ha hI => ?_, fun L wq hL hb ha hI => ?_, fun L wq hL hb ha hI => ?_, fun L wq hL hb ha hI => ?_, fun L wq hL hb ha hI => ?_, fun L wq hL hb ha hI => ?_, fun L wq hL hb ha hI => ?_, fun L wq hL hb ha hI => ?_, fun L wq hL hb ha hI => ?_, trivial⟩
        · exact Gives.value (v := .slice (some ⟨gw, 0, none⟩) 5 cap) (w' := wq) (by kernel_rfl) ⟨rfl, hI⟩
        · exact Gives.value (v := .pointer (some ⟨gw, 1, none⟩)) (w' := wq) (by simp [execOp, Act.eval, go_sem]) ⟨rfl, hI⟩
        · have cJ := hI.1.out 1 _ rfl
          rw [show (⟨gw, 0, none⟩ : Addr).add 1 = ⟨gw, 1, none⟩ from rfl] at cJ
          exact Gives.value (v := .string (bys a)) (w' := wq) (by simp [execOp, Act.eval, go_sem, cJ]) ⟨rfl, hI⟩
        · exact Gives.value (v := .slice (some ⟨gw, 0, none⟩) 5 cap) (w' := wq) (by kernel_rfl) ⟨rfl, hI⟩
        · exact Gives.value (v := .pointer (some ⟨gw, 2, none⟩)) (w' := wq) (by simp [execOp, Act.eval, go_sem]) ⟨rfl, hI⟩
        · have cJ := hI.1.out 2 _ rfl
          rw [show (⟨gw, 0, none⟩ : Addr).add 2 = ⟨gw, 2, none⟩ from rfl] at cJ
          exact Gives.value (v := .string (bys b)) (w' := wq) (by simp [execOp, Act.eval, go_sem, cJ]) ⟨rfl, hI⟩
        · exact Gives.value (v := .slice (some ⟨gw, 0, none⟩) 5 cap) (w' := wq) (by kernel_rfl) ⟨rfl, hI⟩
        · exact Gives.value (v := .pointer (some ⟨gw, 3, none⟩)) (w' := wq) (by simp [execOp, Act.eval, go_sem]) ⟨rfl, hI⟩
        · have cJ := hI.1.out 3 _ rfl
          rw [show (⟨gw, 0, none⟩ : Addr).add 3 = ⟨gw, 3, none⟩ from rfl] at cJ
          exact Gives.value (v := .string (bys c)) (w' := wq) (by simp [execOp, Act.eval, go_sem, cJ]) ⟨rfl, hI⟩
        · refine Gives.call (f := 58) (args := #[.string (bys c)]) (w' := wq) (by kernel_rfl) ((rnumber_any (bys c) wq (by omega)).mono ?_)
          rintro e wa ⟨rfl, rfl⟩
          exact ⟨_, rfl, by rw [bys_data], hI⟩
        · exact Gives.value (v := .slice (some ⟨gw, 0, none⟩) 5 cap) (w' := wq) (by kernel_rfl) ⟨rfl, hI⟩
        · exact Gives.value (v := .pointer (some ⟨gw, 4, none⟩)) (w' := wq) (by simp [execOp, Act.eval, go_sem]) ⟨rfl, hI⟩
        · have cJ := hI.1.out 4 _ rfl
          rw [show (⟨gw, 0, none⟩ : Addr).add 4 = ⟨gw, 4, none⟩ from rfl] at cJ
          exact Gives.value (v := .string (bys d)) (w' := wq) (by simp [execOp, Act.eval, go_sem, cJ]) ⟨rfl, hI⟩
        · refine Gives.call (f := 58) (args := #[.string (bys d)]) (w' := wq) (by kernel_rfl) ((rnumber_any (bys d) wq (by omega)).mono ?_)
          rintro e wa ⟨rfl, rfl⟩
          exact ⟨_, rfl, by rw [bys_data], hI⟩
        · have h := rule_any rr wq
          rw [HR2.out] at h
          refine Gives.call (f := 39) (args := #[.int .i64 2, .string (bys a), .string (bys b), .int .i64 (rnumB c), .int .i64 (0), .int .i64 (rnumB d)]) (w' := wq) (by kernel_rfl) (h.mono ?_)
          rintro e wa ⟨rfl, hb5⟩
          have hlw : gw < wq.heap.size := Nat.lt_trans hg5 hI.2.1.out.lt
          exact ⟨_, rfl, by rw [HR2.out], row_below hI.1.out hlw hb5, keep hb5 hI.2.1.out, keep hb5 hI.2.2.1.out, hI.2.2.2.out.trans (hb5.mono hI.2.2.2.out.size)⟩
        · have e8 : L 15 = false := hL
          simp only [List.map, e8] at hI
          obtain ⟨i0, i1, i2, i3⟩ := hI
          have c0 := i1.out.cell 0
          have c1 := i1.out.cell 1
          have c2 := i1.out.cell 2
          have c3 := i1.out.cell 3
          have c4 := i1.out.cell 4
          have c5 := i1.out.cell 5
          have fK := fun i => i1.out.frozen i
          refine Gives.skip (w' := (((((wq.setCell ⟨w1.heap.size, 0, none⟩ (.int .i64 rr.kind)).setCell ⟨w1.heap.size, 1, none⟩ (.string rr.sym)).setCell ⟨w1.heap.size, 2, none⟩ (.string rr.nam)).setCell ⟨w1.heap.size, 3, none⟩ (.int .i64 rr.prec)).setCell ⟨w1.heap.size, 4, none⟩ (.int .i64 rr.left)).setCell ⟨w1.heap.size, 5, none⟩ (.int .i64 rr.right)) (by simp [execOp, Act.eval, go_sem, c0, c1, c2, c3, c4, c5, fK]) ⟨rfl, ?_⟩
          have O := only6 wq w1.heap.size (.int .i64 rr.kind) (.string rr.sym) (.string rr.nam) (.int .i64 rr.prec) (.int .i64 rr.left) (.int .i64 rr.right)
          have N := blk6 (.int .i64 rr.kind) (.string rr.sym) (.string rr.nam) (.int .i64 rr.prec) (.int .i64 rr.left) (.int .i64 rr.right) i1.out
          exact ⟨row_only i0.out (by omega) O, N, O.blk (by omega) i2.out, O.below i3.out (by omega)⟩
      · intro wq hI
        obtain ⟨_, K5, K2, H1⟩ := hI
        have K5 := Lib.hid (show Blk wq w1.heap.size 39 rr.c from K5.out)
        go_wp2_with fail
        go_meet
        exact ⟨rr, HRR, HFIT, K5, K2, H1⟩
    · obtain ⟨rr, hrr⟩ : ∃ rr : Rul, rr = zeroR := ⟨_, rfl⟩
      have e1 : (bys p).toList = [112, 114, 101, 102, 105, 120] := by rw [ByteArray.toList_eq, bys_data]; exact HP.out
      have hl : (((qs.length + 1 : Nat) : Int) == 5) = false := by rw [beq_eq_false_iff_ne]; omega
      have hl2 : (((qs.length : Int) + 1) == 5) = false := by rw [beq_eq_false_iff_ne]; omega
      have HRR := Lib.hid (show readR (p :: qs) = rr by rw [hrr, HP.out]; unfold readR; simp; intro h; omega)
      have HFIT := Lib.hid (show rr.fits by rw [hrr]; exact ⟨by decide, by decide⟩)
      have K5 := Lib.hid (show Blk w2 w1.heap.size 39 rr.c by rw [hrr]; exact K5.out)
      have cc := HROW.out 0 _ rfl
      rw [show (⟨gw, 0, none⟩ : Addr).add 0 = ⟨gw, 0, none⟩ from rfl] at cc
      clear hn
      clear hrr
      go_wp2_with fail
      go_meet
      exact ⟨rr, HRR, HFIT, K5, K2, H1⟩
  by_cases n3 : p = sh3.word
  · have HP := Lib.hid n3
    clear n3
    clear n1 n2
    by_cases hn : qs.length = 4
    · obtain ⟨a, b, c, d, rfl⟩ : ∃ a b c d, qs = [a, b, c, d] := by
        match qs, hn with
        | [a, b, c, d], _ => exact ⟨a, b, c, d, rfl⟩
      have e1 : (bys p).toList = [112, 111, 115, 116, 102, 105, 120] := by rw [ByteArray.toList_eq, bys_data]; exact HP.out
      have HFIN := Lib.hid (show ∀ q ∈ (p :: [a, b, c, d]), q.length ≤ 1000000 from HF.out)
      have fa : (bys a).size ≤ 1000000 := by rw [bys_size]; exact HFIN.out _ (by simp)
      have fb : (bys b).size ≤ 1000000 := by rw [bys_size]; exact HFIN.out _ (by simp)
      have fc : (bys c).size ≤ 1000000 := by rw [bys_size]; exact HFIN.out _ (by simp)
      have fd : (bys d).size ≤ 1000000 := by rw [bys_size]; exact HFIN.out _ (by simp)
      obtain ⟨rr, hrr⟩ : ∃ rr : Rul, rr = ⟨3, bys a, bys b, rnumB c, rnumB d, 0⟩ := ⟨_, rfl⟩
      have HRR := Lib.hid (show readR (p :: [a, b, c, d]) = rr by rw [hrr, HP.out]; simp [readR])
      have HFIT := Lib.hid (show rr.fits by rw [hrr]; exact ⟨by show ByteArray.size (bys a) ≤ _; first | omega | decide, by show ByteArray.size (bys b) ≤ _; omega⟩)
      have HR2 := Lib.hid hrr
      clear hrr
      rw [show (List.length [a, b, c, d]) + 1 = 5 from rfl]
      have cc := HROW.out 0 _ rfl
      rw [show (⟨gw, 0, none⟩ : Addr).add 0 = ⟨gw, 0, none⟩ from rfl] at cc
      rw [show (List.length [a, b, c, d]) + 1 = 5 from rfl] at hcl
      go_upto_region 8 with (fail)
      clear cc e1
      refine region_stage (by kernel_rfl) _ [.slice (some ⟨gw, 0, none⟩) 5 cap, .pointer (some ⟨gw, 1, none⟩), .string (bys a), .slice (some ⟨gw, 0, none⟩) 5 cap, .pointer (some ⟨gw, 2, none⟩), .string (bys b), .slice (some ⟨gw, 0, none⟩) 5 cap, .pointer (some ⟨gw, 3, none⟩), .string (bys c), .int .i64 (rnumB c), .slice (some ⟨gw, 0, none⟩) 5 cap, .pointer (some ⟨gw, 4, none⟩), .string (bys d), .int .i64 (rnumB d), rr.v, undef] [true, true, true, true, true, true, true, true, true, true, true, true, true, true, true, true] [15] (InvR rr gw w1.heap.size (p :: [a, b, c, d]) w) (by kernel_rfl) (by simp [fin, finOn, dstAt, List.range, List.range.loop, Act.put]; rfl) (by kernel_rfl) (by kernel_rfl) ⟨HROW, K5.out.drew, K2.out.drew, below_drew H1.out⟩ ?_ ?_
      · refine ⟨fun L wq hL hb ha hI => ?_, fun L wq hL hb ha hI => ?_, fun L wq hL hb ha hI => ?_, fun L wq hL hb ha hI => ?_, fun L wq hL hb ha hI => ?_, fun L wq hL hb ha hI => ?_, fun L wq hL hb ha hI => ?_, fun L wq hL hb ha hI => ?_, fun L wq hL hb ha hI => ?_, fun L wq hL hb ha hI => ?_, fun L wq hL hb ha hI => ?_, fun L wq hL hb ha hI => ?_, fun L wq hL hb ha hI => ?_, fun L wq hL hb ha hI => ?_, fun L wq hL hb ha hI => ?_, fun L wq hL hb ha hI => ?_, trivial⟩
        · exact Gives.value (v := .slice (some ⟨gw, 0, none⟩) 5 cap) (w' := wq) (by kernel_rfl) ⟨rfl, hI⟩
        · exact Gives.value (v := .pointer (some ⟨gw, 1, none⟩)) (w' := wq) (by simp [execOp, Act.eval, go_sem]) ⟨rfl, hI⟩
        · have cJ := hI.1.out 1 _ rfl
          rw [show (⟨gw, 0, none⟩ : Addr).add 1 = ⟨gw, 1, none⟩ from rfl] at cJ
          exact Gives.value (v := .string (bys a)) (w' := wq) (by simp [execOp, Act.eval, go_sem, cJ]) ⟨rfl, hI⟩
        · exact Gives.value (v := .slice (some ⟨gw, 0, none⟩) 5 cap) (w' := wq) (by kernel_rfl) ⟨rfl, hI⟩
        · exact Gives.value (v := .pointer (some ⟨gw, 2, none⟩)) (w' := wq) (by simp [execOp, Act.eval, go_sem]) ⟨rfl, hI⟩
        · have cJ := hI.1.out 2 _ rfl
          rw [show (⟨gw, 0, none⟩ : Addr).add 2 = ⟨gw, 2, none⟩ from rfl] at cJ
          exact Gives.value (v := .string (bys b)) (w' := wq) (by simp [execOp, Act.eval, go_sem, cJ]) ⟨rfl, hI⟩
        · exact Gives.value (v := .slice (some ⟨gw, 0, none⟩) 5 cap) (w' := wq) (by kernel_rfl) ⟨rfl, hI⟩
        · exact Gives.value (v := .pointer (some ⟨gw, 3, none⟩)) (w' := wq) (by simp [execOp, Act.eval, go_sem]) ⟨rfl, hI⟩
        · have cJ := hI.1.out 3 _ rfl
          rw [show (⟨gw, 0, none⟩ : Addr).add 3 = ⟨gw, 3, none⟩ from rfl] at cJ
          exact Gives.value (v := .string (bys c)) (w' := wq) (by simp [execOp, Act.eval, go_sem, cJ]) ⟨rfl, hI⟩
        · refine Gives.call (f := 58) (args := #[.string (bys c)]) (w' := wq) (by kernel_rfl) ((rnumber_any (bys c) wq (by omega)).mono ?_)
          rintro e wa ⟨rfl, rfl⟩
          exact ⟨_, rfl, by rw [bys_data], hI⟩
        · exact Gives.value (v := .slice (some ⟨gw, 0, none⟩) 5 cap) (w' := wq) (by kernel_rfl) ⟨rfl, hI⟩
        · exact Gives.value (v := .pointer (some ⟨gw, 4, none⟩)) (w' := wq) (by simp [execOp, Act.eval, go_sem]) ⟨rfl, hI⟩
        · have cJ := hI.1.out 4 _ rfl
          rw [show (⟨gw, 0, none⟩ : Addr).add 4 = ⟨gw, 4, none⟩ from rfl] at cJ
          exact Gives.value (v := .string (bys d)) (w' := wq) (by simp [execOp, Act.eval, go_sem, cJ]) ⟨rfl, hI⟩
        · refine Gives.call (f := 58) (args := #[.string (bys d)]) (w' := wq) (by kernel_rfl) ((rnumber_any (bys d) wq (by omega)).mono ?_)
          rintro e wa ⟨rfl, rfl⟩
          exact ⟨_, rfl, by rw [bys_data], hI⟩
        · have h := rule_any rr wq
          rw [HR2.out] at h
          refine Gives.call (f := 39) (args := #[.int .i64 3, .string (bys a), .string (bys b), .int .i64 (rnumB c), .int .i64 (rnumB d), .int .i64 (0)]) (w' := wq) (by kernel_rfl) (h.mono ?_)
          rintro e wa ⟨rfl, hb5⟩
          have hlw : gw < wq.heap.size := Nat.lt_trans hg5 hI.2.1.out.lt
          exact ⟨_, rfl, by rw [HR2.out], row_below hI.1.out hlw hb5, keep hb5 hI.2.1.out, keep hb5 hI.2.2.1.out, hI.2.2.2.out.trans (hb5.mono hI.2.2.2.out.size)⟩
        · have e8 : L 15 = false := hL
          simp only [List.map, e8] at hI
          obtain ⟨i0, i1, i2, i3⟩ := hI
          have c0 := i1.out.cell 0
          have c1 := i1.out.cell 1
          have c2 := i1.out.cell 2
          have c3 := i1.out.cell 3
          have c4 := i1.out.cell 4
          have c5 := i1.out.cell 5
          have fK := fun i => i1.out.frozen i
          refine Gives.skip (w' := (((((wq.setCell ⟨w1.heap.size, 0, none⟩ (.int .i64 rr.kind)).setCell ⟨w1.heap.size, 1, none⟩ (.string rr.sym)).setCell ⟨w1.heap.size, 2, none⟩ (.string rr.nam)).setCell ⟨w1.heap.size, 3, none⟩ (.int .i64 rr.prec)).setCell ⟨w1.heap.size, 4, none⟩ (.int .i64 rr.left)).setCell ⟨w1.heap.size, 5, none⟩ (.int .i64 rr.right)) (by simp [execOp, Act.eval, go_sem, c0, c1, c2, c3, c4, c5, fK]) ⟨rfl, ?_⟩
          have O := only6 wq w1.heap.size (.int .i64 rr.kind) (.string rr.sym) (.string rr.nam) (.int .i64 rr.prec) (.int .i64 rr.left) (.int .i64 rr.right)
          have N := blk6 (.int .i64 rr.kind) (.string rr.sym) (.string rr.nam) (.int .i64 rr.prec) (.int .i64 rr.left) (.int .i64 rr.right) i1.out
          exact ⟨row_only i0.out (by omega) O, N, O.blk (by omega) i2.out, O.below i3.out (by omega)⟩
      · intro wq hI
        obtain ⟨_, K5, K2, H1⟩ := hI
        have K5 := Lib.hid (show Blk wq w1.heap.size 39 rr.c from K5.out)
        go_wp2_with fail
        go_meet
        exact ⟨rr, HRR, HFIT, K5, K2, H1⟩
    · obtain ⟨rr, hrr⟩ : ∃ rr : Rul, rr = zeroR := ⟨_, rfl⟩
      have e1 : (bys p).toList = [112, 111, 115, 116, 102, 105, 120] := by rw [ByteArray.toList_eq, bys_data]; exact HP.out
      have hl : (((qs.length + 1 : Nat) : Int) == 5) = false := by rw [beq_eq_false_iff_ne]; omega
      have hl2 : (((qs.length : Int) + 1) == 5) = false := by rw [beq_eq_false_iff_ne]; omega
      have HRR := Lib.hid (show readR (p :: qs) = rr by rw [hrr, HP.out]; unfold readR; simp; intro h; omega)
      have HFIT := Lib.hid (show rr.fits by rw [hrr]; exact ⟨by decide, by decide⟩)
      have K5 := Lib.hid (show Blk w2 w1.heap.size 39 rr.c by rw [hrr]; exact K5.out)
      have cc := HROW.out 0 _ rfl
      rw [show (⟨gw, 0, none⟩ : Addr).add 0 = ⟨gw, 0, none⟩ from rfl] at cc
      clear hn
      clear hrr
      go_wp2_with fail
      go_meet
      exact ⟨rr, HRR, HFIT, K5, K2, H1⟩
  by_cases n4 : p = sh4.word
  · have HP := Lib.hid n4
    clear n4
    clear n1 n2 n3
    by_cases hn : qs.length = 4
    · obtain ⟨a, b, c, d, rfl⟩ : ∃ a b c d, qs = [a, b, c, d] := by
        match qs, hn with
        | [a, b, c, d], _ => exact ⟨a, b, c, d, rfl⟩
      have e1 : (bys p).toList = [106, 117, 120, 116, 97, 112, 111, 115, 101] := by rw [ByteArray.toList_eq, bys_data]; exact HP.out
      have HFIN := Lib.hid (show ∀ q ∈ (p :: [a, b, c, d]), q.length ≤ 1000000 from HF.out)
      have fa : (bys a).size ≤ 1000000 := by rw [bys_size]; exact HFIN.out _ (by simp)
      have fb : (bys b).size ≤ 1000000 := by rw [bys_size]; exact HFIN.out _ (by simp)
      have fc : (bys c).size ≤ 1000000 := by rw [bys_size]; exact HFIN.out _ (by simp)
      have fd : (bys d).size ≤ 1000000 := by rw [bys_size]; exact HFIN.out _ (by simp)
      obtain ⟨rr, hrr⟩ : ∃ rr : Rul, rr = ⟨4, ⟨#[]⟩, bys a, rnumB b, rnumB c, rnumB d⟩ := ⟨_, rfl⟩
      have HRR := Lib.hid (show readR (p :: [a, b, c, d]) = rr by rw [hrr, HP.out]; simp [readR])
      have HFIT := Lib.hid (show rr.fits by rw [hrr]; exact ⟨by show ByteArray.size (⟨#[]⟩) ≤ _; first | omega | decide, by show ByteArray.size (bys a) ≤ _; omega⟩)
      have HR2 := Lib.hid hrr
      clear hrr
      rw [show (List.length [a, b, c, d]) + 1 = 5 from rfl]
      have cc := HROW.out 0 _ rfl
      rw [show (⟨gw, 0, none⟩ : Addr).add 0 = ⟨gw, 0, none⟩ from rfl] at cc
      rw [show (List.length [a, b, c, d]) + 1 = 5 from rfl] at hcl
      go_upto_region 10 with (fail)
      clear cc e1
      refine region_stage (by kernel_rfl) _ [.slice (some ⟨gw, 0, none⟩) 5 cap, .pointer (some ⟨gw, 1, none⟩), .string (bys a), .slice (some ⟨gw, 0, none⟩) 5 cap, .pointer (some ⟨gw, 2, none⟩), .string (bys b), .int .i64 (rnumB b), .slice (some ⟨gw, 0, none⟩) 5 cap, .pointer (some ⟨gw, 3, none⟩), .string (bys c), .int .i64 (rnumB c), .slice (some ⟨gw, 0, none⟩) 5 cap, .pointer (some ⟨gw, 4, none⟩), .string (bys d), .int .i64 (rnumB d), rr.v, undef] [true, true, true, true, true, true, true, true, true, true, true, true, true, true, true, true, true] [16] (InvR rr gw w1.heap.size (p :: [a, b, c, d]) w) (by kernel_rfl) (by simp [fin, finOn, dstAt, List.range, List.range.loop, Act.put]; rfl) (by kernel_rfl) (by kernel_rfl) ⟨HROW, K5.out.drew, K2.out.drew, below_drew H1.out⟩ ?_ ?_
      · refine ⟨fun L wq hL hb ha hI => ?_, fun L wq hL hb ha hI => ?_, fun L wq hL hb ha hI => ?_, fun L wq hL hb ha hI => ?_, fun L wq hL hb ha hI => ?_, fun L wq hL hb ha hI => ?_, fun L wq hL hb ha hI => ?_, fun L wq hL hb ha hI => ?_, fun L wq hL hb ha hI => ?_, fun L wq hL hb ha hI => ?_, fun L wq hL hb ha hI => ?_, fun L wq hL hb ha hI => ?_, fun L wq hL hb ha hI => ?_, fun L wq hL hb ha hI => ?_, fun L wq hL hb ha hI => ?_, fun L wq hL hb ha hI => ?_, fun L wq hL hb ha hI => ?_, trivial⟩
        · exact Gives.value (v := .slice (some ⟨gw, 0, none⟩) 5 cap) (w' := wq) (by kernel_rfl) ⟨rfl, hI⟩
        · exact Gives.value (v := .pointer (some ⟨gw, 1, none⟩)) (w' := wq) (by simp [execOp, Act.eval, go_sem]) ⟨rfl, hI⟩
        · have cJ := hI.1.out 1 _ rfl
          rw [show (⟨gw, 0, none⟩ : Addr).add 1 = ⟨gw, 1, none⟩ from rfl] at cJ
          exact Gives.value (v := .string (bys a)) (w' := wq) (by simp [execOp, Act.eval, go_sem, cJ]) ⟨rfl, hI⟩
        · exact Gives.value (v := .slice (some ⟨gw, 0, none⟩) 5 cap) (w' := wq) (by kernel_rfl) ⟨rfl, hI⟩
        · exact Gives.value (v := .pointer (some ⟨gw, 2, none⟩)) (w' := wq) (by simp [execOp, Act.eval, go_sem]) ⟨rfl, hI⟩
        · have cJ := hI.1.out 2 _ rfl
          rw [show (⟨gw, 0, none⟩ : Addr).add 2 = ⟨gw, 2, none⟩ from rfl] at cJ
          exact Gives.value (v := .string (bys b)) (w' := wq) (by simp [execOp, Act.eval, go_sem, cJ]) ⟨rfl, hI⟩
        · refine Gives.call (f := 58) (args := #[.string (bys b)]) (w' := wq) (by kernel_rfl) ((rnumber_any (bys b) wq (by omega)).mono ?_)
          rintro e wa ⟨rfl, rfl⟩
          exact ⟨_, rfl, by rw [bys_data], hI⟩
        · exact Gives.value (v := .slice (some ⟨gw, 0, none⟩) 5 cap) (w' := wq) (by kernel_rfl) ⟨rfl, hI⟩
        · exact Gives.value (v := .pointer (some ⟨gw, 3, none⟩)) (w' := wq) (by simp [execOp, Act.eval, go_sem]) ⟨rfl, hI⟩
        · have cJ := hI.1.out 3 _ rfl
          rw [show (⟨gw, 0, none⟩ : Addr).add 3 = ⟨gw, 3, none⟩ from rfl] at cJ
          exact Gives.value (v := .string (bys c)) (w' := wq) (by simp [execOp, Act.eval, go_sem, cJ]) ⟨rfl, hI⟩
        · refine Gives.call (f := 58) (args := #[.string (bys c)]) (w' := wq) (by kernel_rfl) ((rnumber_any (bys c) wq (by omega)).mono ?_)
          rintro e wa ⟨rfl, rfl⟩
          exact ⟨_, rfl, by rw [bys_data], hI⟩
        · exact Gives.value (v := .slice (some ⟨gw, 0, none⟩) 5 cap) (w' := wq) (by kernel_rfl) ⟨rfl, hI⟩
        · exact Gives.value (v := .pointer (some ⟨gw, 4, none⟩)) (w' := wq) (by simp [execOp, Act.eval, go_sem]) ⟨rfl, hI⟩
        · have cJ := hI.1.out 4 _ rfl
          rw [show (⟨gw, 0, none⟩ : Addr).add 4 = ⟨gw, 4, none⟩ from rfl] at cJ
          exact Gives.value (v := .string (bys d)) (w' := wq) (by simp [execOp, Act.eval, go_sem, cJ]) ⟨rfl, hI⟩
        · refine Gives.call (f := 58) (args := #[.string (bys d)]) (w' := wq) (by kernel_rfl) ((rnumber_any (bys d) wq (by omega)).mono ?_)
          rintro e wa ⟨rfl, rfl⟩
          exact ⟨_, rfl, by rw [bys_data], hI⟩
        · have h := rule_any rr wq
          rw [HR2.out] at h
          refine Gives.call (f := 39) (args := #[.int .i64 4, .string (⟨#[]⟩), .string (bys a), .int .i64 (rnumB b), .int .i64 (rnumB c), .int .i64 (rnumB d)]) (w' := wq) (by kernel_rfl) (h.mono ?_)
          rintro e wa ⟨rfl, hb5⟩
          have hlw : gw < wq.heap.size := Nat.lt_trans hg5 hI.2.1.out.lt
          exact ⟨_, rfl, by rw [HR2.out], row_below hI.1.out hlw hb5, keep hb5 hI.2.1.out, keep hb5 hI.2.2.1.out, hI.2.2.2.out.trans (hb5.mono hI.2.2.2.out.size)⟩
        · have e8 : L 16 = false := hL
          simp only [List.map, e8] at hI
          obtain ⟨i0, i1, i2, i3⟩ := hI
          have c0 := i1.out.cell 0
          have c1 := i1.out.cell 1
          have c2 := i1.out.cell 2
          have c3 := i1.out.cell 3
          have c4 := i1.out.cell 4
          have c5 := i1.out.cell 5
          have fK := fun i => i1.out.frozen i
          refine Gives.skip (w' := (((((wq.setCell ⟨w1.heap.size, 0, none⟩ (.int .i64 rr.kind)).setCell ⟨w1.heap.size, 1, none⟩ (.string rr.sym)).setCell ⟨w1.heap.size, 2, none⟩ (.string rr.nam)).setCell ⟨w1.heap.size, 3, none⟩ (.int .i64 rr.prec)).setCell ⟨w1.heap.size, 4, none⟩ (.int .i64 rr.left)).setCell ⟨w1.heap.size, 5, none⟩ (.int .i64 rr.right)) (by simp [execOp, Act.eval, go_sem, c0, c1, c2, c3, c4, c5, fK]) ⟨rfl, ?_⟩
          have O := only6 wq w1.heap.size (.int .i64 rr.kind) (.string rr.sym) (.string rr.nam) (.int .i64 rr.prec) (.int .i64 rr.left) (.int .i64 rr.right)
          have N := blk6 (.int .i64 rr.kind) (.string rr.sym) (.string rr.nam) (.int .i64 rr.prec) (.int .i64 rr.left) (.int .i64 rr.right) i1.out
          exact ⟨row_only i0.out (by omega) O, N, O.blk (by omega) i2.out, O.below i3.out (by omega)⟩
      · intro wq hI
        obtain ⟨_, K5, K2, H1⟩ := hI
        have K5 := Lib.hid (show Blk wq w1.heap.size 39 rr.c from K5.out)
        go_wp2_with fail
        go_meet
        exact ⟨rr, HRR, HFIT, K5, K2, H1⟩
    · obtain ⟨rr, hrr⟩ : ∃ rr : Rul, rr = zeroR := ⟨_, rfl⟩
      have e1 : (bys p).toList = [106, 117, 120, 116, 97, 112, 111, 115, 101] := by rw [ByteArray.toList_eq, bys_data]; exact HP.out
      have hl : (((qs.length + 1 : Nat) : Int) == 5) = false := by rw [beq_eq_false_iff_ne]; omega
      have hl2 : (((qs.length : Int) + 1) == 5) = false := by rw [beq_eq_false_iff_ne]; omega
      have HRR := Lib.hid (show readR (p :: qs) = rr by rw [hrr, HP.out]; unfold readR; simp; intro h; omega)
      have HFIT := Lib.hid (show rr.fits by rw [hrr]; exact ⟨by decide, by decide⟩)
      have K5 := Lib.hid (show Blk w2 w1.heap.size 39 rr.c by rw [hrr]; exact K5.out)
      have cc := HROW.out 0 _ rfl
      rw [show (⟨gw, 0, none⟩ : Addr).add 0 = ⟨gw, 0, none⟩ from rfl] at cc
      clear hn
      clear hrr
      go_wp2_with fail
      go_meet
      exact ⟨rr, HRR, HFIT, K5, K2, H1⟩
  · obtain ⟨rr, hrr⟩ : ∃ rr : Rul, rr = zeroR := ⟨_, rfl⟩
    have m1 : ¬ (bys p).toList = [105, 110, 102, 105, 120] := by rw [ByteArray.toList_eq, bys_data]; exact n1
    have q1 : ((bys p).toList == [105, 110, 102, 105, 120]) = false := by rw [beq_eq_false_iff_ne]; exact m1
    have m2 : ¬ (bys p).toList = [112, 114, 101, 102, 105, 120] := by rw [ByteArray.toList_eq, bys_data]; exact n2
    have q2 : ((bys p).toList == [112, 114, 101, 102, 105, 120]) = false := by rw [beq_eq_false_iff_ne]; exact m2
    have m3 : ¬ (bys p).toList = [112, 111, 115, 116, 102, 105, 120] := by rw [ByteArray.toList_eq, bys_data]; exact n3
    have q3 : ((bys p).toList == [112, 111, 115, 116, 102, 105, 120]) = false := by rw [beq_eq_false_iff_ne]; exact m3
    have m4 : ¬ (bys p).toList = [106, 117, 120, 116, 97, 112, 111, 115, 101] := by rw [ByteArray.toList_eq, bys_data]; exact n4
    have q4 : ((bys p).toList == [106, 117, 120, 116, 97, 112, 111, 115, 101]) = false := by rw [beq_eq_false_iff_ne]; exact m4
    have HRR := Lib.hid (show readR (p :: qs) = rr by rw [hrr]; unfold readR; simp [n1, n2, n3, n4])
    have HFIT := Lib.hid (show rr.fits by rw [hrr]; exact ⟨by decide, by decide⟩)
    have K5 := Lib.hid (show Blk w2 w1.heap.size 39 rr.c by rw [hrr]; exact K5.out)
    have cc := HROW.out 0 _ rfl
    rw [show (⟨gw, 0, none⟩ : Addr).add 0 = ⟨gw, 0, none⟩ from rfl] at cc
    clear n1 n2 n3 n4
    clear hrr
    go_wp2_with fail
    go_meet
    exact ⟨rr, HRR, HFIT, K5, K2, H1⟩
end Go.Proofs.YtgkfmeagpmjcoaaDoor
