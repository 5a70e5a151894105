/- Parse of the program, for strings of up to 100000 bytes. -/
import Derived.Test.YtpokelkneblafaaGreatDoorPU
import Derived.Test.YtpokelkneblafaaGreatDoorTX
namespace Go.Proofs.YtpokelkneblafaaGreatDoor
open Go.RowKit
theorem World_set {w wx : World} (B : Nat) (h : Below B w wx) (i : Nat) (u : Value) : Below B w (wx.setCell ⟨B, i, none⟩ u) := h.setCell (p := ⟨B, i, none⟩) (Nat.le_refl _) u
/-- behind Parse -/
def ParsePost (r : Option Trm) (w : World) (e : Ending) (w' : World) : Prop :=
  ∃ c, e = .returned (.tuple #[.agg c, .int .i64 (match r with | some _ => 0 | none => 3)]) ∧ TmAt (fun b => w.heap.size ≤ b) w' (r.getD zeroM) c ∧ Below w.heap.size w w'
theorem textV_ok {t : Trm} (h : validM t = true) : textV t = .tuple #[.string (bys (textM t)), .int .i64 0] := by unfold textV; rw [if_pos h]
theorem textV_bad {t : Trm} (h : validM t = false) : textV t = .tuple #[.string ⟨#[]⟩, .int .i64 1] := by unfold textV; rw [if_neg (by rw [h]; simp)]
set_option maxRecDepth 100000 in
set_option maxHeartbeats 8000000 in
theorem parseP_any (B0 : Nat) (s : ByteArray) (w : World) (hG : GlbZ B0 w) (hB0 : B0 ≤ w.heap.size) (hs : s.size ≤ 100000) : Calls Tryz.prog 6 #[.string s] w (ParsePost (parseP s.data.toList) w) := by
  have hlen : s.data.toList.length ≤ 100000 := by rw [show s.data.toList.length = s.size by simp]; exact hs
  have hb1 := bel_alloc w (.cells zeroC 25)
  have hb2 := bel_alloc (w.alloc (.cells zeroC 25)) (.cells (psC ⟨s.data.toList, false, false, 0⟩) 42)
  have hb := hb1.trans (hb2.mono hb1.size)
  have hsz : (w.alloc (.cells zeroC 25)).heap.size = w.heap.size + 1 := by simp
  have K1 : Hid (Blk ((w.alloc (.cells zeroC 25)).alloc (.cells (psC ⟨s.data.toList, false, false, 0⟩) 42)) (w.heap.size + 1) 42 (psC ⟨s.data.toList, false, false, 0⟩)) := by
    show Blk _ _ _ _
    rw [← hsz]
    exact Blk.new _ _ _
  have K2 := Lib.hid (keep hb2 (Blk.new w 25 zeroC))
  have HGR := Lib.hid hb
  have HG1 := Lib.hid (hG.keep hB0 hb)
  have HB0 := Lib.hid hB0
  have HC := Lib.hid (term_any B0 (w.heap.size + 1) 3005 ⟨s.data.toList, false, false, 0⟩ _ HG1.out (by omega) K1.out ⟨hlen, by show 0 ≤ 1001; omega, fun _ => by show 0 ≤ 1000; omega⟩ rfl (by show 3 * (1001 - 0) + 1 ≤ 3005; omega))
  have HFA := Lib.hid (factT (f := 3005) ⟨s.data.toList, false, false, 0⟩ ⟨hlen, by show 0 ≤ 1001; omega, fun _ => by show 0 ≤ 1000; omega⟩ rfl (by show 3 * (1001 - 0) + 1 ≤ 3005; omega))
  have HP := Lib.hid (show parseP s.data.toList = parseP s.data.toList from rfl)
  have HPD := Lib.hid (show parseP s.data.toList = if (termP 3005 ⟨s.data.toList, false, false, 0⟩).2.bad = true ∨ (termP 3005 ⟨s.data.toList, false, false, 0⟩).2.fin = false then none
    else if validM (termP 3005 ⟨s.data.toList, false, false, 0⟩).1 = true ∧ textM (termP 3005 ⟨s.data.toList, false, false, 0⟩).1 = s.data.toList then some (termP 3005 ⟨s.data.toList, false, false, 0⟩).1 else none by unfold parseP; rfl)
  clear hb1 hb2 hb hG hs hlen hB0 HP
  generalize termP 3005 ⟨s.data.toList, false, false, 0⟩ = r at *
  generalize parseP s.data.toList = R at *
  dsimp only [psC] at K1 K2 HGR HG1 HC
  rw [show bys s.data.toList = s from data_bys s] at K1 K2 HGR HG1 HC
  go_enter Tryz.func6, Tryz.ntmps6
  go_wp2_with fail
  clear hsz
  generalize (w.alloc (.cells #[.int .i64 0, .string ⟨#[]⟩, .string ⟨#[]⟩, .slice none 0 0, .string ⟨#[]⟩] 25)).alloc (.cells #[.string s, .bool false, .bool false, .int .i64 0] 42) = w1 at *
  refine HC.out.mono ?_
  rintro e w2 ⟨c, rfl, hT, hK, hg⟩
  have HT := Lib.hid (hT.any (ok' := fun b => w.heap.size < b) (fun b _ h => by have := K1.out.lt; omega))
  replace K2 := Lib.hid (hg.blk K2.out (by omega))
  replace HG1 := Lib.hid (HG1.out.keep (B := B0) (Nat.le_refl _) (hg.down (by have := HB0.out; have := HGR.out.size; omega) (by have := HB0.out; omega)))
  replace HGR := Lib.hid (HGR.out.trans (hg.down HGR.out.size (by omega)))
  have K1 := Lib.hid hK
  clear hT hK hg HC
  obtain ⟨k8, a8, v8, A8, n8, p8, f8, rfl⟩ := HT.out.ext
  have H5 := Lib.hid K2.out.lt
  have K5 := Lib.hid (Blk.new w2 25 #[.int .i64 k8, .string a8, .string v8, .slice A8 n8 p8, .string f8])
  have hb := bel_alloc w2 (.cells #[.int .i64 k8, .string a8, .string v8, .slice A8 n8 p8, .string f8] 25)
  replace HT := Lib.hid (HT.out.keep hb)
  replace K2 := Lib.hid (keep hb K2.out)
  replace K1 := Lib.hid (keep hb K1.out)
  replace HG1 := Lib.hid (HG1.out.keep (by have := HB0.out; have := HGR.out.size; omega) hb)
  replace HGR := Lib.hid (HGR.out.trans (hb.mono HGR.out.size))
  go_upto_region 3 with (fail)
  generalize w2.alloc (.cells #[.int .i64 k8, .string a8, .string v8, .slice A8 n8 p8, .string f8] 25) = w3 at *
  generalize w2.heap.size = g5 at *
  cases hbad : r.2.bad
  · cases hfin : r.2.fin
    · have HP := Lib.hid (show R = none by rw [HPD.out, if_pos (.inr hfin)])
      have c1 : w3.cell? ⟨w.heap.size + 1, 1, none⟩ = some (.bool false) := by rw [K1.out.cell 1, ← hfin]; rfl
      have c2 : w3.cell? ⟨w.heap.size + 1, 2, none⟩ = some (.bool false) := by rw [K1.out.cell 2, ← hbad]; rfl
      clear hbad hfin HPD
      have c0 := fun i => K2.out.cell i
      have f0 := fun i => K2.out.frozen i
      go_wp2_with fail
      have hwf := (((((K2.out.set_ 0 (.int .i64 0)).set_ 1 (.string ⟨#[]⟩)).set_ 2 (.string ⟨#[]⟩)).set_ 3 (.slice none 0 0)).set_ 4 (.string ⟨#[]⟩))
      have hgf := (World_set w.heap.size (World_set w.heap.size (World_set w.heap.size (World_set w.heap.size (World_set w.heap.size HGR.out 0 (.int .i64 0)) 1 (.string ⟨#[]⟩)) 2 (.string ⟨#[]⟩)) 3 (.slice none 0 0)) 4 (.string ⟨#[]⟩))
      clear c0 f0
      generalize (((((w3.setCell ⟨w.heap.size, 0, none⟩ (.int .i64 0)).setCell ⟨w.heap.size, 1, none⟩ (.string ⟨#[]⟩)).setCell ⟨w.heap.size, 2, none⟩ (.string ⟨#[]⟩)).setCell ⟨w.heap.size, 3, none⟩ (.slice none 0 0)).setCell ⟨w.heap.size, 4, none⟩ (.string ⟨#[]⟩)) = wf at *
      have dC := fun i => hwf.cell i
      refine bodyPost_ret (v := .tuple #[.agg #[.int .i64 0, .string ⟨#[]⟩, .string ⟨#[]⟩, .slice none 0 0, .string ⟨#[]⟩], .int .i64 3]) (by simp [results, Tryz.results6, go_sem, dC]) rfl ?_
      rw [HP.out]
      exact ⟨_, rfl, TmAt.zero _ _ _ _ (by decide), hgf⟩
    · have HPD2 := Lib.hid (HPD.out.trans (by rw [if_neg (by rw [hbad, hfin]; simp)]))
      have c1 : w3.cell? ⟨w.heap.size + 1, 1, none⟩ = some (.bool true) := by rw [K1.out.cell 1, ← hfin]; rfl
      have c2 : w3.cell? ⟨w.heap.size + 1, 2, none⟩ = some (.bool false) := by rw [K1.out.cell 2, ← hbad]; rfl
      have HTX := Lib.hid (text_any B0 r.1 _ w3 HG1.out.glb (by have := HB0.out; have := HGR.out.size; omega) HT.out.mat)
      have d := fun i => K5.out.cell i
      clear hbad hfin HPD
      go_wp2_with fail
      refine HTX.out.mono ?_
      rintro e w4 ⟨rfl, hb⟩
      replace HT := Lib.hid (HT.out.keep hb)
      replace K2 := Lib.hid (keep hb K2.out)
      replace K5 := Lib.hid (keep hb K5.out)
      replace HGR := Lib.hid (HGR.out.trans (hb.mono HGR.out.size))
      clear hb c1 c2 d HTX HG1 K1
      have d := fun i => K5.out.cell i
      cases hv : validM r.1
      · have HP := Lib.hid (show R = none by rw [HPD2.out, if_neg (fun h => by rw [hv] at h; cases h.1)])
        rw [textV_bad hv]
        clear hv HPD2
        have c0 := fun i => K2.out.cell i
        have f0 := fun i => K2.out.frozen i
        go_wp2_with fail
        have hwf := (((((K2.out.set_ 0 (.int .i64 0)).set_ 1 (.string ⟨#[]⟩)).set_ 2 (.string ⟨#[]⟩)).set_ 3 (.slice none 0 0)).set_ 4 (.string ⟨#[]⟩))
        have hgf := (World_set w.heap.size (World_set w.heap.size (World_set w.heap.size (World_set w.heap.size (World_set w.heap.size HGR.out 0 (.int .i64 0)) 1 (.string ⟨#[]⟩)) 2 (.string ⟨#[]⟩)) 3 (.slice none 0 0)) 4 (.string ⟨#[]⟩))
        clear c0 f0
        generalize (((((w4.setCell ⟨w.heap.size, 0, none⟩ (.int .i64 0)).setCell ⟨w.heap.size, 1, none⟩ (.string ⟨#[]⟩)).setCell ⟨w.heap.size, 2, none⟩ (.string ⟨#[]⟩)).setCell ⟨w.heap.size, 3, none⟩ (.slice none 0 0)).setCell ⟨w.heap.size, 4, none⟩ (.string ⟨#[]⟩)) = wf at *
        have dC := fun i => hwf.cell i
        refine bodyPost_ret (v := .tuple #[.agg #[.int .i64 0, .string ⟨#[]⟩, .string ⟨#[]⟩, .slice none 0 0, .string ⟨#[]⟩], .int .i64 3]) (by simp [results, Tryz.results6, go_sem, dC]) rfl ?_
        rw [HP.out]
        exact ⟨_, rfl, TmAt.zero _ _ _ _ (by decide), hgf⟩
      · rw [textV_ok hv]
        by_cases ht : textM r.1 = s.data.toList
        · have HP := Lib.hid (show R = some r.1 by rw [HPD2.out, if_pos ⟨hv, ht⟩])
          have q1 : ((bys (textM r.1)).toList == s.toList) = true := by rw [beq_iff_eq, ByteArray.toList_eq, ByteArray.toList_eq, bys_data, ht]
          have n1 : (!((bys (textM r.1)).toList == s.toList)) = false := by rw [q1]; rfl
          clear hv ht HPD2
          have c0 := fun i => K2.out.cell i
          have f0 := fun i => K2.out.frozen i
          go_wp2_with fail
          have hwf := (((((K2.out.set_ 0 (.int .i64 k8)).set_ 1 (.string a8)).set_ 2 (.string v8)).set_ 3 (.slice A8 n8 p8)).set_ 4 (.string f8))
          have hgf := (World_set w.heap.size (World_set w.heap.size (World_set w.heap.size (World_set w.heap.size (World_set w.heap.size HGR.out 0 (.int .i64 k8)) 1 (.string a8)) 2 (.string v8)) 3 (.slice A8 n8 p8)) 4 (.string f8))
          clear c0 f0
          have step : ∀ (wx : World) (i : Nat) (u : Value), TmAt (fun b => w.heap.size < b) wx r.1 #[.int .i64 k8, .string a8, .string v8, .slice A8 n8 p8, .string f8] → TmAt (fun b => w.heap.size < b) (wx.setCell ⟨w.heap.size, i, none⟩ u) r.1 #[.int .i64 k8, .string a8, .string v8, .slice A8 n8 p8, .string f8] := fun wx i u h => h.map (grown_set _ _ _).size (fun _ _ h => h) fun p _ hp => World.cell?_setCell_other _ _ _ _ (fun e => by rw [← e] at hp; exact Nat.lt_irrefl _ hp)
          have hrf := (step _ 4 (.string f8) (step _ 3 (.slice A8 n8 p8) (step _ 2 (.string v8) (step _ 1 (.string a8) (step _ 0 (.int .i64 k8) HT.out)))))
          clear step
          generalize (((((w4.setCell ⟨w.heap.size, 0, none⟩ (.int .i64 k8)).setCell ⟨w.heap.size, 1, none⟩ (.string a8)).setCell ⟨w.heap.size, 2, none⟩ (.string v8)).setCell ⟨w.heap.size, 3, none⟩ (.slice A8 n8 p8)).setCell ⟨w.heap.size, 4, none⟩ (.string f8)) = wf at *
          have dC := fun i => hwf.cell i
          refine bodyPost_ret (v := .tuple #[.agg #[.int .i64 k8, .string a8, .string v8, .slice A8 n8 p8, .string f8], .int .i64 0]) (by simp [results, Tryz.results6, go_sem, dC]) rfl ?_
          rw [HP.out]
          exact ⟨_, rfl, hrf.any fun b _ h => Nat.le_of_lt h, hgf⟩
        · have HP := Lib.hid (show R = none by rw [HPD2.out, if_neg (fun h => ht h.2)])
          have q1 : ((bys (textM r.1)).toList == s.toList) = false := by
            rw [beq_eq_false_iff_ne, ByteArray.toList_eq, ByteArray.toList_eq, bys_data]
            exact ht
          have n1 : (!((bys (textM r.1)).toList == s.toList)) = true := by rw [q1]; rfl
          clear hv ht HPD2
          have c0 := fun i => K2.out.cell i
          have f0 := fun i => K2.out.frozen i
          go_wp2_with fail
          have hwf := (((((K2.out.set_ 0 (.int .i64 0)).set_ 1 (.string ⟨#[]⟩)).set_ 2 (.string ⟨#[]⟩)).set_ 3 (.slice none 0 0)).set_ 4 (.string ⟨#[]⟩))
          have hgf := (World_set w.heap.size (World_set w.heap.size (World_set w.heap.size (World_set w.heap.size (World_set w.heap.size HGR.out 0 (.int .i64 0)) 1 (.string ⟨#[]⟩)) 2 (.string ⟨#[]⟩)) 3 (.slice none 0 0)) 4 (.string ⟨#[]⟩))
          clear c0 f0
          generalize (((((w4.setCell ⟨w.heap.size, 0, none⟩ (.int .i64 0)).setCell ⟨w.heap.size, 1, none⟩ (.string ⟨#[]⟩)).setCell ⟨w.heap.size, 2, none⟩ (.string ⟨#[]⟩)).setCell ⟨w.heap.size, 3, none⟩ (.slice none 0 0)).setCell ⟨w.heap.size, 4, none⟩ (.string ⟨#[]⟩)) = wf at *
          have dC := fun i => hwf.cell i
          refine bodyPost_ret (v := .tuple #[.agg #[.int .i64 0, .string ⟨#[]⟩, .string ⟨#[]⟩, .slice none 0 0, .string ⟨#[]⟩], .int .i64 3]) (by simp [results, Tryz.results6, go_sem, dC]) rfl ?_
          rw [HP.out]
          exact ⟨_, rfl, TmAt.zero _ _ _ _ (by decide), hgf⟩
  · have HP := Lib.hid (show R = none by rw [HPD.out, if_pos (.inl hbad)])
    have c1 : w3.cell? ⟨w.heap.size + 1, 1, none⟩ = some (.bool r.2.fin) := K1.out.cell 1
    have c2 : w3.cell? ⟨w.heap.size + 1, 2, none⟩ = some (.bool true) := by rw [K1.out.cell 2, ← hbad]; rfl
    clear hbad HPD
    have c0 := fun i => K2.out.cell i
    have f0 := fun i => K2.out.frozen i
    go_wp2_with fail
    have hwf := (((((K2.out.set_ 0 (.int .i64 0)).set_ 1 (.string ⟨#[]⟩)).set_ 2 (.string ⟨#[]⟩)).set_ 3 (.slice none 0 0)).set_ 4 (.string ⟨#[]⟩))
    have hgf := (World_set w.heap.size (World_set w.heap.size (World_set w.heap.size (World_set w.heap.size (World_set w.heap.size HGR.out 0 (.int .i64 0)) 1 (.string ⟨#[]⟩)) 2 (.string ⟨#[]⟩)) 3 (.slice none 0 0)) 4 (.string ⟨#[]⟩))
    clear c0 f0
    generalize (((((w3.setCell ⟨w.heap.size, 0, none⟩ (.int .i64 0)).setCell ⟨w.heap.size, 1, none⟩ (.string ⟨#[]⟩)).setCell ⟨w.heap.size, 2, none⟩ (.string ⟨#[]⟩)).setCell ⟨w.heap.size, 3, none⟩ (.slice none 0 0)).setCell ⟨w.heap.size, 4, none⟩ (.string ⟨#[]⟩)) = wf at *
    have dC := fun i => hwf.cell i
    refine bodyPost_ret (v := .tuple #[.agg #[.int .i64 0, .string ⟨#[]⟩, .string ⟨#[]⟩, .slice none 0 0, .string ⟨#[]⟩], .int .i64 3]) (by simp [results, Tryz.results6, go_sem, dC]) rfl ?_
    rw [HP.out]
    exact ⟨_, rfl, TmAt.zero _ _ _ _ (by decide), hgf⟩
end Go.Proofs.YtpokelkneblafaaGreatDoor
