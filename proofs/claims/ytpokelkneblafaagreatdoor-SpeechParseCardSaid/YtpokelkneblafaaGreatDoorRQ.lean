/- Parse of the reference, for strings of up to 2000 bytes. -/
import Derived.Test.YtpokelkneblafaaGreatDoorRT
import Derived.Test.YtpokelkneblafaaGreatDoorRX
import Derived.Test.YtpokelkneblafaaGreatDoorPV
namespace Go.Proofs.YtpokelkneblafaaGreatDoor
open Go.RowKit
theorem rterm_all (gp : Nat) : ∀ f g : Nat, g ≤ f → RTermOk gp g
  | 0, g, hg => fun left s w _ _ h1 _ h2 => by omega
  | f + 1, g, hg => by
    rcases Nat.lt_or_ge g (f + 1) with h | h
    · exact rterm_all gp f g (by omega)
    · obtain rfl : g = f + 1 := by omega
      exact rterm_step gp f (fun g hg => rterm_all gp f g hg)
set_option maxRecDepth 100000 in
set_option maxHeartbeats 8000000 in
theorem parseR_any (s : ByteArray) (w : World) (hs : s.size ≤ 2000) : Calls Tryz.prog 7 #[.string s] w (ParsePost (parseR s.data.toList) w) := by
  have hlen : s.data.toList.length ≤ 2000 := by rw [show s.data.toList.length = s.size by simp]; exact hs
  have hb1 := bel_alloc w (.cells zeroC 25)
  have hb2 := bel_alloc (w.alloc (.cells zeroC 25)) (.cells (rsC s.data.toList ((1000 : Nat) : Int)) 46)
  have hb := hb1.trans (hb2.mono hb1.size)
  have hsz : (w.alloc (.cells zeroC 25)).heap.size = w.heap.size + 1 := by simp
  have K1 : Hid (Blk ((w.alloc (.cells zeroC 25)).alloc (.cells (rsC s.data.toList ((1000 : Nat) : Int)) 46)) (w.heap.size + 1) 46 (rsC s.data.toList ((1000 : Nat) : Int))) := by
    show Blk _ _ _ _
    rw [← hsz]
    exact Blk.new _ _ _
  have K2 := Lib.hid (keep hb2 (Blk.new w 25 zeroC))
  have HGR := Lib.hid hb
  have HC := Lib.hid (rterm_all (w.heap.size + 1) 2002 2002 (Nat.le_refl _) 1000 s.data.toList _ K1.out hlen (by omega) (by omega) (by omega))
  have HFA := Lib.hid (rfactT (f := 2002) 1000 s.data.toList (by omega) (by omega)).1
  have HPD := Lib.hid (show parseR s.data.toList = if validM (rdT 2002 1000 s.data.toList).1 = true ∧ textM (rdT 2002 1000 s.data.toList).1 = s.data.toList then some (rdT 2002 1000 s.data.toList).1 else none by unfold parseR; rfl)
  clear hb1 hb2 hb hs hlen
  generalize rdT 2002 1000 s.data.toList = r at *
  generalize parseR s.data.toList = R at *
  dsimp only [rsC] at K1 K2 HGR HC
  rw [show bys s.data.toList = s from data_bys s] at K1 K2 HGR HC
  go_enter Tryz.func7, Tryz.ntmps7
  go_wp2_with fail
  clear hsz
  have e1000 : ((1000 : Nat) : Int) = 1000 := rfl
  rw [e1000] at K1 K2 HGR HC
  generalize (w.alloc (.cells #[.int .i64 0, .string ⟨#[]⟩, .string ⟨#[]⟩, .slice none 0 0, .string ⟨#[]⟩] 25)).alloc (.cells #[.string s, .int .i64 1000] 46) = w1 at *
  refine HC.out.mono ?_
  rintro e w2 ⟨c, rfl, hT, hK, hg⟩
  have HT := Lib.hid (hT.any (ok' := fun b => w.heap.size < b) (fun b _ h => by have := K1.out.lt; omega))
  replace K2 := Lib.hid (hg.blk K2.out (by omega))
  replace HGR := Lib.hid (HGR.out.trans (hg.down HGR.out.size (by omega)))
  clear hT hK hg HC K1
  obtain ⟨k8, a8, v8, A8, n8, p8, f8, rfl⟩ := HT.out.ext
  have K5 := Lib.hid (Blk.new w2 25 #[.int .i64 k8, .string a8, .string v8, .slice A8 n8 p8, .string f8])
  have hb := bel_alloc w2 (.cells #[.int .i64 k8, .string a8, .string v8, .slice A8 n8 p8, .string f8] 25)
  replace HT := Lib.hid (HT.out.keep hb)
  replace K2 := Lib.hid (keep hb K2.out)
  replace HGR := Lib.hid (HGR.out.trans (hb.mono HGR.out.size))
  clear hb
  go_upto_region 3 with (fail)
  generalize w2.alloc (.cells #[.int .i64 k8, .string a8, .string v8, .slice A8 n8 p8, .string f8] 25) = w3 at *
  generalize w2.heap.size = g5 at *
  have HTX := Lib.hid (rtext_any r.1 _ w3 (by have := HFA.out; omega) HT.out.mat)
  have d := fun i => K5.out.cell i
  go_wp2_with fail
  refine HTX.out.mono ?_
  rintro e w4 ⟨rfl, hb⟩
  replace HT := Lib.hid (HT.out.keep hb)
  replace K2 := Lib.hid (keep hb K2.out)
  replace K5 := Lib.hid (keep hb K5.out)
  replace HGR := Lib.hid (HGR.out.trans (hb.mono HGR.out.size))
  clear hb d HTX
  have d := fun i => K5.out.cell i
  cases hv : validM r.1
  · have HP := Lib.hid (show R = none by rw [HPD.out, if_neg (fun h => by rw [hv] at h; cases h.1)])
    rw [textV_bad hv]
    clear hv HPD
    have c0 := fun i => K2.out.cell i
    have f0 := fun i => K2.out.frozen i
    go_wp2_with fail
    have hwf := (((((K2.out.set_ 0 (.int .i64 0)).set_ 1 (.string ⟨#[]⟩)).set_ 2 (.string ⟨#[]⟩)).set_ 3 (.slice none 0 0)).set_ 4 (.string ⟨#[]⟩))
    have hgf := (World_set w.heap.size (World_set w.heap.size (World_set w.heap.size (World_set w.heap.size (World_set w.heap.size HGR.out 0 (.int .i64 0)) 1 (.string ⟨#[]⟩)) 2 (.string ⟨#[]⟩)) 3 (.slice none 0 0)) 4 (.string ⟨#[]⟩))
    clear c0 f0
    generalize ((((w4.setCell ⟨w.heap.size, 0, none⟩ (.int .i64 0)).setCell ⟨w.heap.size, 1, none⟩ (.string ⟨#[]⟩)).setCell ⟨w.heap.size, 2, none⟩ (.string ⟨#[]⟩)).setCell ⟨w.heap.size, 3, none⟩ (.slice none 0 0)).setCell ⟨w.heap.size, 4, none⟩ (.string ⟨#[]⟩) = wf at *
    have dC := fun i => hwf.cell i
    refine bodyPost_ret (v := .tuple #[.agg #[.int .i64 0, .string ⟨#[]⟩, .string ⟨#[]⟩, .slice none 0 0, .string ⟨#[]⟩], .int .i64 3]) (by simp [results, Tryz.results7, go_sem, dC]) rfl ?_
    rw [HP.out]
    exact ⟨_, rfl, TmAt.zero _ _ _ _ (by decide), hgf⟩
  · rw [textV_ok hv]
    by_cases ht : textM r.1 = s.data.toList
    · have HP := Lib.hid (show R = some r.1 by rw [HPD.out, if_pos ⟨hv, ht⟩])
      have q1 : ((bys (textM r.1)).toList == s.toList) = true := by rw [beq_iff_eq, ByteArray.toList_eq, ByteArray.toList_eq, bys_data, ht]
      have n1 : (!((bys (textM r.1)).toList == s.toList)) = false := by rw [q1]; rfl
      clear hv ht HPD
      have c0 := fun i => K2.out.cell i
      have f0 := fun i => K2.out.frozen i
      go_wp2_with fail
      have hwf := (((((K2.out.set_ 0 (.int .i64 k8)).set_ 1 (.string a8)).set_ 2 (.string v8)).set_ 3 (.slice A8 n8 p8)).set_ 4 (.string f8))
      have hgf := (World_set w.heap.size (World_set w.heap.size (World_set w.heap.size (World_set w.heap.size (World_set w.heap.size HGR.out 0 (.int .i64 k8)) 1 (.string a8)) 2 (.string v8)) 3 (.slice A8 n8 p8)) 4 (.string f8))
      clear c0 f0
      have step : ∀ (wx : World) (i : Nat) (u : Value), TmAt (fun b => w.heap.size < b) wx r.1 #[.int .i64 k8, .string a8, .string v8, .slice A8 n8 p8, .string f8] → TmAt (fun b => w.heap.size < b) (wx.setCell ⟨w.heap.size, i, none⟩ u) r.1 #[.int .i64 k8, .string a8, .string v8, .slice A8 n8 p8, .string f8] := fun wx i u h => h.map (grown_set _ _ _).size (fun _ _ h => h) fun p _ hp => World.cell?_setCell_other _ _ _ _ (fun e => by rw [← e] at hp; exact Nat.lt_irrefl _ hp)
      have hrf := (step _ 4 (.string f8) (step _ 3 (.slice A8 n8 p8) (step _ 2 (.string v8) (step _ 1 (.string a8) (step _ 0 (.int .i64 k8) HT.out)))))
      clear step
      generalize ((((w4.setCell ⟨w.heap.size, 0, none⟩ (.int .i64 k8)).setCell ⟨w.heap.size, 1, none⟩ (.string a8)).setCell ⟨w.heap.size, 2, none⟩ (.string v8)).setCell ⟨w.heap.size, 3, none⟩ (.slice A8 n8 p8)).setCell ⟨w.heap.size, 4, none⟩ (.string f8) = wf at *
      have dC := fun i => hwf.cell i
      refine bodyPost_ret (v := .tuple #[.agg #[.int .i64 k8, .string a8, .string v8, .slice A8 n8 p8, .string f8], .int .i64 0]) (by simp [results, Tryz.results7, go_sem, dC]) rfl ?_
      rw [HP.out]
      exact ⟨_, rfl, hrf.any fun b _ h => Nat.le_of_lt h, hgf⟩
    · have HP := Lib.hid (show R = none by rw [HPD.out, if_neg (fun h => ht h.2)])
      have q1 : ((bys (textM r.1)).toList == s.toList) = false := by
        rw [beq_eq_false_iff_ne, ByteArray.toList_eq, ByteArray.toList_eq, bys_data]
        exact ht
      have n1 : (!((bys (textM r.1)).toList == s.toList)) = true := by rw [q1]; rfl
      clear hv ht HPD
      have c0 := fun i => K2.out.cell i
      have f0 := fun i => K2.out.frozen i
      go_wp2_with fail
      have hwf := (((((K2.out.set_ 0 (.int .i64 0)).set_ 1 (.string ⟨#[]⟩)).set_ 2 (.string ⟨#[]⟩)).set_ 3 (.slice none 0 0)).set_ 4 (.string ⟨#[]⟩))
      have hgf := (World_set w.heap.size (World_set w.heap.size (World_set w.heap.size (World_set w.heap.size (World_set w.heap.size HGR.out 0 (.int .i64 0)) 1 (.string ⟨#[]⟩)) 2 (.string ⟨#[]⟩)) 3 (.slice none 0 0)) 4 (.string ⟨#[]⟩))
      clear c0 f0
      generalize ((((w4.setCell ⟨w.heap.size, 0, none⟩ (.int .i64 0)).setCell ⟨w.heap.size, 1, none⟩ (.string ⟨#[]⟩)).setCell ⟨w.heap.size, 2, none⟩ (.string ⟨#[]⟩)).setCell ⟨w.heap.size, 3, none⟩ (.slice none 0 0)).setCell ⟨w.heap.size, 4, none⟩ (.string ⟨#[]⟩) = wf at *
      have dC := fun i => hwf.cell i
      refine bodyPost_ret (v := .tuple #[.agg #[.int .i64 0, .string ⟨#[]⟩, .string ⟨#[]⟩, .slice none 0 0, .string ⟨#[]⟩], .int .i64 3]) (by simp [results, Tryz.results7, go_sem, dC]) rfl ?_
      rw [HP.out]
      exact ⟨_, rfl, TmAt.zero _ _ _ _ (by decide), hgf⟩
end Go.Proofs.YtpokelkneblafaaGreatDoor
