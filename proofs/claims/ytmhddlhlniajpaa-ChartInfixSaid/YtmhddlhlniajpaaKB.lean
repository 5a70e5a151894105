/- An application adds to the numbers: the counter's closure. -/
import Derived.Test.YtmhddlhlniajpaaKA
namespace Go.Proofs.Ytmhddlhlniajpaa
open Go.RowKit
theorem zeroI (w : World) : (zeroValue 3).run Try.prog w = .ok (.int .i64 0) w := by simp [Try.zeroValue3]
theorem valid_prec {rs : List Rul} (hv : validB rs = true) {r : Nat} {u : Rul} (hu : rs[r]? = some u) : 0 ≤ u.prec ∧ u.prec ≤ 1000 := by
  have h := valid_own hv hu
  unfold ownB inR at h
  simp only [Bool.and_eq_true, decide_eq_true_eq] at h
  obtain ⟨_, ⟨h1, h2⟩, _⟩ := h
  omega
/-- what the closure may lean on -/
structure CntS (w0 : World) (g gm gt bm : Nat) (rs : List Rul) (ts : List ByteArray) (i j : Nat) (done : List App) (w : World) : Prop where
  vm : Blk w gm 99 #[.map (some bm)]
  vt : Blk w gt 67 #[ptrV g]
  below : Below w0.heap.size w0 w
  map : ∃ D, NumS w bm (done.length + 1) rs (cellL rs ts i j done) D
  low : w0.heap.size ≤ bm
section
variable {w0 w w' w2 : World} {g gm gt bm : Nat} {rs : List Rul} {ts : List ByteArray} {i j : Nat} {done : List App} {D : DataW Unit} {a : App}
theorem CntS.keep (h : CntS w0 g gm gt bm rs ts i j done w) (hb : Below w.heap.size w w') : CntS w0 g gm gt bm rs ts i j done w' := by
  obtain ⟨h1, h2, h3, ⟨D, h4⟩, h5⟩ := h
  exact ⟨_root_.Go.Proofs.Ytmhddlhlniajpaa.keep hb h1, _root_.Go.Proofs.Ytmhddlhlniajpaa.keep hb h2, h3.trans (hb.mono h3.size), ⟨D, h4.keep hb⟩, h5⟩
theorem NumS.skip (h : NumS w bm (done.length + 1) rs (cellL rs ts i j done) D) (h0 : cntA rs ts a = 0) : NumS w bm ((done ++ [a]).length + 1) rs (cellL rs ts i j (done ++ [a])) D := by
  refine ⟨h.own.mono (by simp), fun p => ?_⟩
  rw [h.at_ p, atP_snoc, h0, ite_self, Nat.add_zero]
theorem NumS.put (h : NumS w bm (done.length + 1) rs (cellL rs ts i j done) D) {p : Int} (hp : precI rs a.rule = p) {m c v : Nat} (hm : m = min (atP rs (cellL rs ts i j done) p) 1000000000) (hc : c = min (cntA rs ts a) 1000000000) (hv : v = min (m + c) 1000000000) (hw : w2.ownsMap Try.prog 3 (plainElem Try.prog 3) bm (done.length + 1 + 1) (D.put (.int .i64 p) (.lit (.int .i64 v)))) : NumS w2 bm ((done ++ [a]).length + 1) rs (cellL rs ts i j (done ++ [a])) (D.put (.int .i64 p) (.lit (.int .i64 v))) := by
  refine ⟨by rw [List.length_append]; exact hw, fun q => ?_⟩
  rw [atP_snoc]
  by_cases e : q = p
  · subst e
    rw [Maps.atKey_put_same (World.ownsMap.isMap h.own) (by trivial), if_pos hp]
    congr 2
    omega
  · rw [Maps.atKey_put_other (fun hh => e (by simpa using hh)), h.at_ q, if_neg (fun hh => e (hh.symm.trans hp)), Nat.add_zero]
theorem CntS.of (h1 : Blk w gm 99 #[.map (some bm)]) (h2 : Blk w gt 67 #[ptrV g]) (h3 : Below w0.heap.size w0 w) (hM : NumS w bm (done.length + 1) rs (cellL rs ts i j done) D) (hlow : w0.heap.size ≤ bm) (hg : w.grownBy w2 (some bm)) {D' : DataW Unit} (hM2 : NumS w2 bm ((done ++ [a]).length + 1) rs (cellL rs ts i j (done ++ [a])) D') :
    CntS w0 g gm gt bm rs ts i j (done ++ [a]) w2 ∧ ∀ k t cs, Blk w k t cs → Blk w2 k t cs := by
  have both : ∀ k t cs, Blk w k t cs → Blk w2 k t cs := fun k t cs hb => hb.grown hg fun e => by
    obtain rfl := Option.some.inj e
    exact num_no_cells hM hb
  exact ⟨⟨both _ _ _ h1, both _ _ _ h2, h3.grown hg h3.size (fun k hk => by cases hk; exact hlow), ⟨_, hM2⟩, hlow⟩, both⟩
end
def InvW (w1 : World) : List Bool → Unit → World → Prop := fun _ _ wq => Below w1.heap.size w1 wq
theorem mul_bound {a b : Nat} (h1 : a ≤ 1000000000) (h2 : b ≤ 1000000000) : a * b ≤ 1000000000000000000 := Nat.mul_le_mul h1 h2
theorem mul_cut {x y n m : Nat} (hn : n = min x 1000000000) (hm : m = min y 1000000000) (h0 : 0 < n) : min (n * m) 1000000000 = min (x * y) 1000000000 := by
  by_cases hy : y = 0
  · subst hy
    have : m = 0 := by omega
    rw [this, Nat.mul_zero, Nat.mul_zero]
  by_cases hx1 : x ≤ 1000000000
  · by_cases hy1 : y ≤ 1000000000
    · rw [show n = x by omega, show m = y by omega]
    · have e : m = 1000000000 := by omega
      have h1 : 1000000000 ≤ n * m := by rw [e]; exact Nat.le_mul_of_pos_left _ h0
      have h2 : 1000000000 ≤ x * y := Nat.le_trans (by omega : 1000000000 ≤ y) (Nat.le_mul_of_pos_left _ (by omega))
      omega
  · have e : n = 1000000000 := by omega
    have h1 : 1000000000 ≤ n * m := by rw [e]; exact Nat.le_mul_of_pos_right _ (by omega)
    have h2 : 1000000000 ≤ x * y := Nat.le_trans (by omega : 1000000000 ≤ x) (Nat.le_mul_of_pos_right _ (by omega))
    omega
set_option maxRecDepth 100000 in
set_option maxHeartbeats 4000000 in
theorem visit_count (g : Nat) (F : Fin) (rs : List Rul) (ts : List ByteArray) (gc : Nat) (rows : Nat → Nat) (fill : Nat → Nat → Bool) (i j gm gt bm : Nat) (w0 : World) (hvd : validB rs = true) (hT : CouAt w0 g F rs ts gc rows fill) (hij : i < j) (hj : j ≤ ts.length) (hf : ∀ p q, i ≤ p → p < q → q ≤ j → q - p < j - i → fill p q = true) (hm : ts.length ≤ 1000000) :
    Visits 75 #[ptrV gt, ptrV gm] rs ts i j (CntS w0 g gm gt bm rs ts i j) := by
  intro done a m w hA hC
  have hAm := (show a ∈ appsR rs ts i j by rw [hA]; simp)
  obtain ⟨hr, h2, h3, h4, h5, h6⟩ := app_in hij hAm
  have hdl : done.length ≤ 2000002 := by
    have h1 := apps_len (rs := rs) (ts := ts) (i := i) (j := j)
    rw [hA, List.length_append] at h1
    omega
  have HDN := Lib.hid (show done.length + 1 < maxLen by unfold maxLen; omega)
  clear hA hdl hAm
  have H3 := Lib.hid (hf _ _ h2 h3 h4 h5)
  obtain ⟨r, frm, left, right, t2, kids⟩ := a
  dsimp only at hr h2 h3 h4 h5 h6 H3
  have H6 := Lib.hid h6
  have H4 := Lib.hid (show kids = 2 → fill right t2 = true ∧ right < t2 ∧ t2 ≤ ts.length from fun hk => by
    rcases h6 with h | ⟨_, h7, h8, h9⟩
    · omega
    · exact ⟨hf _ _ (by omega) h8 (by omega) (by omega), h8, by omega⟩)
  clear h6
  obtain ⟨R, cR, T, cT, I, cI, P, cP, Q, cQ⟩ := F
  obtain ⟨ad, rfl⟩ : ∃ ad, R = some ad := by
    obtain ⟨_, ad, hA, _⟩ := hT.fin.rules r rs[r] (List.getElem?_eq_getElem hr)
    exact ⟨ad, hA⟩
  have HR := Lib.hid hr
  have HBA := Lib.hid (bel_alloc w (.cells #[.int .i64 r, .int .i64 frm, .int .i64 left, .int .i64 right, .int .i64 t2, .int .i64 kids] 111))
  have K0 := Lib.hid (Blk.new w 111 #[.int .i64 r, .int .i64 frm, .int .i64 left, .int .i64 right, .int .i64 t2, .int .i64 kids])
  obtain ⟨k1, k2, hb, ⟨D, hM⟩, hlow⟩ := hC.keep HBA.out
  have K1 := Lib.hid k1
  have K2 := Lib.hid k2
  have HB := Lib.hid hb
  have HM := Lib.hid hM
  have HLOW := Lib.hid hlow
  have HT := Lib.hid (hT.keep hb)
  have HV := Lib.hid hvd
  clear hb hM hlow k1 k2 hC hT hf hvd
  rw [show (#[Value.agg (App.c ⟨r, frm, left, right, t2, kids⟩)] ++ #[ptrV gt, ptrV gm] : Array Value) = #[.agg #[.int .i64 r, .int .i64 frm, .int .i64 left, .int .i64 right, .int .i64 t2, .int .i64 kids], ptrV gt, ptrV gm] from rfl]
  go_enter Try.func75, Try.ntmps75
  go_upto_region 1 with (fail)
  generalize w.alloc (.cells _ 111) = w1 at *
  refine region_ghost (X := Unit) (by kernel_rfl) _ (fun gx => [.pointer (some ⟨g, 0, none⟩), .pointer (some ⟨g, 0, none⟩), .pointer (some ⟨g, 0, none⟩), .agg #[.slice (some ad) rs.length cR, .slice T ts.length cT, .slice I ts.length cI, .slice P ts.length cP, .slice Q ts.length cQ, .int .i64 (findI rs 4 [])], .agg #[.int .i64 r, .int .i64 frm, .int .i64 left, .int .i64 right, .int .i64 t2, .int .i64 kids], .tuple #[.int .i64 (lowR rs r), .int .i64 (highR rs r)], .tuple #[.int .i64 (lowR rs r), .int .i64 (highR rs r)], .int .i64 (lowR rs r), .int .i64 (highR rs r), .int .i64 (lowR rs r), .int .i64 (highR rs r)]) [true, true, true, true, true, true, true, true, true, true, true] [] (InvW w1) () (by kernel_rfl) (fun gx => by simp [fin, finOn, dstAt, List.range, List.range.loop, Act.put]; rfl) (fun _ => by kernel_rfl) (by kernel_rfl) (below_drew (Below.refl _ _)) ?_ ?_
  · refine ⟨fun L gx wq hL hb ha hI => ?_, fun L gx wq hL hb ha hI => ?_, fun L gx wq hL hb ha hI => ?_, fun L gx wq hL hb ha hI => ?_, fun L gx wq hL hb ha hI => ?_, fun L gx wq hL hb ha hI => ?_, fun L gx wq hL hb ha hI => ?_, fun L gx wq hL hb ha hI => ?_, fun L gx wq hL hb ha hI => ?_, fun L gx wq hL hb ha hI => ?_, fun L gx wq hL hb ha hI => ?_, trivial⟩
    · have hW : Below w1.heap.size w1 wq := hI
      have cJ := (keep hW K2.out).cell 0
      exact Gives.plain (v := .pointer (some ⟨g, 0, none⟩)) (w' := wq) (by simp [go_sem, cJ]) rfl hI
    · exact Gives.plain (v := .pointer (some ⟨g, 0, none⟩)) (w' := wq) (by simp [go_sem]) rfl hI
    · exact Gives.plain (v := .pointer (some ⟨g, 0, none⟩)) (w' := wq) (by simp [go_sem]) rfl hI
    · have hW : Below w1.heap.size w1 wq := hI
      have cJ := fun k => (HT.out.keep hW).blk.cell k
      exact Gives.plain (v := .agg #[.slice (some ad) rs.length cR, .slice T ts.length cT, .slice I ts.length cI, .slice P ts.length cP, .slice Q ts.length cQ, .int .i64 (findI rs 4 [])]) (w' := wq) (by simp [go_sem, cJ]) rfl hI
    · have hW : Below w1.heap.size w1 wq := hI
      have cJ := fun k => (keep hW K0.out).cell k
      exact Gives.plain (v := .agg #[.int .i64 r, .int .i64 frm, .int .i64 left, .int .i64 right, .int .i64 t2, .int .i64 kids]) (w' := wq) (by simp [go_sem, cJ]) rfl hI
    · have hW : Below w1.heap.size w1 wq := hI
      refine Gives.call (f := 76) (args := #[.agg #[.slice (some ad) rs.length cR, .slice T ts.length cT, .slice I ts.length cI, .slice P ts.length cP, .slice Q ts.length cQ, .int .i64 (findI rs 4 [])], .agg #[.int .i64 r, .int .i64 frm, .int .i64 left, .int .i64 right, .int .i64 t2, .int .i64 kids]]) (w' := wq) (by kernel_rfl) ((least_any ⟨some ad, cR, T, cT, I, cI, P, cP, Q, cQ⟩ rs ts (findI rs 4 []) ⟨r, frm, left, right, t2, kids⟩ wq (HT.out.keep hW).fin HR.out).mono ?_)
      rintro e wa ⟨rfl, hb5⟩
      exact ⟨_, rfl, (), rfl, KeepsV.same, Below.trans hW (hb5.mono (Below.size hW))⟩
    · exact Gives.plain (v := .tuple #[.int .i64 (lowR rs r), .int .i64 (highR rs r)]) (w' := wq) (by kernel_rfl) rfl hI
    · exact Gives.plain (v := .int .i64 (lowR rs r)) (w' := wq) (by simp [go_sem]) rfl hI
    · exact Gives.plain (v := .int .i64 (highR rs r)) (w' := wq) (by simp [go_sem]) rfl hI
    · exact Gives.plain (v := .int .i64 (lowR rs r)) (w' := wq) (by kernel_rfl) rfl hI
    · exact Gives.plain (v := .int .i64 (highR rs r)) (w' := wq) (by kernel_rfl) rfl hI
  · intro gx wq hI
    have hb : Below w1.heap.size w1 wq := hI
    clear hI
    have K0 := Lib.hid (keep hb K0.out)
    have K1 := Lib.hid (keep hb K1.out)
    have K2 := Lib.hid (keep hb K2.out)
    have HT := Lib.hid (HT.out.keep hb)
    have HM := Lib.hid (HM.out.keep hb)
    have HBA := Lib.hid (HBA.out.trans (hb.mono HBA.out.size))
    have HB := Lib.hid (HB.out.trans (hb.mono HB.out.size))
    clear hb
    generalize hlo : lowR rs r = lo at *
    generalize hhi : highR rs r = hig at *
    have HLO := Lib.hid hlo
    have HHI := Lib.hid hhi
    clear hlo hhi
    have ca1 := K0.out.cell 1
    have ca2 := K0.out.cell 2
    have ck2 := K2.out.cell 0
    go_wp2_with fail
    refine (total_any g _ rs ts gc rows fill frm left lo wq HT.out h3 (by omega) H3.out).mono ?_
    rintro e w3 ⟨rfl, hb⟩
    have K0 := Lib.hid (keep hb K0.out)
    have K1 := Lib.hid (keep hb K1.out)
    have K2 := Lib.hid (keep hb K2.out)
    have HT := Lib.hid (HT.out.keep hb)
    have HM := Lib.hid (HM.out.keep hb)
    have HBA := Lib.hid (HBA.out.trans (hb.mono HBA.out.size))
    have HB := Lib.hid (HB.out.trans (hb.mono HB.out.size))
    clear hb
    clear ca1 ca2 ck2
    have hn1 : min (leastR rs (allR rs ts frm left) lo).length 1000000000 ≤ 1000000000 := Nat.min_le_right _ _
    generalize hc : min (leastR rs (allR rs ts frm left) lo).length 1000000000 = c at *
    have HC1 := Lib.hid hc
    clear hc
    have ca5 := K0.out.cell 5
    rcases H6.out with hk | hk
    · have hk' : ((kids : Int) == 2) = false := by rw [hk]; rfl
      have HC := Lib.hid (show c = min (cntA rs ts ⟨r, frm, left, right, t2, kids⟩) 1000000000 by unfold cntA; rw [if_pos hk]; rw [← HC1.out, HLO.out])
      clear hk
      by_cases h0 : 0 < c
      · have h0' : (0 : Int) < (c : Int) := by omega
        obtain ⟨u, hu⟩ : ∃ u, rs[r]? = some u := ⟨_, List.getElem?_eq_getElem HR.out⟩
        have HPR := Lib.hid (precI_nat hu)
        have hpb := valid_prec HV.out hu
        obtain ⟨_, ad', he', hadl, _, _, _, c3, _, _⟩ := HT.out.fin.rules.at_ hu
        obtain rfl := Option.some.inj he'
        rw [← HPR.out] at c3
        rw [← HPR.out] at hpb
        have HKEY := Lib.hid (Maps.keyOf_int_mk (P := Try.prog) (k := 3) Try.underlying3 (q := .i64) (a := precI rs r) (WalkArith.wf_i64 (by omega)))
        clear he' hu HPR hpb
        generalize hpp : precI rs r = pp at *
        have HPP := Lib.hid hpp
        have ct0 := HT.out.blk.cell 0
        have ca0 := K0.out.cell 0
        have ck2 := K2.out.cell 0
        have hrn := HR.out
        clear hpp
        go_upto_region 6 with (fail)
        go_quiet (fail)
        have hb := below_drewN (Below.refl w3.heap.size w3) nq
        have K0 := Lib.hid (keep hb K0.out)
        have K1 := Lib.hid (keep hb K1.out)
        have K2 := Lib.hid (keep hb K2.out)
        have HT := Lib.hid (HT.out.keep hb)
        have HM := Lib.hid (HM.out.keep hb)
        have HBA := Lib.hid (HBA.out.trans (hb.mono HBA.out.size))
        have HB := Lib.hid (HB.out.trans (hb.mono HB.out.size))
        clear hb
        generalize w3.drewN nq = w5 at *
        clear c3 ct0 hrn hadl ca0 ck2
        have ck1 := K1.out.cell 0
        obtain ⟨v, hrun, hat, _⟩ := HM.out.own.lookup_int lawI Try.underlying99 Try.underlying3 (zeroI _) HKEY.out
        have hv : v = ((min (atP rs (cellL rs ts i j done) pp) 1000000000 : Nat) : Int) := by
          rw [HM.out.at_ pp] at hat
          simpa using hat.symm
        have hmb : min (atP rs (cellL rs ts i j done) pp) 1000000000 ≤ 1000000000 := Nat.min_le_right _ _
        generalize hmm : min (atP rs (cellL rs ts i j done) pp) 1000000000 = mm at hv hmb
        have HMM := Lib.hid hmm
        clear hmm hat
        subst hv
        have hval : plainElem (H := Unit) Try.prog 3 (.int .i64 (min ((mm : Int) + (c : Int)) 1000000000)) = some (.lit (.int .i64 (min ((mm : Int) + (c : Int)) 1000000000)), []) := plainElem_int Try.underlying3 (WalkArith.wf_i64 (by omega))
        go_wp2_with (first | (at_mapUpdate; refine wpList_mapUpdate_own _ rfl _ _ _ 99 rfl 3 3 lawI Try.underlying99 _ bm (done.length + 1) D rfl HM.out.own HDN.out _ _ (.int .i64 pp) rfl rfl HKEY.out _ [] hval ?_; intro w6 hm6 hg6) | fail)
        have hM6 := HM.out.put (a := ⟨r, frm, left, right, t2, kids⟩) (v := min (mm + c) 1000000000) HPP.out HMM.out.symm HC.out rfl (by rw [show ((min (mm + c) 1000000000 : Nat) : Int) = min ((mm : Int) + (c : Int)) 1000000000 by omega]; exact hm6)
        have hfin := CntS.of K1.out K2.out HB.out HM.out HLOW.out hg6 hM6
        clear hm6 hg6 hM6
        go_wp2_with fail
        go_end0
        exact ⟨rfl, hfin.1, fun k cs hk => hfin.2 k _ cs (keep HBA.out hk)⟩
      · have h0' : ¬ (0 : Int) < (c : Int) := by omega
        have HS := Lib.hid (HM.out.skip (a := ⟨r, frm, left, right, t2, kids⟩) (by have := HC.out; omega))
        go_wp2_with fail
        go_end0
        exact ⟨rfl, ⟨K1.out, K2.out, HB.out, ⟨_, HS.out⟩, HLOW.out⟩, fun k cs hk => keep HBA.out hk⟩
    · have hk' : ((kids : Int) == 2) = true := by rw [hk.1]; rfl
      have hk2 := hk.1
      clear hk
      by_cases h0 : 0 < c
      · have h0' : (0 : Int) < (c : Int) := by omega
        have ca3 := K0.out.cell 3
        have ca4 := K0.out.cell 4
        have ck2 := K2.out.cell 0
        go_wp2_with fail
        refine (total_any g _ rs ts gc rows fill right t2 hig w3 HT.out (H4.out hk2).2.1 (H4.out hk2).2.2 (H4.out hk2).1).mono ?_
        rintro e w4 ⟨rfl, hb⟩
        have K0 := Lib.hid (keep hb K0.out)
        have K1 := Lib.hid (keep hb K1.out)
        have K2 := Lib.hid (keep hb K2.out)
        have HT := Lib.hid (HT.out.keep hb)
        have HM := Lib.hid (HM.out.keep hb)
        have HBA := Lib.hid (HBA.out.trans (hb.mono HBA.out.size))
        have HB := Lib.hid (HB.out.trans (hb.mono HB.out.size))
        clear hb
        clear ca3 ca4 ck2 ca5
        have hn2 : min (leastR rs (allR rs ts right t2) hig).length 1000000000 ≤ 1000000000 := Nat.min_le_right _ _
        generalize hd : min (leastR rs (allR rs ts right t2) hig).length 1000000000 = d at *
        have hw := mul_bound hn1 hn2
        have hw2 : (c : Int) * (d : Int) ≤ 1000000000000000000 := by
          have := Int.ofNat_le.2 hw
          rw [Int.natCast_mul] at this
          exact this
        have hw3 : (0 : Int) ≤ (c : Int) * (d : Int) := Int.mul_nonneg (by omega) (by omega)
        have hw1 : IntKind.i64.wrap ((c : Int) * (d : Int)) = (c : Int) * (d : Int) := IntWalk.i64_in _ (by omega)
        have HC := Lib.hid (show min (c * d) 1000000000 = min (cntA rs ts ⟨r, frm, left, right, t2, kids⟩) 1000000000 by
          unfold cntA
          rw [if_neg (show ¬ kids = 1 by omega), mul_cut HC1.out.symm hd.symm h0, ← HLO.out, ← HHI.out])
        have hmc : min ((c : Int) * (d : Int)) 1000000000 = ((min (c * d) 1000000000 : Nat) : Int) := by
          rw [← Int.natCast_mul]; omega
        clear hw hd h0 hk2
        have hcb : min (c * d) 1000000000 ≤ 1000000000 := Nat.min_le_right _ _
        go_upto_if 42 with (fail)
        clear hmc hw1 hw2 hw3 hn1 hn2 h0' HC1
        generalize min (c * d) 1000000000 = c at *
        by_cases h0 : 0 < c
        · have h0' : (0 : Int) < (c : Int) := by omega
          obtain ⟨u, hu⟩ : ∃ u, rs[r]? = some u := ⟨_, List.getElem?_eq_getElem HR.out⟩
          have HPR := Lib.hid (precI_nat hu)
          have hpb := valid_prec HV.out hu
          obtain ⟨_, ad', he', hadl, _, _, _, c3, _, _⟩ := HT.out.fin.rules.at_ hu
          obtain rfl := Option.some.inj he'
          rw [← HPR.out] at c3
          rw [← HPR.out] at hpb
          have HKEY := Lib.hid (Maps.keyOf_int_mk (P := Try.prog) (k := 3) Try.underlying3 (q := .i64) (a := precI rs r) (WalkArith.wf_i64 (by omega)))
          clear he' hu HPR hpb
          generalize hpp : precI rs r = pp at *
          have HPP := Lib.hid hpp
          have ct0 := HT.out.blk.cell 0
          have ca0 := K0.out.cell 0
          have ck2 := K2.out.cell 0
          have hrn := HR.out
          clear hpp
          go_upto_region 6 with (fail)
          go_quiet (fail)
          have hb := below_drewN (Below.refl w4.heap.size w4) nq
          have K0 := Lib.hid (keep hb K0.out)
          have K1 := Lib.hid (keep hb K1.out)
          have K2 := Lib.hid (keep hb K2.out)
          have HT := Lib.hid (HT.out.keep hb)
          have HM := Lib.hid (HM.out.keep hb)
          have HBA := Lib.hid (HBA.out.trans (hb.mono HBA.out.size))
          have HB := Lib.hid (HB.out.trans (hb.mono HB.out.size))
          clear hb
          generalize w4.drewN nq = w5 at *
          clear c3 ct0 hrn hadl ca0 ck2
          have ck1 := K1.out.cell 0
          obtain ⟨v, hrun, hat, _⟩ := HM.out.own.lookup_int lawI Try.underlying99 Try.underlying3 (zeroI _) HKEY.out
          have hv : v = ((min (atP rs (cellL rs ts i j done) pp) 1000000000 : Nat) : Int) := by
            rw [HM.out.at_ pp] at hat
            simpa using hat.symm
          have hmb : min (atP rs (cellL rs ts i j done) pp) 1000000000 ≤ 1000000000 := Nat.min_le_right _ _
          generalize hmm : min (atP rs (cellL rs ts i j done) pp) 1000000000 = mm at hv hmb
          have HMM := Lib.hid hmm
          clear hmm hat
          subst hv
          have hval : plainElem (H := Unit) Try.prog 3 (.int .i64 (min ((mm : Int) + (c : Int)) 1000000000)) = some (.lit (.int .i64 (min ((mm : Int) + (c : Int)) 1000000000)), []) := plainElem_int Try.underlying3 (WalkArith.wf_i64 (by omega))
          go_wp2_with (first | (at_mapUpdate; refine wpList_mapUpdate_own _ rfl _ _ _ 99 rfl 3 3 lawI Try.underlying99 _ bm (done.length + 1) D rfl HM.out.own HDN.out _ _ (.int .i64 pp) rfl rfl HKEY.out _ [] hval ?_; intro w6 hm6 hg6) | fail)
          have hM6 := HM.out.put (a := ⟨r, frm, left, right, t2, kids⟩) (v := min (mm + c) 1000000000) HPP.out HMM.out.symm HC.out rfl (by rw [show ((min (mm + c) 1000000000 : Nat) : Int) = min ((mm : Int) + (c : Int)) 1000000000 by omega]; exact hm6)
          have hfin := CntS.of K1.out K2.out HB.out HM.out HLOW.out hg6 hM6
          clear hm6 hg6 hM6
          go_wp2_with fail
          go_end0
          exact ⟨rfl, hfin.1, fun k cs hk => hfin.2 k _ cs (keep HBA.out hk)⟩
        · have h0' : ¬ (0 : Int) < (c : Int) := by omega
          have HS := Lib.hid (HM.out.skip (a := ⟨r, frm, left, right, t2, kids⟩) (by have := HC.out; omega))
          go_wp2_with fail
          go_end0
          exact ⟨rfl, ⟨K1.out, K2.out, HB.out, ⟨_, HS.out⟩, HLOW.out⟩, fun k cs hk => keep HBA.out hk⟩
      · have h0' : ¬ (0 : Int) < (c : Int) := by omega
        have HS := Lib.hid (HM.out.skip (a := ⟨r, frm, left, right, t2, kids⟩) (by
          unfold cntA
          rw [if_neg (show ¬ kids = 1 by omega)]
          dsimp only
          rw [HLO.out, show (leastR rs (allR rs ts frm left) lo).length = 0 by have := HC1.out; omega, Nat.zero_mul]))
        go_wp2_with fail
        go_end0
        exact ⟨rfl, ⟨K1.out, K2.out, HB.out, ⟨_, HS.out⟩, HLOW.out⟩, fun k cs hk => keep HBA.out hk⟩
end Go.Proofs.Ytmhddlhlniajpaa
